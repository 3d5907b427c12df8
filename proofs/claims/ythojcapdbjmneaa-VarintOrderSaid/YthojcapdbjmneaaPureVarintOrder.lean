/- Pure: VarintOrder. -/
import Derived.Test.YthojcapdbjmneaaVarQ
set_option linter.unusedVariables false
set_option linter.unusedSimpArgs false
namespace Go.Proofs.Ythojcapdbjmneaa.Pure
open Go.RowKit Go.Proofs.Ythojcapdbjmneaa.GVB Go.Proofs.YthojcapdbjmneaaW.PrintWords

theorem order_end (m n : Nat) (a b : Int) (ha : 0 ≤ a ∧ a < 18446744073709551616) (hb : 0 ≤ b ∧ b < 18446744073709551616) (hmn : (m = a.toNat ∧ n = b.toNat) ∨ (m = b.toNat ∧ n = a.toNat)) :
    (((strOfNums (ints (vb m))).toList == (strOfNums (ints (vb n))).toList) == (a == b)) = true := by
  have hm : m < 18446744073709551616 := by omega
  have hn : n < 18446744073709551616 := by omega
  by_cases h : a = b
  · have : m = n := by rw [h] at hmn; omega
    subst this; subst h
    simp
  · have h1 : (a == b) = false := by simpa using h
    have h2 : ((strOfNums (ints (vb m))).toList == (strOfNums (ints (vb n))).toList) = false := by
      refine beq_eq_false_iff_ne.2 fun e => ?_
      have := vb_inj m n hm hn (str_inj _ _ (vb_bytes m hm) (vb_bytes n hn) e)
      omega
    rw [h1, h2]; rfl
theorem order_loop (a b : Int) (x5 : List Int) (n : Nat) (hn : n < 18446744073709551616) (hend : ((strOfNums x5).toList == (strOfNums (ints (vb n))).toList) = (a == b)) : ∀ (d i k : Nat), i + d = (vb n).length → 30 + d + 1 ≤ k →
    tephralaw01_VarintOrder.l0 k a b x5 (ints (vb n)) (ints (vb n)) ((vb n).length : Int) (i : Int) = some true := by
  have hl := vb_len10 n hn
  intro d
  induction d with
  | zero =>
    intro i k hi hk
    obtain ⟨k, rfl⟩ : ∃ j, k = j + 1 := ⟨k - 1, by omega⟩
    rw [tephralaw01_VarintOrder.l0, if_neg (by omega), fixed_is k (by omega)]
    simp [hend]
  | succ d ih =>
    intro i k hi hk
    obtain ⟨k, rfl⟩ : ∃ j, k = j + 1 := ⟨k - 1, by omega⟩
    have hlen : (ints (vb n)).length = (vb n).length := by simp [ints]
    have ht := vb_top n i (by omega)
    rw [tephralaw01_VarintOrder.l0, hlen, if_pos (by omega), if_pos (by omega), if_pos (by omega), w64 _ (by omega) (by omega)]
    rw [if_neg, wsucc i (by omega)]
    · exact ih (i + 1) k (by omega) (by omega)
    · have e : decide (rd (ints (vb n)) (i : Int) ≥ 128) = decide ((i : Int) < ((vb n).length : Int) - 1) := by
        refine decide_eq_decide.2 ?_
        rw [ge_iff_le, ht]; omega
      rw [e]; simp
theorem VarintOrder : tephralaw01_VarintOrder.Pure := by
  intro a b ha hb
  have ha' : 0 ≤ a ∧ a < 18446744073709551616 := by
    simp [Lit.wf, IntKind.min, IntKind.max, IntKind.signed, IntKind.bits] at ha; omega
  have hb' : 0 ≤ b ∧ b < 18446744073709551616 := by
    simp [Lit.wf, IntKind.min, IntKind.max, IntKind.signed, IntKind.bits] at hb; omega
  refine ⟨50, ?_⟩
  obtain ⟨lo, hi, hlo, hhi, hmn⟩ : ∃ lo hi : Int, mn a b = lo ∧ mx a b = hi ∧ ((lo = a ∧ hi = b ∧ a ≤ b) ∨ (lo = b ∧ hi = a ∧ b ≤ a)) := by
    refine ⟨_, _, rfl, rfl, ?_⟩
    unfold mn mx
    split <;> split <;> omega
  have hv := vb_mono lo.toNat hi.toNat (by omega)
  have h1 := List.length_pos_iff.2 (vb_ne lo.toNat)
  have h2 := vb_len10 hi.toNat (by omega)
  have hl1 : (ints (vb lo.toNat)).length = (vb lo.toNat).length := by simp [ints]
  have hl2 : (ints (vb hi.toNat)).length = (vb hi.toNat).length := by simp [ints]
  unfold tephralaw01_VarintOrder.f
  rw [hlo, hhi, put_is [] lo (by decide) (by omega), put_is [] hi (by decide) (by omega)]
  simp only [Option.bind_some, List.nil_append]
  rw [hl1, hl2, if_neg (by omega), if_neg (by omega), tephralaw01_VarintOrder.j0, if_neg (by simp; omega)]
  rw [hl2]
  refine order_loop a b _ hi.toNat (by omega) ?_ (vb hi.toNat).length 0 _ (by omega) (by omega)
  exact beq_iff_eq.1 (order_end lo.toNat hi.toNat a b ha' hb' (by omega))
end Go.Proofs.Ythojcapdbjmneaa.Pure
