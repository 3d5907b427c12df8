/- Pure: VarintCuts. -/
import Derived.Test.YthojcapdbjmneaaVarQ
import Derived.Test.YthojcapdbjmneaaGVBx5
set_option linter.unusedVariables false
set_option linter.unusedSimpArgs false
namespace Go.Proofs.Ythojcapdbjmneaa.Pure
open Go.RowKit Go.Proofs.Ythojcapdbjmneaa.GVB Go.Proofs.YthojcapdbjmneaaW.PrintWords

/-- The bytes of these numbers, one behind the other. -/
def cat (v : List Nat) : List Nat := v.flatMap vb
theorem cat_len (v : List Nat) (h : ∀ x ∈ v, x < 18446744073709551616) : (cat v).length ≤ 10 * v.length := by
  induction v with
  | nil => simp [cat]
  | cons x v ih =>
    have h1 := vb_len10 x (h x (by simp))
    have h2 := ih (fun y hy => h y (by simp [hy]))
    have : cat (x :: v) = vb x ++ cat v := rfl
    rw [this, List.length_append, List.length_cons]; omega
theorem cat_app (u v : List Nat) : cat (u ++ v) = cat u ++ cat v := by simp [cat]
theorem cat_bytes (v : List Nat) (h : ∀ x ∈ v, x < 18446744073709551616) : ∀ x ∈ cat v, x < 256 := by
  intro x hx
  simp only [cat, List.mem_flatMap] at hx
  obtain ⟨m, hm, hx⟩ := hx
  exact vb_bytes m (h m hm) x hx
theorem cat_step (v : List Nat) (i : Nat) (h : i < v.length) : cat (v.take (i + 1)) = cat (v.take i) ++ vb v[i] := by
  rw [List.take_succ_eq_append_getElem h, cat_app]
  simp [cat]
theorem cat_cut (v : List Nat) (i : Nat) (h : i < v.length) : cat v = cat (v.take i) ++ (vb v[i] ++ cat (v.drop (i + 1))) := by
  conv => lhs; rw [← List.take_append_drop i v, List.drop_eq_getElem_cons h]
  rw [cat_app]; rfl
theorem rd_nat (v : List Nat) (i : Nat) (h : i < v.length) : rd (ints v) (i : Int) = ((v[i] : Nat) : Int) := by simp [rd, ints, h]
theorem ints_len (v : List Nat) : (ints v).length = v.length := by simp [ints]
theorem ints_app (u v : List Nat) : ints (u ++ v) = ints u ++ ints v := by simp [ints]
theorem ints_take (v : List Nat) (c : Nat) : (ints v).take c = ints (v.take c) := by simp [ints]
theorem cuts_puts (v : List Nat) (a : Int) (hv : ∀ x ∈ v, x < 18446744073709551616) (hl : v.length ≤ 40) (k : Nat) : ∀ (d i : Nat), i + d = v.length →
    tephralaw01_VarintCuts.l0 (k + d + 1) (ints v) a (ints (cat (v.take i))) (ints v) (v.length : Int) (i : Int) = tephralaw01_VarintCuts.l1 k (ints (cat v)) (mn (wrap64 a) ((cat v).length : Int)) 0 (ints v) (v.length : Int) 0 := by
  intro d
  induction d with
  | zero =>
    intro i hi
    rw [tephralaw01_VarintCuts.l0, if_neg (by omega), List.take_of_length_le (by omega), ints_len, ints_len]
  | succ d ih =>
    intro i hi
    have hb : (ints (cat (v.take i))).length ≤ 400 := by
      rw [ints_len]
      have := cat_len (v.take i) (fun x hx => hv x (List.mem_of_mem_take hx))
      rw [List.length_take] at this; omega
    rw [show k + (d + 1) + 1 = (k + d + 1) + 1 by omega, tephralaw01_VarintCuts.l0, ints_len, if_pos (by omega), if_pos (by omega), if_pos (by omega), rd_nat v i (by omega), put_is _ _ (by omega) ⟨by omega, by have := hv v[i] (List.getElem_mem _); omega⟩]
    rw [Option.bind_some, Int.toNat_natCast, ← ints_app, ← cat_step v i (by omega), wsucc i (by omega)]
    exact ih (i + 1) (by omega)
theorem cuts_gets (v : List Nat) (c : Nat) (hv : ∀ x ∈ v, x < 18446744073709551616) (hl : v.length ≤ 40) (hc : c ≤ (cat v).length) : ∀ (d i k : Nat), i + d = v.length → (cat (v.take i)).length ≤ c → 31 + d ≤ k →
    tephralaw01_VarintCuts.l1 k (ints (cat v)) (c : Int) ((cat (v.take i)).length : Int) (ints v) (v.length : Int) (i : Int) = some true := by
  have hF := cat_len v hv
  intro d
  induction d with
  | zero =>
    intro i k hi ho hk
    obtain ⟨k, rfl⟩ : ∃ j, k = j + 1 := ⟨k - 1, by omega⟩
    rw [tephralaw01_VarintCuts.l1, if_neg (by omega), fixed_is k (by omega), List.take_of_length_le (by omega), ints_len]
    simp
  | succ d ih =>
    intro i k hi ho hk
    obtain ⟨k, rfl⟩ : ∃ j, k = j + 1 := ⟨k - 1, by omega⟩
    have hi' : i < v.length := by omega
    obtain ⟨m, hm⟩ : ∃ m, v[i] = m := ⟨_, rfl⟩
    obtain ⟨o, hod⟩ : ∃ o, (cat (v.take i)).length = o := ⟨_, rfl⟩
    have hm64 : m < 18446744073709551616 := hm ▸ hv v[i] (List.getElem_mem _)
    have hvl := vb_len10 m hm64
    have hcut := cat_cut v i hi'
    have hstep := congrArg List.length (cat_step v i hi')
    rw [hm] at hcut hstep
    rw [List.length_append, hod] at hstep
    rw [hod] at ho ⊢
    have hdrop : ((cat v).take c).drop o = (vb m ++ cat (v.drop (i + 1))).take (c - o) := by
      rw [List.drop_take, hcut, ← hod, List.drop_left]
    have hg : getS (ints ((cat v).take c)) (o : Int) = outS o (dec 10 0 0 ((vb m ++ cat (v.drop (i + 1))).take (c - o))) := by
      unfold getS
      rw [ints_len, List.length_take, if_neg (by omega), Int.toNat_natCast, nats_ints, hdrop]
    rw [tephralaw01_VarintCuts.l1, ints_len, ints_len, if_pos (by omega), if_pos (by omega), if_pos (by omega), if_pos (by omega), if_pos (by omega), Int.toNat_natCast, ints_take]
    rw [get_is _ (ints_bytes _ (fun x hx => cat_bytes v hv x (List.mem_of_mem_take hx))) (by rw [ints_len, List.length_take]; omega) _ k (by omega), hg]
    rw [rd_nat v i hi', hm, size_is _ ⟨by omega, by omega⟩, Int.toNat_natCast]
    rw [Option.bind_some, Option.bind_some, wsum o _ (by omega)]
    by_cases h : o + (vb m).length > c
    · have ht : (vb m ++ cat (v.drop (i + 1))).take (c - o) = (vb m).take (c - o) := List.take_append_of_le_length (by omega)
      rw [if_pos (by omega), fixed_is k (by omega), ht, dec_cut0 m (c - o) (by omega) (by omega)]
      rfl
    · have ht : (vb m ++ cat (v.drop (i + 1))).take (c - o) = vb m ++ (cat (v.drop (i + 1))).take (c - o - (vb m).length) := by
        rw [List.take_append, List.take_of_length_le (by omega)]
      rw [if_neg (by omega), ht, dec_vb0 m _ (by omega)]
      have e : outS o (m, (vb m).length, 0) = ((m : Int), ((o + (vb m).length : Nat) : Int), 0) := rfl
      rw [e]
      rw [if_pos rfl, if_pos rfl, Option.bind_some, wsum o _ (by omega), if_pos rfl, wsucc i (by omega), ← hstep]
      exact ih (i + 1) k (by omega) (by omega) (by omega)
theorem VarintCuts : tephralaw01_VarintCuts.Pure := by
  intro l a hl1 hl2 hw ha
  have ha' : 0 ≤ a ∧ a < 65536 := by
    simp [Lit.wf, IntKind.min, IntKind.max, IntKind.signed, IntKind.bits] at ha; omega
  have hb : ∀ x ∈ l, 0 ≤ x ∧ x < 18446744073709551616 := by
    intro x hx
    have := hw x hx
    simp [Lit.wf, IntKind.min, IntKind.max, IntKind.signed, IntKind.bits] at this; omega
  refine ⟨200, ?_⟩
  unfold tephralaw01_VarintCuts.f
  by_cases h : (l.length : Int) > 40
  · rw [if_pos h, fixed_is 200 (by decide)]; rfl
  · rw [if_neg h]
    have hli : ints (nats l) = l := by
      unfold ints nats
      rw [List.map_map]
      conv => rhs; rw [← List.map_id l]
      apply List.map_congr_left
      intro x hx
      have := hb x hx
      simp; omega
    have hlen : (nats l).length = l.length := by simp [nats]
    have hv : ∀ x ∈ nats l, x < 18446744073709551616 := by
      intro x hx
      simp only [nats, List.mem_map] at hx
      obtain ⟨y, hy, rfl⟩ := hx
      have := hb y hy
      omega
    have hF := cat_len (nats l) hv
    have := cuts_puts (nats l) a hv (by omega) (199 - l.length) l.length 0 (by omega)
    rw [hli, show 199 - l.length + l.length + 1 = 200 by omega, hlen] at this
    have e0 : ints (cat ((nats l).take 0)) = [] := rfl
    rw [e0] at this
    rw [show ((0 : Nat) : Int) = 0 from rfl] at this
    rw [this, w64 a (by omega) (by omega)]
    obtain ⟨c, hc, hcl⟩ : ∃ c : Nat, mn a ((cat (nats l)).length : Int) = (c : Int) ∧ c ≤ (cat (nats l)).length := by
      unfold mn
      split
      · exact ⟨_, rfl, Nat.le_refl _⟩
      · exact ⟨a.toNat, by omega, by omega⟩
    rw [hc]
    have := cuts_gets (nats l) c hv (by omega) hcl l.length 0 (199 - l.length) (by omega) (by simp [cat]) (by omega)
    rw [hli, hlen] at this
    exact this
end Go.Proofs.Ythojcapdbjmneaa.Pure
