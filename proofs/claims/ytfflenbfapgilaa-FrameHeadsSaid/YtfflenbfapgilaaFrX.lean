/- The document's Version is frame.Version. -/
import Derived.Test.YtfflenbfapgilaaFrR
import Derived.Test.YtfflenbfapgilaaGVBx2
set_option linter.unusedVariables false
set_option linter.unusedSimpArgs false
namespace Go.Proofs.Ytfflenbfapgilaa
open Go.RowKit Go.Proofs.YtfflenbfapgilaaW.PrintWords Go.Proofs.Ytfflenbfapgilaa.GVB

theorem tl_nums {l m : List Int} (hl : ∀ x ∈ l, 0 ≤ x ∧ x < 256) (hm : ∀ x ∈ m, 0 ≤ x ∧ x < 256) : (strOfNums l).toList = (strOfNums m).toList ↔ l = m := by
  constructor
  · intro h
    have hc : ∀ {k : List Int}, (∀ x ∈ k, 0 ≤ x ∧ x < 256) → ints (nats k) = k := by
      intro k hk
      unfold ints nats
      rw [List.map_map]
      conv => rhs; rw [← List.map_id k]
      apply List.map_congr_left
      intro x hx
      have := hk x hx
      simp; omega
    have h2 := str_inj (nats l) (nats m) (by intro x hx; simp [nats] at hx; obtain ⟨y, hy, rfl⟩ := hx; have := hl y hy; omega) (by intro x hx; simp [nats] at hx; obtain ⟨y, hy, rfl⟩ := hx; have := hm y hy; omega) (by rw [hc hl, hc hm]; exact h)
    rw [← hc hl, ← hc hm, h2]
  · rintro rfl; rfl
theorem rbytes_is (c : Nat) (h : c < 4294967296) : tephraref03_Bytes.f (c : Int) = some (strOfNums (crcB c)) := by
  unfold tephraref03_Bytes.f crcB
  have h0 : (0 : Int) ≤ (c : Int) ∧ (c : Int) < 4294967296 := by omega
  generalize (c : Int) = s at h0
  rw [Int.tmod_eq_emod_of_nonneg h0.1, Int.tdiv_eq_ediv_of_nonneg h0.1, Int.tdiv_eq_ediv_of_nonneg h0.1, Int.tdiv_eq_ediv_of_nonneg h0.1]
  congr 2
  simp only [List.cons.injEq, and_true]
  omega
theorem rvers_is (l : List Int) (hb : ∀ x ∈ l, 0 ≤ x ∧ x < 256) (hl : l.length ≤ 1000000) : tephraref06_Version.f 41 (strOfNums l) = some (versF l) := by
  have hs : (strOfNums l).size = l.length := strOfNums_size l
  unfold tephraref06_Version.f versF
  rw [hs]
  by_cases h8 : l.length < 8
  · rw [if_pos (by omega), if_pos h8]
  · rw [if_neg (by omega), if_neg h8, if_pos (by omega), if_pos (by omega), str_mid, str_mid, str_mid, List.drop_zero, List.drop_zero]
    by_cases ht : (strOfNums (l.take 3)).toList = [84, 80, 72]
    · have htb : ¬ tphB l = false := by unfold tphB; rw [ht]; simp
      have hl4 : (l.take 4).length = 4 := by rw [List.length_take]; omega
      have hb4 : ∀ x ∈ l.take 4, 0 ≤ x ∧ x < 256 := fun x hx => hb x (List.mem_of_mem_take hx)
      have hsum := rsum_is (l.take 4) hb4 (by omega)
      rw [hl4] at hsum
      have hlt := Crc.sum_lt (nats (l.take 4)) (by intro x hx; simp only [nats, List.mem_map] at hx; obtain ⟨y, hy, rfl⟩ := hx; have := hb4 y hy; omega)
      rw [if_pos ht, if_pos (by omega), if_pos (by omega), if_neg htb, hsum]
      simp only [Option.bind_some]
      rw [rbytes_is _ hlt]
      simp only [Option.bind_some]
      rw [if_pos (by omega), if_pos (by omega)]
      have hl48 : (l.take 8).drop 4 = [rd l 4, rd l 5, rd l 6, rd l 7] := by
        apply List.ext_getElem?
        intro i
        have hr : ∀ j, j < l.length → l[j]? = some (rd l (j : Int)) := fun j hj => by simp [rd, hj]
        match i with
        | 0 => rw [List.getElem?_drop, List.getElem?_take_of_lt (by omega), hr _ (by omega)]; rfl
        | 1 => rw [List.getElem?_drop, List.getElem?_take_of_lt (by omega), hr _ (by omega)]; rfl
        | 2 => rw [List.getElem?_drop, List.getElem?_take_of_lt (by omega), hr _ (by omega)]; rfl
        | 3 => rw [List.getElem?_drop, List.getElem?_take_of_lt (by omega), hr _ (by omega)]; rfl
        | i + 4 => rw [List.getElem?_drop, List.getElem?_take, if_neg (by omega)]; simp
      have hbr : ∀ x ∈ (l.take 8).drop 4, 0 ≤ x ∧ x < 256 := fun x hx => hb x (List.mem_of_mem_take (List.mem_of_mem_drop hx))
      have hbc : ∀ x ∈ crcB (Crc.sum (nats (l.take 4))), 0 ≤ x ∧ x < 256 := by intro x hx; unfold crcB at hx; simp at hx; omega
      have hiff : ((strOfNums (crcB (Crc.sum (nats (l.take 4))))).toList = (strOfNums ((l.take 8).drop 4)).toList) ↔ wholeB l 4 = true := by
        rw [tl_nums hbc hbr, hl48]
        rw [hl48] at hbr
        unfold wholeB crcB at4
        rw [show ((4 : Int).toNat) = 4 from rfl]
        rw [show (4 : Int) + 1 = 5 from rfl, show (4 : Int) + 2 = 6 from rfl, show (4 : Int) + 3 = 7 from rfl]
        have hs0 : (0 : Int) ≤ ((Crc.sum (nats (l.take 4)) : Nat) : Int) ∧ ((Crc.sum (nats (l.take 4)) : Nat) : Int) < 4294967296 := by omega
        generalize ((Crc.sum (nats (l.take 4)) : Nat) : Int) = s at hs0 ⊢
        simp only [List.mem_cons, List.not_mem_nil, or_false, forall_eq_or_imp, forall_eq] at hbr
        simp only [List.cons.injEq, and_true, Bool.and_eq_true, decide_eq_true_eq]
        omega
      have hbt : bt (strOfNums l) 3 = rd l 3 := by
        have := bt_num l hb 3 (by omega)
        rw [show ((3 : Nat) : Int) = 3 from rfl] at this
        rw [this, show rd l 3 = l[3] by simp [rd, show 3 < l.length by omega]]
        have := hb l[3] (List.getElem_mem _)
        omega
      have hr3 : 0 ≤ rd l 3 ∧ rd l 3 < 256 := by
        rw [show rd l 3 = l[3] by simp [rd, show 3 < l.length by omega]]
        exact hb l[3] (List.getElem_mem _)
      by_cases hw : wholeB l 4 = true
      · rw [if_pos (hiff.2 hw), if_pos (by omega), hbt]
        have hwf : ¬ wholeB l 4 = false := fun h => by rw [hw] at h; cases h
        rw [show (if wholeB l 4 = false then ((0 : Int), (4 : Int)) else if decide (1 ≤ rd l 3 ∧ rd l 3 ≤ 3) = false then (0, 11) else (rd l 3, 0)) = (if decide (1 ≤ rd l 3 ∧ rd l 3 ≤ 3) = false then (0, 11) else (rd l 3, 0)) from if_neg hwf]
        by_cases h1 : rd l 3 < 1
        · rw [if_pos h1, if_pos (decide_eq_false (by omega))]
        · rw [if_neg h1]
          by_cases h2 : rd l 3 > 3
          · rw [if_pos h2, if_pos (decide_eq_false (by omega))]
          · rw [if_neg h2, if_neg (by rw [decide_eq_true (by omega)]; simp)]
            rw [show wrap64 (rd l 3) = rd l 3 by unfold wrap64; omega]
      · rw [if_neg (fun h => hw (hiff.1 h)), if_pos (by simpa using hw)]
    · have htb : tphB l = false := by unfold tphB; simp [ht]
      rw [if_neg ht, if_pos htb]
end Go.Proofs.Ytfflenbfapgilaa
