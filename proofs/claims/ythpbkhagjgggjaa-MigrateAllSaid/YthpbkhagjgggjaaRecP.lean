/- What record.May and the document's May answer: one function of numbers and lists. -/
import Derived.Test.YthpbkhagjgggjaaRecN
import Derived.Test.YthpbkhagjgggjaaGRRx5
import Derived.Test.YthpbkhagjgggjaaGRRx10
import Derived.Test.YthpbkhagjgggjaaGRRx11
import Derived.Lib.Strings
set_option linter.unusedVariables false
set_option linter.unusedSimpArgs false
namespace Go.Proofs.Ythpbkhagjgggjaa
open Go.RowKit Go.Proofs.YthpbkhagjgggjaaW.PrintWords Go.Proofs.Ythpbkhagjgggjaa.GRR

theorem tl_eq {s t : ByteArray} : s.toList = t.toList ↔ s = t := by
  rw [Lib.toList_data, Lib.toList_data]
  exact ⟨fun h => ByteArray.ext (Array.ext' h), fun h => by rw [h]⟩
theorem tl_nil {s : ByteArray} : s.toList = ([] : List UInt8) ↔ s.size = 0 := by
  rw [Lib.toList_data]
  constructor
  · intro h
    have := congrArg List.length h
    rw [Array.length_toList] at this
    exact this
  · intro h
    exact List.eq_nil_of_length_eq_zero (by rw [Array.length_toList]; exact h)
theorem name_is (s : ByteArray) : record_Name.f s = some (nameB s) := by
  unfold record_Name.f nameB
  split
  · congr 1; rw [Bool.eq_iff_iff, decide_eq_true_eq, decide_eq_true_eq]; omega
  · congr 1; symm; rw [decide_eq_false_iff_not]; omega
theorem rname_is (s : ByteArray) : tephraref08_Name.f s = some (nameB s) := by
  unfold tephraref08_Name.f nameB
  split
  · rename_i h
    rw [tl_nil] at h
    congr 1; symm; rw [decide_eq_false_iff_not]; omega
  · rename_i h
    rw [tl_nil] at h
    congr 1; rw [Bool.eq_iff_iff, decide_eq_true_eq, decide_eq_true_eq]; omega
/-- may a record be at a version -/
def mayB (v k : Int) (t : ByteArray) (rule : Int) (deps : List S76) (out when : Int) (tag : ByteArray) : Bool :=
  decide (1 ≤ v ∧ v ≤ 3) && nameB t &&
    (if k = 1 then !(decide (v < 2) && decide (when ≠ 0) || decide (v < 3) && decide (tag.size ≠ 0)) && decide (tag.size ≤ 64) && depsB v t deps
     else decide (k = 2) && decide (rule = 0) && decide (deps.length = 0) && decide (out = 0) && decide (when = 0) && decide (tag.size = 0))
/-- These are no greater than what is gone through. -/
structure RecOk (t : ByteArray) (deps : List S76) (tag : ByteArray) : Prop where
  n : deps.length ≤ 1000
  t : t.size ≤ maxLen
  tag : tag.size ≤ maxLen
  d : ∀ d ∈ deps, d.f0.size ≤ maxLen
theorem deps_f {v k : Int} {t : ByteArray} {rule : Int} {deps : List S76} {out when : Int} {tag : ByteArray} (h : RecOk t deps tag) : record_deps.f v k t rule deps out when tag = some (depsB v t deps) := by
  unfold record_deps.f
  rw [if_pos ⟨h.n, h.d, h.t⟩]
theorem wr1 (i n : Nat) (h : i < n) (hn : n ≤ 9223372036854775807) : wrap64 ((i : Int) + 1) = ((i + 1 : Nat) : Int) := by unfold wrap64; omega
theorem names_take {l : List S76} {i : Nat} (h : i < l.length) : (l.take (i + 1)).map (·.f0) = (l.take i).map (·.f0) ++ [l[i].f0] := by
  rw [List.take_succ_eq_append_getElem h, List.map_append]; rfl
section
variable (v k0 : Int) (t : ByteArray) (rule : Int) (l : List S76) (out when : Int) (tag : ByteArray)
/-- the inner loop: has any dep ahead this name? -/
theorem rmay_l1 (hl : l.length ≤ 1000) (i : Nat) (hi : i < l.length) (d0 : ByteArray) (d1 : Int) (d2 : Bool) : ∀ (e j k : Nat), i = j + e → e < k →
    ∃ k', k ≤ k' + e + 1 ∧ tephraref08_May.l1 k v (i : Int) (j : Int) k0 t rule l out when tag d0 d1 d2 = if isIn (((l.take i).drop j).map (·.f0)) d0 then some false else tephraref08_May.l0 k' v ((i + 1 : Nat) : Int) k0 t rule l out when tag := by
  intro e
  induction e with
  | zero =>
    intro j k hij hk
    obtain ⟨k, rfl⟩ : ∃ m, k = m + 1 := ⟨k - 1, by omega⟩
    refine ⟨k, by omega, ?_⟩
    simp only [tephraref08_May.l1]
    rw [if_neg (by omega), wr1 i l.length hi (by omega), List.drop_of_length_le (by rw [List.length_take]; omega)]
    rfl
  | succ e ih =>
    intro j k hij hk
    obtain ⟨k, rfl⟩ : ∃ m, k = m + 1 := ⟨k - 1, by omega⟩
    have hj : j < l.length := by omega
    have hcut : ((l.take i).drop j).map (·.f0) = l[j].f0 :: ((l.take i).drop (j + 1)).map (·.f0) := by
      rw [List.drop_eq_getElem_cons (by rw [List.length_take]; omega), List.map_cons]
      simp
    rw [hcut]
    simp only [tephraref08_May.l1]
    rw [if_pos (by omega), if_pos (by omega), if_pos (by omega), rd_dep l j hj, wr1 j l.length hj (by omega)]
    by_cases heq : l[j].f0 = d0
    · refine ⟨k, by omega, ?_⟩
      rw [if_pos (tl_eq.2 heq), heq, if_pos (isIn_iff.2 (by simp))]
    · rw [if_neg (fun h => heq (tl_eq.1 h))]
      obtain ⟨k', h1, h2⟩ := ih (j + 1) k (by omega) (by omega)
      refine ⟨k', by omega, ?_⟩
      rw [h2]
      have e1 : isIn (l[j].f0 :: ((l.take i).drop (j + 1)).map (·.f0)) d0 = isIn (((l.take i).drop (j + 1)).map (·.f0)) d0 := by
        rw [Bool.eq_iff_iff, isIn_iff, isIn_iff, List.mem_cons]
        exact ⟨fun h => h.elim (fun h => absurd h.symm heq) id, .inr⟩
      rw [e1]
theorem rmay_l0 (hl : l.length ≤ 1000) : ∀ (d i k : Nat), l.length = i + d → (d + 1) * (l.length + 5) ≤ k →
    tephraref08_May.l0 k v (i : Int) k0 t rule l out when tag = some (depsOk v (t :: (l.take i).map (·.f0)) (l.drop i)) := by
  intro d
  induction d with
  | zero =>
    intro i k hi hk
    obtain ⟨k, rfl⟩ : ∃ m, k = m + 1 := ⟨k - 1, by omega⟩
    simp only [tephraref08_May.l0]
    rw [if_neg (by omega), List.drop_of_length_le (by omega)]
    rfl
  | succ d ih =>
    intro i k hi hk
    have hk2 : (d + 1) * (l.length + 5) + (l.length + 5) ≤ k := by rw [← Nat.succ_mul]; exact hk
    obtain ⟨k, rfl⟩ : ∃ m, k = m + 1 := ⟨k - 1, by omega⟩
    obtain ⟨k, rfl⟩ : ∃ m, k = m + 1 := ⟨k - 1, by omega⟩
    have hlt : i < l.length := by omega
    rw [List.drop_eq_getElem_cons hlt]
    have ih' := fun kk hkk => ih (i + 1) kk (by omega) hkk
    rw [names_take hlt] at ih'
    generalize hx : l[i] = x at *
    obtain ⟨d0, d1, d2⟩ := x
    have hrd : rd_T76 l (i : Int) = ⟨d0, d1, d2⟩ := by rw [rd_dep l i hlt, hx]
    simp only [tephraref08_May.l0, tephraref08_May.j4, depsOk]
    rw [if_pos (by omega), if_pos (by omega), hrd]
    simp only [rname_is, Option.bind_some]
    by_cases hn : nameB d0 = true
    · rw [if_pos hn, hn]
      by_cases ht : d0 = t
      · rw [if_pos (tl_eq.2 ht), ht]
        have : isIn (t :: (l.take i).map (·.f0)) t = true := isIn_iff.2 (by simp)
        rw [this]
        simp
      · rw [if_neg (fun h => ht (tl_eq.1 h))]
        have hin : isIn (t :: (l.take i).map (·.f0)) d0 = isIn ((l.take i).map (·.f0)) d0 := by
          rw [Bool.eq_iff_iff, isIn_iff, isIn_iff, List.mem_cons]
          exact ⟨fun h => h.elim (fun h => absurd h ht) id, .inr⟩
        rw [hin]
        have hcont : ∀ (b : Bool), b = false → (if b = true then some false else tephraref08_May.l1 k v (i : Int) 0 k0 t rule l out when tag d0 d1 d2) = some (true && !isIn ((l.take i).map (·.f0)) d0 && !b && depsOk v (t :: (l.take i).map (·.f0) ++ [d0]) (l.drop (i + 1))) := by
          intro b hb
          subst hb
          obtain ⟨k', h1, h2⟩ := rmay_l1 v k0 t rule l out when tag hl i hlt d0 d1 d2 i 0 k (by omega) (by omega)
          rw [if_neg (by simp)]
          have h2' := h2
          rw [show ((0 : Nat) : Int) = 0 from rfl, List.drop_zero] at h2'
          rw [h2']
          cases hi2 : isIn ((l.take i).map (·.f0)) d0 with
          | true => simp
          | false =>
            rw [if_neg (by simp), ih' k' (by omega)]
            simp
        cases d2 with
        | true =>
          rw [if_pos rfl]
          cases hv : decide (v < 3) with
          | true => simp
          | false => have := hcont false rfl; simpa using this
        | false => rw [if_neg (by simp)]; have := hcont false rfl; simpa using this
    · rw [if_neg hn]
      simp [Bool.eq_false_iff.2 hn]
theorem ref_May_is (hr : RecOk t l tag) (k : Nat) (hk : 1100000 ≤ k) : tephraref08_May.f k v k0 t rule l out when tag = some (mayB v k0 t rule l out when tag) := by
  have hl := hr.n
  obtain ⟨k, rfl⟩ : ∃ m, k = m + 3 := ⟨k - 3, by omega⟩
  have hmul : (l.length + 1) * (l.length + 5) ≤ 1001 * 1005 := Nat.mul_le_mul (by omega) (by omega)
  have hl0 := rmay_l0 v k0 t rule l out when tag hl l.length 0 k (by omega) (by omega)
  rw [show ((0 : Nat) : Int) = 0 from rfl, List.take_zero, List.drop_zero, List.map_nil] at hl0
  unfold tephraref08_May.f mayB
  simp only [tephraref08_May.j0, tephraref08_May.j1, tephraref08_May.j2, rname_is, Option.bind_some]
  rw [hl0]
  have hdb : depsB v t l = (depsOk v [t] l && decide ((l.length : Int) ≤ 16)) := rfl
  rw [hdb]
  have htg : (tag.toList != ([] : List UInt8)) = decide (tag.size ≠ 0) := by rw [Bool.eq_iff_iff, bne_iff_ne, decide_eq_true_eq, ne_eq, tl_nil]
  have htg2 : (tag.toList == ([] : List UInt8)) = decide (tag.size = 0) := by rw [Bool.eq_iff_iff, beq_iff_eq, decide_eq_true_eq, tl_nil]
  rw [htg, htg2]
  generalize depsOk v [t] l = D
  generalize nameB t = nb
  generalize l.length = n at *
  generalize tag.size = z at *
  clear hl0 hdb htg htg2 hmul
  by_cases hv : 1 ≤ v ∧ v ≤ 3
  · rw [if_neg (by omega), if_neg (by omega)]
    have hdv : decide (1 ≤ v ∧ v ≤ 3) = true := decide_eq_true hv
    rw [hdv]
    cases nb with
    | false => simp
    | true =>
      rw [if_neg (by simp)]
      by_cases h1 : k0 = 1
      · subst h1
        rw [if_neg (by decide), if_pos rfl, if_pos rfl]
        by_cases hn : (n : Int) > 16
        · rw [if_pos hn]
          have : decide ((n : Int) ≤ 16) = false := decide_eq_false (by omega)
          simp [this]
        · have hn2 : decide ((n : Int) ≤ 16) = true := decide_eq_true (by omega)
          rw [if_neg hn, hn2]
          by_cases hz : (z : Int) > 64
          · have e1 : decide ((z : Int) > 64) = true := decide_eq_true hz
            have e2 : decide (z ≤ 64) = false := decide_eq_false (by omega)
            rw [e1, e2]; simp
          · have e1 : decide ((z : Int) > 64) = false := decide_eq_false hz
            have e2 : decide (z ≤ 64) = true := decide_eq_true (by omega)
            rw [e1, e2, if_neg (by simp)]
            have h3 : v = 1 ∨ v = 2 ∨ v = 3 := by omega
            by_cases hw : when = 0 <;> by_cases hz0 : z = 0 <;> rcases h3 with rfl | rfl | rfl <;> simp [hw, hz0]
      · rw [if_neg h1]
        by_cases h2 : k0 = 2
        · subst h2
          rw [if_pos rfl]
          by_cases e1 : rule = 0 <;> by_cases e2 : n = 0 <;> by_cases e3 : out = 0 <;> by_cases e4 : when = 0 <;> simp [e1, e2, e3, e4]
        · rw [if_neg h2, if_neg h1]
          simp [h2]
  · have hdv : decide (1 ≤ v ∧ v ≤ 3) = false := decide_eq_false hv
    rw [hdv]
    by_cases h1 : v < 1
    · rw [if_pos h1]; simp
    · rw [if_neg h1, if_pos (by omega)]; simp
end
/-- two lists of deps, gone through from a place on -/
theorem deq_l0 (l r : List S76) (hlen : l.length = r.length) (hl : l.length ≤ 1000000) : ∀ (d i k : Nat), l.length = i + d → d < k →
    ∃ b, api_Dep_87.l0 k l r (l.length : Int) (i : Int) = some b ∧ (b = true ↔ l.drop i = r.drop i) := by
  intro d
  induction d with
  | zero =>
    intro i k hi hk
    obtain ⟨k, rfl⟩ : ∃ m, k = m + 1 := ⟨k - 1, by omega⟩
    refine ⟨true, ?_, ?_⟩
    · simp only [api_Dep_87.l0]; rw [if_neg (by omega)]
    · rw [List.drop_of_length_le (by omega), List.drop_of_length_le (by omega)]; simp
  | succ d ih =>
    intro i k hi hk
    obtain ⟨k, rfl⟩ : ∃ m, k = m + 1 := ⟨k - 1, by omega⟩
    have h1 : i < l.length := by omega
    have h2 : i < r.length := by omega
    simp only [api_Dep_87.l0]
    rw [if_pos (by omega), if_pos (by omega), if_pos (by omega), if_pos (by omega), rd_dep l i h1, rd_dep r i h2, wr1 i l.length h1 (by omega), List.drop_eq_getElem_cons h1, List.drop_eq_getElem_cons h2]
    obtain ⟨b, hb, hb2⟩ := ih (i + 1) k (by omega) (by omega)
    generalize hx : l[i] = x
    generalize hy : r[i] = y
    obtain ⟨x0, x1, x2⟩ := x
    obtain ⟨y0, y1, y2⟩ := y
    by_cases he : x0 = y0 ∧ x1 = y1 ∧ x2 = y2
    · obtain ⟨rfl, rfl, rfl⟩ := he
      refine ⟨b, ?_, ?_⟩
      · rw [if_neg (by simp)]; exact hb
      · rw [hb2]; simp
    · refine ⟨false, ?_, ?_⟩
      · rw [if_pos]
        have e0 : (x0.toList == y0.toList) = decide (x0 = y0) := by rw [Bool.eq_iff_iff, beq_iff_eq, decide_eq_true_eq, tl_eq]
        rw [e0]
        simp only [Bool.or_eq_true, Bool.not_eq_true', decide_eq_false_iff_not, beq_eq_false_iff_ne]
        by_cases a : x0 = y0
        · by_cases b : x1 = y1
          · exact .inr (.inr (fun c => he ⟨a, b, c⟩))
          · exact .inr (.inl b)
        · exact .inl a
      · simp only [Bool.false_eq_true, false_iff]
        intro h
        injection h with h _
        injection h with h0 h1 h2
        exact he ⟨h0, h1, h2⟩
theorem deq_is (l r : List S76) (hl : l.length ≤ 1000000) (k : Nat) (hk : l.length < k) : ∃ b, api_Dep_87.f k l r = some b ∧ (b = true ↔ l = r) := by
  unfold api_Dep_87.f
  by_cases h : l.length = r.length
  · rw [if_pos (by omega)]
    have := deq_l0 l r h hl l.length 0 k (by omega) hk
    simpa using this
  · rw [if_neg (by omega)]
    exact ⟨false, rfl, by simp; intro e; exact h (by rw [e])⟩
theorem record_Same_is (a0 b0 : Int) (a1 b1 : ByteArray) (a2 b2 : Int) (a3 b3 : List S76) (a4 b4 a5 b5 : Int) (a6 b6 : ByteArray) (hl : a3.length ≤ 1000000) (k : Nat) (hk : a3.length < k) :
    ∃ b, record_Same.f k a0 a1 a2 a3 a4 a5 a6 b0 b1 b2 b3 b4 b5 b6 = some b ∧ (b = true ↔ a0 = b0 ∧ a1 = b1 ∧ a2 = b2 ∧ a3 = b3 ∧ a4 = b4 ∧ a5 = b5 ∧ a6 = b6) := by
  obtain ⟨b, hb, hb2⟩ := deq_is a3 b3 hl k hk
  unfold record_Same.f record_of.f
  simp only [Option.bind_some]
  rw [hb]
  have e1 : (a1.toList == b1.toList) = decide (a1 = b1) := by rw [Bool.eq_iff_iff, beq_iff_eq, decide_eq_true_eq, tl_eq]
  have e6 : (a6.toList == b6.toList) = decide (a6 = b6) := by rw [Bool.eq_iff_iff, beq_iff_eq, decide_eq_true_eq, tl_eq]
  rw [e1, e6]
  split
  · rename_i h
    simp only [Bool.and_eq_true, beq_iff_eq, decide_eq_true_eq] at h
    refine ⟨b, rfl, ?_⟩
    rw [hb2]
    exact ⟨fun h3 => ⟨h.1, h.2.1, h.2.2.2.1, h3, h.2.2.2.2.1, h.2.2.2.2.2, h.2.2.1⟩, fun h3 => h3.2.2.2.1⟩
  · rename_i h
    simp only [Bool.and_eq_true, beq_iff_eq, decide_eq_true_eq] at h
    refine ⟨false, rfl, ?_⟩
    simp only [Bool.false_eq_true, false_iff]
    rintro ⟨h0, h1, h2, h3, h4, h5, h6⟩
    exact h ⟨h0, h1, h6, h2, h4, h5⟩
/-- a record that is gone through -/
structure RecFew (t : ByteArray) (deps : List S76) (tag : ByteArray) : Prop where
  n : deps.length ≤ 60
  t : t.size ≤ 300
  tag : tag.size ≤ 300
  d : ∀ d ∈ deps, d.f0.size ≤ 300
theorem RecFew.ok {t : ByteArray} {deps : List S76} {tag : ByteArray} (h : RecFew t deps tag) : RecOk t deps tag :=
  ⟨by have := h.n; omega, by have := h.t; simp only [maxLen]; omega, by have := h.tag; simp only [maxLen]; omega, fun d hd => by have := h.d d hd; simp only [maxLen]; omega⟩
theorem great_l0 (a0 : Int) (t : ByteArray) (a2 : Int) (l : List S76) (a4 a5 : Int) (tag : ByteArray) (hl : l.length ≤ 9223372036854775807) : ∀ (d i k : Nat), l.length = i + d → d < k → (∀ x ∈ l.take i, x.f0.size ≤ 300) →
    ∃ b, tephralaw08_Great.l0 k l (l.length : Int) (i : Int) a0 t a2 l a4 a5 tag = some b ∧ (b = false → RecFew t l tag) := by
  intro d
  induction d with
  | zero =>
    intro i k hi hk hs
    obtain ⟨k, rfl⟩ : ∃ m, k = m + 1 := ⟨k - 1, by omega⟩
    rw [List.take_of_length_le (by omega)] at hs
    simp only [tephralaw08_Great.l0]
    rw [if_neg (by omega)]
    split
    · exact ⟨true, rfl, by simp⟩
    · split
      · exact ⟨true, rfl, by simp⟩
      · refine ⟨_, rfl, fun h => ?_⟩
        rw [decide_eq_false_iff_not] at h
        exact ⟨by omega, by omega, by omega, hs⟩
  | succ d ih =>
    intro i k hi hk hs
    obtain ⟨k, rfl⟩ : ∃ m, k = m + 1 := ⟨k - 1, by omega⟩
    have hlt : i < l.length := by omega
    simp only [tephralaw08_Great.l0]
    rw [if_pos (by omega), if_pos (by omega), if_pos (by omega), rd_dep l i hlt, wr1 i l.length hlt hl]
    split
    · exact ⟨true, rfl, by simp⟩
    · rename_i hn
      refine ih (i + 1) k (by omega) (by omega) ?_
      rw [List.take_succ_eq_append_getElem hlt]
      intro x hx
      rcases List.mem_append.1 hx with hx | hx
      · exact hs x hx
      · simp at hx; subst hx; omega
theorem great_is (a0 : Int) (t : ByteArray) (a2 : Int) (l : List S76) (a4 a5 : Int) (tag : ByteArray) (hl : l.length ≤ 9223372036854775807) (k : Nat) (hk : l.length < k) :
    ∃ b, tephralaw08_Great.f k a0 t a2 l a4 a5 tag = some b ∧ (b = false → RecFew t l tag) :=
  great_l0 a0 t a2 l a4 a5 tag hl l.length 0 k (by omega) hk (by simp)
end Go.Proofs.Ythpbkhagjgggjaa
