/- The law RecordSame holds, in plain Lean. -/
import Derived.Test.YthpbkhagjgggjaaRecF
import Derived.Test.YthpbkhagjgggjaaGRRx8
set_option linter.unusedVariables false
set_option linter.unusedSimpArgs false
namespace Go.Proofs.Ythpbkhagjgggjaa
open Go.RowKit Go.Proofs.YthpbkhagjgggjaaW.PrintWords Go.Proofs.Ythpbkhagjgggjaa.GRR

theorem fixed8_is : tephralaw08_fixed.f = some true := rfl
section
variable (a0 b0 : Int) (a1 b1 : ByteArray) (a2 b2 : Int) (a3 b3 : List S76) (a4 b4 a5 b5 : Int) (a6 b6 : ByteArray)
theorem rsame_l0 (hlen : a3.length = b3.length) (hl : a3.length ≤ 1000000) : ∀ (d i k : Nat), a3.length = i + d → d < k →
    ∃ b, tephraref08_Same.l0 k (i : Int) a0 a1 a2 a3 a4 a5 a6 b0 b1 b2 b3 b4 b5 b6 = some b ∧ (b = true ↔ a3.drop i = b3.drop i) := by
  intro d
  induction d with
  | zero =>
    intro i k hi hk
    obtain ⟨k, rfl⟩ : ∃ m, k = m + 1 := ⟨k - 1, by omega⟩
    refine ⟨true, ?_, ?_⟩
    · simp only [tephraref08_Same.l0]; rw [if_neg (by omega)]
    · rw [List.drop_of_length_le (by omega), List.drop_of_length_le (by omega)]; simp
  | succ d ih =>
    intro i k hi hk
    obtain ⟨k, rfl⟩ : ∃ m, k = m + 1 := ⟨k - 1, by omega⟩
    have h1 : i < a3.length := by omega
    have h2 : i < b3.length := by omega
    simp only [tephraref08_Same.l0]
    rw [if_pos (by omega), if_pos (by omega), if_pos (by omega), rd_dep a3 i h1, rd_dep b3 i h2, wr1 i a3.length h1 (by omega), List.drop_eq_getElem_cons h1, List.drop_eq_getElem_cons h2]
    obtain ⟨b, hb, hb2⟩ := ih (i + 1) k (by omega) (by omega)
    generalize hx : a3[i] = x
    generalize hy : b3[i] = y
    obtain ⟨x0, x1, x2⟩ := x
    obtain ⟨y0, y1, y2⟩ := y
    by_cases e0 : x0 = y0
    · by_cases e1 : x1 = y1
      · by_cases e2 : x2 = y2
        · subst e0 e1 e2
          rw [if_pos rfl, if_pos rfl, if_neg (by simp)]
          exact ⟨b, hb, by rw [hb2]; simp⟩
        · subst e0 e1
          rw [if_pos rfl, if_pos rfl, if_pos (by simpa using e2)]
          exact ⟨false, rfl, by simp [e2]⟩
      · subst e0
        rw [if_pos rfl, if_neg e1]
        exact ⟨false, rfl, by simp [e1]⟩
    · rw [if_neg (fun h => e0 (tl_eq.1 h))]
      exact ⟨false, rfl, by simp [e0]⟩
theorem rsame_is (hl : a3.length ≤ 1000000) (k : Nat) (hk : a3.length + 1 < k) :
    ∃ b, tephraref08_Same.f k a0 a1 a2 a3 a4 a5 a6 b0 b1 b2 b3 b4 b5 b6 = some b ∧ (b = true ↔ a0 = b0 ∧ a1 = b1 ∧ a2 = b2 ∧ a3 = b3 ∧ a4 = b4 ∧ a5 = b5 ∧ a6 = b6) := by
  obtain ⟨k, rfl⟩ : ∃ m, k = m + 1 := ⟨k - 1, by omega⟩
  have hno : tephraref08_Same.j0 (k + 1) true a0 a1 a2 a3 a4 a5 a6 b0 b1 b2 b3 b4 b5 b6 = some false := by
    simp only [tephraref08_Same.j0]; rw [if_pos trivial]
  unfold tephraref08_Same.f
  rw [hno]
  by_cases c0 : a0 = b0
  · by_cases c1 : a1 = b1
    · by_cases c2 : a2 = b2
      · by_cases c4 : a4 = b4
        · by_cases c5 : a5 = b5
          · by_cases c6 : a6 = b6
            · rw [if_pos c0, if_pos (tl_eq.2 c1), if_pos c2, if_pos c4, if_pos c5, if_pos (tl_eq.2 c6)]
              simp only [tephraref08_Same.j0]
              by_cases hlen : a3.length = b3.length
              · rw [if_neg (by simp; omega)]
                obtain ⟨b, hb, hb2⟩ := rsame_l0 a0 b0 a1 b1 a2 b2 a3 b3 a4 b4 a5 b5 a6 b6 hlen hl a3.length 0 k (by omega) (by omega)
                refine ⟨b, hb, ?_⟩
                rw [hb2]; simp [*]
              · rw [if_pos (by simp; omega)]
                refine ⟨false, rfl, ⟨fun h => (by cases h), fun h => absurd (congrArg List.length h.2.2.2.1) hlen⟩⟩
            · rw [if_pos c0, if_pos (tl_eq.2 c1), if_pos c2, if_pos c4, if_pos c5, if_neg (fun h => c6 (tl_eq.1 h))]; exact ⟨false, rfl, by simp [c6]⟩
          · rw [if_pos c0, if_pos (tl_eq.2 c1), if_pos c2, if_pos c4, if_neg c5]; exact ⟨false, rfl, by simp [c5]⟩
        · rw [if_pos c0, if_pos (tl_eq.2 c1), if_pos c2, if_neg c4]; exact ⟨false, rfl, by simp [c4]⟩
      · rw [if_pos c0, if_pos (tl_eq.2 c1), if_neg c2]; exact ⟨false, rfl, by simp [c2]⟩
    · rw [if_pos c0, if_neg (fun h => c1 (tl_eq.1 h))]; exact ⟨false, rfl, by simp [c1]⟩
  · rw [if_neg c0]; exact ⟨false, rfl, by simp [c0]⟩
/-- one record's own deps are written: the other still is as it was -/
theorem rsl_l0 (hl : a3.length ≤ 1000000) (k0 : Nat) : ∀ (d i k : Nat) (ys : List S76), ys.length = i + d → ys.length ≤ 1000000 → a3.length + 2 + d < k →
    tephralaw08_RecordSame.l0 k (ys.length : Int) (i : Int) a0 a1 a2 a3 a4 a5 a6 b0 b1 b2 ys b4 b5 b6 a0 a1 a2 a3 a4 a5 a6 = some true := by
  intro d
  induction d with
  | zero =>
    intro i k ys hi hy hk
    obtain ⟨k, rfl⟩ : ∃ m, k = m + 1 := ⟨k - 1, by omega⟩
    obtain ⟨b, hb, hb2⟩ := rsame_is a0 a0 a1 a1 a2 a2 a3 a3 a4 a4 a5 a5 a6 a6 hl k (by omega)
    rw [hb2.2 ⟨rfl, rfl, rfl, rfl, rfl, rfl, rfl⟩] at hb
    simp only [tephralaw08_RecordSame.l0]
    rw [if_neg (by omega), fixed8_is]
    simp only [Option.bind_some]
    rw [if_pos trivial, hb]; rfl
  | succ d ih =>
    intro i k ys hi hy hk
    obtain ⟨k, rfl⟩ : ∃ m, k = m + 1 := ⟨k - 1, by omega⟩
    simp only [tephralaw08_RecordSame.l0]
    rw [if_pos (by omega), if_pos (by omega), if_pos (by omega), wr1 i ys.length (by omega) (by omega)]
    have := ih (i + 1) k (ys.set ((i : Int).toNat) (⟨(rd_T76 ys (i : Int)).f0, IntKind.u64.wrap (((rd_T76 ys (i : Int)).f1) + 1), (rd_T76 ys (i : Int)).f2⟩ : S76)) (by rw [List.length_set]; omega) (by rw [List.length_set]; omega) (by omega)
    rw [List.length_set] at this
    exact this
theorem recordSame_true (hl : a3.length ≤ 9223372036854775807) (hl2 : b3.length ≤ 9223372036854775807) :
    ∃ k, tephralaw08_RecordSame.f k a0 a1 a2 a3 a4 a5 a6 b0 b1 b2 b3 b4 b5 b6 = some true := by
  refine ⟨a3.length + b3.length + 1000, ?_⟩
  obtain ⟨g, hg, hg2⟩ := great_is a0 a1 a2 a3 a4 a5 a6 hl (a3.length + b3.length + 1000) (by omega)
  obtain ⟨q, hq, hq2⟩ := great_is b0 b1 b2 b3 b4 b5 b6 hl2 (a3.length + b3.length + 1000) (by omega)
  obtain ⟨k, hk⟩ : ∃ m, a3.length + b3.length + 1000 = m + 2 := ⟨a3.length + b3.length + 1000 - 2, by omega⟩
  rw [hk] at hg hq ⊢
  unfold tephralaw08_RecordSame.f
  rw [hg, hq]
  simp only [Option.bind_some]
  have hT : tephralaw08_RecordSame.j0 (k + 2) true a0 a1 a2 a3 a4 a5 a6 b0 b1 b2 b3 b4 b5 b6 = some true := by
    simp only [tephralaw08_RecordSame.j0]; rw [if_pos trivial, fixed8_is]; rfl
  cases g with
  | true => rw [if_pos rfl, hT]
  | false =>
    cases q with
    | true => rw [if_neg (by simp), hT]
    | false =>
      have hf := hg2 rfl
      have hf2 := hq2 rfl
      have n1 := hf.n
      have n2 := hf2.n
      obtain ⟨s1, e1, f1⟩ := record_Same_is a0 b0 a1 b1 a2 b2 a3 b3 a4 b4 a5 b5 a6 b6 (by omega) (k + 1) (by omega)
      obtain ⟨s2, e2, f2⟩ := rsame_is a0 b0 a1 b1 a2 b2 a3 b3 a4 b4 a5 b5 a6 b6 (by omega) (k + 1) (by omega)
      obtain ⟨s3, e3, f3⟩ := record_Same_is b0 a0 b1 a1 b2 a2 b3 a3 b4 a4 b5 a5 b6 a6 (by omega) (k + 1) (by omega)
      obtain ⟨s4, e4, f4⟩ := record_Same_is a0 a0 a1 a1 a2 a2 a3 a3 a4 a4 a5 a5 a6 a6 (by omega) (k + 1) (by omega)
      have h4 : s4 = true := f4.2 ⟨rfl, rfl, rfl, rfl, rfl, rfl, rfl⟩
      have h12 : s1 = s2 := Bool.eq_iff_iff.2 (f1.trans f2.symm)
      have h32 : s3 = s2 := Bool.eq_iff_iff.2 (f3.trans (by rw [f2]; constructor <;> (rintro ⟨rfl, rfl, rfl, rfl, rfl, rfl, rfl⟩; simp)))
      rw [if_neg (by simp)]
      simp only [tephralaw08_RecordSame.j0]
      rw [if_neg (by simp), e1, e2, e3, e4]
      simp only [Option.bind_some]
      rw [h4, if_neg (by rw [h12]; simp), if_neg (by rw [h32]; simp)]
      simp only [tephralaw08_RecordSame.j1, Option.bind_some]
      have hcl : record_Clone.f a0 a1 a2 ([] ++ a3) a4 a5 a6 = some (a0, a1, a2, a3, a4, a5, a6) := by
        unfold record_Clone.f api_Dep_88.f
        rw [if_pos (by simp; omega)]; rfl
      rw [if_neg (by simp), if_pos (by simp; omega), hcl]
      simp only [Option.bind_some, List.nil_append]
      exact rsl_l0 a0 a0 a1 a1 a2 a2 a3 a4 a4 a5 a5 a6 a6 (by omega) 0 a3.length 0 k a3 (by omega) (by omega) (by omega)
end
end Go.Proofs.Ythpbkhagjgggjaa
