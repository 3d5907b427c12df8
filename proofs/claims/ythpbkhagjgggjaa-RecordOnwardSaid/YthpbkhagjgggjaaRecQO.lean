/- The law RecordOnward holds, in plain Lean. -/
import Derived.Test.YthpbkhagjgggjaaRecF
import Derived.Test.YthpbkhagjgggjaaGRRy0
set_option linter.unusedVariables false
set_option linter.unusedSimpArgs false
namespace Go.Proofs.Ythpbkhagjgggjaa
open Go.RowKit Go.Proofs.YthpbkhagjgggjaaW.PrintWords Go.Proofs.Ythpbkhagjgggjaa.GRR

theorem fixed8_is : tephralaw08_fixed.f = some true := rfl
theorem depsOk_le {v v' : Int} (h : v ≤ v') : ∀ (l : List S76) (met : List ByteArray), depsOk v met l = true → depsOk v' met l = true
  | [], _, _ => rfl
  | d :: r, met, hh => by
    unfold depsOk at hh ⊢
    simp only [Bool.and_eq_true] at hh ⊢
    refine ⟨⟨hh.1.1, ?_⟩, depsOk_le h r _ hh.2⟩
    have h2 := hh.1.2
    revert h2
    cases d.f2 with
    | false => intro _; rfl
    | true =>
      intro h2
      simp only [Bool.true_and, Bool.not_eq_true', decide_eq_false_iff_not] at h2 ⊢
      omega
theorem depsB_le {v v' : Int} (h : v ≤ v') (t : ByteArray) (l : List S76) (hh : depsB v t l = true) : depsB v' t l = true := by
  unfold depsB at hh ⊢
  simp only [Bool.and_eq_true] at hh ⊢
  exact ⟨depsOk_le h _ _ hh.1, hh.2⟩
theorem depsOk_21 : ∀ (l : List S76) (met : List ByteArray), depsOk 2 met l = depsOk 1 met l
  | [], _ => rfl
  | d :: r, met => by
    unfold depsOk
    rw [depsOk_21 r, show decide ((2 : Int) < 3) = decide ((1 : Int) < 3) from rfl]
theorem depsB_21 (t : ByteArray) (l : List S76) : depsB 2 t l = depsB 1 t l := by
  unfold depsB; rw [depsOk_21]
theorem mayB_12 {k0 : Int} {t : ByteArray} {rule : Int} {l : List S76} {out when : Int} {tag : ByteArray} (h : mayB 1 k0 t rule l out when tag = true) : mayB 2 k0 t rule l out when tag = true := by
  unfold mayB at h ⊢
  by_cases c : k0 = 1
  · rw [if_pos c] at h ⊢
    have := depsB_le (show (1 : Int) ≤ 2 by omega) t l
    generalize depsB 1 t l = d1 at *
    generalize depsB 2 t l = d2 at *
    simp at h ⊢
    simp_all
  · rw [if_neg c] at h ⊢; simpa using h
theorem mayB_23 {k0 : Int} {t : ByteArray} {rule : Int} {l : List S76} {out when : Int} {tag : ByteArray} (h : mayB 2 k0 t rule l out when tag = true) : mayB 3 k0 t rule l out when tag = true := by
  unfold mayB at h ⊢
  by_cases c : k0 = 1
  · rw [if_pos c] at h ⊢
    have := depsB_le (show (2 : Int) ≤ 3 by omega) t l
    generalize depsB 2 t l = d1 at *
    generalize depsB 3 t l = d2 at *
    simp at h ⊢
    simp_all
  · rw [if_neg c] at h ⊢; simpa using h
theorem mayB_back {t : ByteArray} {rule : Int} {l : List S76} {out when : Int} {tag : ByteArray} (h : mayB 2 1 t rule l out when tag = true) : mayB 1 1 t rule l out 0 ⟨#[]⟩ = true := by
  unfold mayB at h ⊢
  rw [if_pos rfl] at h ⊢
  rw [depsB_21] at h
  rw [show (⟨#[]⟩ : ByteArray).size = 0 from rfl]
  simp at h ⊢
  simp_all
theorem onward_true (k0 : Int) (t : ByteArray) (rule : Int) (l : List S76) (out when : Int) (tag : ByteArray) (hl : l.length ≤ 9223372036854775807) :
    ∃ k, tephralaw08_RecordOnward.f k k0 t rule l out when tag = some true := by
  refine ⟨l.length + 1100000, ?_⟩
  obtain ⟨g, hg, hg2⟩ := great_is k0 t rule l out when tag hl (l.length + 1100000) (by omega)
  unfold tephralaw08_RecordOnward.f
  rw [hg]
  simp only [Option.bind_some]
  cases g with
  | true => rw [if_pos rfl, fixed8_is]; rfl
  | false =>
    have hf := (hg2 rfl).ok
    have hf0 : RecOk t l ⟨#[]⟩ := ⟨hf.n, hf.t, by decide, hf.d⟩
    rw [if_neg (by simp), record_May_is hf, record_May_is hf, record_May_is hf]
    obtain ⟨k, hk⟩ : ∃ m, l.length + 1100000 = m + 1 := ⟨l.length + 1100000 - 1, by omega⟩
    rw [hk]
    simp only [Option.bind_some, tephralaw08_RecordOnward.j0, fixed8_is, record_May_is hf, record_May_is hf0]
    have hm0 : mayB 0 k0 t rule l out when tag = false := by unfold mayB; simp
    have hm4 : mayB 4 k0 t rule l out when tag = false := by unfold mayB; simp
    rw [hm0, hm4]
    have h12 : mayB 1 k0 t rule l out when tag = true → mayB 2 k0 t rule l out when tag = true := mayB_12
    have h23 : mayB 2 k0 t rule l out when tag = true → mayB 3 k0 t rule l out when tag = true := mayB_23
    have he : k0 = 2 → mayB 1 k0 t rule l out when tag = mayB 3 k0 t rule l out when tag := by
      rintro rfl; unfold mayB; simp
    have h1 : k0 = 1 → mayB 2 k0 t rule l out when tag = true → mayB 1 k0 t rule l out 0 ⟨#[]⟩ = true := by
      rintro rfl h2
      exact mayB_back h2
    generalize mayB 1 k0 t rule l out 0 ⟨#[]⟩ = m0 at *
    generalize mayB 1 k0 t rule l out when tag = m1 at *
    generalize mayB 2 k0 t rule l out when tag = m2 at *
    generalize mayB 3 k0 t rule l out when tag = m3 at *
    cases m1 <;> cases m2 <;> cases m3 <;> simp at h12 h23 he h1 ⊢
    all_goals first | done | (by_cases c1 : k0 = 1 <;> by_cases c2 : k0 = 2 <;> simp_all)
end Go.Proofs.Ythpbkhagjgggjaa
