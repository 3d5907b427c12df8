/- The frame behind a region of open order, slot by slot. -/
import Derived.Test.YtfflenbfapgilaaReg
set_option linter.unusedVariables false
set_option linter.unusedSimpArgs false
namespace Go.Proofs.Ytfflenbfapgilaa
open Go.RowKit Go.Proofs.YtfflenbfapgilaaW.PrintWords

theorem foldl_set_get (v : Nat → Value) : ∀ (ds : List Nat) (T : Array Value) (t : Nat), (ds.foldl (fun T d => T.setIfInBounds d (v d)) T)[t]? = if t ∈ ds ∧ t < T.size then some (v t) else T[t]? := by
  intro ds
  induction ds with
  | nil => intro T t; simp
  | cons d ds ih =>
    intro T t
    rw [List.foldl_cons, ih, Array.size_setIfInBounds, Array.getElem?_setIfInBounds]
    by_cases hd : t = d
    · subst hd
      by_cases hs : t < T.size
      · simp [hs]
      · simp [hs]
    · have : ¬ d = t := fun e => hd e.symm
      simp [hd, this]
theorem same_lit {ops : Array Oper} {a0 a : Act} (h : Same ops a0 a) : a = { a0 with tmps := (ops.toList.filterMap (·.dst)).foldl (fun T d => T.setIfInBounds d (a.tmps.getD d undef)) a0.tmps } := by
  have ht : a.tmps = (ops.toList.filterMap (·.dst)).foldl (fun T d => T.setIfInBounds d (a.tmps.getD d undef)) a0.tmps := by
    apply Array.ext_getElem?
    intro t
    rw [foldl_set_get]
    split
    · rename_i hh
      have : t < a.tmps.size := by rw [h.1]; exact hh.2
      simp [Array.getD, this]
    · rename_i hh
      by_cases hm : t ∈ ops.toList.filterMap (·.dst)
      · have hs : ¬ t < a0.tmps.size := fun e => hh ⟨hm, e⟩
        rw [Array.getElem?_eq_none (by rw [h.1]; omega), Array.getElem?_eq_none (by omega)]
      · apply h.2.2
        rw [List.all_eq_true]
        intro o ho
        simp only [bne_iff_ne, ne_eq]
        intro e
        exact hm (List.mem_filterMap.2 ⟨o, ho, e⟩)
  cases a
  cases a0
  simp only [Act.mk.injEq]
  have hd := h.2.1
  simp only at hd ht
  subst hd
  refine ⟨ht, ?_⟩
  first | rfl | (constructor <;> rfl)
end Go.Proofs.Ytfflenbfapgilaa
