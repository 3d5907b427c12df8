/- The law RecordOnward returns true whatever it is given. -/
import Derived.Test.YthpbkhagjgggjaaRecQO
import Derived.Test.YthpbkhagjgggjaaRecO
set_option linter.unusedVariables false
set_option linter.unusedSimpArgs false
namespace Go.Proofs.Ythpbkhagjgggjaa.WRecordOnward
open Go.RowKit Go.Proofs.YthpbkhagjgggjaaW.PrintWords Go.Proofs.Ythpbkhagjgggjaa.GRR

abbrev RecT := (Int × ByteArray × Int × List S76 × Int × Int × ByteArray) × Option Addr × Nat
theorem walk (v0 : Value) (x0 : RecT) (w : World) (w0 : IsRec w v0 x0) :
    Calls Try.prog 8 #[v0] w fun e w' => e = .returned (.bool true) ∧ Below w.heap.size w w' := by
  obtain ⟨⟨x0, x1, x2, x3, x4, x5, x6⟩, A, c⟩ := x0
  have hv := w0.v
  have hc := w0.c
  have hr := w0.row
  have hl := w0.len
  dsimp only at hv hc hr hl
  subst hv
  obtain ⟨k, hk⟩ := onward_true x0 x1 x2 x3 x4 x5 x6 (by simp only [maxLen] at hl; omega)
  exact tephralaw08_RecordOnward.calls k x0 x1 x2 A c x3 x4 x5 x6 true w hr hc hk

end Go.Proofs.Ythpbkhagjgggjaa.WRecordOnward
