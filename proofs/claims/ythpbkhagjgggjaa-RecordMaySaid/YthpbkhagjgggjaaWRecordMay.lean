/- The law RecordMay returns true whatever it is given. -/
import Derived.Test.YthpbkhagjgggjaaRecQM
import Derived.Test.YthpbkhagjgggjaaRecO
set_option linter.unusedVariables false
set_option linter.unusedSimpArgs false
namespace Go.Proofs.Ythpbkhagjgggjaa.WRecordMay
open Go.RowKit Go.Proofs.YthpbkhagjgggjaaW.PrintWords Go.Proofs.Ythpbkhagjgggjaa.GRR

abbrev RecT := (Int × ByteArray × Int × List S76 × Int × Int × ByteArray) × Option Addr × Nat
theorem walk (a0 : Int) (v1 : Value) (x1 : RecT) (w : World) (w0 : (Lit.int .i64 a0).wf = true) (w1 : IsRec w v1 x1) :
    Calls Try.prog 10 #[.int .i64 a0, v1] w fun e w' => e = .returned (.bool true) ∧ Below w.heap.size w w' := by
  obtain ⟨⟨x0, x1, x2, x3, x4, x5, x6⟩, A, c⟩ := x1
  have hv := w1.v
  have hc := w1.c
  have hr := w1.row
  have hl := w1.len
  dsimp only at hv hc hr hl
  subst hv
  obtain ⟨k, hk⟩ := recordMay_true a0 x0 x1 x2 x3 x4 x5 x6 (by simp only [maxLen] at hl; omega)
  exact tephralaw08_RecordMay.calls k a0 x0 x1 x2 A c x3 x4 x5 x6 true w hr hc hk

end Go.Proofs.Ythpbkhagjgggjaa.WRecordMay
