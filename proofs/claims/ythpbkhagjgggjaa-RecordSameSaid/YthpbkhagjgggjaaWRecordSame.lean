/- The law RecordSame returns true whatever it is given. -/
import Derived.Test.YthpbkhagjgggjaaRecQS
import Derived.Test.YthpbkhagjgggjaaRecO
set_option linter.unusedVariables false
set_option linter.unusedSimpArgs false
namespace Go.Proofs.Ythpbkhagjgggjaa.WRecordSame
open Go.RowKit Go.Proofs.YthpbkhagjgggjaaW.PrintWords Go.Proofs.Ythpbkhagjgggjaa.GRR

abbrev RecT := (Int × ByteArray × Int × List S76 × Int × Int × ByteArray) × Option Addr × Nat
theorem walk (v0 : Value) (x0 : RecT) (v1 : Value) (x1 : RecT) (w : World) (w0 : IsRec w v0 x0) (w1 : IsRec w v1 x1) :
    Calls Try.prog 9 #[v0, v1] w fun e w' => e = .returned (.bool true) ∧ Below w.heap.size w w' := by
  obtain ⟨⟨y0, y1, y2, y3, y4, y5, y6⟩, B, c2⟩ := x1
  have hv2 := w1.v
  have hc2 := w1.c
  have hr2 := w1.row
  have hl2 := w1.len
  dsimp only at hv2 hc2 hr2 hl2
  subst hv2
  obtain ⟨⟨x0, x1, x2, x3, x4, x5, x6⟩, A, c⟩ := x0
  have hv := w0.v
  have hc := w0.c
  have hr := w0.row
  have hl := w0.len
  dsimp only at hv hc hr hl
  subst hv
  obtain ⟨k, hk⟩ := recordSame_true x0 y0 x1 y1 x2 y2 x3 y3 x4 y4 x5 y5 x6 y6 (by simp only [maxLen] at hl; omega) (by simp only [maxLen] at hl2; omega)
  exact tephralaw08_RecordSame.calls k x0 x1 x2 A c x3 x4 x5 x6 y0 y1 y2 B c2 y3 y4 y5 y6 true w hr hc hr2 hc2 hk

end Go.Proofs.Ythpbkhagjgggjaa.WRecordSame
