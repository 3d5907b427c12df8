/- The chapter's example of blobs. -/
import Derived.Test.YthojcapdbjmneaaBlob2
set_option linter.unusedVariables false
set_option linter.unusedSimpArgs false
namespace Go.Proofs.Ythojcapdbjmneaa
open Go.RowKit Go.Proofs.Ythojcapdbjmneaa.GVB Go.Proofs.YthojcapdbjmneaaW.PrintWords

theorem ab_blob : blob ⟨#[97, 98]⟩ = [2, 97, 98] := by
  unfold blob
  rw [show (⟨#[97, 98]⟩ : ByteArray).size = 2 from rfl, vb_small 2 (by omega)]
  rfl
theorem ab_get : bgetS [2, 97, 98] 0 1 = (⟨#[]⟩, 0, 5) := by
  unfold bgetS
  rw [show getS [2, 97, 98] 0 = (2, 1, 0) by decide]
  rfl
set_option maxHeartbeats 1000000 in
theorem fixed2_any (w : World) : Calls Try.prog 21 #[] w fun e w' => e = .returned (.bool true) ∧ Below w.heap.size w w' := by
  go_enter Try.func21, Try.ntmps21
  go_wp2_with fail
  refine (bput_any none 0 [] ⟨#[97, 98]⟩ _ (Kd.C_nil _ _) (Nat.le_refl _) (by rw [ab_blob]; decide)).mono ?_
  rintro e w1 ⟨v, rfl, ho, hb1⟩
  rw [ab_blob, List.nil_append] at ho
  obtain ⟨A1, c1, rfl⟩ := Kd.R_slice ho
  have HR := Lib.hid (Kd.R_reads' ho)
  clear ho
  go_wp2_with fail
  refine (bget_any A1 c1 [2, 97, 98] 1 w1 0 HR.out.2.2 HR.out.2.1 (by decide) (by decide) (by omega)).mono ?_
  rw [ab_get]
  rintro e w2 ⟨rfl, hb2⟩
  have hb3 := hb1.trans (hb2.mono hb1.size)
  have hcv := Kd.C_string (P := Try.prog) (A := A1) (c := c1) Try.underlying22 Try.underlying5 Try.underlying9 (Kd.C_below HR.out.2.2 hb2)
  have hs : (strOfNums [2, 97, 98]).toList = [2, 97, 98] := by rw [Lib.strOfNums_toList]; rfl
  clear hb1 hb2
  simp only [List.length_cons, List.length_nil, Nat.zero_add] at hcv
  go_wp2_with fail
  go_ret
  exact ⟨by simp [hs], hb3⟩
end Go.Proofs.Ythojcapdbjmneaa
