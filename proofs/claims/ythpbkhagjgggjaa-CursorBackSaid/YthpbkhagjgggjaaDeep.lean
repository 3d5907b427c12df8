/- Arguments that are slices of strings, or of slices of bytes: what they read as. -/
import Derived.Test.YthpbkhagjgggjaaMy
import Derived.SliceStrings
import Derived.Deep.Matrix
set_option linter.unusedVariables false
set_option linter.unusedSimpArgs false
namespace Go.Proofs.Ythpbkhagjgggjaa
open Go.RowKit Go.Proofs.YthpbkhagjgggjaaW.PrintWords Go.ChangeShapes Go.WideShapes

/-- The value is a slice of these texts. -/
def IsStrs (W : World) (v : Value) (x : Option Addr × Nat × List ByteArray) : Prop :=
  v = .slice x.1 x.2.2.length x.2.1 ∧ x.2.2.length ≤ x.2.1 ∧ Kd.C Kd.string W x.1 x.2.2.length x.2.2 ∧ ∀ s ∈ x.2.2, s.size ≤ maxLen
theorem strs_of (a : Addr) (len cap : Nat) (ss : List ByteArray) (W : World) (hl : len ≤ cap) (hm : cap ≤ maxLen) (hz : ss.length = cap) (hcell : ∀ i, i < ss.length → W.cell? (a.add i) = some (.string (ss.getD i ByteArray.empty))) (hwz : ∀ s ∈ ss, s.size ≤ maxLen) :
    IsStrs W (.slice (some a) len cap) (some a, cap, ss.take len) := by
  have hlen : (ss.take len).length = len := by rw [List.length_take]; omega
  refine ⟨by rw [hlen], by rw [hlen]; exact hl, ?_, fun s hs => hwz s (List.mem_of_mem_take hs)⟩
  refine ⟨rfl, by simp only [maxLen] at hm; rw [hlen]; omega, fun _ => ⟨a, rfl, fun j p hj => ⟨[.string p], rfl, rfl, fun i u hu => ?_⟩⟩⟩
  have hj : (ss.take len)[j]? = some p := hj
  have hj' : j < len := by
    have := (List.getElem?_eq_some_iff.1 hj).1
    omega
  have hp : ss.getD j ByteArray.empty = p := by
    rw [List.getElem?_take_of_lt hj'] at hj
    rw [List.getD_eq_getElem?_getD, hj]; rfl
  match i with
  | 0 =>
    have e0 : a.add (j * Kd.string.sz + 0) = a.add j := by rw [show Kd.string.sz = 1 from rfl, Nat.mul_one]; rfl
    rw [e0, hcell j (by omega), hp]
    simpa using hu
  | i + 1 => simp at hu
set_option maxRecDepth 100000 in
theorem open_t22 {H : Type} {enc : TypeId × Value → H} {W : World} {base : Nat} {held : Bool} {v : Value} {d : DataW H} {ps : List MemPlace} {r : Reach} {b0 : Nat} (hval : Value.okWide Try.prog W r b0 22 v) (h : DataW.Trod enc Try.prog W base (fun _ => true) held 22 v d ps) : ∃ x, IsStrs W v x := by
  obtain ⟨fuel, hf⟩ := h
  have key := open_strings Try.underlying22 Try.underlying9 (by kernel_rfl) hf
  obtain ⟨A, len, cap, rfl⟩ := okWide_slice Try.underlying22 hval
  · rcases key with ⟨hcs, _⟩ | ⟨a, len', cap', ss, hcs, _, hl, hm, hz, _, hcell, hwz⟩
    · simp [Value.cells] at hcs
      obtain ⟨rfl, rfl, rfl⟩ := hcs
      exact ⟨(none, 0, []), rfl, Nat.le_refl _, Kd.C_nil _ _, by simp⟩
    · simp [Value.cells] at hcs
      obtain ⟨rfl, rfl, rfl⟩ := hcs
      simp only [if_true] at hz
      exact ⟨(some a, cap, ss.take len), strs_of a len cap ss W hl hm hz hcell hwz⟩
end Go.Proofs.Ythpbkhagjgggjaa
