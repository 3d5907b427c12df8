/- Blocks that read as texts. -/
import Derived.Test.YthpbkhagjgggjaaTabK
set_option linter.unusedVariables false
set_option linter.unusedSimpArgs false
namespace Go.Proofs.Ythpbkhagjgggjaa
open Go.RowKit Go.Proofs.YthpbkhagjgggjaaW.PrintWords

theorem C_block_str (W : World) (b : Nat) (e : TypeId) (fr : Nat × Nat) (xs : List ByteArray) (h : W.heap[b]? = some (.cells (xs.map Value.string).toArray e fr)) (hx : xs.length ≤ 9223372036854775807) :
    Kd.C Kd.string W (some ⟨b, 0, none⟩) xs.length xs := by
  refine ⟨rfl, hx, fun _ => ⟨_, rfl, fun j p hj => ⟨[.string p], rfl, rfl, fun i u hu => ?_⟩⟩⟩
  match i with
  | 0 =>
    have e0 : (⟨b, 0, none⟩ : Addr).add (j * Kd.string.sz + 0) = ⟨b, j, none⟩ := by simp [Addr.add, Kd.string, Kd.scalar]; omega
    rw [e0, cell_of_blk h]
    simp only [List.getElem?_toArray, List.getElem?_map, hj, Option.map_some]
    simpa using hu
  | i + 1 => simp at hu
theorem NewTab.out {w w' : World} {g : Nat} {l : List ByteArray} (h : NewTab w w' g l) : ∃ S, Tab w' S g l ∧ (∀ k, S k → w.heap.size ≤ k) ∧ Below w.heap.size w w' := h
end Go.Proofs.Ythpbkhagjgggjaa
