/- The chapter's example of a table of texts. -/
import Derived.Test.YthpbkhagjgggjaaTabK
import Derived.Test.YthpbkhagjgggjaaOpen
set_option linter.unusedVariables false
set_option linter.unusedSimpArgs false
namespace Go.Proofs.Ythpbkhagjgggjaa
open Go.RowKit Go.Proofs.YthpbkhagjgggjaaW.PrintWords

theorem C_block_str (W : World) (b : Nat) (e : TypeId) (fr : Nat × Nat) (xs : List ByteArray) (h : W.heap[b]? = some (.cells (xs.map Value.string).toArray e fr)) (hx : xs.length ≤ 9223372036854775807) :
    Kd.C Kd.string W (some ⟨b, 0, none⟩) xs.length xs := by
  refine ⟨rfl, hx, fun _ => ⟨_, rfl, fun j p hj => ⟨[.string p], rfl, rfl, fun i u hu => ?_⟩⟩⟩
  match i with
  | 0 =>
    have e0 : (⟨b, 0, none⟩ : Addr).add (j * Kd.string.sz + 0) = ⟨b, j, none⟩ := by simp [Addr.add, Kd.string, Kd.scalar]; omega
    rw [e0, cell_of_blk h]
    simp only [List.getElem?_toArray, List.getElem?_map, hj, Option.map_some]
    simpa using hu
  | i + 1 => simp at hu
theorem NewTab.out {w w' : World} {g : Nat} {l : List ByteArray} (h : NewTab w w' g l) : ∃ S, Tab w' S g l ∧ (∀ k, S k → w.heap.size ≤ k) ∧ Below w.heap.size w w' := h
theorem id_in {w : World} {S : Nat → Prop} {g : Nat} {l : List ByteArray} (h : Tab w S g l) (s : ByteArray) (hs : s ∈ l) :
    Calls Try.prog 32 #[.pointer (some ⟨g, 0, none⟩), .string s] w fun e w' => e = .returned (.tuple #[.int .u64 (posOf l s : Int), .bool false]) ∧ w = w' := by
  have HP := Lib.hid (put_in h s hs)
  have hpos := posOf_lt hs
  have hlen := h.len
  clear h
  go_enter Try.func32, Try.ntmps32
  generalize posOf l s = p at *
  go_wp2_with fail
  refine HP.out.mono ?_
  rintro e w1 ⟨rfl, rfl⟩
  go_wp2_with fail
  go_ret2
  exact ⟨rfl, rfl⟩
theorem fx7_new : tnew [⟨#[97]⟩, ⟨#[98]⟩, ⟨#[97]⟩] = [⟨#[97]⟩, ⟨#[98]⟩] := by decide
theorem fx7_a : posOf [⟨#[97]⟩, ⟨#[98]⟩] ⟨#[97]⟩ = 0 := by decide
theorem fx7_b : atI [⟨#[97]⟩, ⟨#[98]⟩] ⟨#[98]⟩ = 1 ∧ isIn [⟨#[97]⟩, ⟨#[98]⟩] ⟨#[98]⟩ = true := by decide
set_option maxHeartbeats 1000000 in
theorem fixed7_any (w : World) : Calls Try.prog 30 #[] w fun e w' => e = .returned (.bool true) ∧ Below w.heap.size w w' := by
  have hC := C_block_str (w.alloc (.cells #[.string ⟨#[97]⟩, .string ⟨#[98]⟩, .string ⟨#[97]⟩] 9)) w.heap.size 9 (0, 0) [⟨#[97]⟩, ⟨#[98]⟩, ⟨#[97]⟩] (heap_new w _) (by simp)
  have hn := new_any (some ⟨w.heap.size, 0, none⟩) 3 [⟨#[97]⟩, ⟨#[98]⟩, ⟨#[97]⟩] _ hC (Nat.le_refl _) (by intro s hs; simp at hs; rcases hs with rfl | rfl | rfl <;> decide) (by decide)
  have hb0 : Below w.heap.size w (w.alloc (.cells #[.string ⟨#[97]⟩, .string ⟨#[98]⟩, .string ⟨#[97]⟩] 9)) := (Below.refl _ _).alloc (Nat.le_refl _) _
  have HN := Lib.hid hn
  have HB0 := Lib.hid hb0
  clear hC hn hb0
  go_enter Try.func30, Try.ntmps30
  go_wp2_with fail
  generalize w.alloc (.cells #[.string ⟨#[97]⟩, .string ⟨#[98]⟩, .string ⟨#[97]⟩] 9) = w0 at *
  refine HN.out.mono ?_
  rintro e w1 ⟨rfl, hd⟩
  generalize w0.heap.size = g at hd ⊢
  rw [fx7_new] at hd
  have hb1 := HB0.out.trans (hd.below.mono HB0.out.size)
  obtain ⟨S, hT, hS, hB⟩ := hd.out
  have h1 := id_in hT ⟨#[97]⟩ (by simp)
  rw [fx7_a] at h1
  have h2 := find_any hT ⟨#[98]⟩ (by decide)
  rw [fx7_b.1, fx7_b.2] at h2
  have H1 := Lib.hid h1
  have H2 := Lib.hid h2
  have H3 := Lib.hid (len_any hT)
  clear h1 h2 hT hS hB hd
  go_wp2_with fail
  refine H1.out.mono ?_
  rintro e w2 ⟨rfl, rfl⟩
  go_wp2_with fail
  refine H2.out.mono ?_
  rintro e w2 ⟨rfl, rfl⟩
  go_wp2_with fail
  refine H3.out.mono ?_
  rintro e w2 ⟨rfl, rfl⟩
  go_wp2_with fail
  go_ret
  exact ⟨rfl, hb1⟩
end Go.Proofs.Ythpbkhagjgggjaa
