/- What the methods of a table of texts do: those that only read, and put. -/
import Derived.Test.YthpbkhagjgggjaaTab
set_option linter.unusedVariables false
set_option linter.unusedSimpArgs false
namespace Go.Proofs.Ythpbkhagjgggjaa
open Go.RowKit Go.Proofs.YthpbkhagjgggjaaW.PrintWords
open Go.Maps (Keyed)

theorem atI_bd (l : List ByteArray) (s : ByteArray) (h : l.length ≤ 1000000) : 0 ≤ atI l s ∧ atI l s ≤ 1000000 := by
  unfold atI
  have := posOf_le l s
  split <;> omega
theorem atI_nil (s : ByteArray) : atI [] s = 0 := rfl
theorem Tab.cells {w : World} {S : Nat → Prop} {g : Nat} {l : List ByteArray} (h : Tab w S g l) :
    ∃ A c mv, w.cell? ⟨g, 0, none⟩ = some (.slice A l.length c) ∧ w.cell? ⟨g, 1, none⟩ = some mv ∧ l.length ≤ c ∧ Kd.C Kd.string w A l.length l ∧ MapAt w S mv l := by
  obtain ⟨allv, mv, hb, hr, hm⟩ := h.out
  obtain ⟨A, c, rfl, h1, h2⟩ := hr.slice
  exact ⟨A, c, mv, (cell_of_blk hb 0).trans rfl, (cell_of_blk hb 1).trans rfl, h1, h2, hm⟩
theorem MapAt.look {w : World} {S : Nat → Prop} {mv : Value} {l : List ByteArray} (h : MapAt w S mv l) {s : ByteArray} (hs : s.size ≤ maxLen) :
    (Instr.lookup 124 mv (.string s) true).run Try.prog w = .ok (.tuple #[.int .i64 (atI l s), .bool (isIn l s)]) w := by
  rcases h with ⟨rfl, rfl⟩ | ⟨b, D, rfl, _, ho, hp⟩
  · exact look_run_nil hs
  · exact look_run ho hp hs
section
variable {w : World} {S : Nat → Prop} {g : Nat} {l : List ByteArray}
theorem len_any (h : Tab w S g l) : Calls Try.prog 33 #[.pointer (some ⟨g, 0, none⟩)] w fun e w' => e = .returned (.int .i64 (l.length : Int)) ∧ w = w' := by
  obtain ⟨A, c, mv, hc0, hc1, _, _, _⟩ := h.cells
  go_enter Try.func33, Try.ntmps33
  go_wp2_with fail
  go_ret
  exact ⟨rfl, rfl⟩
theorem find_any (h : Tab w S g l) (s : ByteArray) (hs : s.size ≤ maxLen) : Calls Try.prog 35 #[.pointer (some ⟨g, 0, none⟩), .string s] w fun e w' => e = .returned (.tuple #[.int .u64 (atI l s), .bool (isIn l s)]) ∧ w = w' := by
  obtain ⟨A, c, mv, hc0, hc1, _, _, hm⟩ := h.cells
  have hl := hm.look hs
  obtain ⟨h0, h1⟩ := atI_bd l s h.len
  generalize atI l s = x at *
  go_enter Try.func35, Try.ntmps35
  go_wp2_with fail
  go_ret2
  exact ⟨rfl, rfl⟩
theorem text_in (h : Tab w S g l) (i : Nat) (hi : i < l.length) : Calls Try.prog 84 #[.pointer (some ⟨g, 0, none⟩), .int .u64 (i : Int)] w fun e w' => e = .returned (.tuple #[.string l[i], .bool true]) ∧ w = w' := by
  obtain ⟨A, c, mv, hc0, hc1, _, hC, _⟩ := h.cells
  obtain ⟨ad, rfl, hcell⟩ := Kd.at_string hC (i : Int) (by omega) (by omega)
  rw [Int.toNat_natCast] at hcell
  have hz : rdOf ByteArray.empty l (i : Int) = l[i] := by simp [rdOf, hi]
  rw [hz] at hcell
  generalize l[i] = s at *
  have hlen := h.len
  clear hC hz h
  go_enter Try.func84, Try.ntmps84
  go_wp2_with fail
  go_ret2
  exact ⟨rfl, rfl⟩
theorem text_out (h : Tab w S g l) (i : Int) (hi : (l.length : Int) ≤ i) : Calls Try.prog 84 #[.pointer (some ⟨g, 0, none⟩), .int .u64 i] w fun e w' => e = .returned (.tuple #[.string ⟨#[]⟩, .bool false]) ∧ w = w' := by
  obtain ⟨A, c, mv, hc0, hc1, _, hC, _⟩ := h.cells
  have hlen := h.len
  have hd : decide ((l.length : Int) ≤ i) = true := decide_eq_true hi
  clear hC h
  go_enter Try.func84, Try.ntmps84
  go_wp2_with fail
  go_ret2
  exact ⟨rfl, rfl⟩
theorem put_in (h : Tab w S g l) (s : ByteArray) (hs : s ∈ l) : Calls Try.prog 82 #[.pointer (some ⟨g, 0, none⟩), .string s] w fun e w' => e = .returned (.tuple #[.int .i64 (posOf l s : Int), .bool false]) ∧ w = w' := by
  obtain ⟨A, c, mv, hc0, hc1, _, hC, hm⟩ := h.cells
  have hl := hm.look (h.wide s hs)
  rw [isIn_iff.2 hs, show atI l s = (posOf l s : Int) by unfold atI; rw [isIn_iff.2 hs]; rfl] at hl
  generalize posOf l s = p at *
  clear hC hm h hs
  go_enter Try.func82, Try.ntmps82
  go_wp2_with fail
  go_ret2
  exact ⟨rfl, rfl⟩
end
end Go.Proofs.Ythpbkhagjgggjaa
