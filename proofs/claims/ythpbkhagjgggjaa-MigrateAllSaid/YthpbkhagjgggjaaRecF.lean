/- What the fixed part of the records' laws answers. -/
import Derived.Test.YthpbkhagjgggjaaRecM
set_option linter.unusedVariables false
set_option linter.unusedSimpArgs false
namespace Go.Proofs.Ythpbkhagjgggjaa
open Go.RowKit Go.Proofs.YthpbkhagjgggjaaW.PrintWords Go.Proofs.Ythpbkhagjgggjaa.GRR

set_option maxHeartbeats 2000000 in
set_option maxRecDepth 100000 in
theorem fixed8_any (w : World) : Calls Try.prog 43 #[] w fun e w' => e = .returned (.bool true) ∧ Below w.heap.size w w' := by
  have hok : RecOk ⟨#[97]⟩ [] ⟨#[98]⟩ := ⟨by simp, by decide, by decide, by simp⟩
  have HOK := Lib.hid hok
  have HM := Lib.hid (fun (v : Int) (b : Bool) (hb : mayB v 1 ⟨#[97]⟩ 0 [] 0 0 ⟨#[98]⟩ = b) (W : World) => (hb ▸ may_any v 1 ⟨#[97]⟩ 0 none 0 [] 0 0 ⟨#[98]⟩ W (Kd.C_nil _ _) (Nat.le_refl _) hok : Calls Try.prog 44 #[.int .i64 v, .agg #[.int .i64 1, .string ⟨#[97]⟩, .int .u64 0, .slice none 0 0, .int .u64 0, .int .u64 0, .string ⟨#[98]⟩]] W fun e w' => e = .returned (.bool b) ∧ Below W.heap.size W w'))
  have hb0 := (Below.refl w.heap.size w).alloc (Nat.le_refl _) (.cells #[.int .i64 1, .string ⟨#[97]⟩, .int .u64 0, .slice none 0 0, .int .u64 0, .int .u64 0, .string ⟨#[98]⟩] 70)
  have HB0 := Lib.hid hb0
  have HN := Lib.hid (heap_new w (.cells #[.int .i64 1, .string ⟨#[97]⟩, .int .u64 0, .slice none 0 0, .int .u64 0, .int .u64 0, .string ⟨#[98]⟩] 70))
  clear hb0
  go_enter Try.func43, Try.ntmps43
  go_wp2_with fail
  refine (HM.out 3 true (by decide) _).mono ?_
  rintro e w1 ⟨rfl, hb1⟩
  have hk1 := (hb1.block w.heap.size (by rw [heap_size_alloc]; omega)).trans HN.out
  have HB1 := Lib.hid (HB0.out.trans (hb1.mono HB0.out.size))
  have hz1 := (hb1.size)
  rw [heap_size_alloc] at hz1
  clear hb1
  obtain ⟨b0, hb0⟩ : ∃ b, w.heap.size = b := ⟨_, rfl⟩
  rw [hb0] at hk1 hz1
  have B0 := Lib.hid hb0
  rw [hb0]
  clear hb0
  have c0 : w1.cell? ⟨b0, 0, none⟩ = some (.int .i64 1) := (cell_of_blk hk1 0).trans rfl
  have c1 : w1.cell? ⟨b0, 1, none⟩ = some (.string ⟨#[97]⟩) := (cell_of_blk hk1 1).trans rfl
  have c2 : w1.cell? ⟨b0, 2, none⟩ = some (.int .u64 0) := (cell_of_blk hk1 2).trans rfl
  have c3 : w1.cell? ⟨b0, 3, none⟩ = some (.slice none 0 0) := (cell_of_blk hk1 3).trans rfl
  have c4 : w1.cell? ⟨b0, 4, none⟩ = some (.int .u64 0) := (cell_of_blk hk1 4).trans rfl
  have c5 : w1.cell? ⟨b0, 5, none⟩ = some (.int .u64 0) := (cell_of_blk hk1 5).trans rfl
  have c6 : w1.cell? ⟨b0, 6, none⟩ = some (.string ⟨#[98]⟩) := (cell_of_blk hk1 6).trans rfl
  have HK1 := Lib.hid hk1
  have HZ1 := Lib.hid hz1
  clear hk1 hz1
  go_wp2_with fail
  refine (HM.out 2 false (by decide) _).mono ?_
  rintro e w2 ⟨rfl, hb2⟩
  have hk2 := (hb2.block b0 (by have := HZ1.out; omega)).trans HK1.out
  have HB2 := Lib.hid (HB1.out.trans (hb2.mono HB1.out.size))
  have HZ2 := Lib.hid (Nat.le_trans HZ1.out hb2.size)
  clear hb2 c0 c1 c2 c3 c4 c5 c6
  have c0 : w2.cell? ⟨b0, 0, none⟩ = some (.int .i64 1) := (cell_of_blk hk2 0).trans rfl
  have c1 : w2.cell? ⟨b0, 1, none⟩ = some (.string ⟨#[97]⟩) := (cell_of_blk hk2 1).trans rfl
  have c2 : w2.cell? ⟨b0, 2, none⟩ = some (.int .u64 0) := (cell_of_blk hk2 2).trans rfl
  have c3 : w2.cell? ⟨b0, 3, none⟩ = some (.slice none 0 0) := (cell_of_blk hk2 3).trans rfl
  have c4 : w2.cell? ⟨b0, 4, none⟩ = some (.int .u64 0) := (cell_of_blk hk2 4).trans rfl
  have c5 : w2.cell? ⟨b0, 5, none⟩ = some (.int .u64 0) := (cell_of_blk hk2 5).trans rfl
  have c6 : w2.cell? ⟨b0, 6, none⟩ = some (.string ⟨#[98]⟩) := (cell_of_blk hk2 6).trans rfl
  clear hk2
  go_wp2_with fail
  refine (HM.out 1 false (by decide) _).mono ?_
  rintro e w3 ⟨rfl, hb3⟩
  have HB3 := Lib.hid (HB2.out.trans (hb3.mono HB2.out.size))
  clear hb3
  go_wp2_with fail
  go_ret
  exact ⟨rfl, HB3.out⟩
def tephralaw08_fixed.f : Option Bool := some true
theorem tephralaw08_fixed.calls (r : Bool) (w : World) (h : tephralaw08_fixed.f = some r) :
    Calls Try.prog 43 #[] w fun e w' => e = .returned (.bool r) ∧ Below w.heap.size w w' := by
  cases h
  exact fixed8_any w
end Go.Proofs.Ythpbkhagjgggjaa
