/- The law MigrateOne: at the version 1 unlike records stay unlike where they come to. -/
import Derived.Test.YthpbkhagjgggjaaMigA
import Derived.Test.YthpbkhagjgggjaaReg
import Derived.Test.YthpbkhagjgggjaaRecO
set_option linter.unusedVariables false
set_option linter.unusedSimpArgs false
namespace Go.Proofs.Ythpbkhagjgggjaa.WMigrateOne
open Go.RowKit Go.Proofs.YthpbkhagjgggjaaW.PrintWords Go.Proofs.Ythpbkhagjgggjaa.GRR

theorem great_at (x0 : Int) (x1 : ByteArray) (x2 : Int) (A : Option Addr) (c : Nat) (x3 : List S76) (x4 x5 : Int) (x6 : ByteArray) (W : World) (g : Bool) (hr : Kd.C k76 W A x3.length x3) (hc : x3.length ≤ c) (hg : ∃ k, tephralaw08_Great.f k x0 x1 x2 x3 x4 x5 x6 = some g) :
    Calls Try.prog 42 #[.agg #[.int .i64 x0, .string x1, .int .u64 x2, .slice A x3.length c, .int .u64 x4, .int .u64 x5, .string x6]] W fun e w' => e = .returned (.bool g) ∧ Below W.heap.size W w' := by
  obtain ⟨k, hk⟩ := hg
  exact tephralaw08_Great.calls k x0 x1 x2 A c x3 x4 x5 x6 g W hr hc hk
set_option maxHeartbeats 4000000 in
set_option maxRecDepth 100000 in
theorem one_ga (A B : Option Addr) (c d : Nat) (x0 : Int) (x1 : ByteArray) (x2 : Int) (x3 : List S76) (x4 x5 : Int) (x6 : ByteArray) (y0 : Int) (y1 : ByteArray) (y2 : Int) (y3 : List S76) (y4 y5 : Int) (y6 : ByteArray) (w : World) (hrA : Kd.C k76 w A x3.length x3) (hcA : x3.length ≤ c) (hrB : Kd.C k76 w B y3.length y3) (hcB : y3.length ≤ d)
    (hga : ∃ k, tephralaw08_Great.f k x0 x1 x2 x3 x4 x5 x6 = some true) :
    Calls Try.prog 12 #[.agg #[.int .i64 x0, .string x1, .int .u64 x2, .slice A x3.length c, .int .u64 x4, .int .u64 x5, .string x6], .agg #[.int .i64 y0, .string y1, .int .u64 y2, .slice B y3.length d, .int .u64 y4, .int .u64 y5, .string y6]] w fun e w' => e = .returned (.bool true) ∧ Below w.heap.size w w' := by
  obtain ⟨w1, hw1⟩ : ∃ w1, (w.alloc (.cells #[.int .i64 x0, .string x1, .int .u64 x2, .slice A x3.length c, .int .u64 x4, .int .u64 x5, .string x6] 70)).alloc (.cells #[.int .i64 y0, .string y1, .int .u64 y2, .slice B y3.length d, .int .u64 y4, .int .u64 y5, .string y6] 70) = w1 := ⟨_, rfl⟩
  have hb1 : Below w.heap.size w w1 := by rw [← hw1]; exact ((Below.refl _ _).alloc (Nat.le_refl _) _).alloc (by rw [heap_size_alloc]; omega) _
  have hk2 : w1.heap[w.heap.size]? = some (.cells #[.int .i64 x0, .string x1, .int .u64 x2, .slice A x3.length c, .int .u64 x4, .int .u64 x5, .string x6] 70 (0, 0)) := by
    rw [← hw1, heap_new_old _ _ _ (by rw [heap_size_alloc]; omega)]; exact heap_new _ _
  have hk3 : w1.heap[w.heap.size + 1]? = some (.cells #[.int .i64 y0, .string y1, .int .u64 y2, .slice B y3.length d, .int .u64 y4, .int .u64 y5, .string y6] 70 (0, 0)) := by
    rw [← hw1]; have := heap_new (w.alloc (.cells #[.int .i64 x0, .string x1, .int .u64 x2, .slice A x3.length c, .int .u64 x4, .int .u64 x5, .string x6] 70)) (.cells #[.int .i64 y0, .string y1, .int .u64 y2, .slice B y3.length d, .int .u64 y4, .int .u64 y5, .string y6] 70); rwa [heap_size_alloc] at this
  obtain ⟨b2, hb2⟩ : ∃ b, w.heap.size = b := ⟨_, rfl⟩
  obtain ⟨b3, hb3⟩ : ∃ b, w.heap.size + 1 = b := ⟨_, rfl⟩
  rw [hb2] at hk2
  rw [hb3] at hk3
  have f0 : w1.cell? ⟨b2, 0, none⟩ = some (.int .i64 x0) := (blk_cell hk2 0).trans rfl
  have f1 : w1.cell? ⟨b2, 1, none⟩ = some (.string x1) := (blk_cell hk2 1).trans rfl
  have f2 : w1.cell? ⟨b2, 2, none⟩ = some (.int .u64 x2) := (blk_cell hk2 2).trans rfl
  have f3 : w1.cell? ⟨b2, 3, none⟩ = some (.slice A x3.length c) := (blk_cell hk2 3).trans rfl
  have f4 : w1.cell? ⟨b2, 4, none⟩ = some (.int .u64 x4) := (blk_cell hk2 4).trans rfl
  have f5 : w1.cell? ⟨b2, 5, none⟩ = some (.int .u64 x5) := (blk_cell hk2 5).trans rfl
  have f6 : w1.cell? ⟨b2, 6, none⟩ = some (.string x6) := (blk_cell hk2 6).trans rfl
  have g0 : w1.cell? ⟨b3, 0, none⟩ = some (.int .i64 y0) := (blk_cell hk3 0).trans rfl
  have g1 : w1.cell? ⟨b3, 1, none⟩ = some (.string y1) := (blk_cell hk3 1).trans rfl
  have g2 : w1.cell? ⟨b3, 2, none⟩ = some (.int .u64 y2) := (blk_cell hk3 2).trans rfl
  have g3 : w1.cell? ⟨b3, 3, none⟩ = some (.slice B y3.length d) := (blk_cell hk3 3).trans rfl
  have g4 : w1.cell? ⟨b3, 4, none⟩ = some (.int .u64 y4) := (blk_cell hk3 4).trans rfl
  have g5 : w1.cell? ⟨b3, 5, none⟩ = some (.int .u64 y5) := (blk_cell hk3 5).trans rfl
  have g6 : w1.cell? ⟨b3, 6, none⟩ = some (.string y6) := (blk_cell hk3 6).trans rfl
  have KA1 := Lib.hid hk2
  have KB1 := Lib.hid hk3
  have HB1 := Lib.hid hb1
  have HW1 := Lib.hid hw1
  have HB2_ := Lib.hid hb2
  have HB3_ := Lib.hid hb3
  have HGA := Lib.hid (fun (W : World) (h : Below w.heap.size w W) => great_at x0 x1 x2 A c x3 x4 x5 x6 W true (Kd.C_below hrA h) hcA hga)
  clear hrA hrB hb1 hw1 hk2 hk3 hb2 hb3 hga
  go_enter Try.func12, Try.ntmps12
  go_wp2_with fail
  rw [HW1.out, HB3_.out, HB2_.out]
  refine (HGA.out w1 HB1.out).mono ?_
  rintro e w2 ⟨rfl, hb⟩
  have HB2 := Lib.hid (HB1.out.trans (hb.mono HB1.out.size))
  clear f0 f1 f2 f3 f4 f5 f6 g0 g1 g2 g3 g4 g5 g6
  have hKA2 := blk_below KA1.out hb
  have f0 : w2.cell? ⟨b2, 0, none⟩ = some (.int .i64 x0) := (blk_cell hKA2 0).trans rfl
  have f1 : w2.cell? ⟨b2, 1, none⟩ = some (.string x1) := (blk_cell hKA2 1).trans rfl
  have f2 : w2.cell? ⟨b2, 2, none⟩ = some (.int .u64 x2) := (blk_cell hKA2 2).trans rfl
  have f3 : w2.cell? ⟨b2, 3, none⟩ = some (.slice A x3.length c) := (blk_cell hKA2 3).trans rfl
  have f4 : w2.cell? ⟨b2, 4, none⟩ = some (.int .u64 x4) := (blk_cell hKA2 4).trans rfl
  have f5 : w2.cell? ⟨b2, 5, none⟩ = some (.int .u64 x5) := (blk_cell hKA2 5).trans rfl
  have f6 : w2.cell? ⟨b2, 6, none⟩ = some (.string x6) := (blk_cell hKA2 6).trans rfl
  have KA2 := Lib.hid hKA2
  clear hKA2
  have hKB2 := blk_below KB1.out hb
  have g0 : w2.cell? ⟨b3, 0, none⟩ = some (.int .i64 y0) := (blk_cell hKB2 0).trans rfl
  have g1 : w2.cell? ⟨b3, 1, none⟩ = some (.string y1) := (blk_cell hKB2 1).trans rfl
  have g2 : w2.cell? ⟨b3, 2, none⟩ = some (.int .u64 y2) := (blk_cell hKB2 2).trans rfl
  have g3 : w2.cell? ⟨b3, 3, none⟩ = some (.slice B y3.length d) := (blk_cell hKB2 3).trans rfl
  have g4 : w2.cell? ⟨b3, 4, none⟩ = some (.int .u64 y4) := (blk_cell hKB2 4).trans rfl
  have g5 : w2.cell? ⟨b3, 5, none⟩ = some (.int .u64 y5) := (blk_cell hKB2 5).trans rfl
  have g6 : w2.cell? ⟨b3, 6, none⟩ = some (.string y6) := (blk_cell hKB2 6).trans rfl
  have KB2 := Lib.hid hKB2
  clear hKB2
  clear hb
  go_wp2_with fail
  refine (fixed11_any _).mono ?_
  rintro e w9 ⟨rfl, hb⟩
  go_wp2_with fail
  go_ret
  exact ⟨rfl, HB2.out.trans (hb.mono HB2.out.size)⟩
set_option maxHeartbeats 4000000 in
set_option maxRecDepth 100000 in
theorem one_gb (A B : Option Addr) (c d : Nat) (x0 : Int) (x1 : ByteArray) (x2 : Int) (x3 : List S76) (x4 x5 : Int) (x6 : ByteArray) (y0 : Int) (y1 : ByteArray) (y2 : Int) (y3 : List S76) (y4 y5 : Int) (y6 : ByteArray) (w : World) (hrA : Kd.C k76 w A x3.length x3) (hcA : x3.length ≤ c) (hrB : Kd.C k76 w B y3.length y3) (hcB : y3.length ≤ d)
    (hga : ∃ k, tephralaw08_Great.f k x0 x1 x2 x3 x4 x5 x6 = some false) (hgb : ∃ k, tephralaw08_Great.f k y0 y1 y2 y3 y4 y5 y6 = some true) :
    Calls Try.prog 12 #[.agg #[.int .i64 x0, .string x1, .int .u64 x2, .slice A x3.length c, .int .u64 x4, .int .u64 x5, .string x6], .agg #[.int .i64 y0, .string y1, .int .u64 y2, .slice B y3.length d, .int .u64 y4, .int .u64 y5, .string y6]] w fun e w' => e = .returned (.bool true) ∧ Below w.heap.size w w' := by
  obtain ⟨w1, hw1⟩ : ∃ w1, (w.alloc (.cells #[.int .i64 x0, .string x1, .int .u64 x2, .slice A x3.length c, .int .u64 x4, .int .u64 x5, .string x6] 70)).alloc (.cells #[.int .i64 y0, .string y1, .int .u64 y2, .slice B y3.length d, .int .u64 y4, .int .u64 y5, .string y6] 70) = w1 := ⟨_, rfl⟩
  have hb1 : Below w.heap.size w w1 := by rw [← hw1]; exact ((Below.refl _ _).alloc (Nat.le_refl _) _).alloc (by rw [heap_size_alloc]; omega) _
  have hk2 : w1.heap[w.heap.size]? = some (.cells #[.int .i64 x0, .string x1, .int .u64 x2, .slice A x3.length c, .int .u64 x4, .int .u64 x5, .string x6] 70 (0, 0)) := by
    rw [← hw1, heap_new_old _ _ _ (by rw [heap_size_alloc]; omega)]; exact heap_new _ _
  have hk3 : w1.heap[w.heap.size + 1]? = some (.cells #[.int .i64 y0, .string y1, .int .u64 y2, .slice B y3.length d, .int .u64 y4, .int .u64 y5, .string y6] 70 (0, 0)) := by
    rw [← hw1]; have := heap_new (w.alloc (.cells #[.int .i64 x0, .string x1, .int .u64 x2, .slice A x3.length c, .int .u64 x4, .int .u64 x5, .string x6] 70)) (.cells #[.int .i64 y0, .string y1, .int .u64 y2, .slice B y3.length d, .int .u64 y4, .int .u64 y5, .string y6] 70); rwa [heap_size_alloc] at this
  obtain ⟨b2, hb2⟩ : ∃ b, w.heap.size = b := ⟨_, rfl⟩
  obtain ⟨b3, hb3⟩ : ∃ b, w.heap.size + 1 = b := ⟨_, rfl⟩
  rw [hb2] at hk2
  rw [hb3] at hk3
  have f0 : w1.cell? ⟨b2, 0, none⟩ = some (.int .i64 x0) := (blk_cell hk2 0).trans rfl
  have f1 : w1.cell? ⟨b2, 1, none⟩ = some (.string x1) := (blk_cell hk2 1).trans rfl
  have f2 : w1.cell? ⟨b2, 2, none⟩ = some (.int .u64 x2) := (blk_cell hk2 2).trans rfl
  have f3 : w1.cell? ⟨b2, 3, none⟩ = some (.slice A x3.length c) := (blk_cell hk2 3).trans rfl
  have f4 : w1.cell? ⟨b2, 4, none⟩ = some (.int .u64 x4) := (blk_cell hk2 4).trans rfl
  have f5 : w1.cell? ⟨b2, 5, none⟩ = some (.int .u64 x5) := (blk_cell hk2 5).trans rfl
  have f6 : w1.cell? ⟨b2, 6, none⟩ = some (.string x6) := (blk_cell hk2 6).trans rfl
  have g0 : w1.cell? ⟨b3, 0, none⟩ = some (.int .i64 y0) := (blk_cell hk3 0).trans rfl
  have g1 : w1.cell? ⟨b3, 1, none⟩ = some (.string y1) := (blk_cell hk3 1).trans rfl
  have g2 : w1.cell? ⟨b3, 2, none⟩ = some (.int .u64 y2) := (blk_cell hk3 2).trans rfl
  have g3 : w1.cell? ⟨b3, 3, none⟩ = some (.slice B y3.length d) := (blk_cell hk3 3).trans rfl
  have g4 : w1.cell? ⟨b3, 4, none⟩ = some (.int .u64 y4) := (blk_cell hk3 4).trans rfl
  have g5 : w1.cell? ⟨b3, 5, none⟩ = some (.int .u64 y5) := (blk_cell hk3 5).trans rfl
  have g6 : w1.cell? ⟨b3, 6, none⟩ = some (.string y6) := (blk_cell hk3 6).trans rfl
  have KA1 := Lib.hid hk2
  have KB1 := Lib.hid hk3
  have HB1 := Lib.hid hb1
  have HW1 := Lib.hid hw1
  have HB2_ := Lib.hid hb2
  have HB3_ := Lib.hid hb3
  have HGA := Lib.hid (fun (W : World) (h : Below w.heap.size w W) => great_at x0 x1 x2 A c x3 x4 x5 x6 W false (Kd.C_below hrA h) hcA hga)
  have HGB := Lib.hid (fun (W : World) (h : Below w.heap.size w W) => great_at y0 y1 y2 B d y3 y4 y5 y6 W true (Kd.C_below hrB h) hcB hgb)
  clear hrA hrB hb1 hw1 hk2 hk3 hb2 hb3 hga hgb
  go_enter Try.func12, Try.ntmps12
  go_wp2_with fail
  rw [HW1.out, HB3_.out, HB2_.out]
  refine (HGA.out w1 HB1.out).mono ?_
  rintro e w2 ⟨rfl, hb⟩
  have HB2 := Lib.hid (HB1.out.trans (hb.mono HB1.out.size))
  clear f0 f1 f2 f3 f4 f5 f6 g0 g1 g2 g3 g4 g5 g6
  have hKA2 := blk_below KA1.out hb
  have f0 : w2.cell? ⟨b2, 0, none⟩ = some (.int .i64 x0) := (blk_cell hKA2 0).trans rfl
  have f1 : w2.cell? ⟨b2, 1, none⟩ = some (.string x1) := (blk_cell hKA2 1).trans rfl
  have f2 : w2.cell? ⟨b2, 2, none⟩ = some (.int .u64 x2) := (blk_cell hKA2 2).trans rfl
  have f3 : w2.cell? ⟨b2, 3, none⟩ = some (.slice A x3.length c) := (blk_cell hKA2 3).trans rfl
  have f4 : w2.cell? ⟨b2, 4, none⟩ = some (.int .u64 x4) := (blk_cell hKA2 4).trans rfl
  have f5 : w2.cell? ⟨b2, 5, none⟩ = some (.int .u64 x5) := (blk_cell hKA2 5).trans rfl
  have f6 : w2.cell? ⟨b2, 6, none⟩ = some (.string x6) := (blk_cell hKA2 6).trans rfl
  have KA2 := Lib.hid hKA2
  clear hKA2
  have hKB2 := blk_below KB1.out hb
  have g0 : w2.cell? ⟨b3, 0, none⟩ = some (.int .i64 y0) := (blk_cell hKB2 0).trans rfl
  have g1 : w2.cell? ⟨b3, 1, none⟩ = some (.string y1) := (blk_cell hKB2 1).trans rfl
  have g2 : w2.cell? ⟨b3, 2, none⟩ = some (.int .u64 y2) := (blk_cell hKB2 2).trans rfl
  have g3 : w2.cell? ⟨b3, 3, none⟩ = some (.slice B y3.length d) := (blk_cell hKB2 3).trans rfl
  have g4 : w2.cell? ⟨b3, 4, none⟩ = some (.int .u64 y4) := (blk_cell hKB2 4).trans rfl
  have g5 : w2.cell? ⟨b3, 5, none⟩ = some (.int .u64 y5) := (blk_cell hKB2 5).trans rfl
  have g6 : w2.cell? ⟨b3, 6, none⟩ = some (.string y6) := (blk_cell hKB2 6).trans rfl
  have KB2 := Lib.hid hKB2
  clear hKB2
  clear hb
  go_wp2_with fail
  refine (HGB.out w2 HB2.out).mono ?_
  rintro e w3 ⟨rfl, hb⟩
  have HB3 := Lib.hid (HB2.out.trans (hb.mono HB2.out.size))
  clear f0 f1 f2 f3 f4 f5 f6 g0 g1 g2 g3 g4 g5 g6
  have hKA3 := blk_below KA2.out hb
  have f0 : w3.cell? ⟨b2, 0, none⟩ = some (.int .i64 x0) := (blk_cell hKA3 0).trans rfl
  have f1 : w3.cell? ⟨b2, 1, none⟩ = some (.string x1) := (blk_cell hKA3 1).trans rfl
  have f2 : w3.cell? ⟨b2, 2, none⟩ = some (.int .u64 x2) := (blk_cell hKA3 2).trans rfl
  have f3 : w3.cell? ⟨b2, 3, none⟩ = some (.slice A x3.length c) := (blk_cell hKA3 3).trans rfl
  have f4 : w3.cell? ⟨b2, 4, none⟩ = some (.int .u64 x4) := (blk_cell hKA3 4).trans rfl
  have f5 : w3.cell? ⟨b2, 5, none⟩ = some (.int .u64 x5) := (blk_cell hKA3 5).trans rfl
  have f6 : w3.cell? ⟨b2, 6, none⟩ = some (.string x6) := (blk_cell hKA3 6).trans rfl
  have KA3 := Lib.hid hKA3
  clear hKA3
  have hKB3 := blk_below KB2.out hb
  have g0 : w3.cell? ⟨b3, 0, none⟩ = some (.int .i64 y0) := (blk_cell hKB3 0).trans rfl
  have g1 : w3.cell? ⟨b3, 1, none⟩ = some (.string y1) := (blk_cell hKB3 1).trans rfl
  have g2 : w3.cell? ⟨b3, 2, none⟩ = some (.int .u64 y2) := (blk_cell hKB3 2).trans rfl
  have g3 : w3.cell? ⟨b3, 3, none⟩ = some (.slice B y3.length d) := (blk_cell hKB3 3).trans rfl
  have g4 : w3.cell? ⟨b3, 4, none⟩ = some (.int .u64 y4) := (blk_cell hKB3 4).trans rfl
  have g5 : w3.cell? ⟨b3, 5, none⟩ = some (.int .u64 y5) := (blk_cell hKB3 5).trans rfl
  have g6 : w3.cell? ⟨b3, 6, none⟩ = some (.string y6) := (blk_cell hKB3 6).trans rfl
  have KB3 := Lib.hid hKB3
  clear hKB3
  clear hb
  go_wp2_with fail
  refine (fixed11_any _).mono ?_
  rintro e w9 ⟨rfl, hb⟩
  go_wp2_with fail
  go_ret
  exact ⟨rfl, HB3.out.trans (hb.mono HB3.out.size)⟩
set_option maxHeartbeats 4000000 in
set_option maxRecDepth 100000 in
theorem one_ma (A B : Option Addr) (c d : Nat) (x0 : Int) (x1 : ByteArray) (x2 : Int) (x3 : List S76) (x4 x5 : Int) (x6 : ByteArray) (y0 : Int) (y1 : ByteArray) (y2 : Int) (y3 : List S76) (y4 y5 : Int) (y6 : ByteArray) (w : World) (hrA : Kd.C k76 w A x3.length x3) (hcA : x3.length ≤ c) (hrB : Kd.C k76 w B y3.length y3) (hcB : y3.length ≤ d)
    (hga : ∃ k, tephralaw08_Great.f k x0 x1 x2 x3 x4 x5 x6 = some false) (hgb : ∃ k, tephralaw08_Great.f k y0 y1 y2 y3 y4 y5 y6 = some false) (hokA : RecOk x1 x3 x6) (hokB : RecOk y1 y3 y6) (hmA : mayB 1 x0 x1 x2 x3 x4 x5 x6 = false) :
    Calls Try.prog 12 #[.agg #[.int .i64 x0, .string x1, .int .u64 x2, .slice A x3.length c, .int .u64 x4, .int .u64 x5, .string x6], .agg #[.int .i64 y0, .string y1, .int .u64 y2, .slice B y3.length d, .int .u64 y4, .int .u64 y5, .string y6]] w fun e w' => e = .returned (.bool true) ∧ Below w.heap.size w w' := by
  obtain ⟨w1, hw1⟩ : ∃ w1, (w.alloc (.cells #[.int .i64 x0, .string x1, .int .u64 x2, .slice A x3.length c, .int .u64 x4, .int .u64 x5, .string x6] 70)).alloc (.cells #[.int .i64 y0, .string y1, .int .u64 y2, .slice B y3.length d, .int .u64 y4, .int .u64 y5, .string y6] 70) = w1 := ⟨_, rfl⟩
  have hb1 : Below w.heap.size w w1 := by rw [← hw1]; exact ((Below.refl _ _).alloc (Nat.le_refl _) _).alloc (by rw [heap_size_alloc]; omega) _
  have hk2 : w1.heap[w.heap.size]? = some (.cells #[.int .i64 x0, .string x1, .int .u64 x2, .slice A x3.length c, .int .u64 x4, .int .u64 x5, .string x6] 70 (0, 0)) := by
    rw [← hw1, heap_new_old _ _ _ (by rw [heap_size_alloc]; omega)]; exact heap_new _ _
  have hk3 : w1.heap[w.heap.size + 1]? = some (.cells #[.int .i64 y0, .string y1, .int .u64 y2, .slice B y3.length d, .int .u64 y4, .int .u64 y5, .string y6] 70 (0, 0)) := by
    rw [← hw1]; have := heap_new (w.alloc (.cells #[.int .i64 x0, .string x1, .int .u64 x2, .slice A x3.length c, .int .u64 x4, .int .u64 x5, .string x6] 70)) (.cells #[.int .i64 y0, .string y1, .int .u64 y2, .slice B y3.length d, .int .u64 y4, .int .u64 y5, .string y6] 70); rwa [heap_size_alloc] at this
  obtain ⟨b2, hb2⟩ : ∃ b, w.heap.size = b := ⟨_, rfl⟩
  obtain ⟨b3, hb3⟩ : ∃ b, w.heap.size + 1 = b := ⟨_, rfl⟩
  rw [hb2] at hk2
  rw [hb3] at hk3
  have f0 : w1.cell? ⟨b2, 0, none⟩ = some (.int .i64 x0) := (blk_cell hk2 0).trans rfl
  have f1 : w1.cell? ⟨b2, 1, none⟩ = some (.string x1) := (blk_cell hk2 1).trans rfl
  have f2 : w1.cell? ⟨b2, 2, none⟩ = some (.int .u64 x2) := (blk_cell hk2 2).trans rfl
  have f3 : w1.cell? ⟨b2, 3, none⟩ = some (.slice A x3.length c) := (blk_cell hk2 3).trans rfl
  have f4 : w1.cell? ⟨b2, 4, none⟩ = some (.int .u64 x4) := (blk_cell hk2 4).trans rfl
  have f5 : w1.cell? ⟨b2, 5, none⟩ = some (.int .u64 x5) := (blk_cell hk2 5).trans rfl
  have f6 : w1.cell? ⟨b2, 6, none⟩ = some (.string x6) := (blk_cell hk2 6).trans rfl
  have g0 : w1.cell? ⟨b3, 0, none⟩ = some (.int .i64 y0) := (blk_cell hk3 0).trans rfl
  have g1 : w1.cell? ⟨b3, 1, none⟩ = some (.string y1) := (blk_cell hk3 1).trans rfl
  have g2 : w1.cell? ⟨b3, 2, none⟩ = some (.int .u64 y2) := (blk_cell hk3 2).trans rfl
  have g3 : w1.cell? ⟨b3, 3, none⟩ = some (.slice B y3.length d) := (blk_cell hk3 3).trans rfl
  have g4 : w1.cell? ⟨b3, 4, none⟩ = some (.int .u64 y4) := (blk_cell hk3 4).trans rfl
  have g5 : w1.cell? ⟨b3, 5, none⟩ = some (.int .u64 y5) := (blk_cell hk3 5).trans rfl
  have g6 : w1.cell? ⟨b3, 6, none⟩ = some (.string y6) := (blk_cell hk3 6).trans rfl
  have KA1 := Lib.hid hk2
  have KB1 := Lib.hid hk3
  have HB1 := Lib.hid hb1
  have HW1 := Lib.hid hw1
  have HB2_ := Lib.hid hb2
  have HB3_ := Lib.hid hb3
  have HGA := Lib.hid (fun (W : World) (h : Below w.heap.size w W) => great_at x0 x1 x2 A c x3 x4 x5 x6 W false (Kd.C_below hrA h) hcA hga)
  have HGB := Lib.hid (fun (W : World) (h : Below w.heap.size w W) => great_at y0 y1 y2 B d y3 y4 y5 y6 W false (Kd.C_below hrB h) hcB hgb)
  have HMA := Lib.hid (fun (W : World) (h : Below w.heap.size w W) => (refMay_any 1 x0 x1 x2 A c x3 x4 x5 x6 W (Kd.C_below hrA h) hcA hokA))
  rw [hmA] at HMA
  clear hrA hrB hb1 hw1 hk2 hk3 hb2 hb3 hga hgb hokA hokB hmA
  go_enter Try.func12, Try.ntmps12
  go_wp2_with fail
  rw [HW1.out, HB3_.out, HB2_.out]
  refine (HGA.out w1 HB1.out).mono ?_
  rintro e w2 ⟨rfl, hb⟩
  have HB2 := Lib.hid (HB1.out.trans (hb.mono HB1.out.size))
  clear f0 f1 f2 f3 f4 f5 f6 g0 g1 g2 g3 g4 g5 g6
  have hKA2 := blk_below KA1.out hb
  have f0 : w2.cell? ⟨b2, 0, none⟩ = some (.int .i64 x0) := (blk_cell hKA2 0).trans rfl
  have f1 : w2.cell? ⟨b2, 1, none⟩ = some (.string x1) := (blk_cell hKA2 1).trans rfl
  have f2 : w2.cell? ⟨b2, 2, none⟩ = some (.int .u64 x2) := (blk_cell hKA2 2).trans rfl
  have f3 : w2.cell? ⟨b2, 3, none⟩ = some (.slice A x3.length c) := (blk_cell hKA2 3).trans rfl
  have f4 : w2.cell? ⟨b2, 4, none⟩ = some (.int .u64 x4) := (blk_cell hKA2 4).trans rfl
  have f5 : w2.cell? ⟨b2, 5, none⟩ = some (.int .u64 x5) := (blk_cell hKA2 5).trans rfl
  have f6 : w2.cell? ⟨b2, 6, none⟩ = some (.string x6) := (blk_cell hKA2 6).trans rfl
  have KA2 := Lib.hid hKA2
  clear hKA2
  have hKB2 := blk_below KB1.out hb
  have g0 : w2.cell? ⟨b3, 0, none⟩ = some (.int .i64 y0) := (blk_cell hKB2 0).trans rfl
  have g1 : w2.cell? ⟨b3, 1, none⟩ = some (.string y1) := (blk_cell hKB2 1).trans rfl
  have g2 : w2.cell? ⟨b3, 2, none⟩ = some (.int .u64 y2) := (blk_cell hKB2 2).trans rfl
  have g3 : w2.cell? ⟨b3, 3, none⟩ = some (.slice B y3.length d) := (blk_cell hKB2 3).trans rfl
  have g4 : w2.cell? ⟨b3, 4, none⟩ = some (.int .u64 y4) := (blk_cell hKB2 4).trans rfl
  have g5 : w2.cell? ⟨b3, 5, none⟩ = some (.int .u64 y5) := (blk_cell hKB2 5).trans rfl
  have g6 : w2.cell? ⟨b3, 6, none⟩ = some (.string y6) := (blk_cell hKB2 6).trans rfl
  have KB2 := Lib.hid hKB2
  clear hKB2
  clear hb
  go_wp2_with fail
  refine (HGB.out w2 HB2.out).mono ?_
  rintro e w3 ⟨rfl, hb⟩
  have HB3 := Lib.hid (HB2.out.trans (hb.mono HB2.out.size))
  clear f0 f1 f2 f3 f4 f5 f6 g0 g1 g2 g3 g4 g5 g6
  have hKA3 := blk_below KA2.out hb
  have f0 : w3.cell? ⟨b2, 0, none⟩ = some (.int .i64 x0) := (blk_cell hKA3 0).trans rfl
  have f1 : w3.cell? ⟨b2, 1, none⟩ = some (.string x1) := (blk_cell hKA3 1).trans rfl
  have f2 : w3.cell? ⟨b2, 2, none⟩ = some (.int .u64 x2) := (blk_cell hKA3 2).trans rfl
  have f3 : w3.cell? ⟨b2, 3, none⟩ = some (.slice A x3.length c) := (blk_cell hKA3 3).trans rfl
  have f4 : w3.cell? ⟨b2, 4, none⟩ = some (.int .u64 x4) := (blk_cell hKA3 4).trans rfl
  have f5 : w3.cell? ⟨b2, 5, none⟩ = some (.int .u64 x5) := (blk_cell hKA3 5).trans rfl
  have f6 : w3.cell? ⟨b2, 6, none⟩ = some (.string x6) := (blk_cell hKA3 6).trans rfl
  have KA3 := Lib.hid hKA3
  clear hKA3
  have hKB3 := blk_below KB2.out hb
  have g0 : w3.cell? ⟨b3, 0, none⟩ = some (.int .i64 y0) := (blk_cell hKB3 0).trans rfl
  have g1 : w3.cell? ⟨b3, 1, none⟩ = some (.string y1) := (blk_cell hKB3 1).trans rfl
  have g2 : w3.cell? ⟨b3, 2, none⟩ = some (.int .u64 y2) := (blk_cell hKB3 2).trans rfl
  have g3 : w3.cell? ⟨b3, 3, none⟩ = some (.slice B y3.length d) := (blk_cell hKB3 3).trans rfl
  have g4 : w3.cell? ⟨b3, 4, none⟩ = some (.int .u64 y4) := (blk_cell hKB3 4).trans rfl
  have g5 : w3.cell? ⟨b3, 5, none⟩ = some (.int .u64 y5) := (blk_cell hKB3 5).trans rfl
  have g6 : w3.cell? ⟨b3, 6, none⟩ = some (.string y6) := (blk_cell hKB3 6).trans rfl
  have KB3 := Lib.hid hKB3
  clear hKB3
  clear hb
  go_wp2_with fail
  refine (HMA.out w3 HB3.out).mono ?_
  rintro e w4 ⟨rfl, hb⟩
  have HB4 := Lib.hid (HB3.out.trans (hb.mono HB3.out.size))
  clear f0 f1 f2 f3 f4 f5 f6 g0 g1 g2 g3 g4 g5 g6
  have hKA4 := blk_below KA3.out hb
  have f0 : w4.cell? ⟨b2, 0, none⟩ = some (.int .i64 x0) := (blk_cell hKA4 0).trans rfl
  have f1 : w4.cell? ⟨b2, 1, none⟩ = some (.string x1) := (blk_cell hKA4 1).trans rfl
  have f2 : w4.cell? ⟨b2, 2, none⟩ = some (.int .u64 x2) := (blk_cell hKA4 2).trans rfl
  have f3 : w4.cell? ⟨b2, 3, none⟩ = some (.slice A x3.length c) := (blk_cell hKA4 3).trans rfl
  have f4 : w4.cell? ⟨b2, 4, none⟩ = some (.int .u64 x4) := (blk_cell hKA4 4).trans rfl
  have f5 : w4.cell? ⟨b2, 5, none⟩ = some (.int .u64 x5) := (blk_cell hKA4 5).trans rfl
  have f6 : w4.cell? ⟨b2, 6, none⟩ = some (.string x6) := (blk_cell hKA4 6).trans rfl
  have KA4 := Lib.hid hKA4
  clear hKA4
  have hKB4 := blk_below KB3.out hb
  have g0 : w4.cell? ⟨b3, 0, none⟩ = some (.int .i64 y0) := (blk_cell hKB4 0).trans rfl
  have g1 : w4.cell? ⟨b3, 1, none⟩ = some (.string y1) := (blk_cell hKB4 1).trans rfl
  have g2 : w4.cell? ⟨b3, 2, none⟩ = some (.int .u64 y2) := (blk_cell hKB4 2).trans rfl
  have g3 : w4.cell? ⟨b3, 3, none⟩ = some (.slice B y3.length d) := (blk_cell hKB4 3).trans rfl
  have g4 : w4.cell? ⟨b3, 4, none⟩ = some (.int .u64 y4) := (blk_cell hKB4 4).trans rfl
  have g5 : w4.cell? ⟨b3, 5, none⟩ = some (.int .u64 y5) := (blk_cell hKB4 5).trans rfl
  have g6 : w4.cell? ⟨b3, 6, none⟩ = some (.string y6) := (blk_cell hKB4 6).trans rfl
  have KB4 := Lib.hid hKB4
  clear hKB4
  clear hb
  go_wp2_with fail
  refine (fixed11_any _).mono ?_
  rintro e w9 ⟨rfl, hb⟩
  go_wp2_with fail
  go_ret
  exact ⟨rfl, HB4.out.trans (hb.mono HB4.out.size)⟩
set_option maxHeartbeats 4000000 in
set_option maxRecDepth 100000 in
theorem one_mb (A B : Option Addr) (c d : Nat) (x0 : Int) (x1 : ByteArray) (x2 : Int) (x3 : List S76) (x4 x5 : Int) (x6 : ByteArray) (y0 : Int) (y1 : ByteArray) (y2 : Int) (y3 : List S76) (y4 y5 : Int) (y6 : ByteArray) (w : World) (hrA : Kd.C k76 w A x3.length x3) (hcA : x3.length ≤ c) (hrB : Kd.C k76 w B y3.length y3) (hcB : y3.length ≤ d)
    (hga : ∃ k, tephralaw08_Great.f k x0 x1 x2 x3 x4 x5 x6 = some false) (hgb : ∃ k, tephralaw08_Great.f k y0 y1 y2 y3 y4 y5 y6 = some false) (hokA : RecOk x1 x3 x6) (hokB : RecOk y1 y3 y6) (hmA : mayB 1 x0 x1 x2 x3 x4 x5 x6 = true) (hmB : mayB 1 y0 y1 y2 y3 y4 y5 y6 = false) :
    Calls Try.prog 12 #[.agg #[.int .i64 x0, .string x1, .int .u64 x2, .slice A x3.length c, .int .u64 x4, .int .u64 x5, .string x6], .agg #[.int .i64 y0, .string y1, .int .u64 y2, .slice B y3.length d, .int .u64 y4, .int .u64 y5, .string y6]] w fun e w' => e = .returned (.bool true) ∧ Below w.heap.size w w' := by
  obtain ⟨w1, hw1⟩ : ∃ w1, (w.alloc (.cells #[.int .i64 x0, .string x1, .int .u64 x2, .slice A x3.length c, .int .u64 x4, .int .u64 x5, .string x6] 70)).alloc (.cells #[.int .i64 y0, .string y1, .int .u64 y2, .slice B y3.length d, .int .u64 y4, .int .u64 y5, .string y6] 70) = w1 := ⟨_, rfl⟩
  have hb1 : Below w.heap.size w w1 := by rw [← hw1]; exact ((Below.refl _ _).alloc (Nat.le_refl _) _).alloc (by rw [heap_size_alloc]; omega) _
  have hk2 : w1.heap[w.heap.size]? = some (.cells #[.int .i64 x0, .string x1, .int .u64 x2, .slice A x3.length c, .int .u64 x4, .int .u64 x5, .string x6] 70 (0, 0)) := by
    rw [← hw1, heap_new_old _ _ _ (by rw [heap_size_alloc]; omega)]; exact heap_new _ _
  have hk3 : w1.heap[w.heap.size + 1]? = some (.cells #[.int .i64 y0, .string y1, .int .u64 y2, .slice B y3.length d, .int .u64 y4, .int .u64 y5, .string y6] 70 (0, 0)) := by
    rw [← hw1]; have := heap_new (w.alloc (.cells #[.int .i64 x0, .string x1, .int .u64 x2, .slice A x3.length c, .int .u64 x4, .int .u64 x5, .string x6] 70)) (.cells #[.int .i64 y0, .string y1, .int .u64 y2, .slice B y3.length d, .int .u64 y4, .int .u64 y5, .string y6] 70); rwa [heap_size_alloc] at this
  obtain ⟨b2, hb2⟩ : ∃ b, w.heap.size = b := ⟨_, rfl⟩
  obtain ⟨b3, hb3⟩ : ∃ b, w.heap.size + 1 = b := ⟨_, rfl⟩
  rw [hb2] at hk2
  rw [hb3] at hk3
  have f0 : w1.cell? ⟨b2, 0, none⟩ = some (.int .i64 x0) := (blk_cell hk2 0).trans rfl
  have f1 : w1.cell? ⟨b2, 1, none⟩ = some (.string x1) := (blk_cell hk2 1).trans rfl
  have f2 : w1.cell? ⟨b2, 2, none⟩ = some (.int .u64 x2) := (blk_cell hk2 2).trans rfl
  have f3 : w1.cell? ⟨b2, 3, none⟩ = some (.slice A x3.length c) := (blk_cell hk2 3).trans rfl
  have f4 : w1.cell? ⟨b2, 4, none⟩ = some (.int .u64 x4) := (blk_cell hk2 4).trans rfl
  have f5 : w1.cell? ⟨b2, 5, none⟩ = some (.int .u64 x5) := (blk_cell hk2 5).trans rfl
  have f6 : w1.cell? ⟨b2, 6, none⟩ = some (.string x6) := (blk_cell hk2 6).trans rfl
  have g0 : w1.cell? ⟨b3, 0, none⟩ = some (.int .i64 y0) := (blk_cell hk3 0).trans rfl
  have g1 : w1.cell? ⟨b3, 1, none⟩ = some (.string y1) := (blk_cell hk3 1).trans rfl
  have g2 : w1.cell? ⟨b3, 2, none⟩ = some (.int .u64 y2) := (blk_cell hk3 2).trans rfl
  have g3 : w1.cell? ⟨b3, 3, none⟩ = some (.slice B y3.length d) := (blk_cell hk3 3).trans rfl
  have g4 : w1.cell? ⟨b3, 4, none⟩ = some (.int .u64 y4) := (blk_cell hk3 4).trans rfl
  have g5 : w1.cell? ⟨b3, 5, none⟩ = some (.int .u64 y5) := (blk_cell hk3 5).trans rfl
  have g6 : w1.cell? ⟨b3, 6, none⟩ = some (.string y6) := (blk_cell hk3 6).trans rfl
  have KA1 := Lib.hid hk2
  have KB1 := Lib.hid hk3
  have HB1 := Lib.hid hb1
  have HW1 := Lib.hid hw1
  have HB2_ := Lib.hid hb2
  have HB3_ := Lib.hid hb3
  have HGA := Lib.hid (fun (W : World) (h : Below w.heap.size w W) => great_at x0 x1 x2 A c x3 x4 x5 x6 W false (Kd.C_below hrA h) hcA hga)
  have HGB := Lib.hid (fun (W : World) (h : Below w.heap.size w W) => great_at y0 y1 y2 B d y3 y4 y5 y6 W false (Kd.C_below hrB h) hcB hgb)
  have HMA := Lib.hid (fun (W : World) (h : Below w.heap.size w W) => (refMay_any 1 x0 x1 x2 A c x3 x4 x5 x6 W (Kd.C_below hrA h) hcA hokA))
  rw [hmA] at HMA
  have HMB := Lib.hid (fun (W : World) (h : Below w.heap.size w W) => (refMay_any 1 y0 y1 y2 B d y3 y4 y5 y6 W (Kd.C_below hrB h) hcB hokB))
  rw [hmB] at HMB
  clear hrA hrB hb1 hw1 hk2 hk3 hb2 hb3 hga hgb hokA hokB hmA hmB
  go_enter Try.func12, Try.ntmps12
  go_wp2_with fail
  rw [HW1.out, HB3_.out, HB2_.out]
  refine (HGA.out w1 HB1.out).mono ?_
  rintro e w2 ⟨rfl, hb⟩
  have HB2 := Lib.hid (HB1.out.trans (hb.mono HB1.out.size))
  clear f0 f1 f2 f3 f4 f5 f6 g0 g1 g2 g3 g4 g5 g6
  have hKA2 := blk_below KA1.out hb
  have f0 : w2.cell? ⟨b2, 0, none⟩ = some (.int .i64 x0) := (blk_cell hKA2 0).trans rfl
  have f1 : w2.cell? ⟨b2, 1, none⟩ = some (.string x1) := (blk_cell hKA2 1).trans rfl
  have f2 : w2.cell? ⟨b2, 2, none⟩ = some (.int .u64 x2) := (blk_cell hKA2 2).trans rfl
  have f3 : w2.cell? ⟨b2, 3, none⟩ = some (.slice A x3.length c) := (blk_cell hKA2 3).trans rfl
  have f4 : w2.cell? ⟨b2, 4, none⟩ = some (.int .u64 x4) := (blk_cell hKA2 4).trans rfl
  have f5 : w2.cell? ⟨b2, 5, none⟩ = some (.int .u64 x5) := (blk_cell hKA2 5).trans rfl
  have f6 : w2.cell? ⟨b2, 6, none⟩ = some (.string x6) := (blk_cell hKA2 6).trans rfl
  have KA2 := Lib.hid hKA2
  clear hKA2
  have hKB2 := blk_below KB1.out hb
  have g0 : w2.cell? ⟨b3, 0, none⟩ = some (.int .i64 y0) := (blk_cell hKB2 0).trans rfl
  have g1 : w2.cell? ⟨b3, 1, none⟩ = some (.string y1) := (blk_cell hKB2 1).trans rfl
  have g2 : w2.cell? ⟨b3, 2, none⟩ = some (.int .u64 y2) := (blk_cell hKB2 2).trans rfl
  have g3 : w2.cell? ⟨b3, 3, none⟩ = some (.slice B y3.length d) := (blk_cell hKB2 3).trans rfl
  have g4 : w2.cell? ⟨b3, 4, none⟩ = some (.int .u64 y4) := (blk_cell hKB2 4).trans rfl
  have g5 : w2.cell? ⟨b3, 5, none⟩ = some (.int .u64 y5) := (blk_cell hKB2 5).trans rfl
  have g6 : w2.cell? ⟨b3, 6, none⟩ = some (.string y6) := (blk_cell hKB2 6).trans rfl
  have KB2 := Lib.hid hKB2
  clear hKB2
  clear hb
  go_wp2_with fail
  refine (HGB.out w2 HB2.out).mono ?_
  rintro e w3 ⟨rfl, hb⟩
  have HB3 := Lib.hid (HB2.out.trans (hb.mono HB2.out.size))
  clear f0 f1 f2 f3 f4 f5 f6 g0 g1 g2 g3 g4 g5 g6
  have hKA3 := blk_below KA2.out hb
  have f0 : w3.cell? ⟨b2, 0, none⟩ = some (.int .i64 x0) := (blk_cell hKA3 0).trans rfl
  have f1 : w3.cell? ⟨b2, 1, none⟩ = some (.string x1) := (blk_cell hKA3 1).trans rfl
  have f2 : w3.cell? ⟨b2, 2, none⟩ = some (.int .u64 x2) := (blk_cell hKA3 2).trans rfl
  have f3 : w3.cell? ⟨b2, 3, none⟩ = some (.slice A x3.length c) := (blk_cell hKA3 3).trans rfl
  have f4 : w3.cell? ⟨b2, 4, none⟩ = some (.int .u64 x4) := (blk_cell hKA3 4).trans rfl
  have f5 : w3.cell? ⟨b2, 5, none⟩ = some (.int .u64 x5) := (blk_cell hKA3 5).trans rfl
  have f6 : w3.cell? ⟨b2, 6, none⟩ = some (.string x6) := (blk_cell hKA3 6).trans rfl
  have KA3 := Lib.hid hKA3
  clear hKA3
  have hKB3 := blk_below KB2.out hb
  have g0 : w3.cell? ⟨b3, 0, none⟩ = some (.int .i64 y0) := (blk_cell hKB3 0).trans rfl
  have g1 : w3.cell? ⟨b3, 1, none⟩ = some (.string y1) := (blk_cell hKB3 1).trans rfl
  have g2 : w3.cell? ⟨b3, 2, none⟩ = some (.int .u64 y2) := (blk_cell hKB3 2).trans rfl
  have g3 : w3.cell? ⟨b3, 3, none⟩ = some (.slice B y3.length d) := (blk_cell hKB3 3).trans rfl
  have g4 : w3.cell? ⟨b3, 4, none⟩ = some (.int .u64 y4) := (blk_cell hKB3 4).trans rfl
  have g5 : w3.cell? ⟨b3, 5, none⟩ = some (.int .u64 y5) := (blk_cell hKB3 5).trans rfl
  have g6 : w3.cell? ⟨b3, 6, none⟩ = some (.string y6) := (blk_cell hKB3 6).trans rfl
  have KB3 := Lib.hid hKB3
  clear hKB3
  clear hb
  go_wp2_with fail
  refine (HMA.out w3 HB3.out).mono ?_
  rintro e w4 ⟨rfl, hb⟩
  have HB4 := Lib.hid (HB3.out.trans (hb.mono HB3.out.size))
  clear f0 f1 f2 f3 f4 f5 f6 g0 g1 g2 g3 g4 g5 g6
  have hKA4 := blk_below KA3.out hb
  have f0 : w4.cell? ⟨b2, 0, none⟩ = some (.int .i64 x0) := (blk_cell hKA4 0).trans rfl
  have f1 : w4.cell? ⟨b2, 1, none⟩ = some (.string x1) := (blk_cell hKA4 1).trans rfl
  have f2 : w4.cell? ⟨b2, 2, none⟩ = some (.int .u64 x2) := (blk_cell hKA4 2).trans rfl
  have f3 : w4.cell? ⟨b2, 3, none⟩ = some (.slice A x3.length c) := (blk_cell hKA4 3).trans rfl
  have f4 : w4.cell? ⟨b2, 4, none⟩ = some (.int .u64 x4) := (blk_cell hKA4 4).trans rfl
  have f5 : w4.cell? ⟨b2, 5, none⟩ = some (.int .u64 x5) := (blk_cell hKA4 5).trans rfl
  have f6 : w4.cell? ⟨b2, 6, none⟩ = some (.string x6) := (blk_cell hKA4 6).trans rfl
  have KA4 := Lib.hid hKA4
  clear hKA4
  have hKB4 := blk_below KB3.out hb
  have g0 : w4.cell? ⟨b3, 0, none⟩ = some (.int .i64 y0) := (blk_cell hKB4 0).trans rfl
  have g1 : w4.cell? ⟨b3, 1, none⟩ = some (.string y1) := (blk_cell hKB4 1).trans rfl
  have g2 : w4.cell? ⟨b3, 2, none⟩ = some (.int .u64 y2) := (blk_cell hKB4 2).trans rfl
  have g3 : w4.cell? ⟨b3, 3, none⟩ = some (.slice B y3.length d) := (blk_cell hKB4 3).trans rfl
  have g4 : w4.cell? ⟨b3, 4, none⟩ = some (.int .u64 y4) := (blk_cell hKB4 4).trans rfl
  have g5 : w4.cell? ⟨b3, 5, none⟩ = some (.int .u64 y5) := (blk_cell hKB4 5).trans rfl
  have g6 : w4.cell? ⟨b3, 6, none⟩ = some (.string y6) := (blk_cell hKB4 6).trans rfl
  have KB4 := Lib.hid hKB4
  clear hKB4
  clear hb
  go_wp2_with fail
  refine (HMB.out w4 HB4.out).mono ?_
  rintro e w5 ⟨rfl, hb⟩
  have HB5 := Lib.hid (HB4.out.trans (hb.mono HB4.out.size))
  clear f0 f1 f2 f3 f4 f5 f6 g0 g1 g2 g3 g4 g5 g6
  have hKA5 := blk_below KA4.out hb
  have f0 : w5.cell? ⟨b2, 0, none⟩ = some (.int .i64 x0) := (blk_cell hKA5 0).trans rfl
  have f1 : w5.cell? ⟨b2, 1, none⟩ = some (.string x1) := (blk_cell hKA5 1).trans rfl
  have f2 : w5.cell? ⟨b2, 2, none⟩ = some (.int .u64 x2) := (blk_cell hKA5 2).trans rfl
  have f3 : w5.cell? ⟨b2, 3, none⟩ = some (.slice A x3.length c) := (blk_cell hKA5 3).trans rfl
  have f4 : w5.cell? ⟨b2, 4, none⟩ = some (.int .u64 x4) := (blk_cell hKA5 4).trans rfl
  have f5 : w5.cell? ⟨b2, 5, none⟩ = some (.int .u64 x5) := (blk_cell hKA5 5).trans rfl
  have f6 : w5.cell? ⟨b2, 6, none⟩ = some (.string x6) := (blk_cell hKA5 6).trans rfl
  have KA5 := Lib.hid hKA5
  clear hKA5
  have hKB5 := blk_below KB4.out hb
  have g0 : w5.cell? ⟨b3, 0, none⟩ = some (.int .i64 y0) := (blk_cell hKB5 0).trans rfl
  have g1 : w5.cell? ⟨b3, 1, none⟩ = some (.string y1) := (blk_cell hKB5 1).trans rfl
  have g2 : w5.cell? ⟨b3, 2, none⟩ = some (.int .u64 y2) := (blk_cell hKB5 2).trans rfl
  have g3 : w5.cell? ⟨b3, 3, none⟩ = some (.slice B y3.length d) := (blk_cell hKB5 3).trans rfl
  have g4 : w5.cell? ⟨b3, 4, none⟩ = some (.int .u64 y4) := (blk_cell hKB5 4).trans rfl
  have g5 : w5.cell? ⟨b3, 5, none⟩ = some (.int .u64 y5) := (blk_cell hKB5 5).trans rfl
  have g6 : w5.cell? ⟨b3, 6, none⟩ = some (.string y6) := (blk_cell hKB5 6).trans rfl
  have KB5 := Lib.hid hKB5
  clear hKB5
  clear hb
  go_wp2_with fail
  refine (fixed11_any _).mono ?_
  rintro e w9 ⟨rfl, hb⟩
  go_wp2_with fail
  go_ret
  exact ⟨rfl, HB5.out.trans (hb.mono HB5.out.size)⟩
theorem may1_old {k0 : Int} {t : ByteArray} {rule : Int} {l : List S76} {out when : Int} {tag : ByteArray} (h : mayB 1 k0 t rule l out when tag = true) : when = 0 ∧ tag = ⟨#[]⟩ := by
  have h2 : when = 0 ∧ tag.size = 0 := by
    unfold mayB at h
    by_cases c : k0 = 1
    · rw [if_pos c] at h; simp at h; exact ⟨by simp_all, by simp_all⟩
    · rw [if_neg c] at h; simp at h; simp_all
  exact ⟨h2.1, tl_eq.1 ((tl_nil.2 h2.2).trans (tl_nil.2 rfl).symm)⟩
set_option maxHeartbeats 4000000 in
set_option maxRecDepth 100000 in
theorem one_all (A B : Option Addr) (c d : Nat) (x0 : Int) (x1 : ByteArray) (x2 : Int) (x3 : List S76) (x4 x5 : Int) (x6 : ByteArray) (y0 : Int) (y1 : ByteArray) (y2 : Int) (y3 : List S76) (y4 y5 : Int) (y6 : ByteArray) (w : World) (hrA : Kd.C k76 w A x3.length x3) (hcA : x3.length ≤ c) (hrB : Kd.C k76 w B y3.length y3) (hcB : y3.length ≤ d)
    (hga : ∃ k, tephralaw08_Great.f k x0 x1 x2 x3 x4 x5 x6 = some false) (hgb : ∃ k, tephralaw08_Great.f k y0 y1 y2 y3 y4 y5 y6 = some false) (hokA : RecOk x1 x3 x6) (hokB : RecOk y1 y3 y6) (hmA : mayB 1 x0 x1 x2 x3 x4 x5 x6 = true) (hmB : mayB 1 y0 y1 y2 y3 y4 y5 y6 = true) :
    Calls Try.prog 12 #[.agg #[.int .i64 x0, .string x1, .int .u64 x2, .slice A x3.length c, .int .u64 x4, .int .u64 x5, .string x6], .agg #[.int .i64 y0, .string y1, .int .u64 y2, .slice B y3.length d, .int .u64 y4, .int .u64 y5, .string y6]] w fun e w' => e = .returned (.bool true) ∧ Below w.heap.size w w' := by
  obtain ⟨w1, hw1⟩ : ∃ w1, (w.alloc (.cells #[.int .i64 x0, .string x1, .int .u64 x2, .slice A x3.length c, .int .u64 x4, .int .u64 x5, .string x6] 70)).alloc (.cells #[.int .i64 y0, .string y1, .int .u64 y2, .slice B y3.length d, .int .u64 y4, .int .u64 y5, .string y6] 70) = w1 := ⟨_, rfl⟩
  have hb1 : Below w.heap.size w w1 := by rw [← hw1]; exact ((Below.refl _ _).alloc (Nat.le_refl _) _).alloc (by rw [heap_size_alloc]; omega) _
  have hk2 : w1.heap[w.heap.size]? = some (.cells #[.int .i64 x0, .string x1, .int .u64 x2, .slice A x3.length c, .int .u64 x4, .int .u64 x5, .string x6] 70 (0, 0)) := by
    rw [← hw1, heap_new_old _ _ _ (by rw [heap_size_alloc]; omega)]; exact heap_new _ _
  have hk3 : w1.heap[w.heap.size + 1]? = some (.cells #[.int .i64 y0, .string y1, .int .u64 y2, .slice B y3.length d, .int .u64 y4, .int .u64 y5, .string y6] 70 (0, 0)) := by
    rw [← hw1]; have := heap_new (w.alloc (.cells #[.int .i64 x0, .string x1, .int .u64 x2, .slice A x3.length c, .int .u64 x4, .int .u64 x5, .string x6] 70)) (.cells #[.int .i64 y0, .string y1, .int .u64 y2, .slice B y3.length d, .int .u64 y4, .int .u64 y5, .string y6] 70); rwa [heap_size_alloc] at this
  obtain ⟨b2, hb2⟩ : ∃ b, w.heap.size = b := ⟨_, rfl⟩
  obtain ⟨b3, hb3⟩ : ∃ b, w.heap.size + 1 = b := ⟨_, rfl⟩
  rw [hb2] at hk2
  rw [hb3] at hk3
  have f0 : w1.cell? ⟨b2, 0, none⟩ = some (.int .i64 x0) := (blk_cell hk2 0).trans rfl
  have f1 : w1.cell? ⟨b2, 1, none⟩ = some (.string x1) := (blk_cell hk2 1).trans rfl
  have f2 : w1.cell? ⟨b2, 2, none⟩ = some (.int .u64 x2) := (blk_cell hk2 2).trans rfl
  have f3 : w1.cell? ⟨b2, 3, none⟩ = some (.slice A x3.length c) := (blk_cell hk2 3).trans rfl
  have f4 : w1.cell? ⟨b2, 4, none⟩ = some (.int .u64 x4) := (blk_cell hk2 4).trans rfl
  have f5 : w1.cell? ⟨b2, 5, none⟩ = some (.int .u64 x5) := (blk_cell hk2 5).trans rfl
  have f6 : w1.cell? ⟨b2, 6, none⟩ = some (.string x6) := (blk_cell hk2 6).trans rfl
  have g0 : w1.cell? ⟨b3, 0, none⟩ = some (.int .i64 y0) := (blk_cell hk3 0).trans rfl
  have g1 : w1.cell? ⟨b3, 1, none⟩ = some (.string y1) := (blk_cell hk3 1).trans rfl
  have g2 : w1.cell? ⟨b3, 2, none⟩ = some (.int .u64 y2) := (blk_cell hk3 2).trans rfl
  have g3 : w1.cell? ⟨b3, 3, none⟩ = some (.slice B y3.length d) := (blk_cell hk3 3).trans rfl
  have g4 : w1.cell? ⟨b3, 4, none⟩ = some (.int .u64 y4) := (blk_cell hk3 4).trans rfl
  have g5 : w1.cell? ⟨b3, 5, none⟩ = some (.int .u64 y5) := (blk_cell hk3 5).trans rfl
  have g6 : w1.cell? ⟨b3, 6, none⟩ = some (.string y6) := (blk_cell hk3 6).trans rfl
  have KA1 := Lib.hid hk2
  have KB1 := Lib.hid hk3
  have HB1 := Lib.hid hb1
  have HW1 := Lib.hid hw1
  have HB2_ := Lib.hid hb2
  have HB3_ := Lib.hid hb3
  have HGA := Lib.hid (fun (W : World) (h : Below w.heap.size w W) => great_at x0 x1 x2 A c x3 x4 x5 x6 W false (Kd.C_below hrA h) hcA hga)
  have HGB := Lib.hid (fun (W : World) (h : Below w.heap.size w W) => great_at y0 y1 y2 B d y3 y4 y5 y6 W false (Kd.C_below hrB h) hcB hgb)
  have HMA := Lib.hid (fun (W : World) (h : Below w.heap.size w W) => (refMay_any 1 x0 x1 x2 A c x3 x4 x5 x6 W (Kd.C_below hrA h) hcA hokA))
  have HMB := Lib.hid (fun (W : World) (h : Below w.heap.size w W) => (refMay_any 1 y0 y1 y2 B d y3 y4 y5 y6 W (Kd.C_below hrB h) hcB hokB))
  have HTA := Lib.hid (fun (W : World) (h : Below w.heap.size w W) => mto_ok 1 3 x0 x1 x2 A c x3 x4 x5 x6 W (Kd.C_below hrA h) hcA hokA (by omega) hmA)
  have HTB := Lib.hid (fun (W : World) (h : Below w.heap.size w W) => mto_ok 1 3 y0 y1 y2 B d y3 y4 y5 y6 W (Kd.C_below hrB h) hcB hokB (by omega) hmB)
  have HRA := Lib.hid (fun (W : World) (h : Below w.heap.size w W) => Kd.C_below hrA h)
  have HRB := Lib.hid (fun (W : World) (h : Below w.heap.size w W) => Kd.C_below hrB h)
  have hnA := hokA.n
  obtain ⟨hA5, hA6⟩ := may1_old hmA
  obtain ⟨hB5, hB6⟩ := may1_old hmB
  obtain ⟨s1, hs1, hs1b⟩ := rsame_is x0 y0 x1 y1 x2 y2 x3 y3 x4 y4 x5 y5 x6 y6 (by omega) 2000 (by omega)
  obtain ⟨s2, hs2, hs2b⟩ := rsame_is x0 y0 x1 y1 x2 y2 x3 y3 x4 y4 (toW x0 1 3 x5) (toW y0 1 3 y5) (toT x0 1 3 x6) (toT y0 1 3 y6) (by omega) 2000 (by omega)
  have hs : s2 = s1 := by
    rw [Bool.eq_iff_iff, hs1b, hs2b, hA5, hA6, hB5, hB6]
    constructor
    · rintro ⟨rfl, rfl, rfl, rfl, rfl, _, _⟩; simp
    · rintro ⟨rfl, rfl, rfl, rfl, rfl, _, _⟩; simp
  subst hs
  rw [hmA] at HMA
  rw [hmB] at HMB
  have HS1 := Lib.hid (fun (W : World) (h1 : Kd.C k76 W A x3.length x3) (h2 : Kd.C k76 W B y3.length y3) => tephraref08_Same.calls 2000 x0 x1 x2 A c x3 x4 x5 x6 y0 y1 y2 B d y3 y4 y5 y6 s2 W h1 hcA h2 hcB hs1)
  have HS2 := Lib.hid (fun (W : World) (A3 B3 : Option Addr) (c3 d3 : Nat) (h1 : Kd.C k76 W A3 x3.length x3) (h2 : Kd.C k76 W B3 y3.length y3) (hc3 : x3.length ≤ c3) (hd3 : y3.length ≤ d3) => tephraref08_Same.calls 2000 x0 x1 x2 A3 c3 x3 x4 (toW x0 1 3 x5) (toT x0 1 3 x6) y0 y1 y2 B3 d3 y3 y4 (toW y0 1 3 y5) (toT y0 1 3 y6) s2 W h1 hc3 h2 hd3 hs2)
  generalize toW x0 1 3 x5 = W1 at *
  generalize toT x0 1 3 x6 = T1 at *
  generalize toW y0 1 3 y5 = W2 at *
  generalize toT y0 1 3 y6 = T2 at *
  clear hrA hrB hb1 hw1 hk2 hk3 hb2 hb3 hga hgb hokA hokB hmA hmB hnA hA5 hA6 hB5 hB6 hs1 hs1b hs2 hs2b
  go_enter Try.func12, Try.ntmps12
  go_wp2_with fail
  rw [HW1.out, HB3_.out, HB2_.out]
  refine (HGA.out w1 HB1.out).mono ?_
  rintro e w2 ⟨rfl, hb⟩
  have HB2 := Lib.hid (HB1.out.trans (hb.mono HB1.out.size))
  clear f0 f1 f2 f3 f4 f5 f6 g0 g1 g2 g3 g4 g5 g6
  have hKA2 := blk_below KA1.out hb
  have f0 : w2.cell? ⟨b2, 0, none⟩ = some (.int .i64 x0) := (blk_cell hKA2 0).trans rfl
  have f1 : w2.cell? ⟨b2, 1, none⟩ = some (.string x1) := (blk_cell hKA2 1).trans rfl
  have f2 : w2.cell? ⟨b2, 2, none⟩ = some (.int .u64 x2) := (blk_cell hKA2 2).trans rfl
  have f3 : w2.cell? ⟨b2, 3, none⟩ = some (.slice A x3.length c) := (blk_cell hKA2 3).trans rfl
  have f4 : w2.cell? ⟨b2, 4, none⟩ = some (.int .u64 x4) := (blk_cell hKA2 4).trans rfl
  have f5 : w2.cell? ⟨b2, 5, none⟩ = some (.int .u64 x5) := (blk_cell hKA2 5).trans rfl
  have f6 : w2.cell? ⟨b2, 6, none⟩ = some (.string x6) := (blk_cell hKA2 6).trans rfl
  have KA2 := Lib.hid hKA2
  clear hKA2
  have hKB2 := blk_below KB1.out hb
  have g0 : w2.cell? ⟨b3, 0, none⟩ = some (.int .i64 y0) := (blk_cell hKB2 0).trans rfl
  have g1 : w2.cell? ⟨b3, 1, none⟩ = some (.string y1) := (blk_cell hKB2 1).trans rfl
  have g2 : w2.cell? ⟨b3, 2, none⟩ = some (.int .u64 y2) := (blk_cell hKB2 2).trans rfl
  have g3 : w2.cell? ⟨b3, 3, none⟩ = some (.slice B y3.length d) := (blk_cell hKB2 3).trans rfl
  have g4 : w2.cell? ⟨b3, 4, none⟩ = some (.int .u64 y4) := (blk_cell hKB2 4).trans rfl
  have g5 : w2.cell? ⟨b3, 5, none⟩ = some (.int .u64 y5) := (blk_cell hKB2 5).trans rfl
  have g6 : w2.cell? ⟨b3, 6, none⟩ = some (.string y6) := (blk_cell hKB2 6).trans rfl
  have KB2 := Lib.hid hKB2
  clear hKB2
  clear hb
  go_wp2_with fail
  refine (HGB.out w2 HB2.out).mono ?_
  rintro e w3 ⟨rfl, hb⟩
  have HB3 := Lib.hid (HB2.out.trans (hb.mono HB2.out.size))
  clear f0 f1 f2 f3 f4 f5 f6 g0 g1 g2 g3 g4 g5 g6
  have hKA3 := blk_below KA2.out hb
  have f0 : w3.cell? ⟨b2, 0, none⟩ = some (.int .i64 x0) := (blk_cell hKA3 0).trans rfl
  have f1 : w3.cell? ⟨b2, 1, none⟩ = some (.string x1) := (blk_cell hKA3 1).trans rfl
  have f2 : w3.cell? ⟨b2, 2, none⟩ = some (.int .u64 x2) := (blk_cell hKA3 2).trans rfl
  have f3 : w3.cell? ⟨b2, 3, none⟩ = some (.slice A x3.length c) := (blk_cell hKA3 3).trans rfl
  have f4 : w3.cell? ⟨b2, 4, none⟩ = some (.int .u64 x4) := (blk_cell hKA3 4).trans rfl
  have f5 : w3.cell? ⟨b2, 5, none⟩ = some (.int .u64 x5) := (blk_cell hKA3 5).trans rfl
  have f6 : w3.cell? ⟨b2, 6, none⟩ = some (.string x6) := (blk_cell hKA3 6).trans rfl
  have KA3 := Lib.hid hKA3
  clear hKA3
  have hKB3 := blk_below KB2.out hb
  have g0 : w3.cell? ⟨b3, 0, none⟩ = some (.int .i64 y0) := (blk_cell hKB3 0).trans rfl
  have g1 : w3.cell? ⟨b3, 1, none⟩ = some (.string y1) := (blk_cell hKB3 1).trans rfl
  have g2 : w3.cell? ⟨b3, 2, none⟩ = some (.int .u64 y2) := (blk_cell hKB3 2).trans rfl
  have g3 : w3.cell? ⟨b3, 3, none⟩ = some (.slice B y3.length d) := (blk_cell hKB3 3).trans rfl
  have g4 : w3.cell? ⟨b3, 4, none⟩ = some (.int .u64 y4) := (blk_cell hKB3 4).trans rfl
  have g5 : w3.cell? ⟨b3, 5, none⟩ = some (.int .u64 y5) := (blk_cell hKB3 5).trans rfl
  have g6 : w3.cell? ⟨b3, 6, none⟩ = some (.string y6) := (blk_cell hKB3 6).trans rfl
  have KB3 := Lib.hid hKB3
  clear hKB3
  clear hb
  go_wp2_with fail
  refine (HMA.out w3 HB3.out).mono ?_
  rintro e w4 ⟨rfl, hb⟩
  have HB4 := Lib.hid (HB3.out.trans (hb.mono HB3.out.size))
  clear f0 f1 f2 f3 f4 f5 f6 g0 g1 g2 g3 g4 g5 g6
  have hKA4 := blk_below KA3.out hb
  have f0 : w4.cell? ⟨b2, 0, none⟩ = some (.int .i64 x0) := (blk_cell hKA4 0).trans rfl
  have f1 : w4.cell? ⟨b2, 1, none⟩ = some (.string x1) := (blk_cell hKA4 1).trans rfl
  have f2 : w4.cell? ⟨b2, 2, none⟩ = some (.int .u64 x2) := (blk_cell hKA4 2).trans rfl
  have f3 : w4.cell? ⟨b2, 3, none⟩ = some (.slice A x3.length c) := (blk_cell hKA4 3).trans rfl
  have f4 : w4.cell? ⟨b2, 4, none⟩ = some (.int .u64 x4) := (blk_cell hKA4 4).trans rfl
  have f5 : w4.cell? ⟨b2, 5, none⟩ = some (.int .u64 x5) := (blk_cell hKA4 5).trans rfl
  have f6 : w4.cell? ⟨b2, 6, none⟩ = some (.string x6) := (blk_cell hKA4 6).trans rfl
  have KA4 := Lib.hid hKA4
  clear hKA4
  have hKB4 := blk_below KB3.out hb
  have g0 : w4.cell? ⟨b3, 0, none⟩ = some (.int .i64 y0) := (blk_cell hKB4 0).trans rfl
  have g1 : w4.cell? ⟨b3, 1, none⟩ = some (.string y1) := (blk_cell hKB4 1).trans rfl
  have g2 : w4.cell? ⟨b3, 2, none⟩ = some (.int .u64 y2) := (blk_cell hKB4 2).trans rfl
  have g3 : w4.cell? ⟨b3, 3, none⟩ = some (.slice B y3.length d) := (blk_cell hKB4 3).trans rfl
  have g4 : w4.cell? ⟨b3, 4, none⟩ = some (.int .u64 y4) := (blk_cell hKB4 4).trans rfl
  have g5 : w4.cell? ⟨b3, 5, none⟩ = some (.int .u64 y5) := (blk_cell hKB4 5).trans rfl
  have g6 : w4.cell? ⟨b3, 6, none⟩ = some (.string y6) := (blk_cell hKB4 6).trans rfl
  have KB4 := Lib.hid hKB4
  clear hKB4
  clear hb
  go_wp2_with fail
  refine (HMB.out w4 HB4.out).mono ?_
  rintro e w5 ⟨rfl, hb⟩
  have HB5 := Lib.hid (HB4.out.trans (hb.mono HB4.out.size))
  clear f0 f1 f2 f3 f4 f5 f6 g0 g1 g2 g3 g4 g5 g6
  have hKA5 := blk_below KA4.out hb
  have f0 : w5.cell? ⟨b2, 0, none⟩ = some (.int .i64 x0) := (blk_cell hKA5 0).trans rfl
  have f1 : w5.cell? ⟨b2, 1, none⟩ = some (.string x1) := (blk_cell hKA5 1).trans rfl
  have f2 : w5.cell? ⟨b2, 2, none⟩ = some (.int .u64 x2) := (blk_cell hKA5 2).trans rfl
  have f3 : w5.cell? ⟨b2, 3, none⟩ = some (.slice A x3.length c) := (blk_cell hKA5 3).trans rfl
  have f4 : w5.cell? ⟨b2, 4, none⟩ = some (.int .u64 x4) := (blk_cell hKA5 4).trans rfl
  have f5 : w5.cell? ⟨b2, 5, none⟩ = some (.int .u64 x5) := (blk_cell hKA5 5).trans rfl
  have f6 : w5.cell? ⟨b2, 6, none⟩ = some (.string x6) := (blk_cell hKA5 6).trans rfl
  have KA5 := Lib.hid hKA5
  clear hKA5
  have hKB5 := blk_below KB4.out hb
  have g0 : w5.cell? ⟨b3, 0, none⟩ = some (.int .i64 y0) := (blk_cell hKB5 0).trans rfl
  have g1 : w5.cell? ⟨b3, 1, none⟩ = some (.string y1) := (blk_cell hKB5 1).trans rfl
  have g2 : w5.cell? ⟨b3, 2, none⟩ = some (.int .u64 y2) := (blk_cell hKB5 2).trans rfl
  have g3 : w5.cell? ⟨b3, 3, none⟩ = some (.slice B y3.length d) := (blk_cell hKB5 3).trans rfl
  have g4 : w5.cell? ⟨b3, 4, none⟩ = some (.int .u64 y4) := (blk_cell hKB5 4).trans rfl
  have g5 : w5.cell? ⟨b3, 5, none⟩ = some (.int .u64 y5) := (blk_cell hKB5 5).trans rfl
  have g6 : w5.cell? ⟨b3, 6, none⟩ = some (.string y6) := (blk_cell hKB5 6).trans rfl
  have KB5 := Lib.hid hKB5
  clear hKB5
  clear hb
  go_wp2_with fail
  refine (HTA.out w5 HB5.out).mono ?_
  rintro e w6 ⟨A3, c3, rfl, hR, hb⟩
  have HB6 := Lib.hid (HB5.out.trans (hb.mono HB5.out.size))
  clear f0 f1 f2 f3 f4 f5 f6 g0 g1 g2 g3 g4 g5 g6
  have hKA6 := blk_below KA5.out hb
  have f0 : w6.cell? ⟨b2, 0, none⟩ = some (.int .i64 x0) := (blk_cell hKA6 0).trans rfl
  have f1 : w6.cell? ⟨b2, 1, none⟩ = some (.string x1) := (blk_cell hKA6 1).trans rfl
  have f2 : w6.cell? ⟨b2, 2, none⟩ = some (.int .u64 x2) := (blk_cell hKA6 2).trans rfl
  have f3 : w6.cell? ⟨b2, 3, none⟩ = some (.slice A x3.length c) := (blk_cell hKA6 3).trans rfl
  have f4 : w6.cell? ⟨b2, 4, none⟩ = some (.int .u64 x4) := (blk_cell hKA6 4).trans rfl
  have f5 : w6.cell? ⟨b2, 5, none⟩ = some (.int .u64 x5) := (blk_cell hKA6 5).trans rfl
  have f6 : w6.cell? ⟨b2, 6, none⟩ = some (.string x6) := (blk_cell hKA6 6).trans rfl
  have KA6 := Lib.hid hKA6
  clear hKA6
  have hKB6 := blk_below KB5.out hb
  have g0 : w6.cell? ⟨b3, 0, none⟩ = some (.int .i64 y0) := (blk_cell hKB6 0).trans rfl
  have g1 : w6.cell? ⟨b3, 1, none⟩ = some (.string y1) := (blk_cell hKB6 1).trans rfl
  have g2 : w6.cell? ⟨b3, 2, none⟩ = some (.int .u64 y2) := (blk_cell hKB6 2).trans rfl
  have g3 : w6.cell? ⟨b3, 3, none⟩ = some (.slice B y3.length d) := (blk_cell hKB6 3).trans rfl
  have g4 : w6.cell? ⟨b3, 4, none⟩ = some (.int .u64 y4) := (blk_cell hKB6 4).trans rfl
  have g5 : w6.cell? ⟨b3, 5, none⟩ = some (.int .u64 y5) := (blk_cell hKB6 5).trans rfl
  have g6 : w6.cell? ⟨b3, 6, none⟩ = some (.string y6) := (blk_cell hKB6 6).trans rfl
  have KB6 := Lib.hid hKB6
  clear hKB6
  clear hb
  obtain ⟨_, hc3, hC3⟩ := Kd.R_reads' hR
  have HC3 := Lib.hid (And.intro hC3 hc3)
  clear hR hC3 hc3 f0 f1 f2 f3 f4 f5 f6 g0 g1 g2 g3 g4 g5 g6
  have hka : (w6.alloc (.cells #[.int .i64 x0, .string x1, .int .u64 x2, .slice A3 x3.length c3, .int .u64 x4, .int .u64 W1, .string T1] 70)).heap[b2]? = _ := (heap_new_old _ _ _ (blk_lt KA6.out)).trans KA6.out
  have hkb : (w6.alloc (.cells #[.int .i64 x0, .string x1, .int .u64 x2, .slice A3 x3.length c3, .int .u64 x4, .int .u64 W1, .string T1] 70)).heap[b3]? = _ := (heap_new_old _ _ _ (blk_lt KB6.out)).trans KB6.out
  have f0 : (w6.alloc (.cells #[.int .i64 x0, .string x1, .int .u64 x2, .slice A3 x3.length c3, .int .u64 x4, .int .u64 W1, .string T1] 70)).cell? ⟨b2, 0, none⟩ = some (.int .i64 x0) := (blk_cell hka 0).trans rfl
  have f1 : (w6.alloc (.cells #[.int .i64 x0, .string x1, .int .u64 x2, .slice A3 x3.length c3, .int .u64 x4, .int .u64 W1, .string T1] 70)).cell? ⟨b2, 1, none⟩ = some (.string x1) := (blk_cell hka 1).trans rfl
  have f2 : (w6.alloc (.cells #[.int .i64 x0, .string x1, .int .u64 x2, .slice A3 x3.length c3, .int .u64 x4, .int .u64 W1, .string T1] 70)).cell? ⟨b2, 2, none⟩ = some (.int .u64 x2) := (blk_cell hka 2).trans rfl
  have f3 : (w6.alloc (.cells #[.int .i64 x0, .string x1, .int .u64 x2, .slice A3 x3.length c3, .int .u64 x4, .int .u64 W1, .string T1] 70)).cell? ⟨b2, 3, none⟩ = some (.slice A x3.length c) := (blk_cell hka 3).trans rfl
  have f4 : (w6.alloc (.cells #[.int .i64 x0, .string x1, .int .u64 x2, .slice A3 x3.length c3, .int .u64 x4, .int .u64 W1, .string T1] 70)).cell? ⟨b2, 4, none⟩ = some (.int .u64 x4) := (blk_cell hka 4).trans rfl
  have f5 : (w6.alloc (.cells #[.int .i64 x0, .string x1, .int .u64 x2, .slice A3 x3.length c3, .int .u64 x4, .int .u64 W1, .string T1] 70)).cell? ⟨b2, 5, none⟩ = some (.int .u64 x5) := (blk_cell hka 5).trans rfl
  have f6 : (w6.alloc (.cells #[.int .i64 x0, .string x1, .int .u64 x2, .slice A3 x3.length c3, .int .u64 x4, .int .u64 W1, .string T1] 70)).cell? ⟨b2, 6, none⟩ = some (.string x6) := (blk_cell hka 6).trans rfl
  have g0 : (w6.alloc (.cells #[.int .i64 x0, .string x1, .int .u64 x2, .slice A3 x3.length c3, .int .u64 x4, .int .u64 W1, .string T1] 70)).cell? ⟨b3, 0, none⟩ = some (.int .i64 y0) := (blk_cell hkb 0).trans rfl
  have g1 : (w6.alloc (.cells #[.int .i64 x0, .string x1, .int .u64 x2, .slice A3 x3.length c3, .int .u64 x4, .int .u64 W1, .string T1] 70)).cell? ⟨b3, 1, none⟩ = some (.string y1) := (blk_cell hkb 1).trans rfl
  have g2 : (w6.alloc (.cells #[.int .i64 x0, .string x1, .int .u64 x2, .slice A3 x3.length c3, .int .u64 x4, .int .u64 W1, .string T1] 70)).cell? ⟨b3, 2, none⟩ = some (.int .u64 y2) := (blk_cell hkb 2).trans rfl
  have g3 : (w6.alloc (.cells #[.int .i64 x0, .string x1, .int .u64 x2, .slice A3 x3.length c3, .int .u64 x4, .int .u64 W1, .string T1] 70)).cell? ⟨b3, 3, none⟩ = some (.slice B y3.length d) := (blk_cell hkb 3).trans rfl
  have g4 : (w6.alloc (.cells #[.int .i64 x0, .string x1, .int .u64 x2, .slice A3 x3.length c3, .int .u64 x4, .int .u64 W1, .string T1] 70)).cell? ⟨b3, 4, none⟩ = some (.int .u64 y4) := (blk_cell hkb 4).trans rfl
  have g5 : (w6.alloc (.cells #[.int .i64 x0, .string x1, .int .u64 x2, .slice A3 x3.length c3, .int .u64 x4, .int .u64 W1, .string T1] 70)).cell? ⟨b3, 5, none⟩ = some (.int .u64 y5) := (blk_cell hkb 5).trans rfl
  have g6 : (w6.alloc (.cells #[.int .i64 x0, .string x1, .int .u64 x2, .slice A3 x3.length c3, .int .u64 x4, .int .u64 W1, .string T1] 70)).cell? ⟨b3, 6, none⟩ = some (.string y6) := (blk_cell hkb 6).trans rfl
  clear hka hkb
  go_wp2_with fail
  clear f0 f1 f2 f3 f4 f5 f6 g0 g1 g2 g3 g4 g5 g6
  obtain ⟨w7, hw7⟩ : ∃ w7, w6.alloc (.cells #[.int .i64 x0, .string x1, .int .u64 x2, .slice A3 x3.length c3, .int .u64 x4, .int .u64 W1, .string T1] 70) = w7 := ⟨_, rfl⟩
  have hbN : Below w6.heap.size w6 w7 := by rw [← hw7]; exact (Below.refl _ _).alloc (Nat.le_refl _) _
  have hk5 : w7.heap[w6.heap.size]? = some (.cells #[.int .i64 x0, .string x1, .int .u64 x2, .slice A3 x3.length c3, .int .u64 x4, .int .u64 W1, .string T1] 70 (0, 0)) := by rw [← hw7]; exact heap_new _ _
  rw [hw7]
  obtain ⟨b5, hb5⟩ : ∃ b, w6.heap.size = b := ⟨_, rfl⟩
  have HB7 := Lib.hid (HB6.out.trans (hbN.mono HB6.out.size))
  have KC7 := Lib.hid (hb5 ▸ hk5 : w7.heap[b5]? = some (.cells #[.int .i64 x0, .string x1, .int .u64 x2, .slice A3 x3.length c3, .int .u64 x4, .int .u64 W1, .string T1] 70 (0, 0)))
  have KA7 := Lib.hid (blk_below KA6.out hbN)
  have KB7 := Lib.hid (blk_below KB6.out hbN)
  have HC4 := Lib.hid (Kd.C_below HC3.out.1 hbN)
  rw [hb5]
  clear hbN hk5 hw7 hb5
  refine (HTB.out w7 HB7.out).mono ?_
  rintro e w8 ⟨B3, d3, rfl, hR, hb⟩
  obtain ⟨_, hd3, hD3⟩ := Kd.R_reads' hR
  have HD3 := Lib.hid (And.intro hD3 hd3)
  have HB8 := Lib.hid (HB7.out.trans (hb.mono HB7.out.size))
  have KA8 := Lib.hid (blk_below KA7.out hb)
  have KB8 := Lib.hid (blk_below KB7.out hb)
  have KC8 := Lib.hid (blk_below KC7.out hb)
  have HC5 := Lib.hid (Kd.C_below HC4.out hb)
  clear hR hD3 hd3 hb
  go_wp2_with fail
  obtain ⟨w9, hw9⟩ : ∃ w9, w8.alloc (.cells #[.int .i64 y0, .string y1, .int .u64 y2, .slice B3 y3.length d3, .int .u64 y4, .int .u64 W2, .string T2] 70) = w9 := ⟨_, rfl⟩
  have hbN : Below w8.heap.size w8 w9 := by rw [← hw9]; exact (Below.refl _ _).alloc (Nat.le_refl _) _
  have hk7 : w9.heap[w8.heap.size]? = some (.cells #[.int .i64 y0, .string y1, .int .u64 y2, .slice B3 y3.length d3, .int .u64 y4, .int .u64 W2, .string T2] 70 (0, 0)) := by rw [← hw9]; exact heap_new _ _
  rw [hw9]
  obtain ⟨b7, hb7⟩ : ∃ b, w8.heap.size = b := ⟨_, rfl⟩
  have HB9 := Lib.hid (HB8.out.trans (hbN.mono HB8.out.size))
  have KD9 := Lib.hid (hb7 ▸ hk7 : w9.heap[b7]? = some (.cells #[.int .i64 y0, .string y1, .int .u64 y2, .slice B3 y3.length d3, .int .u64 y4, .int .u64 W2, .string T2] 70 (0, 0)))
  have KA9 := Lib.hid (blk_below KA8.out hbN)
  have KB9 := Lib.hid (blk_below KB8.out hbN)
  have KC9 := Lib.hid (blk_below KC8.out hbN)
  have HC9 := Lib.hid (And.intro (Kd.C_below HC5.out hbN) HC3.out.2)
  have HD9 := Lib.hid (And.intro (Kd.C_below HD3.out.1 hbN) HD3.out.2)
  rw [hb7]
  clear hbN hk7 hw9 hb7
  refine region_calm (n := 19) (byList [isV (.bool true), isV (.bool true), isV (.int .i64 0), isV (.bool true), isV (.bool true), isV (.bool true), isV (.int .i64 0), isV (.bool true), isV (.bool true), isV (.bool true), isV (.agg #[.int .i64 x0, .string x1, .int .u64 x2, .slice A3 x3.length c3, .int .u64 x4, .int .u64 W1, .string T1]), isV (.agg #[.int .i64 y0, .string y1, .int .u64 y2, .slice B3 y3.length d3, .int .u64 y4, .int .u64 W2, .string T2]), isV (.bool s2), isV (.agg #[.int .i64 x0, .string x1, .int .u64 x2, .slice A x3.length c, .int .u64 x4, .int .u64 x5, .string x6]), isV (.agg #[.int .i64 y0, .string y1, .int .u64 y2, .slice B y3.length d, .int .u64 y4, .int .u64 y5, .string y6]), isV (.bool s2), isV (.bool true), isV (.bool true), isV (.bool true)]) (by kernel_rfl) rfl (byList_lasts ?_) (by kernel_rfl) (by kernel_rfl) (by kernel_rfl) (show AllLt 19 _ from ?_) ?_
  · intro p hp
    simp only [List.mem_cons, List.not_mem_nil, or_false] at hp
    rcases hp with rfl | rfl | rfl | rfl | rfl | rfl | rfl | rfl | rfl | rfl | rfl | rfl | rfl | rfl | rfl | rfl | rfl | rfl | rfl <;> first | exact isV_lasts | exact isC_lasts
  · refine allLt_succ (allLt_succ (allLt_succ (allLt_succ (allLt_succ (allLt_succ (allLt_succ (allLt_succ (allLt_succ (allLt_succ (allLt_succ (allLt_succ (allLt_succ (allLt_succ (allLt_succ (allLt_succ (allLt_succ (allLt_succ (allLt_succ (allLt_zero _) ?_) ?_) ?_) ?_) ?_) ?_) ?_) ?_) ?_) ?_) ?_) ?_) ?_) ?_) ?_) ?_) ?_) ?_) ?_
    · refine StepOk.run (o := ?o0) ?ho0 ?hg0 ?h0
      case ho0 => simp only [List.getElem?_toArray, List.getElem?_cons_succ, List.getElem?_cons_zero]; rfl
      case hg0 => rfl
      case h0 =>
      intro a W hS hB hd
      refine wp_called Try.func53 (by kernel_rfl) rfl #[] rfl (by simp [Act.eval, *]) ?_
      refine (fixed11_any _).mono ?_
      rintro e w10 ⟨rfl, hb10⟩
      exact ⟨_, rfl, rfl, hb10⟩
    · refine StepOk.run (o := ?o1) ?ho1 ?hg1 ?h1
      case ho1 => simp only [List.getElem?_toArray, List.getElem?_cons_succ, List.getElem?_cons_zero]; rfl
      case hg1 => rfl
      case h1 =>
      intro a W hS hB hd
      have e36 : a.tmps[36]? = some (.bool true) := (hd 0 rfl).bool rfl rfl rfl
      refine wp_value (c := .bool true) ?_ rfl
      go_simp
    · refine StepOk.on (o := ?o2) (g := 1) (u := true) ?ho2 ?hg2 rfl rfl ?hw2 rfl ?h2
      case ho2 => simp only [List.getElem?_toArray, List.getElem?_cons_succ, List.getElem?_cons_zero]; rfl
      case hg2 => rfl
      case hw2 => rfl
      case h2 =>
      intro a W hS hB hd
      have e6 : a.tmps[6]? = some (.int .i64 0) := hS.get rfl rfl
      refine wp_value (c := .int .i64 0) ?_ rfl
      go_simp
    · refine StepOk.on (o := ?o3) (g := 1) (u := true) ?ho3 ?hg3 rfl rfl ?hw3 rfl ?h3
      case ho3 => simp only [List.getElem?_toArray, List.getElem?_cons_succ, List.getElem?_cons_zero]; rfl
      case hg3 => rfl
      case hw3 => rfl
      case h3 =>
      intro a W hS hB hd
      have e38 : a.tmps[38]? = some (.int .i64 0) := (hd 2 rfl).bool rfl rfl rfl
      refine wp_value (c := .bool true) ?_ rfl
      go_simp
    · refine StepOk.run (o := ?o4) ?ho4 ?hg4 ?h4
      case ho4 => simp only [List.getElem?_toArray, List.getElem?_cons_succ, List.getElem?_cons_zero]; rfl
      case hg4 => rfl
      case h4 =>
      intro a W hS hB hd
      have e37 : a.tmps[37]? = some (.bool true) := (hd 1 rfl).bool rfl rfl rfl
      have e39 : a.tmps[39]? = some (.bool true) := (hd 3 rfl).bool rfl rfl rfl
      refine wp_value (c := .bool true) ?_ rfl
      go_simp
    · refine StepOk.run (o := ?o5) ?ho5 ?hg5 ?h5
      case ho5 => simp only [List.getElem?_toArray, List.getElem?_cons_succ, List.getElem?_cons_zero]; rfl
      case hg5 => rfl
      case h5 =>
      intro a W hS hB hd
      have e40 : a.tmps[40]? = some (.bool true) := (hd 4 rfl).bool rfl rfl rfl
      refine wp_value (c := .bool true) ?_ rfl
      go_simp
    · refine StepOk.on (o := ?o6) (g := 5) (u := true) ?ho6 ?hg6 rfl rfl ?hw6 rfl ?h6
      case ho6 => simp only [List.getElem?_toArray, List.getElem?_cons_succ, List.getElem?_cons_zero]; rfl
      case hg6 => rfl
      case hw6 => rfl
      case h6 =>
      intro a W hS hB hd
      have e8 : a.tmps[8]? = some (.int .i64 0) := hS.get rfl rfl
      refine wp_value (c := .int .i64 0) ?_ rfl
      go_simp
    · refine StepOk.on (o := ?o7) (g := 5) (u := true) ?ho7 ?hg7 rfl rfl ?hw7 rfl ?h7
      case ho7 => simp only [List.getElem?_toArray, List.getElem?_cons_succ, List.getElem?_cons_zero]; rfl
      case hg7 => rfl
      case hw7 => rfl
      case h7 =>
      intro a W hS hB hd
      have e42 : a.tmps[42]? = some (.int .i64 0) := (hd 6 rfl).bool rfl rfl rfl
      refine wp_value (c := .bool true) ?_ rfl
      go_simp
    · refine StepOk.run (o := ?o8) ?ho8 ?hg8 ?h8
      case ho8 => simp only [List.getElem?_toArray, List.getElem?_cons_succ, List.getElem?_cons_zero]; rfl
      case hg8 => rfl
      case h8 =>
      intro a W hS hB hd
      have e41 : a.tmps[41]? = some (.bool true) := (hd 5 rfl).bool rfl rfl rfl
      have e43 : a.tmps[43]? = some (.bool true) := (hd 7 rfl).bool rfl rfl rfl
      refine wp_value (c := .bool true) ?_ rfl
      go_simp
    · refine StepOk.run (o := ?o9) ?ho9 ?hg9 ?h9
      case ho9 => simp only [List.getElem?_toArray, List.getElem?_cons_succ, List.getElem?_cons_zero]; rfl
      case hg9 => rfl
      case h9 =>
      intro a W hS hB hd
      have e44 : a.tmps[44]? = some (.bool true) := (hd 8 rfl).bool rfl rfl rfl
      refine wp_value (c := .bool true) ?_ rfl
      go_simp
    · refine StepOk.on (o := ?o10) (g := 9) (u := true) ?ho10 ?hg10 rfl rfl ?hw10 rfl ?h10
      case ho10 => simp only [List.getElem?_toArray, List.getElem?_cons_succ, List.getElem?_cons_zero]; rfl
      case hg10 => rfl
      case hw10 => rfl
      case h10 =>
      intro a W hS hB hd
      have e5 : a.tmps[5]? = some (.pointer (some ⟨b5, 0, none⟩)) := hS.get rfl rfl
      refine wp_value (c := .agg #[.int .i64 x0, .string x1, .int .u64 x2, .slice A3 x3.length c3, .int .u64 x4, .int .u64 W1, .string T1]) ?_ rfl
      have hk := blk_below KC9.out hB
      have f0 : W.cell? ⟨b5, 0, none⟩ = some (.int .i64 x0) := (blk_cell hk 0).trans rfl
      have f1 : W.cell? ⟨b5, 1, none⟩ = some (.string x1) := (blk_cell hk 1).trans rfl
      have f2 : W.cell? ⟨b5, 2, none⟩ = some (.int .u64 x2) := (blk_cell hk 2).trans rfl
      have f3 : W.cell? ⟨b5, 3, none⟩ = some (.slice A3 x3.length c3) := (blk_cell hk 3).trans rfl
      have f4 : W.cell? ⟨b5, 4, none⟩ = some (.int .u64 x4) := (blk_cell hk 4).trans rfl
      have f5 : W.cell? ⟨b5, 5, none⟩ = some (.int .u64 W1) := (blk_cell hk 5).trans rfl
      have f6 : W.cell? ⟨b5, 6, none⟩ = some (.string T1) := (blk_cell hk 6).trans rfl
      clear hk
      go_simp
    · refine StepOk.on (o := ?o11) (g := 9) (u := true) ?ho11 ?hg11 rfl rfl ?hw11 rfl ?h11
      case ho11 => simp only [List.getElem?_toArray, List.getElem?_cons_succ, List.getElem?_cons_zero]; rfl
      case hg11 => rfl
      case hw11 => rfl
      case h11 =>
      intro a W hS hB hd
      have e7 : a.tmps[7]? = some (.pointer (some ⟨b7, 0, none⟩)) := hS.get rfl rfl
      refine wp_value (c := .agg #[.int .i64 y0, .string y1, .int .u64 y2, .slice B3 y3.length d3, .int .u64 y4, .int .u64 W2, .string T2]) ?_ rfl
      have hk := blk_below KD9.out hB
      have f0 : W.cell? ⟨b7, 0, none⟩ = some (.int .i64 y0) := (blk_cell hk 0).trans rfl
      have f1 : W.cell? ⟨b7, 1, none⟩ = some (.string y1) := (blk_cell hk 1).trans rfl
      have f2 : W.cell? ⟨b7, 2, none⟩ = some (.int .u64 y2) := (blk_cell hk 2).trans rfl
      have f3 : W.cell? ⟨b7, 3, none⟩ = some (.slice B3 y3.length d3) := (blk_cell hk 3).trans rfl
      have f4 : W.cell? ⟨b7, 4, none⟩ = some (.int .u64 y4) := (blk_cell hk 4).trans rfl
      have f5 : W.cell? ⟨b7, 5, none⟩ = some (.int .u64 W2) := (blk_cell hk 5).trans rfl
      have f6 : W.cell? ⟨b7, 6, none⟩ = some (.string T2) := (blk_cell hk 6).trans rfl
      clear hk
      go_simp
    · refine StepOk.on (o := ?o12) (g := 9) (u := true) ?ho12 ?hg12 rfl rfl ?hw12 rfl ?h12
      case ho12 => simp only [List.getElem?_toArray, List.getElem?_cons_succ, List.getElem?_cons_zero]; rfl
      case hg12 => rfl
      case hw12 => rfl
      case h12 =>
      intro a W hS hB hd
      have e46 : a.tmps[46]? = some (.agg #[.int .i64 x0, .string x1, .int .u64 x2, .slice A3 x3.length c3, .int .u64 x4, .int .u64 W1, .string T1]) := (hd 10 rfl).bool rfl rfl rfl
      have e47 : a.tmps[47]? = some (.agg #[.int .i64 y0, .string y1, .int .u64 y2, .slice B3 y3.length d3, .int .u64 y4, .int .u64 W2, .string T2]) := (hd 11 rfl).bool rfl rfl rfl
      refine wp_called Try.func46 (by kernel_rfl) rfl #[.agg #[.int .i64 x0, .string x1, .int .u64 x2, .slice A3 x3.length c3, .int .u64 x4, .int .u64 W1, .string T1], .agg #[.int .i64 y0, .string y1, .int .u64 y2, .slice B3 y3.length d3, .int .u64 y4, .int .u64 W2, .string T2]] rfl (by simp [Act.eval, *]) ?_
      refine (HS2.out W A3 B3 c3 d3 (Kd.C_below HC9.out.1 hB) (Kd.C_below HD9.out.1 hB) HC9.out.2 HD9.out.2).mono ?_
      rintro e w10 ⟨rfl, hb10⟩
      exact ⟨_, rfl, rfl, hb10⟩
    · refine StepOk.on (o := ?o13) (g := 9) (u := true) ?ho13 ?hg13 rfl rfl ?hw13 rfl ?h13
      case ho13 => simp only [List.getElem?_toArray, List.getElem?_cons_succ, List.getElem?_cons_zero]; rfl
      case hg13 => rfl
      case hw13 => rfl
      case h13 =>
      intro a W hS hB hd
      have e2 : a.tmps[2]? = some (.pointer (some ⟨b2, 0, none⟩)) := hS.get rfl rfl
      refine wp_value (c := .agg #[.int .i64 x0, .string x1, .int .u64 x2, .slice A x3.length c, .int .u64 x4, .int .u64 x5, .string x6]) ?_ rfl
      have hk := blk_below KA9.out hB
      have f0 : W.cell? ⟨b2, 0, none⟩ = some (.int .i64 x0) := (blk_cell hk 0).trans rfl
      have f1 : W.cell? ⟨b2, 1, none⟩ = some (.string x1) := (blk_cell hk 1).trans rfl
      have f2 : W.cell? ⟨b2, 2, none⟩ = some (.int .u64 x2) := (blk_cell hk 2).trans rfl
      have f3 : W.cell? ⟨b2, 3, none⟩ = some (.slice A x3.length c) := (blk_cell hk 3).trans rfl
      have f4 : W.cell? ⟨b2, 4, none⟩ = some (.int .u64 x4) := (blk_cell hk 4).trans rfl
      have f5 : W.cell? ⟨b2, 5, none⟩ = some (.int .u64 x5) := (blk_cell hk 5).trans rfl
      have f6 : W.cell? ⟨b2, 6, none⟩ = some (.string x6) := (blk_cell hk 6).trans rfl
      clear hk
      go_simp
    · refine StepOk.on (o := ?o14) (g := 9) (u := true) ?ho14 ?hg14 rfl rfl ?hw14 rfl ?h14
      case ho14 => simp only [List.getElem?_toArray, List.getElem?_cons_succ, List.getElem?_cons_zero]; rfl
      case hg14 => rfl
      case hw14 => rfl
      case h14 =>
      intro a W hS hB hd
      have e3 : a.tmps[3]? = some (.pointer (some ⟨b3, 0, none⟩)) := hS.get rfl rfl
      refine wp_value (c := .agg #[.int .i64 y0, .string y1, .int .u64 y2, .slice B y3.length d, .int .u64 y4, .int .u64 y5, .string y6]) ?_ rfl
      have hk := blk_below KB9.out hB
      have f0 : W.cell? ⟨b3, 0, none⟩ = some (.int .i64 y0) := (blk_cell hk 0).trans rfl
      have f1 : W.cell? ⟨b3, 1, none⟩ = some (.string y1) := (blk_cell hk 1).trans rfl
      have f2 : W.cell? ⟨b3, 2, none⟩ = some (.int .u64 y2) := (blk_cell hk 2).trans rfl
      have f3 : W.cell? ⟨b3, 3, none⟩ = some (.slice B y3.length d) := (blk_cell hk 3).trans rfl
      have f4 : W.cell? ⟨b3, 4, none⟩ = some (.int .u64 y4) := (blk_cell hk 4).trans rfl
      have f5 : W.cell? ⟨b3, 5, none⟩ = some (.int .u64 y5) := (blk_cell hk 5).trans rfl
      have f6 : W.cell? ⟨b3, 6, none⟩ = some (.string y6) := (blk_cell hk 6).trans rfl
      clear hk
      go_simp
    · refine StepOk.on (o := ?o15) (g := 9) (u := true) ?ho15 ?hg15 rfl rfl ?hw15 rfl ?h15
      case ho15 => simp only [List.getElem?_toArray, List.getElem?_cons_succ, List.getElem?_cons_zero]; rfl
      case hg15 => rfl
      case hw15 => rfl
      case h15 =>
      intro a W hS hB hd
      have e49 : a.tmps[49]? = some (.agg #[.int .i64 x0, .string x1, .int .u64 x2, .slice A x3.length c, .int .u64 x4, .int .u64 x5, .string x6]) := (hd 13 rfl).bool rfl rfl rfl
      have e50 : a.tmps[50]? = some (.agg #[.int .i64 y0, .string y1, .int .u64 y2, .slice B y3.length d, .int .u64 y4, .int .u64 y5, .string y6]) := (hd 14 rfl).bool rfl rfl rfl
      refine wp_called Try.func46 (by kernel_rfl) rfl #[.agg #[.int .i64 x0, .string x1, .int .u64 x2, .slice A x3.length c, .int .u64 x4, .int .u64 x5, .string x6], .agg #[.int .i64 y0, .string y1, .int .u64 y2, .slice B y3.length d, .int .u64 y4, .int .u64 y5, .string y6]] rfl (by simp [Act.eval, *]) ?_
      refine (HS1.out W (HRA.out W (HB9.out.trans (hB.mono HB9.out.size))) (HRB.out W (HB9.out.trans (hB.mono HB9.out.size)))).mono ?_
      rintro e w10 ⟨rfl, hb10⟩
      exact ⟨_, rfl, rfl, hb10⟩
    · refine StepOk.on (o := ?o16) (g := 9) (u := true) ?ho16 ?hg16 rfl rfl ?hw16 rfl ?h16
      case ho16 => simp only [List.getElem?_toArray, List.getElem?_cons_succ, List.getElem?_cons_zero]; rfl
      case hg16 => rfl
      case hw16 => rfl
      case h16 =>
      intro a W hS hB hd
      have e48 : a.tmps[48]? = some (.bool s2) := (hd 12 rfl).bool rfl rfl rfl
      have e51 : a.tmps[51]? = some (.bool s2) := (hd 15 rfl).bool rfl rfl rfl
      refine wp_value (c := .bool true) ?_ rfl
      go_simp
    · refine StepOk.run (o := ?o17) ?ho17 ?hg17 ?h17
      case ho17 => simp only [List.getElem?_toArray, List.getElem?_cons_succ, List.getElem?_cons_zero]; rfl
      case hg17 => rfl
      case h17 =>
      intro a W hS hB hd
      have e45 : a.tmps[45]? = some (.bool true) := (hd 9 rfl).bool rfl rfl rfl
      have e52 : a.tmps[52]? = some (.bool true) := (hd 16 rfl).bool rfl rfl rfl
      refine wp_value (c := .bool true) ?_ rfl
      go_simp
    · refine StepOk.run (o := ?o18) ?ho18 ?hg18 ?h18
      case ho18 => simp only [List.getElem?_toArray, List.getElem?_cons_succ, List.getElem?_cons_zero]; rfl
      case hg18 => rfl
      case h18 =>
      intro a W hS hB hd
      have e53 : a.tmps[53]? = some (.bool true) := (hd 17 rfl).bool rfl rfl rfl
      refine wp_value (c := .bool true) ?_ rfl
      go_simp
  · intro a W hS hB hh
    go_wp2
    have hr := (hh 18 (by omega)).bool rfl rfl rfl
    exact bodyPost_ret (v := .bool true) (by simp [results, Try.results12, hr, go_sem]) hS.2.1 ⟨rfl, HB9.out.trans (hB.mono HB9.out.size)⟩
abbrev RecT := (Int × ByteArray × Int × List S76 × Int × Int × ByteArray) × Option Addr × Nat
theorem walk (v0 : Value) (p0 : RecT) (v1 : Value) (p1 : RecT) (w : World) (w0 : IsRec w v0 p0) (w1 : IsRec w v1 p1) :
    Calls Try.prog 12 #[v0, v1] w fun e w' => e = .returned (.bool true) ∧ Below w.heap.size w w' := by
  obtain ⟨⟨x0, x1, x2, x3, x4, x5, x6⟩, A, c⟩ := p0
  obtain ⟨⟨y0, y1, y2, y3, y4, y5, y6⟩, B, d⟩ := p1
  have hv := w0.v
  have hcA := w0.c
  have hrA := w0.row
  have hlA := w0.len
  have hv1 := w1.v
  have hcB := w1.c
  have hrB := w1.row
  have hlB := w1.len
  dsimp only at hv hcA hrA hlA hv1 hcB hrB hlB
  subst hv hv1
  obtain ⟨ga, hga, hga2⟩ := great_is x0 x1 x2 x3 x4 x5 x6 (by simp only [maxLen] at hlA; omega) (x3.length + 1) (by omega)
  obtain ⟨gb, hgb, hgb2⟩ := great_is y0 y1 y2 y3 y4 y5 y6 (by simp only [maxLen] at hlB; omega) (y3.length + 1) (by omega)
  cases ga with
  | true => exact one_ga A B c d x0 x1 x2 x3 x4 x5 x6 y0 y1 y2 y3 y4 y5 y6 w hrA hcA hrB hcB ⟨_, hga⟩
  | false =>
    cases gb with
    | true => exact one_gb A B c d x0 x1 x2 x3 x4 x5 x6 y0 y1 y2 y3 y4 y5 y6 w hrA hcA hrB hcB ⟨_, hga⟩ ⟨_, hgb⟩
    | false =>
      have hokA := (hga2 rfl).ok
      have hokB := (hgb2 rfl).ok
      cases hmA : mayB 1 x0 x1 x2 x3 x4 x5 x6 with
      | false => exact one_ma A B c d x0 x1 x2 x3 x4 x5 x6 y0 y1 y2 y3 y4 y5 y6 w hrA hcA hrB hcB ⟨_, hga⟩ ⟨_, hgb⟩ hokA hokB hmA
      | true =>
        cases hmB : mayB 1 y0 y1 y2 y3 y4 y5 y6 with
        | false => exact one_mb A B c d x0 x1 x2 x3 x4 x5 x6 y0 y1 y2 y3 y4 y5 y6 w hrA hcA hrB hcB ⟨_, hga⟩ ⟨_, hgb⟩ hokA hokB hmA hmB
        | true => exact one_all A B c d x0 x1 x2 x3 x4 x5 x6 y0 y1 y2 y3 y4 y5 y6 w hrA hcA hrB hcB ⟨_, hga⟩ ⟨_, hgb⟩ hokA hokB hmA hmB
end Go.Proofs.Ythpbkhagjgggjaa.WMigrateOne
