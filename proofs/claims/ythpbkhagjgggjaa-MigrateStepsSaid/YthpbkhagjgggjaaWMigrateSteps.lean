/- The law MigrateSteps: moving a record in two moves comes to where one move comes. -/
import Derived.Test.YthpbkhagjgggjaaMigA
import Derived.Test.YthpbkhagjgggjaaRecO
import Derived.Deep.QuietTactic
import Derived.BigQuiet
import Derived.BigRegion
import Derived.Laws.IdiomArrays
set_option linter.unusedVariables false
set_option linter.unusedSimpArgs false
namespace Go.Proofs.Ythpbkhagjgggjaa.WMigrateSteps
open Go.RowKit Go.Proofs.YthpbkhagjgggjaaW.PrintWords Go.Proofs.Ythpbkhagjgggjaa.GRR

theorem great_at (x0 : Int) (x1 : ByteArray) (x2 : Int) (A : Option Addr) (c : Nat) (x3 : List S76) (x4 x5 : Int) (x6 : ByteArray) (W : World) (g : Bool) (hr : Kd.C k76 W A x3.length x3) (hc : x3.length ≤ c) (hg : ∃ k, tephralaw08_Great.f k x0 x1 x2 x3 x4 x5 x6 = some g) :
    Calls Try.prog 42 #[.agg #[.int .i64 x0, .string x1, .int .u64 x2, .slice A x3.length c, .int .u64 x4, .int .u64 x5, .string x6]] W fun e w' => e = .returned (.bool g) ∧ Below W.heap.size W w' := by
  obtain ⟨k, hk⟩ := hg
  exact tephralaw08_Great.calls k x0 x1 x2 A c x3 x4 x5 x6 g W hr hc hk
set_option maxHeartbeats 4000000 in
set_option maxRecDepth 100000 in
theorem st_great (A : Option Addr) (c : Nat) (x0 : Int) (x1 : ByteArray) (x2 : Int) (x3 : List S76) (x4 x5 : Int) (x6 : ByteArray) (n0 n1 n2 : Int) (hn0 : 0 ≤ n0 ∧ n0 ≤ 255) (hn1 : 0 ≤ n1 ∧ n1 ≤ 255) (hn2 : 0 ≤ n2 ∧ n2 ≤ 255) (w : World) (hrA : Kd.C k76 w A x3.length x3) (hcA : x3.length ≤ c) (hga : ∃ k, tephralaw08_Great.f k x0 x1 x2 x3 x4 x5 x6 = some true) :
    Calls Try.prog 11 #[.agg #[.int .i64 x0, .string x1, .int .u64 x2, .slice A x3.length c, .int .u64 x4, .int .u64 x5, .string x6], .agg #[.int .u8 n0, .int .u8 n1, .int .u8 n2]] w fun e w' => e = .returned (.bool true) ∧ Below w.heap.size w w' := by
  obtain ⟨w1, hw1⟩ : ∃ w1, (w.alloc (.cells #[.int .i64 x0, .string x1, .int .u64 x2, .slice A x3.length c, .int .u64 x4, .int .u64 x5, .string x6] 70)).alloc (.cells #[.int .u8 n0, .int .u8 n1, .int .u8 n2] 79) = w1 := ⟨_, rfl⟩
  have hb1 : Below w.heap.size w w1 := by rw [← hw1]; exact ((Below.refl _ _).alloc (Nat.le_refl _) _).alloc (by rw [heap_size_alloc]; omega) _
  have hk2 : w1.heap[w.heap.size]? = some (.cells #[.int .i64 x0, .string x1, .int .u64 x2, .slice A x3.length c, .int .u64 x4, .int .u64 x5, .string x6] 70 (0, 0)) := by rw [← hw1, heap_new_old _ _ _ (by rw [heap_size_alloc]; omega)]; exact heap_new _ _
  have hk3 : w1.heap[w.heap.size + 1]? = some (.cells #[.int .u8 n0, .int .u8 n1, .int .u8 n2] 79 (0, 0)) := by
    rw [← hw1]; have := heap_new (w.alloc (.cells #[.int .i64 x0, .string x1, .int .u64 x2, .slice A x3.length c, .int .u64 x4, .int .u64 x5, .string x6] 70)) (.cells #[.int .u8 n0, .int .u8 n1, .int .u8 n2] 79); rwa [heap_size_alloc] at this
  obtain ⟨b2, hb2⟩ : ∃ b, w.heap.size = b := ⟨_, rfl⟩
  obtain ⟨b3, hb3⟩ : ∃ b, w.heap.size + 1 = b := ⟨_, rfl⟩
  rw [hb2] at hk2
  rw [hb3] at hk3
  have a0 : w1.cell? ⟨b2, 0, none⟩ = some (.int .i64 x0) := (blk_cell hk2 0).trans rfl
  have a1 : w1.cell? ⟨b2, 1, none⟩ = some (.string x1) := (blk_cell hk2 1).trans rfl
  have a2 : w1.cell? ⟨b2, 2, none⟩ = some (.int .u64 x2) := (blk_cell hk2 2).trans rfl
  have a3 : w1.cell? ⟨b2, 3, none⟩ = some (.slice A x3.length c) := (blk_cell hk2 3).trans rfl
  have a4 : w1.cell? ⟨b2, 4, none⟩ = some (.int .u64 x4) := (blk_cell hk2 4).trans rfl
  have a5 : w1.cell? ⟨b2, 5, none⟩ = some (.int .u64 x5) := (blk_cell hk2 5).trans rfl
  have a6 : w1.cell? ⟨b2, 6, none⟩ = some (.string x6) := (blk_cell hk2 6).trans rfl
  have KA1 := Lib.hid hk2
  have KN1 := Lib.hid hk3
  have HB1 := Lib.hid hb1
  have HW1 := Lib.hid hw1
  have HB2_ := Lib.hid hb2
  have HB3_ := Lib.hid hb3
  have HGA := Lib.hid (great_at x0 x1 x2 A c x3 x4 x5 x6 w1 true (Kd.C_below hrA hb1) hcA hga)
  clear hrA hb1 hw1 hk2 hb2 hga hb3 hk3
  go_enter Try.func11, Try.ntmps11
  go_wp2_with fail
  rw [HW1.out, HB3_.out, HB2_.out]
  refine HGA.out.mono ?_
  rintro e w2 ⟨rfl, hb⟩
  have HB2 := Lib.hid (HB1.out.trans (hb.mono HB1.out.size))
  go_wp2_with fail
  refine (fixed11_any _).mono ?_
  rintro e w9 ⟨rfl, hb⟩
  go_wp2_with fail
  go_ret
  exact ⟨rfl, HB2.out.trans (hb.mono HB2.out.size)⟩
theorem mayB_to {u v k0 : Int} {t : ByteArray} {rule : Int} {l : List S76} {out when : Int} {tag : ByteArray} (hu : 1 ≤ u) (huv : u ≤ v) (hv : v ≤ 3) (h : mayB u k0 t rule l out when tag = true) :
    mayB v k0 t rule l out (toW k0 u v when) (toT k0 u v tag) = true := by
  have h0 : u = v ∨ v = u + 1 ∨ v = u + 1 + 1 := by omega
  rcases h0 with rfl | rfl | rfl
  · rw [toW_self, toT_self]; exact h
  · have := mayB_step (i := u) (by omega) h
    rw [← toW_step k0 u u when (by omega) (by omega), ← toT_step k0 u u tag (by omega) (by omega), toW_self, toT_self]
    exact this
  · have h1 := mayB_step (i := u) (by omega) h
    have h2 := mayB_step (i := u + 1) (by omega) h1
    rw [← toW_step k0 u (u + 1) when (by omega) (by omega), ← toT_step k0 u (u + 1) tag (by omega) (by omega), ← toW_step k0 u u when (by omega) (by omega), ← toT_step k0 u u tag (by omega) (by omega), toW_self, toT_self]
    exact h2
theorem toW_then (k0 u v z when : Int) (h1 : u ≤ v) (h2 : v ≤ z) : toW k0 v z (toW k0 u v when) = toW k0 u z when := by
  unfold toW
  by_cases c : k0 = 1 ∧ u ≤ 1 ∧ 1 < z
  · rw [if_pos c]
    by_cases d : v ≤ 1
    · rw [if_pos (by omega)]
    · rw [if_neg (by omega), if_pos (by omega)]
  · rw [if_neg c, if_neg (by omega), if_neg (by omega)]
theorem toT_then (k0 u v z : Int) (tag : ByteArray) (h1 : u ≤ v) (h2 : v ≤ z) : toT k0 v z (toT k0 u v tag) = toT k0 u z tag := by
  unfold toT
  by_cases c : k0 = 1 ∧ u ≤ 2 ∧ 2 < z
  · rw [if_pos c]
    by_cases d : v ≤ 2
    · rw [if_pos (by omega)]
    · rw [if_neg (by omega), if_pos (by omega)]
  · rw [if_neg c, if_neg (by omega), if_neg (by omega)]
set_option maxHeartbeats 4000000 in
set_option maxRecDepth 100000 in
theorem st_gt1 (A : Option Addr) (c : Nat) (x0 : Int) (x1 : ByteArray) (x2 : Int) (x3 : List S76) (x4 x5 : Int) (x6 : ByteArray) (n0 n1 n2 : Int) (hn0 : 0 ≤ n0 ∧ n0 ≤ 255) (hn1 : 0 ≤ n1 ∧ n1 ≤ 255) (hn2 : 0 ≤ n2 ∧ n2 ≤ 255) (w : World) (hrA : Kd.C k76 w A x3.length x3) (hcA : x3.length ≤ c) (hga : ∃ k, tephralaw08_Great.f k x0 x1 x2 x3 x4 x5 x6 = some false) (hok : RecOk x1 x3 x6) (h : n1 % 3 < n0 % 3) :
    Calls Try.prog 11 #[.agg #[.int .i64 x0, .string x1, .int .u64 x2, .slice A x3.length c, .int .u64 x4, .int .u64 x5, .string x6], .agg #[.int .u8 n0, .int .u8 n1, .int .u8 n2]] w fun e w' => e = .returned (.bool true) ∧ Below w.heap.size w w' := by
  obtain ⟨w1, hw1⟩ : ∃ w1, (w.alloc (.cells #[.int .i64 x0, .string x1, .int .u64 x2, .slice A x3.length c, .int .u64 x4, .int .u64 x5, .string x6] 70)).alloc (.cells #[.int .u8 n0, .int .u8 n1, .int .u8 n2] 79) = w1 := ⟨_, rfl⟩
  have hb1 : Below w.heap.size w w1 := by rw [← hw1]; exact ((Below.refl _ _).alloc (Nat.le_refl _) _).alloc (by rw [heap_size_alloc]; omega) _
  have hk2 : w1.heap[w.heap.size]? = some (.cells #[.int .i64 x0, .string x1, .int .u64 x2, .slice A x3.length c, .int .u64 x4, .int .u64 x5, .string x6] 70 (0, 0)) := by rw [← hw1, heap_new_old _ _ _ (by rw [heap_size_alloc]; omega)]; exact heap_new _ _
  have hk3 : w1.heap[w.heap.size + 1]? = some (.cells #[.int .u8 n0, .int .u8 n1, .int .u8 n2] 79 (0, 0)) := by
    rw [← hw1]; have := heap_new (w.alloc (.cells #[.int .i64 x0, .string x1, .int .u64 x2, .slice A x3.length c, .int .u64 x4, .int .u64 x5, .string x6] 70)) (.cells #[.int .u8 n0, .int .u8 n1, .int .u8 n2] 79); rwa [heap_size_alloc] at this
  obtain ⟨b2, hb2⟩ : ∃ b, w.heap.size = b := ⟨_, rfl⟩
  obtain ⟨b3, hb3⟩ : ∃ b, w.heap.size + 1 = b := ⟨_, rfl⟩
  rw [hb2] at hk2
  rw [hb3] at hk3
  have a0 : w1.cell? ⟨b2, 0, none⟩ = some (.int .i64 x0) := (blk_cell hk2 0).trans rfl
  have a1 : w1.cell? ⟨b2, 1, none⟩ = some (.string x1) := (blk_cell hk2 1).trans rfl
  have a2 : w1.cell? ⟨b2, 2, none⟩ = some (.int .u64 x2) := (blk_cell hk2 2).trans rfl
  have a3 : w1.cell? ⟨b2, 3, none⟩ = some (.slice A x3.length c) := (blk_cell hk2 3).trans rfl
  have a4 : w1.cell? ⟨b2, 4, none⟩ = some (.int .u64 x4) := (blk_cell hk2 4).trans rfl
  have a5 : w1.cell? ⟨b2, 5, none⟩ = some (.int .u64 x5) := (blk_cell hk2 5).trans rfl
  have a6 : w1.cell? ⟨b2, 6, none⟩ = some (.string x6) := (blk_cell hk2 6).trans rfl
  have KA1 := Lib.hid hk2
  have KN1 := Lib.hid hk3
  have HB1 := Lib.hid hb1
  have HW1 := Lib.hid hw1
  have HB2_ := Lib.hid hb2
  have HB3_ := Lib.hid hb3
  have HGA := Lib.hid (great_at x0 x1 x2 A c x3 x4 x5 x6 w1 false (Kd.C_below hrA hb1) hcA hga)
  have HCA := Lib.hid (fun (W : World) (h : Below w.heap.size w W) => Kd.C_below hrA h)
  clear hrA hb1 hw1 hk2 hb2 hga hok hb3 hk3
  obtain ⟨r0, hr0⟩ : ∃ r, n0 % 3 = r := ⟨_, rfl⟩
  obtain ⟨r1, hr1⟩ : ∃ r, n1 % 3 = r := ⟨_, rfl⟩
  obtain ⟨r2, hr2⟩ : ∃ r, n2 % 3 = r := ⟨_, rfl⟩
  go_enter Try.func11, Try.ntmps11
  go_wp2_with fail
  rw [HW1.out, HB3_.out, HB2_.out]
  refine HGA.out.mono ?_
  rintro e w2 ⟨rfl, hb⟩
  have HB2 := Lib.hid (HB1.out.trans (hb.mono HB1.out.size))
  have KA2 := Lib.hid (blk_below KA1.out hb)
  have hkn := blk_below KN1.out hb
  clear a0 a1 a2 a3 a4 a5 a6
  have q0 : w2.cell? ⟨b3, 0, none⟩ = some (.int .u8 n0) := (blk_cell hkn 0).trans rfl
  have q1 : w2.cell? ⟨b3, 1, none⟩ = some (.int .u8 n1) := (blk_cell hkn 1).trans rfl
  have q2 : w2.cell? ⟨b3, 2, none⟩ = some (.int .u8 n2) := (blk_cell hkn 2).trans rfl
  clear hkn hb HGA
  go_wp2_with fail
  go_quiet (fail)
  clear q0 q1 q2
  obtain ⟨w3, hw3⟩ : ∃ w3, w2.drewN nq = w3 := ⟨_, rfl⟩
  have HB3 := Lib.hid (hw3 ▸ pw_below_drewN HB2.out nq : Below w.heap.size w w3)
  have KA3 := Lib.hid (hw3 ▸ KA2.out : w3.heap[b2]? = some (.cells #[.int .i64 x0, .string x1, .int .u64 x2, .slice A x3.length c, .int .u64 x4, .int .u64 x5, .string x6] 70 (0, 0)))
  rw [hw3, hr0, hr1, hr2]
  clear hw3 hn0 hn1 hn2
  rw [hr0, hr1] at h
  clear hr0 hr1 hr2
  have d1 : decide (r1 < r0) = true := decide_eq_true h
  go_wp2_with fail
  refine (fixed11_any _).mono ?_
  rintro e w9 ⟨rfl, hb⟩
  go_wp2_with fail
  go_ret
  exact ⟨rfl, HB3.out.trans (hb.mono HB3.out.size)⟩
set_option maxHeartbeats 4000000 in
set_option maxRecDepth 100000 in
theorem st_gt2 (A : Option Addr) (c : Nat) (x0 : Int) (x1 : ByteArray) (x2 : Int) (x3 : List S76) (x4 x5 : Int) (x6 : ByteArray) (n0 n1 n2 : Int) (hn0 : 0 ≤ n0 ∧ n0 ≤ 255) (hn1 : 0 ≤ n1 ∧ n1 ≤ 255) (hn2 : 0 ≤ n2 ∧ n2 ≤ 255) (w : World) (hrA : Kd.C k76 w A x3.length x3) (hcA : x3.length ≤ c) (hga : ∃ k, tephralaw08_Great.f k x0 x1 x2 x3 x4 x5 x6 = some false) (hok : RecOk x1 x3 x6) (h : ¬ n1 % 3 < n0 % 3) (h2 : n2 % 3 < n1 % 3) :
    Calls Try.prog 11 #[.agg #[.int .i64 x0, .string x1, .int .u64 x2, .slice A x3.length c, .int .u64 x4, .int .u64 x5, .string x6], .agg #[.int .u8 n0, .int .u8 n1, .int .u8 n2]] w fun e w' => e = .returned (.bool true) ∧ Below w.heap.size w w' := by
  obtain ⟨w1, hw1⟩ : ∃ w1, (w.alloc (.cells #[.int .i64 x0, .string x1, .int .u64 x2, .slice A x3.length c, .int .u64 x4, .int .u64 x5, .string x6] 70)).alloc (.cells #[.int .u8 n0, .int .u8 n1, .int .u8 n2] 79) = w1 := ⟨_, rfl⟩
  have hb1 : Below w.heap.size w w1 := by rw [← hw1]; exact ((Below.refl _ _).alloc (Nat.le_refl _) _).alloc (by rw [heap_size_alloc]; omega) _
  have hk2 : w1.heap[w.heap.size]? = some (.cells #[.int .i64 x0, .string x1, .int .u64 x2, .slice A x3.length c, .int .u64 x4, .int .u64 x5, .string x6] 70 (0, 0)) := by rw [← hw1, heap_new_old _ _ _ (by rw [heap_size_alloc]; omega)]; exact heap_new _ _
  have hk3 : w1.heap[w.heap.size + 1]? = some (.cells #[.int .u8 n0, .int .u8 n1, .int .u8 n2] 79 (0, 0)) := by
    rw [← hw1]; have := heap_new (w.alloc (.cells #[.int .i64 x0, .string x1, .int .u64 x2, .slice A x3.length c, .int .u64 x4, .int .u64 x5, .string x6] 70)) (.cells #[.int .u8 n0, .int .u8 n1, .int .u8 n2] 79); rwa [heap_size_alloc] at this
  obtain ⟨b2, hb2⟩ : ∃ b, w.heap.size = b := ⟨_, rfl⟩
  obtain ⟨b3, hb3⟩ : ∃ b, w.heap.size + 1 = b := ⟨_, rfl⟩
  rw [hb2] at hk2
  rw [hb3] at hk3
  have a0 : w1.cell? ⟨b2, 0, none⟩ = some (.int .i64 x0) := (blk_cell hk2 0).trans rfl
  have a1 : w1.cell? ⟨b2, 1, none⟩ = some (.string x1) := (blk_cell hk2 1).trans rfl
  have a2 : w1.cell? ⟨b2, 2, none⟩ = some (.int .u64 x2) := (blk_cell hk2 2).trans rfl
  have a3 : w1.cell? ⟨b2, 3, none⟩ = some (.slice A x3.length c) := (blk_cell hk2 3).trans rfl
  have a4 : w1.cell? ⟨b2, 4, none⟩ = some (.int .u64 x4) := (blk_cell hk2 4).trans rfl
  have a5 : w1.cell? ⟨b2, 5, none⟩ = some (.int .u64 x5) := (blk_cell hk2 5).trans rfl
  have a6 : w1.cell? ⟨b2, 6, none⟩ = some (.string x6) := (blk_cell hk2 6).trans rfl
  have KA1 := Lib.hid hk2
  have KN1 := Lib.hid hk3
  have HB1 := Lib.hid hb1
  have HW1 := Lib.hid hw1
  have HB2_ := Lib.hid hb2
  have HB3_ := Lib.hid hb3
  have HGA := Lib.hid (great_at x0 x1 x2 A c x3 x4 x5 x6 w1 false (Kd.C_below hrA hb1) hcA hga)
  have HCA := Lib.hid (fun (W : World) (h : Below w.heap.size w W) => Kd.C_below hrA h)
  clear hrA hb1 hw1 hk2 hb2 hga hok hb3 hk3
  obtain ⟨r0, hr0⟩ : ∃ r, n0 % 3 = r := ⟨_, rfl⟩
  obtain ⟨r1, hr1⟩ : ∃ r, n1 % 3 = r := ⟨_, rfl⟩
  obtain ⟨r2, hr2⟩ : ∃ r, n2 % 3 = r := ⟨_, rfl⟩
  go_enter Try.func11, Try.ntmps11
  go_wp2_with fail
  rw [HW1.out, HB3_.out, HB2_.out]
  refine HGA.out.mono ?_
  rintro e w2 ⟨rfl, hb⟩
  have HB2 := Lib.hid (HB1.out.trans (hb.mono HB1.out.size))
  have KA2 := Lib.hid (blk_below KA1.out hb)
  have hkn := blk_below KN1.out hb
  clear a0 a1 a2 a3 a4 a5 a6
  have q0 : w2.cell? ⟨b3, 0, none⟩ = some (.int .u8 n0) := (blk_cell hkn 0).trans rfl
  have q1 : w2.cell? ⟨b3, 1, none⟩ = some (.int .u8 n1) := (blk_cell hkn 1).trans rfl
  have q2 : w2.cell? ⟨b3, 2, none⟩ = some (.int .u8 n2) := (blk_cell hkn 2).trans rfl
  clear hkn hb HGA
  go_wp2_with fail
  go_quiet (fail)
  clear q0 q1 q2
  obtain ⟨w3, hw3⟩ : ∃ w3, w2.drewN nq = w3 := ⟨_, rfl⟩
  have HB3 := Lib.hid (hw3 ▸ pw_below_drewN HB2.out nq : Below w.heap.size w w3)
  have KA3 := Lib.hid (hw3 ▸ KA2.out : w3.heap[b2]? = some (.cells #[.int .i64 x0, .string x1, .int .u64 x2, .slice A x3.length c, .int .u64 x4, .int .u64 x5, .string x6] 70 (0, 0)))
  rw [hw3, hr0, hr1, hr2]
  clear hw3 hn0 hn1 hn2
  rw [hr0, hr1] at h
  rw [hr1, hr2] at h2
  clear hr0 hr1 hr2
  have d1 : decide (r1 < r0) = false := decide_eq_false (by omega)
  have d2 : decide (r2 < r1) = true := decide_eq_true h2
  go_wp2_with fail
  refine (fixed11_any _).mono ?_
  rintro e w9 ⟨rfl, hb⟩
  go_wp2_with fail
  go_ret
  exact ⟨rfl, HB3.out.trans (hb.mono HB3.out.size)⟩
set_option maxHeartbeats 4000000 in
set_option maxRecDepth 100000 in
theorem st_may (A : Option Addr) (c : Nat) (x0 : Int) (x1 : ByteArray) (x2 : Int) (x3 : List S76) (x4 x5 : Int) (x6 : ByteArray) (n0 n1 n2 : Int) (hn0 : 0 ≤ n0 ∧ n0 ≤ 255) (hn1 : 0 ≤ n1 ∧ n1 ≤ 255) (hn2 : 0 ≤ n2 ∧ n2 ≤ 255) (w : World) (hrA : Kd.C k76 w A x3.length x3) (hcA : x3.length ≤ c) (hga : ∃ k, tephralaw08_Great.f k x0 x1 x2 x3 x4 x5 x6 = some false) (hok : RecOk x1 x3 x6) (h : ¬ n1 % 3 < n0 % 3) (h2 : ¬ n2 % 3 < n1 % 3) (hm : mayB (1 + n0 % 3) x0 x1 x2 x3 x4 x5 x6 = false) :
    Calls Try.prog 11 #[.agg #[.int .i64 x0, .string x1, .int .u64 x2, .slice A x3.length c, .int .u64 x4, .int .u64 x5, .string x6], .agg #[.int .u8 n0, .int .u8 n1, .int .u8 n2]] w fun e w' => e = .returned (.bool true) ∧ Below w.heap.size w w' := by
  obtain ⟨w1, hw1⟩ : ∃ w1, (w.alloc (.cells #[.int .i64 x0, .string x1, .int .u64 x2, .slice A x3.length c, .int .u64 x4, .int .u64 x5, .string x6] 70)).alloc (.cells #[.int .u8 n0, .int .u8 n1, .int .u8 n2] 79) = w1 := ⟨_, rfl⟩
  have hb1 : Below w.heap.size w w1 := by rw [← hw1]; exact ((Below.refl _ _).alloc (Nat.le_refl _) _).alloc (by rw [heap_size_alloc]; omega) _
  have hk2 : w1.heap[w.heap.size]? = some (.cells #[.int .i64 x0, .string x1, .int .u64 x2, .slice A x3.length c, .int .u64 x4, .int .u64 x5, .string x6] 70 (0, 0)) := by rw [← hw1, heap_new_old _ _ _ (by rw [heap_size_alloc]; omega)]; exact heap_new _ _
  have hk3 : w1.heap[w.heap.size + 1]? = some (.cells #[.int .u8 n0, .int .u8 n1, .int .u8 n2] 79 (0, 0)) := by
    rw [← hw1]; have := heap_new (w.alloc (.cells #[.int .i64 x0, .string x1, .int .u64 x2, .slice A x3.length c, .int .u64 x4, .int .u64 x5, .string x6] 70)) (.cells #[.int .u8 n0, .int .u8 n1, .int .u8 n2] 79); rwa [heap_size_alloc] at this
  obtain ⟨b2, hb2⟩ : ∃ b, w.heap.size = b := ⟨_, rfl⟩
  obtain ⟨b3, hb3⟩ : ∃ b, w.heap.size + 1 = b := ⟨_, rfl⟩
  rw [hb2] at hk2
  rw [hb3] at hk3
  have a0 : w1.cell? ⟨b2, 0, none⟩ = some (.int .i64 x0) := (blk_cell hk2 0).trans rfl
  have a1 : w1.cell? ⟨b2, 1, none⟩ = some (.string x1) := (blk_cell hk2 1).trans rfl
  have a2 : w1.cell? ⟨b2, 2, none⟩ = some (.int .u64 x2) := (blk_cell hk2 2).trans rfl
  have a3 : w1.cell? ⟨b2, 3, none⟩ = some (.slice A x3.length c) := (blk_cell hk2 3).trans rfl
  have a4 : w1.cell? ⟨b2, 4, none⟩ = some (.int .u64 x4) := (blk_cell hk2 4).trans rfl
  have a5 : w1.cell? ⟨b2, 5, none⟩ = some (.int .u64 x5) := (blk_cell hk2 5).trans rfl
  have a6 : w1.cell? ⟨b2, 6, none⟩ = some (.string x6) := (blk_cell hk2 6).trans rfl
  have KA1 := Lib.hid hk2
  have KN1 := Lib.hid hk3
  have HB1 := Lib.hid hb1
  have HW1 := Lib.hid hw1
  have HB2_ := Lib.hid hb2
  have HB3_ := Lib.hid hb3
  have HGA := Lib.hid (great_at x0 x1 x2 A c x3 x4 x5 x6 w1 false (Kd.C_below hrA hb1) hcA hga)
  have HCA := Lib.hid (fun (W : World) (h : Below w.heap.size w W) => Kd.C_below hrA h)
  have HMY := Lib.hid (fun (W : World) (h : Below w.heap.size w W) => refMay_any (1 + n0 % 3) x0 x1 x2 A c x3 x4 x5 x6 W (Kd.C_below hrA h) hcA hok)
  rw [hm] at HMY
  clear hrA hb1 hw1 hk2 hb2 hga hok hb3 hk3
  obtain ⟨r0, hr0⟩ : ∃ r, n0 % 3 = r := ⟨_, rfl⟩
  obtain ⟨r1, hr1⟩ : ∃ r, n1 % 3 = r := ⟨_, rfl⟩
  obtain ⟨r2, hr2⟩ : ∃ r, n2 % 3 = r := ⟨_, rfl⟩
  go_enter Try.func11, Try.ntmps11
  go_wp2_with fail
  rw [HW1.out, HB3_.out, HB2_.out]
  refine HGA.out.mono ?_
  rintro e w2 ⟨rfl, hb⟩
  have HB2 := Lib.hid (HB1.out.trans (hb.mono HB1.out.size))
  have KA2 := Lib.hid (blk_below KA1.out hb)
  have hkn := blk_below KN1.out hb
  clear a0 a1 a2 a3 a4 a5 a6
  have q0 : w2.cell? ⟨b3, 0, none⟩ = some (.int .u8 n0) := (blk_cell hkn 0).trans rfl
  have q1 : w2.cell? ⟨b3, 1, none⟩ = some (.int .u8 n1) := (blk_cell hkn 1).trans rfl
  have q2 : w2.cell? ⟨b3, 2, none⟩ = some (.int .u8 n2) := (blk_cell hkn 2).trans rfl
  clear hkn hb HGA
  go_wp2_with fail
  go_quiet (fail)
  clear q0 q1 q2
  obtain ⟨w3, hw3⟩ : ∃ w3, w2.drewN nq = w3 := ⟨_, rfl⟩
  have HB3 := Lib.hid (hw3 ▸ pw_below_drewN HB2.out nq : Below w.heap.size w w3)
  have KA3 := Lib.hid (hw3 ▸ KA2.out : w3.heap[b2]? = some (.cells #[.int .i64 x0, .string x1, .int .u64 x2, .slice A x3.length c, .int .u64 x4, .int .u64 x5, .string x6] 70 (0, 0)))
  rw [hw3, hr0, hr1, hr2]
  clear hw3 hn0 hn1 hn2
  rw [hr0, hr1] at h
  rw [hr1, hr2] at h2
  rw [hr0] at HMY
  clear hr0 hr1 hr2 hm
  have d1 : decide (r1 < r0) = false := decide_eq_false (by omega)
  have d2 : decide (r2 < r1) = false := decide_eq_false (by omega)
  have a0 : w3.cell? ⟨b2, 0, none⟩ = some (.int .i64 x0) := (blk_cell KA3.out 0).trans rfl
  have a1 : w3.cell? ⟨b2, 1, none⟩ = some (.string x1) := (blk_cell KA3.out 1).trans rfl
  have a2 : w3.cell? ⟨b2, 2, none⟩ = some (.int .u64 x2) := (blk_cell KA3.out 2).trans rfl
  have a3 : w3.cell? ⟨b2, 3, none⟩ = some (.slice A x3.length c) := (blk_cell KA3.out 3).trans rfl
  have a4 : w3.cell? ⟨b2, 4, none⟩ = some (.int .u64 x4) := (blk_cell KA3.out 4).trans rfl
  have a5 : w3.cell? ⟨b2, 5, none⟩ = some (.int .u64 x5) := (blk_cell KA3.out 5).trans rfl
  have a6 : w3.cell? ⟨b2, 6, none⟩ = some (.string x6) := (blk_cell KA3.out 6).trans rfl
  go_wp2_with fail
  refine (HMY.out w3 HB3.out).mono ?_
  rintro e w4 ⟨rfl, hb⟩
  have HB4 := Lib.hid (HB3.out.trans (hb.mono HB3.out.size))
  clear a0 a1 a2 a3 a4 a5 a6
  go_wp2_with fail
  refine (fixed11_any _).mono ?_
  rintro e w9 ⟨rfl, hb⟩
  go_wp2_with fail
  go_ret
  exact ⟨rfl, HB4.out.trans (hb.mono HB4.out.size)⟩
theorem same_self (f0 : Int) (f1 : ByteArray) (f2 : Int) (f3 : List S76) (f4 f5 : Int) (f6 : ByteArray) (A3 A4 : Option Addr) (c3 c4 : Nat) (W : World) (h1 : Kd.C k76 W A3 f3.length f3) (h2 : Kd.C k76 W A4 f3.length f3) (hc3 : f3.length ≤ c3) (hc4 : f3.length ≤ c4) (hl : f3.length ≤ 1000) :
    Calls Try.prog 46 #[.agg #[.int .i64 f0, .string f1, .int .u64 f2, .slice A3 f3.length c3, .int .u64 f4, .int .u64 f5, .string f6], .agg #[.int .i64 f0, .string f1, .int .u64 f2, .slice A4 f3.length c4, .int .u64 f4, .int .u64 f5, .string f6]] W fun e w' => e = .returned (.bool true) ∧ Below W.heap.size W w' := by
  obtain ⟨b, hb, hb2⟩ := rsame_is f0 f0 f1 f1 f2 f2 f3 f3 f4 f4 f5 f5 f6 f6 (by omega) 2000 (by omega)
  rw [hb2.2 ⟨rfl, rfl, rfl, rfl, rfl, rfl, rfl⟩] at hb
  exact tephraref08_Same.calls 2000 f0 f1 f2 A3 c3 f3 f4 f5 f6 f0 f1 f2 A4 c4 f3 f4 f5 f6 true W h1 hc3 h2 hc4 hb
set_option maxHeartbeats 4000000 in
set_option maxRecDepth 100000 in
theorem st_main (A : Option Addr) (c : Nat) (x0 : Int) (x1 : ByteArray) (x2 : Int) (x3 : List S76) (x4 x5 : Int) (x6 : ByteArray) (n0 n1 n2 : Int) (hn0 : 0 ≤ n0 ∧ n0 ≤ 255) (hn1 : 0 ≤ n1 ∧ n1 ≤ 255) (hn2 : 0 ≤ n2 ∧ n2 ≤ 255) (w : World) (hrA : Kd.C k76 w A x3.length x3) (hcA : x3.length ≤ c) (hga : ∃ k, tephralaw08_Great.f k x0 x1 x2 x3 x4 x5 x6 = some false) (hok : RecOk x1 x3 x6) (h : ¬ n1 % 3 < n0 % 3) (h2 : ¬ n2 % 3 < n1 % 3) (hm : mayB (1 + n0 % 3) x0 x1 x2 x3 x4 x5 x6 = true) :
    Calls Try.prog 11 #[.agg #[.int .i64 x0, .string x1, .int .u64 x2, .slice A x3.length c, .int .u64 x4, .int .u64 x5, .string x6], .agg #[.int .u8 n0, .int .u8 n1, .int .u8 n2]] w fun e w' => e = .returned (.bool true) ∧ Below w.heap.size w w' := by
  obtain ⟨w1, hw1⟩ : ∃ w1, (w.alloc (.cells #[.int .i64 x0, .string x1, .int .u64 x2, .slice A x3.length c, .int .u64 x4, .int .u64 x5, .string x6] 70)).alloc (.cells #[.int .u8 n0, .int .u8 n1, .int .u8 n2] 79) = w1 := ⟨_, rfl⟩
  have hb1 : Below w.heap.size w w1 := by rw [← hw1]; exact ((Below.refl _ _).alloc (Nat.le_refl _) _).alloc (by rw [heap_size_alloc]; omega) _
  have hk2 : w1.heap[w.heap.size]? = some (.cells #[.int .i64 x0, .string x1, .int .u64 x2, .slice A x3.length c, .int .u64 x4, .int .u64 x5, .string x6] 70 (0, 0)) := by rw [← hw1, heap_new_old _ _ _ (by rw [heap_size_alloc]; omega)]; exact heap_new _ _
  have hk3 : w1.heap[w.heap.size + 1]? = some (.cells #[.int .u8 n0, .int .u8 n1, .int .u8 n2] 79 (0, 0)) := by
    rw [← hw1]; have := heap_new (w.alloc (.cells #[.int .i64 x0, .string x1, .int .u64 x2, .slice A x3.length c, .int .u64 x4, .int .u64 x5, .string x6] 70)) (.cells #[.int .u8 n0, .int .u8 n1, .int .u8 n2] 79); rwa [heap_size_alloc] at this
  obtain ⟨b2, hb2⟩ : ∃ b, w.heap.size = b := ⟨_, rfl⟩
  obtain ⟨b3, hb3⟩ : ∃ b, w.heap.size + 1 = b := ⟨_, rfl⟩
  rw [hb2] at hk2
  rw [hb3] at hk3
  have a0 : w1.cell? ⟨b2, 0, none⟩ = some (.int .i64 x0) := (blk_cell hk2 0).trans rfl
  have a1 : w1.cell? ⟨b2, 1, none⟩ = some (.string x1) := (blk_cell hk2 1).trans rfl
  have a2 : w1.cell? ⟨b2, 2, none⟩ = some (.int .u64 x2) := (blk_cell hk2 2).trans rfl
  have a3 : w1.cell? ⟨b2, 3, none⟩ = some (.slice A x3.length c) := (blk_cell hk2 3).trans rfl
  have a4 : w1.cell? ⟨b2, 4, none⟩ = some (.int .u64 x4) := (blk_cell hk2 4).trans rfl
  have a5 : w1.cell? ⟨b2, 5, none⟩ = some (.int .u64 x5) := (blk_cell hk2 5).trans rfl
  have a6 : w1.cell? ⟨b2, 6, none⟩ = some (.string x6) := (blk_cell hk2 6).trans rfl
  have KA1 := Lib.hid hk2
  have KN1 := Lib.hid hk3
  have HB1 := Lib.hid hb1
  have HW1 := Lib.hid hw1
  have HB2_ := Lib.hid hb2
  have HB3_ := Lib.hid hb3
  have HGA := Lib.hid (great_at x0 x1 x2 A c x3 x4 x5 x6 w1 false (Kd.C_below hrA hb1) hcA hga)
  have HCA := Lib.hid (fun (W : World) (h : Below w.heap.size w W) => Kd.C_below hrA h)
  have HMY := Lib.hid (fun (W : World) (h : Below w.heap.size w W) => refMay_any (1 + n0 % 3) x0 x1 x2 A c x3 x4 x5 x6 W (Kd.C_below hrA h) hcA hok)
  rw [hm] at HMY
  have hu1 : 0 ≤ n0 % 3 := Int.emod_nonneg _ (by decide)
  have hz1 : n2 % 3 < 3 := Int.emod_lt_of_pos _ (by decide)
  have hmv := mayB_to (v := 1 + n1 % 3) (by omega) (by omega) (by omega) hm
  have hmz := mayB_to (v := 1 + n2 % 3) (by omega) (by omega) (by omega) hm
  have hokv : RecOk x1 x3 (toT x0 (1 + n0 % 3) (1 + n1 % 3) x6) := ⟨hok.n, hok.t, toT_size _ _ _ _ hok.tag, hok.d⟩
  have hokz : RecOk x1 x3 (toT x0 (1 + n0 % 3) (1 + n2 % 3) x6) := ⟨hok.n, hok.t, toT_size _ _ _ _ hok.tag, hok.d⟩
  have HT1 := Lib.hid (fun (W : World) (h : Below w.heap.size w W) => mto_ok (1 + n0 % 3) (1 + n1 % 3) x0 x1 x2 A c x3 x4 x5 x6 W (Kd.C_below hrA h) hcA hok (by omega) hm)
  have HT2 := Lib.hid (fun (W : World) (A3 : Option Addr) (c3 : Nat) (h1 : Kd.C k76 W A3 x3.length x3) (h2 : x3.length ≤ c3) => mto_ok (1 + n1 % 3) (1 + n2 % 3) x0 x1 x2 A3 c3 x3 x4 (toW x0 (1 + n0 % 3) (1 + n1 % 3) x5) (toT x0 (1 + n0 % 3) (1 + n1 % 3) x6) W h1 h2 hokv (by omega) hmv)
  rw [toW_then _ _ _ _ _ (by omega) (by omega), toT_then _ _ _ _ _ (by omega) (by omega)] at HT2
  have HT3 := Lib.hid (fun (W : World) (h : Below w.heap.size w W) => mto_ok (1 + n0 % 3) (1 + n2 % 3) x0 x1 x2 A c x3 x4 x5 x6 W (Kd.C_below hrA h) hcA hok (by omega) hm)
  have HM2 := Lib.hid (fun (W : World) (A3 : Option Addr) (c3 : Nat) (h1 : Kd.C k76 W A3 x3.length x3) (h2 : x3.length ≤ c3) => may_any (1 + n1 % 3) x0 x1 x2 A3 c3 x3 x4 (toW x0 (1 + n0 % 3) (1 + n1 % 3) x5) (toT x0 (1 + n0 % 3) (1 + n1 % 3) x6) W h1 h2 hokv)
  have HM3 := Lib.hid (fun (W : World) (A3 : Option Addr) (c3 : Nat) (h1 : Kd.C k76 W A3 x3.length x3) (h2 : x3.length ≤ c3) => may_any (1 + n2 % 3) x0 x1 x2 A3 c3 x3 x4 (toW x0 (1 + n0 % 3) (1 + n2 % 3) x5) (toT x0 (1 + n0 % 3) (1 + n2 % 3) x6) W h1 h2 hokz)
  rw [hmv] at HM2
  rw [hmz] at HM3
  have hl := hok.n
  have HSM := Lib.hid (fun (W : World) (A4 A5 : Option Addr) (c4 c5 : Nat) (y5 : Int) (y6 : ByteArray) (h1 : Kd.C k76 W A4 x3.length x3) (h2 : Kd.C k76 W A5 x3.length x3) (h3 : x3.length ≤ c4) (h4 : x3.length ≤ c5) => same_self x0 x1 x2 x3 x4 y5 y6 A4 A5 c4 c5 W h1 h2 h3 h4 hl)
  have HUZ := Lib.hid (show 1 + n0 % 3 = 1 + n2 % 3 → toW x0 (1 + n0 % 3) (1 + n2 % 3) x5 = x5 ∧ toT x0 (1 + n0 % 3) (1 + n2 % 3) x6 = x6 from fun e => by rw [e, toW_self, toT_self]; exact ⟨rfl, rfl⟩)
  have HCC := Lib.hid hcA
  generalize toW x0 (1 + n0 % 3) (1 + n1 % 3) x5 = W1 at *
  generalize toT x0 (1 + n0 % 3) (1 + n1 % 3) x6 = T1 at *
  generalize toW x0 (1 + n0 % 3) (1 + n2 % 3) x5 = W3 at *
  generalize toT x0 (1 + n0 % 3) (1 + n2 % 3) x6 = T3 at *
  clear hmv hmz hokv hokz hl hu1 hz1
  clear hrA hb1 hw1 hk2 hb2 hga hok hb3 hk3
  obtain ⟨r0, hr0⟩ : ∃ r, n0 % 3 = r := ⟨_, rfl⟩
  obtain ⟨r1, hr1⟩ : ∃ r, n1 % 3 = r := ⟨_, rfl⟩
  obtain ⟨r2, hr2⟩ : ∃ r, n2 % 3 = r := ⟨_, rfl⟩
  go_enter Try.func11, Try.ntmps11
  go_wp2_with fail
  rw [HW1.out, HB3_.out, HB2_.out]
  refine HGA.out.mono ?_
  rintro e w2 ⟨rfl, hb⟩
  have HB2 := Lib.hid (HB1.out.trans (hb.mono HB1.out.size))
  have KA2 := Lib.hid (blk_below KA1.out hb)
  have hkn := blk_below KN1.out hb
  clear a0 a1 a2 a3 a4 a5 a6
  have q0 : w2.cell? ⟨b3, 0, none⟩ = some (.int .u8 n0) := (blk_cell hkn 0).trans rfl
  have q1 : w2.cell? ⟨b3, 1, none⟩ = some (.int .u8 n1) := (blk_cell hkn 1).trans rfl
  have q2 : w2.cell? ⟨b3, 2, none⟩ = some (.int .u8 n2) := (blk_cell hkn 2).trans rfl
  clear hkn hb HGA
  go_wp2_with fail
  go_quiet (fail)
  clear q0 q1 q2
  obtain ⟨w3, hw3⟩ : ∃ w3, w2.drewN nq = w3 := ⟨_, rfl⟩
  have HB3 := Lib.hid (hw3 ▸ pw_below_drewN HB2.out nq : Below w.heap.size w w3)
  have KA3 := Lib.hid (hw3 ▸ KA2.out : w3.heap[b2]? = some (.cells #[.int .i64 x0, .string x1, .int .u64 x2, .slice A x3.length c, .int .u64 x4, .int .u64 x5, .string x6] 70 (0, 0)))
  rw [hw3, hr0, hr1, hr2]
  clear hw3 hn0 hn1 hn2
  rw [hr0, hr1] at h
  rw [hr1, hr2] at h2
  rw [hr0] at HMY
  rw [hr0, hr1] at HT1
  rw [hr1, hr2] at HT2
  rw [hr0, hr2] at HT3
  rw [hr1] at HM2
  rw [hr2] at HM3
  rw [hr0, hr2] at HUZ
  clear hr0 hr1 hr2 hm
  have d1 : decide (r1 < r0) = false := decide_eq_false (by omega)
  have d2 : decide (r2 < r1) = false := decide_eq_false (by omega)
  have a0 : w3.cell? ⟨b2, 0, none⟩ = some (.int .i64 x0) := (blk_cell KA3.out 0).trans rfl
  have a1 : w3.cell? ⟨b2, 1, none⟩ = some (.string x1) := (blk_cell KA3.out 1).trans rfl
  have a2 : w3.cell? ⟨b2, 2, none⟩ = some (.int .u64 x2) := (blk_cell KA3.out 2).trans rfl
  have a3 : w3.cell? ⟨b2, 3, none⟩ = some (.slice A x3.length c) := (blk_cell KA3.out 3).trans rfl
  have a4 : w3.cell? ⟨b2, 4, none⟩ = some (.int .u64 x4) := (blk_cell KA3.out 4).trans rfl
  have a5 : w3.cell? ⟨b2, 5, none⟩ = some (.int .u64 x5) := (blk_cell KA3.out 5).trans rfl
  have a6 : w3.cell? ⟨b2, 6, none⟩ = some (.string x6) := (blk_cell KA3.out 6).trans rfl
  go_wp2_with fail
  refine (HMY.out w3 HB3.out).mono ?_
  rintro e w4 ⟨rfl, hb⟩
  clear a0 a1 a2 a3 a4 a5 a6
  have HB4 := Lib.hid (HB3.out.trans (hb.mono HB3.out.size))
  have KA4 := Lib.hid (blk_below KA3.out hb)
  clear hb
  have a0 : w4.cell? ⟨b2, 0, none⟩ = some (.int .i64 x0) := (blk_cell KA4.out 0).trans rfl
  have a1 : w4.cell? ⟨b2, 1, none⟩ = some (.string x1) := (blk_cell KA4.out 1).trans rfl
  have a2 : w4.cell? ⟨b2, 2, none⟩ = some (.int .u64 x2) := (blk_cell KA4.out 2).trans rfl
  have a3 : w4.cell? ⟨b2, 3, none⟩ = some (.slice A x3.length c) := (blk_cell KA4.out 3).trans rfl
  have a4 : w4.cell? ⟨b2, 4, none⟩ = some (.int .u64 x4) := (blk_cell KA4.out 4).trans rfl
  have a5 : w4.cell? ⟨b2, 5, none⟩ = some (.int .u64 x5) := (blk_cell KA4.out 5).trans rfl
  have a6 : w4.cell? ⟨b2, 6, none⟩ = some (.string x6) := (blk_cell KA4.out 6).trans rfl
  go_wp2_with fail
  clear a0 a1 a2 a3 a4 a5 a6
  refine (HT1.out w4 HB4.out).mono ?_
  rintro e w5 ⟨A3, c3, rfl, hR, hb⟩
  have HB5 := Lib.hid (HB4.out.trans (hb.mono HB4.out.size))
  have CA35 := Lib.hid (And.intro (Kd.R_reads' hR).2.2 (Kd.R_reads' hR).2.1)
  have KA5 := Lib.hid (blk_below KA4.out hb)
  clear hR hb
  have hk_ : (w5.alloc (.cells #[.int .i64 x0, .string x1, .int .u64 x2, .slice A3 x3.length c3, .int .u64 x4, .int .u64 W1, .string T1] 70)).heap[w5.heap.size]? = _ := heap_new _ _
  have a0 : (w5.alloc (.cells #[.int .i64 x0, .string x1, .int .u64 x2, .slice A3 x3.length c3, .int .u64 x4, .int .u64 W1, .string T1] 70)).cell? ⟨w5.heap.size, 0, none⟩ = some (.int .i64 x0) := (blk_cell hk_ 0).trans rfl
  have a1 : (w5.alloc (.cells #[.int .i64 x0, .string x1, .int .u64 x2, .slice A3 x3.length c3, .int .u64 x4, .int .u64 W1, .string T1] 70)).cell? ⟨w5.heap.size, 1, none⟩ = some (.string x1) := (blk_cell hk_ 1).trans rfl
  have a2 : (w5.alloc (.cells #[.int .i64 x0, .string x1, .int .u64 x2, .slice A3 x3.length c3, .int .u64 x4, .int .u64 W1, .string T1] 70)).cell? ⟨w5.heap.size, 2, none⟩ = some (.int .u64 x2) := (blk_cell hk_ 2).trans rfl
  have a3 : (w5.alloc (.cells #[.int .i64 x0, .string x1, .int .u64 x2, .slice A3 x3.length c3, .int .u64 x4, .int .u64 W1, .string T1] 70)).cell? ⟨w5.heap.size, 3, none⟩ = some (.slice A3 x3.length c3) := (blk_cell hk_ 3).trans rfl
  have a4 : (w5.alloc (.cells #[.int .i64 x0, .string x1, .int .u64 x2, .slice A3 x3.length c3, .int .u64 x4, .int .u64 W1, .string T1] 70)).cell? ⟨w5.heap.size, 4, none⟩ = some (.int .u64 x4) := (blk_cell hk_ 4).trans rfl
  have a5 : (w5.alloc (.cells #[.int .i64 x0, .string x1, .int .u64 x2, .slice A3 x3.length c3, .int .u64 x4, .int .u64 W1, .string T1] 70)).cell? ⟨w5.heap.size, 5, none⟩ = some (.int .u64 W1) := (blk_cell hk_ 5).trans rfl
  have a6 : (w5.alloc (.cells #[.int .i64 x0, .string x1, .int .u64 x2, .slice A3 x3.length c3, .int .u64 x4, .int .u64 W1, .string T1] 70)).cell? ⟨w5.heap.size, 6, none⟩ = some (.string T1) := (blk_cell hk_ 6).trans rfl
  clear hk_
  go_wp2_with fail
  clear a0 a1 a2 a3 a4 a5 a6
  obtain ⟨w6, hw⟩ : ∃ w6, w5.alloc (.cells #[.int .i64 x0, .string x1, .int .u64 x2, .slice A3 x3.length c3, .int .u64 x4, .int .u64 W1, .string T1] 70) = w6 := ⟨_, rfl⟩
  have hbN : Below w5.heap.size w5 w6 := by rw [← hw]; exact (Below.refl _ _).alloc (Nat.le_refl _) _
  have hkN : w6.heap[w5.heap.size]? = some (.cells #[.int .i64 x0, .string x1, .int .u64 x2, .slice A3 x3.length c3, .int .u64 x4, .int .u64 W1, .string T1] 70 (0, 0)) := by rw [← hw]; exact heap_new _ _
  rw [hw]
  obtain ⟨b8, hbx⟩ : ∃ b, w5.heap.size = b := ⟨_, rfl⟩
  have Hb8 := Lib.hid hbx
  have KC6 := Lib.hid (hbx ▸ hkN : w6.heap[b8]? = some (.cells #[.int .i64 x0, .string x1, .int .u64 x2, .slice A3 x3.length c3, .int .u64 x4, .int .u64 W1, .string T1] 70 (0, 0)))
  have HB6 := Lib.hid (HB5.out.trans (hbN.mono HB5.out.size))
  have KA6 := Lib.hid (blk_below KA5.out hbN)
  have CA36 := Lib.hid (And.intro (Kd.C_below CA35.out.1 hbN) CA35.out.2)
  rw [hbx]
  clear hbN hkN hw hbx
  refine (HT2.out w6 A3 c3 CA36.out.1 CA36.out.2).mono ?_
  rintro e w7 ⟨A4, c4, rfl, hR, hb⟩
  have HB7 := Lib.hid (HB6.out.trans (hb.mono HB6.out.size))
  have CA47 := Lib.hid (And.intro (Kd.R_reads' hR).2.2 (Kd.R_reads' hR).2.1)
  have CA37 := Lib.hid (And.intro (Kd.C_below CA36.out.1 hb) CA36.out.2)
  have KA7 := Lib.hid (blk_below KA6.out hb)
  have KC7 := Lib.hid (blk_below KC6.out hb)
  clear hR hb
  have hk_ : (w7.alloc (.cells #[.int .i64 x0, .string x1, .int .u64 x2, .slice A4 x3.length c4, .int .u64 x4, .int .u64 W3, .string T3] 70)).heap[b2]? = _ := (heap_new_old _ _ _ (blk_lt KA7.out)).trans KA7.out
  have a0 : (w7.alloc (.cells #[.int .i64 x0, .string x1, .int .u64 x2, .slice A4 x3.length c4, .int .u64 x4, .int .u64 W3, .string T3] 70)).cell? ⟨b2, 0, none⟩ = some (.int .i64 x0) := (blk_cell hk_ 0).trans rfl
  have a1 : (w7.alloc (.cells #[.int .i64 x0, .string x1, .int .u64 x2, .slice A4 x3.length c4, .int .u64 x4, .int .u64 W3, .string T3] 70)).cell? ⟨b2, 1, none⟩ = some (.string x1) := (blk_cell hk_ 1).trans rfl
  have a2 : (w7.alloc (.cells #[.int .i64 x0, .string x1, .int .u64 x2, .slice A4 x3.length c4, .int .u64 x4, .int .u64 W3, .string T3] 70)).cell? ⟨b2, 2, none⟩ = some (.int .u64 x2) := (blk_cell hk_ 2).trans rfl
  have a3 : (w7.alloc (.cells #[.int .i64 x0, .string x1, .int .u64 x2, .slice A4 x3.length c4, .int .u64 x4, .int .u64 W3, .string T3] 70)).cell? ⟨b2, 3, none⟩ = some (.slice A x3.length c) := (blk_cell hk_ 3).trans rfl
  have a4 : (w7.alloc (.cells #[.int .i64 x0, .string x1, .int .u64 x2, .slice A4 x3.length c4, .int .u64 x4, .int .u64 W3, .string T3] 70)).cell? ⟨b2, 4, none⟩ = some (.int .u64 x4) := (blk_cell hk_ 4).trans rfl
  have a5 : (w7.alloc (.cells #[.int .i64 x0, .string x1, .int .u64 x2, .slice A4 x3.length c4, .int .u64 x4, .int .u64 W3, .string T3] 70)).cell? ⟨b2, 5, none⟩ = some (.int .u64 x5) := (blk_cell hk_ 5).trans rfl
  have a6 : (w7.alloc (.cells #[.int .i64 x0, .string x1, .int .u64 x2, .slice A4 x3.length c4, .int .u64 x4, .int .u64 W3, .string T3] 70)).cell? ⟨b2, 6, none⟩ = some (.string x6) := (blk_cell hk_ 6).trans rfl
  clear hk_
  go_wp2_with fail
  clear a0 a1 a2 a3 a4 a5 a6
  obtain ⟨w8, hw⟩ : ∃ w8, w7.alloc (.cells #[.int .i64 x0, .string x1, .int .u64 x2, .slice A4 x3.length c4, .int .u64 x4, .int .u64 W3, .string T3] 70) = w8 := ⟨_, rfl⟩
  have hbN : Below w7.heap.size w7 w8 := by rw [← hw]; exact (Below.refl _ _).alloc (Nat.le_refl _) _
  have hkN : w8.heap[w7.heap.size]? = some (.cells #[.int .i64 x0, .string x1, .int .u64 x2, .slice A4 x3.length c4, .int .u64 x4, .int .u64 W3, .string T3] 70 (0, 0)) := by rw [← hw]; exact heap_new _ _
  rw [hw]
  obtain ⟨b10, hbx⟩ : ∃ b, w7.heap.size = b := ⟨_, rfl⟩
  have Hb10 := Lib.hid hbx
  have KD8 := Lib.hid (hbx ▸ hkN : w8.heap[b10]? = some (.cells #[.int .i64 x0, .string x1, .int .u64 x2, .slice A4 x3.length c4, .int .u64 x4, .int .u64 W3, .string T3] 70 (0, 0)))
  have HB8 := Lib.hid (HB7.out.trans (hbN.mono HB7.out.size))
  have KA8 := Lib.hid (blk_below KA7.out hbN)
  have KC8 := Lib.hid (blk_below KC7.out hbN)
  have CA38 := Lib.hid (And.intro (Kd.C_below CA37.out.1 hbN) CA37.out.2)
  have CA48 := Lib.hid (And.intro (Kd.C_below CA47.out.1 hbN) CA47.out.2)
  rw [hbx]
  clear hbN hkN hw hbx
  refine (HT3.out w8 HB8.out).mono ?_
  rintro e w9 ⟨A5, c5, rfl, hR, hb⟩
  have HB9 := Lib.hid (HB8.out.trans (hb.mono HB8.out.size))
  have CA59 := Lib.hid (And.intro (Kd.R_reads' hR).2.2 (Kd.R_reads' hR).2.1)
  have CA39 := Lib.hid (And.intro (Kd.C_below CA38.out.1 hb) CA38.out.2)
  have CA49 := Lib.hid (And.intro (Kd.C_below CA48.out.1 hb) CA48.out.2)
  have KA9 := Lib.hid (blk_below KA8.out hb)
  have KC9 := Lib.hid (blk_below KC8.out hb)
  have KD9 := Lib.hid (blk_below KD8.out hb)
  clear hR hb
  have hk_ : (w9.alloc (.cells #[.int .i64 x0, .string x1, .int .u64 x2, .slice A5 x3.length c5, .int .u64 x4, .int .u64 W3, .string T3] 70)).heap[b10]? = _ := (heap_new_old _ _ _ (blk_lt KD9.out)).trans KD9.out
  have a0 : (w9.alloc (.cells #[.int .i64 x0, .string x1, .int .u64 x2, .slice A5 x3.length c5, .int .u64 x4, .int .u64 W3, .string T3] 70)).cell? ⟨b10, 0, none⟩ = some (.int .i64 x0) := (blk_cell hk_ 0).trans rfl
  have a1 : (w9.alloc (.cells #[.int .i64 x0, .string x1, .int .u64 x2, .slice A5 x3.length c5, .int .u64 x4, .int .u64 W3, .string T3] 70)).cell? ⟨b10, 1, none⟩ = some (.string x1) := (blk_cell hk_ 1).trans rfl
  have a2 : (w9.alloc (.cells #[.int .i64 x0, .string x1, .int .u64 x2, .slice A5 x3.length c5, .int .u64 x4, .int .u64 W3, .string T3] 70)).cell? ⟨b10, 2, none⟩ = some (.int .u64 x2) := (blk_cell hk_ 2).trans rfl
  have a3 : (w9.alloc (.cells #[.int .i64 x0, .string x1, .int .u64 x2, .slice A5 x3.length c5, .int .u64 x4, .int .u64 W3, .string T3] 70)).cell? ⟨b10, 3, none⟩ = some (.slice A4 x3.length c4) := (blk_cell hk_ 3).trans rfl
  have a4 : (w9.alloc (.cells #[.int .i64 x0, .string x1, .int .u64 x2, .slice A5 x3.length c5, .int .u64 x4, .int .u64 W3, .string T3] 70)).cell? ⟨b10, 4, none⟩ = some (.int .u64 x4) := (blk_cell hk_ 4).trans rfl
  have a5 : (w9.alloc (.cells #[.int .i64 x0, .string x1, .int .u64 x2, .slice A5 x3.length c5, .int .u64 x4, .int .u64 W3, .string T3] 70)).cell? ⟨b10, 5, none⟩ = some (.int .u64 W3) := (blk_cell hk_ 5).trans rfl
  have a6 : (w9.alloc (.cells #[.int .i64 x0, .string x1, .int .u64 x2, .slice A5 x3.length c5, .int .u64 x4, .int .u64 W3, .string T3] 70)).cell? ⟨b10, 6, none⟩ = some (.string T3) := (blk_cell hk_ 6).trans rfl
  clear hk_
  have hk_ : (w9.alloc (.cells #[.int .i64 x0, .string x1, .int .u64 x2, .slice A5 x3.length c5, .int .u64 x4, .int .u64 W3, .string T3] 70)).heap[w9.heap.size]? = _ := heap_new _ _
  have q0 : (w9.alloc (.cells #[.int .i64 x0, .string x1, .int .u64 x2, .slice A5 x3.length c5, .int .u64 x4, .int .u64 W3, .string T3] 70)).cell? ⟨w9.heap.size, 0, none⟩ = some (.int .i64 x0) := (blk_cell hk_ 0).trans rfl
  have q1 : (w9.alloc (.cells #[.int .i64 x0, .string x1, .int .u64 x2, .slice A5 x3.length c5, .int .u64 x4, .int .u64 W3, .string T3] 70)).cell? ⟨w9.heap.size, 1, none⟩ = some (.string x1) := (blk_cell hk_ 1).trans rfl
  have q2 : (w9.alloc (.cells #[.int .i64 x0, .string x1, .int .u64 x2, .slice A5 x3.length c5, .int .u64 x4, .int .u64 W3, .string T3] 70)).cell? ⟨w9.heap.size, 2, none⟩ = some (.int .u64 x2) := (blk_cell hk_ 2).trans rfl
  have q3 : (w9.alloc (.cells #[.int .i64 x0, .string x1, .int .u64 x2, .slice A5 x3.length c5, .int .u64 x4, .int .u64 W3, .string T3] 70)).cell? ⟨w9.heap.size, 3, none⟩ = some (.slice A5 x3.length c5) := (blk_cell hk_ 3).trans rfl
  have q4 : (w9.alloc (.cells #[.int .i64 x0, .string x1, .int .u64 x2, .slice A5 x3.length c5, .int .u64 x4, .int .u64 W3, .string T3] 70)).cell? ⟨w9.heap.size, 4, none⟩ = some (.int .u64 x4) := (blk_cell hk_ 4).trans rfl
  have q5 : (w9.alloc (.cells #[.int .i64 x0, .string x1, .int .u64 x2, .slice A5 x3.length c5, .int .u64 x4, .int .u64 W3, .string T3] 70)).cell? ⟨w9.heap.size, 5, none⟩ = some (.int .u64 W3) := (blk_cell hk_ 5).trans rfl
  have q6 : (w9.alloc (.cells #[.int .i64 x0, .string x1, .int .u64 x2, .slice A5 x3.length c5, .int .u64 x4, .int .u64 W3, .string T3] 70)).cell? ⟨w9.heap.size, 6, none⟩ = some (.string T3) := (blk_cell hk_ 6).trans rfl
  clear hk_
  go_wp2_with fail
  clear a0 a1 a2 a3 a4 a5 a6
  clear q0 q1 q2 q3 q4 q5 q6
  obtain ⟨w10, hw⟩ : ∃ w10, w9.alloc (.cells #[.int .i64 x0, .string x1, .int .u64 x2, .slice A5 x3.length c5, .int .u64 x4, .int .u64 W3, .string T3] 70) = w10 := ⟨_, rfl⟩
  have hbN : Below w9.heap.size w9 w10 := by rw [← hw]; exact (Below.refl _ _).alloc (Nat.le_refl _) _
  have hkN : w10.heap[w9.heap.size]? = some (.cells #[.int .i64 x0, .string x1, .int .u64 x2, .slice A5 x3.length c5, .int .u64 x4, .int .u64 W3, .string T3] 70 (0, 0)) := by rw [← hw]; exact heap_new _ _
  rw [hw]
  obtain ⟨b12, hbx⟩ : ∃ b, w9.heap.size = b := ⟨_, rfl⟩
  have Hb12 := Lib.hid hbx
  have KE10 := Lib.hid (hbx ▸ hkN : w10.heap[b12]? = some (.cells #[.int .i64 x0, .string x1, .int .u64 x2, .slice A5 x3.length c5, .int .u64 x4, .int .u64 W3, .string T3] 70 (0, 0)))
  have HB10 := Lib.hid (HB9.out.trans (hbN.mono HB9.out.size))
  have KA10 := Lib.hid (blk_below KA9.out hbN)
  have KC10 := Lib.hid (blk_below KC9.out hbN)
  have KD10 := Lib.hid (blk_below KD9.out hbN)
  have CA310 := Lib.hid (And.intro (Kd.C_below CA39.out.1 hbN) CA39.out.2)
  have CA410 := Lib.hid (And.intro (Kd.C_below CA49.out.1 hbN) CA49.out.2)
  have CA510 := Lib.hid (And.intro (Kd.C_below CA59.out.1 hbN) CA59.out.2)
  rw [hbx]
  clear hbN hkN hw hbx
  refine (HSM.out w10 A4 A5 c4 c5 W3 T3 CA410.out.1 CA510.out.1 CA410.out.2 CA510.out.2).mono ?_
  rintro e w11 ⟨rfl, hb⟩
  have HB11 := Lib.hid (HB10.out.trans (hb.mono HB10.out.size))
  have CA311 := Lib.hid (And.intro (Kd.C_below CA310.out.1 hb) CA310.out.2)
  have CA411 := Lib.hid (And.intro (Kd.C_below CA410.out.1 hb) CA410.out.2)
  have CA511 := Lib.hid (And.intro (Kd.C_below CA510.out.1 hb) CA510.out.2)
  have KA11 := Lib.hid (blk_below KA10.out hb)
  have KC11 := Lib.hid (blk_below KC10.out hb)
  have KD11 := Lib.hid (blk_below KD10.out hb)
  have KE11 := Lib.hid (blk_below KE10.out hb)
  clear hb
  have a0 : w11.cell? ⟨b8, 0, none⟩ = some (.int .i64 x0) := (blk_cell KC11.out 0).trans rfl
  have a1 : w11.cell? ⟨b8, 1, none⟩ = some (.string x1) := (blk_cell KC11.out 1).trans rfl
  have a2 : w11.cell? ⟨b8, 2, none⟩ = some (.int .u64 x2) := (blk_cell KC11.out 2).trans rfl
  have a3 : w11.cell? ⟨b8, 3, none⟩ = some (.slice A3 x3.length c3) := (blk_cell KC11.out 3).trans rfl
  have a4 : w11.cell? ⟨b8, 4, none⟩ = some (.int .u64 x4) := (blk_cell KC11.out 4).trans rfl
  have a5 : w11.cell? ⟨b8, 5, none⟩ = some (.int .u64 W1) := (blk_cell KC11.out 5).trans rfl
  have a6 : w11.cell? ⟨b8, 6, none⟩ = some (.string T1) := (blk_cell KC11.out 6).trans rfl
  go_wp2_with fail
  clear a0 a1 a2 a3 a4 a5 a6
  refine (HM2.out w11 A3 c3 CA311.out.1 CA311.out.2).mono ?_
  rintro e w12 ⟨rfl, hb⟩
  have HB12 := Lib.hid (HB11.out.trans (hb.mono HB11.out.size))
  have CA412 := Lib.hid (And.intro (Kd.C_below CA411.out.1 hb) CA411.out.2)
  have CA512 := Lib.hid (And.intro (Kd.C_below CA511.out.1 hb) CA511.out.2)
  have KA12 := Lib.hid (blk_below KA11.out hb)
  have KC12 := Lib.hid (blk_below KC11.out hb)
  have KD12 := Lib.hid (blk_below KD11.out hb)
  have KE12 := Lib.hid (blk_below KE11.out hb)
  clear hb
  have a0 : w12.cell? ⟨b10, 0, none⟩ = some (.int .i64 x0) := (blk_cell KD12.out 0).trans rfl
  have a1 : w12.cell? ⟨b10, 1, none⟩ = some (.string x1) := (blk_cell KD12.out 1).trans rfl
  have a2 : w12.cell? ⟨b10, 2, none⟩ = some (.int .u64 x2) := (blk_cell KD12.out 2).trans rfl
  have a3 : w12.cell? ⟨b10, 3, none⟩ = some (.slice A4 x3.length c4) := (blk_cell KD12.out 3).trans rfl
  have a4 : w12.cell? ⟨b10, 4, none⟩ = some (.int .u64 x4) := (blk_cell KD12.out 4).trans rfl
  have a5 : w12.cell? ⟨b10, 5, none⟩ = some (.int .u64 W3) := (blk_cell KD12.out 5).trans rfl
  have a6 : w12.cell? ⟨b10, 6, none⟩ = some (.string T3) := (blk_cell KD12.out 6).trans rfl
  go_wp2_with fail
  clear a0 a1 a2 a3 a4 a5 a6
  refine (HM3.out w12 A4 c4 CA412.out.1 CA412.out.2).mono ?_
  rintro e w13 ⟨rfl, hb⟩
  have HB13 := Lib.hid (HB12.out.trans (hb.mono HB12.out.size))
  have CA513 := Lib.hid (And.intro (Kd.C_below CA512.out.1 hb) CA512.out.2)
  have KA13 := Lib.hid (blk_below KA12.out hb)
  have KC13 := Lib.hid (blk_below KC12.out hb)
  have KD13 := Lib.hid (blk_below KD12.out hb)
  have KE13 := Lib.hid (blk_below KE12.out hb)
  clear hb
  have q0 : w13.cell? ⟨b12, 0, none⟩ = some (.int .i64 x0) := (blk_cell KE13.out 0).trans rfl
  have q1 : w13.cell? ⟨b12, 1, none⟩ = some (.string x1) := (blk_cell KE13.out 1).trans rfl
  have q2 : w13.cell? ⟨b12, 2, none⟩ = some (.int .u64 x2) := (blk_cell KE13.out 2).trans rfl
  have q3 : w13.cell? ⟨b12, 3, none⟩ = some (.slice A5 x3.length c5) := (blk_cell KE13.out 3).trans rfl
  have q4 : w13.cell? ⟨b12, 4, none⟩ = some (.int .u64 x4) := (blk_cell KE13.out 4).trans rfl
  have q5 : w13.cell? ⟨b12, 5, none⟩ = some (.int .u64 W3) := (blk_cell KE13.out 5).trans rfl
  have q6 : w13.cell? ⟨b12, 6, none⟩ = some (.string T3) := (blk_cell KE13.out 6).trans rfl
  have hk_ : (w13.alloc (.cells #[.int .i64 x0, .string x1, .int .u64 x2, .slice A5 x3.length c5, .int .u64 x4, .int .u64 W3, .string T3] 70)).heap[b2]? = _ := (heap_new_old _ _ _ (blk_lt KA13.out)).trans KA13.out
  have a0 : (w13.alloc (.cells #[.int .i64 x0, .string x1, .int .u64 x2, .slice A5 x3.length c5, .int .u64 x4, .int .u64 W3, .string T3] 70)).cell? ⟨b2, 0, none⟩ = some (.int .i64 x0) := (blk_cell hk_ 0).trans rfl
  have a1 : (w13.alloc (.cells #[.int .i64 x0, .string x1, .int .u64 x2, .slice A5 x3.length c5, .int .u64 x4, .int .u64 W3, .string T3] 70)).cell? ⟨b2, 1, none⟩ = some (.string x1) := (blk_cell hk_ 1).trans rfl
  have a2 : (w13.alloc (.cells #[.int .i64 x0, .string x1, .int .u64 x2, .slice A5 x3.length c5, .int .u64 x4, .int .u64 W3, .string T3] 70)).cell? ⟨b2, 2, none⟩ = some (.int .u64 x2) := (blk_cell hk_ 2).trans rfl
  have a3 : (w13.alloc (.cells #[.int .i64 x0, .string x1, .int .u64 x2, .slice A5 x3.length c5, .int .u64 x4, .int .u64 W3, .string T3] 70)).cell? ⟨b2, 3, none⟩ = some (.slice A x3.length c) := (blk_cell hk_ 3).trans rfl
  have a4 : (w13.alloc (.cells #[.int .i64 x0, .string x1, .int .u64 x2, .slice A5 x3.length c5, .int .u64 x4, .int .u64 W3, .string T3] 70)).cell? ⟨b2, 4, none⟩ = some (.int .u64 x4) := (blk_cell hk_ 4).trans rfl
  have a5 : (w13.alloc (.cells #[.int .i64 x0, .string x1, .int .u64 x2, .slice A5 x3.length c5, .int .u64 x4, .int .u64 W3, .string T3] 70)).cell? ⟨b2, 5, none⟩ = some (.int .u64 x5) := (blk_cell hk_ 5).trans rfl
  have a6 : (w13.alloc (.cells #[.int .i64 x0, .string x1, .int .u64 x2, .slice A5 x3.length c5, .int .u64 x4, .int .u64 W3, .string T3] 70)).cell? ⟨b2, 6, none⟩ = some (.string x6) := (blk_cell hk_ 6).trans rfl
  clear hk_
  go_wp2_with fail
  clear a0 a1 a2 a3 a4 a5 a6
  clear q0 q1 q2 q3 q4 q5 q6
  obtain ⟨w14, hw⟩ : ∃ w14, w13.alloc (.cells #[.int .i64 x0, .string x1, .int .u64 x2, .slice A5 x3.length c5, .int .u64 x4, .int .u64 W3, .string T3] 70) = w14 := ⟨_, rfl⟩
  have hbN : Below w13.heap.size w13 w14 := by rw [← hw]; exact (Below.refl _ _).alloc (Nat.le_refl _) _
  have hkN : w14.heap[w13.heap.size]? = some (.cells #[.int .i64 x0, .string x1, .int .u64 x2, .slice A5 x3.length c5, .int .u64 x4, .int .u64 W3, .string T3] 70 (0, 0)) := by rw [← hw]; exact heap_new _ _
  rw [hw]
  obtain ⟨b14, hbx⟩ : ∃ b, w13.heap.size = b := ⟨_, rfl⟩
  rw [hbx] at hkN
  have HB14 := Lib.hid (HB13.out.trans (hbN.mono HB13.out.size))
  have hka := blk_below KA13.out hbN
  have hke := blk_below KE13.out hbN
  have CA514 := Lib.hid (And.intro (Kd.C_below CA513.out.1 hbN) CA513.out.2)
  have hne : b14 ≠ b2 := by have := blk_lt KA13.out; omega
  have hne2 : b2 ≠ b14 := Ne.symm hne
  have hge : w.heap.size ≤ b14 := by have := HB13.out.size; omega
  have hne12 : b14 ≠ b12 := by have := blk_lt KE13.out; omega
  have HNE := Lib.hid (And.intro hge hne12)
  have HN13 := Lib.hid (And.intro hbN (Nat.le_of_eq hbx : w13.heap.size ≤ b14))
  rw [hbx]
  clear hbN hw hbx hge hne12
  have a5 : w14.cell? ⟨b2, 5, none⟩ = some (.int .u64 x5) := (blk_cell hka 5).trans rfl
  have a6 : w14.cell? ⟨b2, 6, none⟩ = some (.string x6) := (blk_cell hka 6).trans rfl
  have q5 : w14.cell? ⟨b14, 5, none⟩ = some (.int .u64 W3) := (blk_cell hkN 5).trans rfl
  have q6 : w14.cell? ⟨b14, 6, none⟩ = some (.string T3) := (blk_cell hkN 6).trans rfl
  have qf5 := blk_frozen hkN 5
  have qf6 := blk_frozen hkN 6
  have KA14 := Lib.hid hka
  have KE14 := Lib.hid hke
  have KF14 := Lib.hid hkN
  clear hka hke hkN
  go_region
  obtain ⟨w15, hw⟩ : ∃ w15, ((w14.setCell ⟨b14, 5, none⟩ (.int .u64 x5)).setCell ⟨b14, 6, none⟩ (.string x6)).drew = w15 := ⟨_, rfl⟩
  have HB15 := Lib.hid (show Below w.heap.size w w15 by rw [← hw]; exact ((HB14.out.setCell (p := ⟨b14, 5, none⟩) HNE.out.1 _).setCell (p := ⟨b14, 6, none⟩) HNE.out.1 _).drew)
  have hN15 : Below w13.heap.size w13 w15 := by rw [← hw]; exact ((HN13.out.1.setCell (p := ⟨b14, 5, none⟩) HN13.out.2 _).setCell (p := ⟨b14, 6, none⟩) HN13.out.2 _).drew
  have CA515 := Lib.hid (And.intro (Kd.C_below CA513.out.1 hN15) CA513.out.2)
  have KF15 := Lib.hid (show w15.heap[b14]? = some (.cells #[.int .i64 x0, .string x1, .int .u64 x2, .slice A5 x3.length c5, .int .u64 x4, .int .u64 x5, .string x6] 70 (0, 0)) by
    rw [← hw]
    have h5 := blk_put (cs' := #[.int .i64 x0, .string x1, .int .u64 x2, .slice A5 x3.length c5, .int .u64 x4, .int .u64 x5, .string T3]) KF14.out 5 (.int .u64 x5) rfl
    exact blk_put (cs' := #[.int .i64 x0, .string x1, .int .u64 x2, .slice A5 x3.length c5, .int .u64 x4, .int .u64 x5, .string x6]) h5 6 (.string x6) rfl)
  have KA15 := Lib.hid (blk_below KA13.out hN15)
  have KE15 := Lib.hid (blk_below KE13.out hN15)
  rw [hw]
  clear hw hN15 a5 a6 q5 q6 qf5 qf6
  go_wp2_with fail
  refine (fixed11_any w15).mono ?_
  rintro e w16 ⟨rfl, hb⟩
  have HB16 := Lib.hid (HB15.out.trans (hb.mono HB15.out.size))
  have CA516 := Lib.hid (And.intro (Kd.C_below CA515.out.1 hb) CA515.out.2)
  have KA16 := Lib.hid (blk_below KA15.out hb)
  have KE16 := Lib.hid (blk_below KE15.out hb)
  have KF16 := Lib.hid (blk_below KF15.out hb)
  clear hb
  have a0 : w16.cell? ⟨b2, 0, none⟩ = some (.int .i64 x0) := (blk_cell KA16.out 0).trans rfl
  have a1 : w16.cell? ⟨b2, 1, none⟩ = some (.string x1) := (blk_cell KA16.out 1).trans rfl
  have a2 : w16.cell? ⟨b2, 2, none⟩ = some (.int .u64 x2) := (blk_cell KA16.out 2).trans rfl
  have a3 : w16.cell? ⟨b2, 3, none⟩ = some (.slice A x3.length c) := (blk_cell KA16.out 3).trans rfl
  have a4 : w16.cell? ⟨b2, 4, none⟩ = some (.int .u64 x4) := (blk_cell KA16.out 4).trans rfl
  have a5 : w16.cell? ⟨b2, 5, none⟩ = some (.int .u64 x5) := (blk_cell KA16.out 5).trans rfl
  have a6 : w16.cell? ⟨b2, 6, none⟩ = some (.string x6) := (blk_cell KA16.out 6).trans rfl
  have q0 : w16.cell? ⟨b14, 0, none⟩ = some (.int .i64 x0) := (blk_cell KF16.out 0).trans rfl
  have q1 : w16.cell? ⟨b14, 1, none⟩ = some (.string x1) := (blk_cell KF16.out 1).trans rfl
  have q2 : w16.cell? ⟨b14, 2, none⟩ = some (.int .u64 x2) := (blk_cell KF16.out 2).trans rfl
  have q3 : w16.cell? ⟨b14, 3, none⟩ = some (.slice A5 x3.length c5) := (blk_cell KF16.out 3).trans rfl
  have q4 : w16.cell? ⟨b14, 4, none⟩ = some (.int .u64 x4) := (blk_cell KF16.out 4).trans rfl
  have q5 : w16.cell? ⟨b14, 5, none⟩ = some (.int .u64 x5) := (blk_cell KF16.out 5).trans rfl
  have q6 : w16.cell? ⟨b14, 6, none⟩ = some (.string x6) := (blk_cell KF16.out 6).trans rfl
  go_wp2_with fail
  refine (HSM.out w16 A5 A c5 c x5 x6 CA516.out.1 (HCA.out w16 HB16.out) CA516.out.2 HCC.out).mono ?_
  rintro e w17 ⟨rfl, hb⟩
  have HB17 := Lib.hid (HB16.out.trans (hb.mono HB16.out.size))
  have CA517 := Lib.hid (And.intro (Kd.C_below CA516.out.1 hb) CA516.out.2)
  have KA17 := Lib.hid (blk_below KA16.out hb)
  have KE17 := Lib.hid (blk_below KE16.out hb)
  have KF17 := Lib.hid (blk_below KF16.out hb)
  clear hb
  clear a0 a1 a2 a3 a4 a5 a6
  clear q0 q1 q2 q3 q4 q5 q6
  by_cases huz : r0 = r2
  · have e1 := HUZ.out (by rw [huz])
    subst huz
    have a0 : w17.cell? ⟨b2, 0, none⟩ = some (.int .i64 x0) := (blk_cell KA17.out 0).trans rfl
    have a1 : w17.cell? ⟨b2, 1, none⟩ = some (.string x1) := (blk_cell KA17.out 1).trans rfl
    have a2 : w17.cell? ⟨b2, 2, none⟩ = some (.int .u64 x2) := (blk_cell KA17.out 2).trans rfl
    have a3 : w17.cell? ⟨b2, 3, none⟩ = some (.slice A x3.length c) := (blk_cell KA17.out 3).trans rfl
    have a4 : w17.cell? ⟨b2, 4, none⟩ = some (.int .u64 x4) := (blk_cell KA17.out 4).trans rfl
    have a5 : w17.cell? ⟨b2, 5, none⟩ = some (.int .u64 x5) := (blk_cell KA17.out 5).trans rfl
    have a6 : w17.cell? ⟨b2, 6, none⟩ = some (.string x6) := (blk_cell KA17.out 6).trans rfl
    have q0 : w17.cell? ⟨b12, 0, none⟩ = some (.int .i64 x0) := (blk_cell KE17.out 0).trans rfl
    have q1 : w17.cell? ⟨b12, 1, none⟩ = some (.string x1) := (blk_cell KE17.out 1).trans rfl
    have q2 : w17.cell? ⟨b12, 2, none⟩ = some (.int .u64 x2) := (blk_cell KE17.out 2).trans rfl
    have q3 : w17.cell? ⟨b12, 3, none⟩ = some (.slice A5 x3.length c5) := (blk_cell KE17.out 3).trans rfl
    have q4 : w17.cell? ⟨b12, 4, none⟩ = some (.int .u64 x4) := (blk_cell KE17.out 4).trans rfl
    have q5 : w17.cell? ⟨b12, 5, none⟩ = some (.int .u64 W3) := (blk_cell KE17.out 5).trans rfl
    have q6 : w17.cell? ⟨b12, 6, none⟩ = some (.string T3) := (blk_cell KE17.out 6).trans rfl
    have hb0 : (r0 != r0) = false := by simp
    go_wp2_with fail
    have HS := Lib.hid (HSM.out w17 A5 A c5 c x5 x6 CA517.out.1 (HCA.out w17 HB17.out) CA517.out.2 HCC.out)
    refine HS.out.mono ?_
    rintro e w18 ⟨rfl, hb⟩
    have HB18 := Lib.hid (HB17.out.trans (hb.mono HB17.out.size))
    clear hb a0 a1 a2 a3 a4 a5 a6 q0 q1 q2 q3 q4 q5 q6
    go_wp2_with fail
    go_ret
    exact ⟨rfl, HB18.out⟩
  · have hb0 : (r0 != r2) = true := by simpa using huz
    have hb1 : ((1 + r0) != (1 + r2)) = true := by simp; omega
    go_wp2_with fail
    go_ret
    exact ⟨rfl, HB17.out⟩
structure IsAt (W : World) (v : Value) (x : Int × Int × Int) : Prop where
  v : v = .agg #[.int .u8 x.1, .int .u8 x.2.1, .int .u8 x.2.2]
  a0 : 0 ≤ x.1 ∧ x.1 ≤ 255
  a1 : 0 ≤ x.2.1 ∧ x.2.1 ≤ 255
  a2 : 0 ≤ x.2.2 ∧ x.2.2 ≤ 255
theorem u8_of {n : Int} (h : (Lit.int .u8 n).wf = true) : 0 ≤ n ∧ n ≤ 255 := by
  simp [Lit.wf, IntKind.min, IntKind.max, IntKind.signed, IntKind.bits] at h; omega
abbrev RecT := (Int × ByteArray × Int × List S76 × Int × Int × ByteArray) × Option Addr × Nat
theorem walk (v0 : Value) (p0 : RecT) (v1 : Value) (p1 : Int × Int × Int) (w : World) (w0 : IsRec w v0 p0) (w1 : IsAt w v1 p1) :
    Calls Try.prog 11 #[v0, v1] w fun e w' => e = .returned (.bool true) ∧ Below w.heap.size w w' := by
  obtain ⟨⟨x0, x1, x2, x3, x4, x5, x6⟩, A, c⟩ := p0
  obtain ⟨n0, n1, n2⟩ := p1
  have hv := w0.v
  have hcA := w0.c
  have hrA := w0.row
  have hlA := w0.len
  have hv1 := w1.v
  have h0 := w1.a0
  have h1 := w1.a1
  have h2 := w1.a2
  dsimp only at hv hcA hrA hlA hv1 h0 h1 h2
  subst hv hv1
  obtain ⟨ga, hga, hga2⟩ := great_is x0 x1 x2 x3 x4 x5 x6 (by simp only [maxLen] at hlA; omega) (x3.length + 1) (by omega)
  cases ga with
  | true => exact st_great A c x0 x1 x2 x3 x4 x5 x6 n0 n1 n2 h0 h1 h2 w hrA hcA ⟨_, hga⟩
  | false =>
    have hok := (hga2 rfl).ok
    by_cases g1 : n1 % 3 < n0 % 3
    · exact st_gt1 A c x0 x1 x2 x3 x4 x5 x6 n0 n1 n2 h0 h1 h2 w hrA hcA ⟨_, hga⟩ hok g1
    · by_cases g2 : n2 % 3 < n1 % 3
      · exact st_gt2 A c x0 x1 x2 x3 x4 x5 x6 n0 n1 n2 h0 h1 h2 w hrA hcA ⟨_, hga⟩ hok g1 g2
      · cases hm : mayB (1 + n0 % 3) x0 x1 x2 x3 x4 x5 x6 with
        | false => exact st_may A c x0 x1 x2 x3 x4 x5 x6 n0 n1 n2 h0 h1 h2 w hrA hcA ⟨_, hga⟩ hok g1 g2 hm
        | true => exact st_main A c x0 x1 x2 x3 x4 x5 x6 n0 n1 n2 h0 h1 h2 w hrA hcA ⟨_, hga⟩ hok g1 g2 hm
end Go.Proofs.Ythpbkhagjgggjaa.WMigrateSteps
namespace Go.Proofs.Ythpbkhagjgggjaa
open Go.RowKit Go.Proofs.YthpbkhagjgggjaaW.PrintWords
theorem cellsOf_u8a : Try.prog.cellsOf 5 = 1 := by kernel_rfl
theorem cellsOf_at : Try.prog.cellsOf 79 = 3 := by kernel_rfl
theorem okWide_arr {P : Program} {W : World} {r : Reach} {b0 : Nat} {t e : TypeId} {n : Nat} {v : Value} (ht : P.underlying t = some (.array n e)) (h : Value.okWide P W r b0 t v) : ∃ cs, v = .agg cs ∧ cs.size = P.cellsOf t := by
  simp only [Value.okWide, ht] at h
  obtain ⟨cs, h1, h2, _⟩ := h
  exact ⟨cs, h1, h2⟩
set_option maxRecDepth 100000 in
theorem open_t79 {H : Type} {enc : TypeId × Value → H} {W : World} {base : Nat} {held : Bool} {v : Value} {d : DataW H} {ps : List MemPlace} {r : Reach} {b0 : Nat} (hval : Value.okWide Try.prog W r b0 79 v) (h : DataW.Trod enc Try.prog W base (fun _ => true) held 79 v d ps) :
    ∃ x, WMigrateSteps.IsAt W v x := by
  obtain ⟨cs, rfl, hs⟩ := okWide_arr Try.underlying79 hval
  rw [cellsOf_at] at hs
  obtain ⟨c0, c1, c2, rfl⟩ : ∃ c0 c1 c2, cs = #[c0, c1, c2] := by
    obtain ⟨l⟩ := cs
    match l, hs with
    | [a, b, c], _ => exact ⟨a, b, c, rfl⟩
  obtain ⟨fuel, hf⟩ := h
  have hf' : DataW.trod enc Try.prog W base (fun _ => true) held fuel 79 [c0, c1, c2] = some (d, ps) := hf
  obtain ⟨y0, y1, y2, n, _, h0, h1, h2⟩ := ChangeShapes.trod_array3 Try.underlying79 cellsOf_u8a hf'
  obtain ⟨m0, e0, _, g0⟩ := DataW.trod_int Try.underlying5 h0
  obtain ⟨m1, e1, _, g1⟩ := DataW.trod_int Try.underlying5 h1
  obtain ⟨m2, e2, _, g2⟩ := DataW.trod_int Try.underlying5 h2
  simp only [List.cons.injEq, and_true] at e0 e1 e2
  subst e0 e1 e2
  exact ⟨(m0, m1, m2), rfl, WMigrateSteps.u8_of g0, WMigrateSteps.u8_of g1, WMigrateSteps.u8_of g2⟩
end Go.Proofs.Ythpbkhagjgggjaa
