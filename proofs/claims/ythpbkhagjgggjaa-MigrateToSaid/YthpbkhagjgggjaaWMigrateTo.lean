/- The law MigrateTo: a record moved from any version to any other one, or a step on, is the document's. -/
import Derived.Test.YthpbkhagjgggjaaMigA
import Derived.Test.YthpbkhagjgggjaaReg
import Derived.Test.YthpbkhagjgggjaaRecO
import Derived.Deep.QuietTactic
import Derived.BigQuiet
set_option linter.unusedVariables false
set_option linter.unusedSimpArgs false
namespace Go.Proofs.Ythpbkhagjgggjaa.WMigrateTo
open Go.RowKit Go.Proofs.YthpbkhagjgggjaaW.PrintWords Go.Proofs.Ythpbkhagjgggjaa.GRR

theorem great_at (x0 : Int) (x1 : ByteArray) (x2 : Int) (A : Option Addr) (c : Nat) (x3 : List S76) (x4 x5 : Int) (x6 : ByteArray) (W : World) (g : Bool) (hr : Kd.C k76 W A x3.length x3) (hc : x3.length ≤ c) (hg : ∃ k, tephralaw08_Great.f k x0 x1 x2 x3 x4 x5 x6 = some g) :
    Calls Try.prog 42 #[.agg #[.int .i64 x0, .string x1, .int .u64 x2, .slice A x3.length c, .int .u64 x4, .int .u64 x5, .string x6]] W fun e w' => e = .returned (.bool g) ∧ Below W.heap.size W w' := by
  obtain ⟨k, hk⟩ := hg
  exact tephralaw08_Great.calls k x0 x1 x2 A c x3 x4 x5 x6 g W hr hc hk
theorem same_self (f0 : Int) (f1 : ByteArray) (f2 : Int) (f3 : List S76) (f4 f5 : Int) (f6 : ByteArray) (A3 A4 : Option Addr) (c3 c4 : Nat) (W : World) (h1 : Kd.C k76 W A3 f3.length f3) (h2 : Kd.C k76 W A4 f3.length f3) (hc3 : f3.length ≤ c3) (hc4 : f3.length ≤ c4) (hl : f3.length ≤ 60) :
    Calls Try.prog 46 #[.agg #[.int .i64 f0, .string f1, .int .u64 f2, .slice A3 f3.length c3, .int .u64 f4, .int .u64 f5, .string f6], .agg #[.int .i64 f0, .string f1, .int .u64 f2, .slice A4 f3.length c4, .int .u64 f4, .int .u64 f5, .string f6]] W fun e w' => e = .returned (.bool true) ∧ Below W.heap.size W w' := by
  obtain ⟨b, hb, hb2⟩ := rsame_is f0 f0 f1 f1 f2 f2 f3 f3 f4 f4 f5 f5 f6 f6 (by omega) 100 (by omega)
  rw [hb2.2 ⟨rfl, rfl, rfl, rfl, rfl, rfl, rfl⟩] at hb
  exact tephraref08_Same.calls 100 f0 f1 f2 A3 c3 f3 f4 f5 f6 f0 f1 f2 A4 c4 f3 f4 f5 f6 true W h1 hc3 h2 hc4 hb
/-- A dep of a row of one's own: its number may be written. -/
theorem own_at {W : World} {base g n cap : Nat} {ok : Nat → Prop} {xs : List S76} (h : Kd.R k76 76 W base ok (.slice (some ⟨g, 0, none⟩) n cap) xs) (i : Nat) (hi : i < n) :
    ∃ x : S76, W.cell? ⟨g, i * 3 + 1, none⟩ = some (.int .u64 x.f1) ∧ W.frozen? ⟨g, i * 3 + 1, none⟩ = false ∧ ∀ v', Kd.R k76 76 (W.setCell ⟨g, i * 3 + 1, none⟩ (.int .u64 v')) base ok (.slice (some ⟨g, 0, none⟩) n cap) (xs.set i ⟨x.f0, v', x.f2⟩) := by
  obtain ⟨cs, hcl, hM, hcc, hfr⟩ := Kd.R_elem h z76 (i : Int) (by omega) (by omega)
  generalize xs.getD (i : Int).toNat z76 = x at hM
  obtain rfl := k76_openM hM
  have h1 := hcc 1 _ rfl
  have h2 := hfr 1
  rw [show k76.sz = 3 from rfl, Int.toNat_natCast] at h1 h2
  refine ⟨x, h1, h2, fun v' => ?_⟩
  have h3 := Kd.R_seg h (i : Int) (by omega) (by omega) (seg := [.int .u64 v']) (j := 1) hcl hcc (show 2 ≤ 3 by decide) (x' := (⟨x.f0, v', x.f2⟩ : S76)) (k76_mkM _ _ _ (⟨x.f0, v', x.f2⟩ : S76)) (fun _ hk => hk)
  exact h3.1
set_option maxHeartbeats 4000000 in
set_option maxRecDepth 100000 in
theorem to_great (u v : Int) (A : Option Addr) (c : Nat) (x0 : Int) (x1 : ByteArray) (x2 : Int) (x3 : List S76) (x4 x5 : Int) (x6 : ByteArray) (w : World) (hrA : Kd.C k76 w A x3.length x3) (hcA : x3.length ≤ c) (hga : ∃ k, tephralaw08_Great.f k x0 x1 x2 x3 x4 x5 x6 = some true) :
    Calls Try.prog 13 #[.int .i64 u, .int .i64 v, .agg #[.int .i64 x0, .string x1, .int .u64 x2, .slice A x3.length c, .int .u64 x4, .int .u64 x5, .string x6]] w fun e w' => e = .returned (.bool true) ∧ Below w.heap.size w w' := by
  obtain ⟨w1, hw1⟩ : ∃ w1, w.alloc (.cells #[.int .i64 x0, .string x1, .int .u64 x2, .slice A x3.length c, .int .u64 x4, .int .u64 x5, .string x6] 70) = w1 := ⟨_, rfl⟩
  have hb1 : Below w.heap.size w w1 := by rw [← hw1]; exact (Below.refl _ _).alloc (Nat.le_refl _) _
  have hk2 : w1.heap[w.heap.size]? = some (.cells #[.int .i64 x0, .string x1, .int .u64 x2, .slice A x3.length c, .int .u64 x4, .int .u64 x5, .string x6] 70 (0, 0)) := by rw [← hw1]; exact heap_new _ _
  obtain ⟨b5, hb5⟩ : ∃ b, w.heap.size = b := ⟨_, rfl⟩
  rw [hb5] at hk2
  have a0 : w1.cell? ⟨b5, 0, none⟩ = some (.int .i64 x0) := (blk_cell hk2 0).trans rfl
  have a1 : w1.cell? ⟨b5, 1, none⟩ = some (.string x1) := (blk_cell hk2 1).trans rfl
  have a2 : w1.cell? ⟨b5, 2, none⟩ = some (.int .u64 x2) := (blk_cell hk2 2).trans rfl
  have a3 : w1.cell? ⟨b5, 3, none⟩ = some (.slice A x3.length c) := (blk_cell hk2 3).trans rfl
  have a4 : w1.cell? ⟨b5, 4, none⟩ = some (.int .u64 x4) := (blk_cell hk2 4).trans rfl
  have a5 : w1.cell? ⟨b5, 5, none⟩ = some (.int .u64 x5) := (blk_cell hk2 5).trans rfl
  have a6 : w1.cell? ⟨b5, 6, none⟩ = some (.string x6) := (blk_cell hk2 6).trans rfl
  have KA1 := Lib.hid hk2
  have HB1 := Lib.hid hb1
  have HW1 := Lib.hid hw1
  have HB5_ := Lib.hid hb5
  have HGA := Lib.hid (great_at x0 x1 x2 A c x3 x4 x5 x6 w1 true (Kd.C_below hrA hb1) hcA hga)
  clear hrA hb1 hw1 hk2 hb5 hga
  go_enter Try.func13, Try.ntmps13
  go_wp2_with fail
  rw [HW1.out, HB5_.out]
  refine HGA.out.mono ?_
  rintro e w2 ⟨rfl, hb⟩
  have HB2 := Lib.hid (HB1.out.trans (hb.mono HB1.out.size))
  go_wp2_with fail
  refine (fixed11_any _).mono ?_
  rintro e w9 ⟨rfl, hb⟩
  go_wp2_with fail
  go_ret
  exact ⟨rfl, HB2.out.trans (hb.mono HB2.out.size)⟩
set_option maxHeartbeats 4000000 in
set_option maxRecDepth 100000 in
theorem to_main (u v : Int) (A : Option Addr) (c : Nat) (x0 : Int) (x1 : ByteArray) (x2 : Int) (x3 : List S76) (x4 x5 : Int) (x6 : ByteArray) (w : World) (hrA : Kd.C k76 w A x3.length x3) (hcA : x3.length ≤ c) (hga : ∃ k, tephralaw08_Great.f k x0 x1 x2 x3 x4 x5 x6 = some false) (hok : RecOk x1 x3 x6) (hl : x3.length ≤ 60) :
    Calls Try.prog 13 #[.int .i64 u, .int .i64 v, .agg #[.int .i64 x0, .string x1, .int .u64 x2, .slice A x3.length c, .int .u64 x4, .int .u64 x5, .string x6]] w fun e w' => e = .returned (.bool true) ∧ Below w.heap.size w w' := by
  obtain ⟨w1, hw1⟩ : ∃ w1, w.alloc (.cells #[.int .i64 x0, .string x1, .int .u64 x2, .slice A x3.length c, .int .u64 x4, .int .u64 x5, .string x6] 70) = w1 := ⟨_, rfl⟩
  have hb1 : Below w.heap.size w w1 := by rw [← hw1]; exact (Below.refl _ _).alloc (Nat.le_refl _) _
  have hk2 : w1.heap[w.heap.size]? = some (.cells #[.int .i64 x0, .string x1, .int .u64 x2, .slice A x3.length c, .int .u64 x4, .int .u64 x5, .string x6] 70 (0, 0)) := by rw [← hw1]; exact heap_new _ _
  obtain ⟨b5, hb5⟩ : ∃ b, w.heap.size = b := ⟨_, rfl⟩
  rw [hb5] at hk2
  have a0 : w1.cell? ⟨b5, 0, none⟩ = some (.int .i64 x0) := (blk_cell hk2 0).trans rfl
  have a1 : w1.cell? ⟨b5, 1, none⟩ = some (.string x1) := (blk_cell hk2 1).trans rfl
  have a2 : w1.cell? ⟨b5, 2, none⟩ = some (.int .u64 x2) := (blk_cell hk2 2).trans rfl
  have a3 : w1.cell? ⟨b5, 3, none⟩ = some (.slice A x3.length c) := (blk_cell hk2 3).trans rfl
  have a4 : w1.cell? ⟨b5, 4, none⟩ = some (.int .u64 x4) := (blk_cell hk2 4).trans rfl
  have a5 : w1.cell? ⟨b5, 5, none⟩ = some (.int .u64 x5) := (blk_cell hk2 5).trans rfl
  have a6 : w1.cell? ⟨b5, 6, none⟩ = some (.string x6) := (blk_cell hk2 6).trans rfl
  have KA1 := Lib.hid hk2
  have HB1 := Lib.hid hb1
  have HW1 := Lib.hid hw1
  have HB5_ := Lib.hid hb5
  have HGA := Lib.hid (great_at x0 x1 x2 A c x3 x4 x5 x6 w1 false (Kd.C_below hrA hb1) hcA hga)
  have HT1 := Lib.hid (fun (W : World) (h : Below w.heap.size w W) => mto_any u v x0 x1 x2 A c x3 x4 x5 x6 W (Kd.C_below hrA h) hcA hok)
  have HT2 := Lib.hid (fun (W : World) (h : Below w.heap.size w W) => rto_any2 u v x0 x1 x2 A c x3 x4 x5 x6 W (Kd.C_below hrA h) hcA hok)
  have HT3 := Lib.hid (fun (W : World) (h : Below w.heap.size w W) => mstep_any u x0 x1 x2 A c x3 x4 x5 x6 W (Kd.C_below hrA h) hcA hok)
  have HT4 := Lib.hid (fun (W : World) (h : Below w.heap.size w W) => rstep_any2 u x0 x1 x2 A c x3 x4 x5 x6 W (Kd.C_below hrA h) hcA hok)
  have hlF : (toF u v x0 x1 x2 x3 x4 x5 x6).1.2.2.2.1.length ≤ 60 := by unfold toF; split <;> (try split) <;> first | exact hl | simp [zero8]
  have hlG : (toF u (u + 1) x0 x1 x2 x3 x4 x5 x6).1.2.2.2.1.length ≤ 60 := by unfold toF; split <;> (try split) <;> first | exact hl | simp [zero8]
  generalize toF u v x0 x1 x2 x3 x4 x5 x6 = F at *
  generalize toF u (u + 1) x0 x1 x2 x3 x4 x5 x6 = G at *
  obtain ⟨⟨f0, f1, f2, f3, f4, f5, f6⟩, ef⟩ := F
  obtain ⟨⟨g0, g1, g2, g3, g4, g5, g6⟩, eg⟩ := G
  dsimp only at HT1 HT2 HT3 HT4 hlF hlG
  have HCA := Lib.hid (fun (W : World) (h : Below w.heap.size w W) => Kd.C_below hrA h)
  have HSF := Lib.hid (fun (W : World) (A3 A4 : Option Addr) (c3 c4 : Nat) (h1 : Kd.C k76 W A3 f3.length f3) (h2 : Kd.C k76 W A4 f3.length f3) (hc3 : f3.length ≤ c3) (hc4 : f3.length ≤ c4) => same_self f0 f1 f2 f3 f4 f5 f6 A3 A4 c3 c4 W h1 h2 hc3 hc4 hlF)
  have HSG := Lib.hid (fun (W : World) (A3 A4 : Option Addr) (c3 c4 : Nat) (h1 : Kd.C k76 W A3 g3.length g3) (h2 : Kd.C k76 W A4 g3.length g3) (hc3 : g3.length ≤ c3) (hc4 : g3.length ≤ c4) => same_self g0 g1 g2 g3 g4 g5 g6 A3 A4 c3 c4 W h1 h2 hc3 hc4 hlG)
  clear hrA hb1 hw1 hk2 hb5 hga hok
  go_enter Try.func13, Try.ntmps13
  go_wp2_with fail
  rw [HW1.out, HB5_.out]
  refine HGA.out.mono ?_
  rintro e w2 ⟨rfl, hb⟩
  have HB2 := Lib.hid (HB1.out.trans (hb.mono HB1.out.size))
  have hka := blk_below KA1.out hb
  clear a0 a1 a2 a3 a4 a5 a6
  have a0 : (w2.alloc (.cells #[] 76)).cell? ⟨b5, 0, none⟩ = some (.int .i64 x0) := (blk_cell ((heap_new_old _ _ _ (blk_lt hka)).trans hka) 0).trans rfl
  have a1 : (w2.alloc (.cells #[] 76)).cell? ⟨b5, 1, none⟩ = some (.string x1) := (blk_cell ((heap_new_old _ _ _ (blk_lt hka)).trans hka) 1).trans rfl
  have a2 : (w2.alloc (.cells #[] 76)).cell? ⟨b5, 2, none⟩ = some (.int .u64 x2) := (blk_cell ((heap_new_old _ _ _ (blk_lt hka)).trans hka) 2).trans rfl
  have a3 : (w2.alloc (.cells #[] 76)).cell? ⟨b5, 3, none⟩ = some (.slice A x3.length c) := (blk_cell ((heap_new_old _ _ _ (blk_lt hka)).trans hka) 3).trans rfl
  have a4 : (w2.alloc (.cells #[] 76)).cell? ⟨b5, 4, none⟩ = some (.int .u64 x4) := (blk_cell ((heap_new_old _ _ _ (blk_lt hka)).trans hka) 4).trans rfl
  have a5 : (w2.alloc (.cells #[] 76)).cell? ⟨b5, 5, none⟩ = some (.int .u64 x5) := (blk_cell ((heap_new_old _ _ _ (blk_lt hka)).trans hka) 5).trans rfl
  have a6 : (w2.alloc (.cells #[] 76)).cell? ⟨b5, 6, none⟩ = some (.string x6) := (blk_cell ((heap_new_old _ _ _ (blk_lt hka)).trans hka) 6).trans rfl
  have KA2 := Lib.hid hka
  clear hka hb HGA
  go_wp2_with (at_builtin; refine Halt.mk ?_)
  have HO := Lib.hid (R_empty k76 (w2.alloc (.cells #[] 76)) w2.heap.size w2.heap.size 76 (fun _ => True) (heap_new _ _) (Nat.le_refl _) trivial)
  have hb3 := (Below.refl w2.heap.size w2).alloc (Nat.le_refl _) (.cells #[] 76)
  refine Halt.of ?_
  refine Kd.R_append_rows k76 (w0 := w2) w2.heap.size rfl (.tmp 22) (.tmp 24) 68 76 (.agg #[.string ⟨#[]⟩, .int .u64 0, .bool false]) 32 rfl Try.underlying68 info_dep rfl (by decide) (by omega) _ [] x3 _ _ _ (fun _ => True) (fun _ => False) rfl rfl HO.out (HCA.out _ (HB2.out.trans (hb3.mono HB2.out.size))) (fun _ _ h => dep_KM h) (fun _ h => h.elim) (fun _ _ => trivial) hb3 hb3.size (by simp; omega) ?_
  intro v7 w4 hO7 hb _ _
  rw [List.nil_append] at hO7
  obtain ⟨A7, c7, rfl⟩ := Kd.R_slice hO7
  have HC7 := Lib.hid (fun (W : World) (h : Below w4.heap.size w4 W) => Kd.C_below (Kd.R_reads' hO7).2.2 h)
  have HL7 := Lib.hid (Kd.R_reads' hO7).2.1
  have HY4 := Lib.hid (Below.refl w4.heap.size w4)
  have HB4 := Lib.hid (HB2.out.trans (hb.mono HB2.out.size))
  have hka := blk_below KA2.out hb
  clear a0 a1 a2 a3 a4 a5 a6
  have a0 : w4.cell? ⟨b5, 0, none⟩ = some (.int .i64 x0) := (blk_cell hka 0).trans rfl
  have a1 : w4.cell? ⟨b5, 1, none⟩ = some (.string x1) := (blk_cell hka 1).trans rfl
  have a2 : w4.cell? ⟨b5, 2, none⟩ = some (.int .u64 x2) := (blk_cell hka 2).trans rfl
  have a3 : w4.cell? ⟨b5, 3, none⟩ = some (.slice A x3.length c) := (blk_cell hka 3).trans rfl
  have a4 : w4.cell? ⟨b5, 4, none⟩ = some (.int .u64 x4) := (blk_cell hka 4).trans rfl
  have a5 : w4.cell? ⟨b5, 5, none⟩ = some (.int .u64 x5) := (blk_cell hka 5).trans rfl
  have a6 : w4.cell? ⟨b5, 6, none⟩ = some (.string x6) := (blk_cell hka 6).trans rfl
  have KA4 := Lib.hid hka
  clear hka hb hb3 hO7 HO
  go_wp2_with fail
  refine (HT1.out w4 HB4.out).mono ?_
  rintro e w5 ⟨A3, c3, rfl, hR, hb⟩
  have HB5 := Lib.hid (HB4.out.trans (hb.mono HB4.out.size))
  have HRA3 := Lib.hid (And.intro (Kd.R_mono (Kd.R_bound hR) (ok' := fun k => w4.heap.size ≤ k ∧ k < w5.heap.size) (fun k hk => ⟨hk.2.1, hk.2.2.1⟩)) (Kd.R_reads' hR).2)
  have CA35 := Lib.hid (And.intro HRA3.out.2.2 HRA3.out.2.1)
  have HX5 := Lib.hid (Below.refl w5.heap.size w5)
  have HY5 := Lib.hid (HY4.out.trans (hb.mono HY4.out.size))
  clear a0 a1 a2 a3 a4 a5 a6
  have KA5 := Lib.hid (blk_below KA4.out hb)
  clear hR hb
  have hk_ : (w5.alloc (.cells #[.int .i64 f0, .string f1, .int .u64 f2, .slice A3 f3.length c3, .int .u64 f4, .int .u64 f5, .string f6] 70)).heap[b5]? = _ := (heap_new_old _ _ _ (blk_lt KA5.out)).trans KA5.out
  have a0 : (w5.alloc (.cells #[.int .i64 f0, .string f1, .int .u64 f2, .slice A3 f3.length c3, .int .u64 f4, .int .u64 f5, .string f6] 70)).cell? ⟨b5, 0, none⟩ = some (.int .i64 x0) := (blk_cell hk_ 0).trans rfl
  have a1 : (w5.alloc (.cells #[.int .i64 f0, .string f1, .int .u64 f2, .slice A3 f3.length c3, .int .u64 f4, .int .u64 f5, .string f6] 70)).cell? ⟨b5, 1, none⟩ = some (.string x1) := (blk_cell hk_ 1).trans rfl
  have a2 : (w5.alloc (.cells #[.int .i64 f0, .string f1, .int .u64 f2, .slice A3 f3.length c3, .int .u64 f4, .int .u64 f5, .string f6] 70)).cell? ⟨b5, 2, none⟩ = some (.int .u64 x2) := (blk_cell hk_ 2).trans rfl
  have a3 : (w5.alloc (.cells #[.int .i64 f0, .string f1, .int .u64 f2, .slice A3 f3.length c3, .int .u64 f4, .int .u64 f5, .string f6] 70)).cell? ⟨b5, 3, none⟩ = some (.slice A x3.length c) := (blk_cell hk_ 3).trans rfl
  have a4 : (w5.alloc (.cells #[.int .i64 f0, .string f1, .int .u64 f2, .slice A3 f3.length c3, .int .u64 f4, .int .u64 f5, .string f6] 70)).cell? ⟨b5, 4, none⟩ = some (.int .u64 x4) := (blk_cell hk_ 4).trans rfl
  have a5 : (w5.alloc (.cells #[.int .i64 f0, .string f1, .int .u64 f2, .slice A3 f3.length c3, .int .u64 f4, .int .u64 f5, .string f6] 70)).cell? ⟨b5, 5, none⟩ = some (.int .u64 x5) := (blk_cell hk_ 5).trans rfl
  have a6 : (w5.alloc (.cells #[.int .i64 f0, .string f1, .int .u64 f2, .slice A3 f3.length c3, .int .u64 f4, .int .u64 f5, .string f6] 70)).cell? ⟨b5, 6, none⟩ = some (.string x6) := (blk_cell hk_ 6).trans rfl
  clear hk_
  go_wp2_with fail
  clear a0 a1 a2 a3 a4 a5 a6
  obtain ⟨w6, hw⟩ : ∃ w6, w5.alloc (.cells #[.int .i64 f0, .string f1, .int .u64 f2, .slice A3 f3.length c3, .int .u64 f4, .int .u64 f5, .string f6] 70) = w6 := ⟨_, rfl⟩
  have hbN : Below w5.heap.size w5 w6 := by rw [← hw]; exact (Below.refl _ _).alloc (Nat.le_refl _) _
  have hkN : w6.heap[w5.heap.size]? = some (.cells #[.int .i64 f0, .string f1, .int .u64 f2, .slice A3 f3.length c3, .int .u64 f4, .int .u64 f5, .string f6] 70 (0, 0)) := by rw [← hw]; exact heap_new _ _
  rw [hw]
  obtain ⟨b8, hbx⟩ : ∃ b, w5.heap.size = b := ⟨_, rfl⟩
  have Hb8 := Lib.hid hbx
  have KC6 := Lib.hid (hbx ▸ hkN : w6.heap[b8]? = some (.cells #[.int .i64 f0, .string f1, .int .u64 f2, .slice A3 f3.length c3, .int .u64 f4, .int .u64 f5, .string f6] 70 (0, 0)))
  have HB6 := Lib.hid (HB5.out.trans (hbN.mono HB5.out.size))
  have KA6 := Lib.hid (blk_below KA5.out hbN)
  have CA36 := Lib.hid (And.intro (Kd.C_below CA35.out.1 hbN) CA35.out.2)
  have HY6 := Lib.hid (HY5.out.trans (hbN.mono HY5.out.size))
  have HX6 := Lib.hid (HX5.out.trans (hbN.mono HX5.out.size))
  rw [hbx]
  clear hbN hkN hw hbx
  have a0 : w6.cell? ⟨b5, 0, none⟩ = some (.int .i64 x0) := (blk_cell KA6.out 0).trans rfl
  have a1 : w6.cell? ⟨b5, 1, none⟩ = some (.string x1) := (blk_cell KA6.out 1).trans rfl
  have a2 : w6.cell? ⟨b5, 2, none⟩ = some (.int .u64 x2) := (blk_cell KA6.out 2).trans rfl
  have a3 : w6.cell? ⟨b5, 3, none⟩ = some (.slice A x3.length c) := (blk_cell KA6.out 3).trans rfl
  have a4 : w6.cell? ⟨b5, 4, none⟩ = some (.int .u64 x4) := (blk_cell KA6.out 4).trans rfl
  have a5 : w6.cell? ⟨b5, 5, none⟩ = some (.int .u64 x5) := (blk_cell KA6.out 5).trans rfl
  have a6 : w6.cell? ⟨b5, 6, none⟩ = some (.string x6) := (blk_cell KA6.out 6).trans rfl
  refine (HT2.out w6 HB6.out).mono ?_
  rintro e w7 ⟨A4, c4, rfl, hR, hb⟩
  have HB7 := Lib.hid (HB6.out.trans (hb.mono HB6.out.size))
  have HRA4 := Lib.hid (And.intro trivial (And.intro hR.2 hR.1) : True ∧ _)
  have CA47 := Lib.hid (And.intro HRA4.out.2.2 HRA4.out.2.1)
  have CA37 := Lib.hid (And.intro (Kd.C_below CA36.out.1 hb) CA36.out.2)
  have HY7 := Lib.hid (HY6.out.trans (hb.mono HY6.out.size))
  have HX7 := Lib.hid (HX6.out.trans (hb.mono HX6.out.size))
  clear a0 a1 a2 a3 a4 a5 a6
  have KA7 := Lib.hid (blk_below KA6.out hb)
  have KC7 := Lib.hid (blk_below KC6.out hb)
  clear hR hb
  have hk_ : (w7.alloc (.cells #[.int .i64 f0, .string f1, .int .u64 f2, .slice A4 f3.length c4, .int .u64 f4, .int .u64 f5, .string f6] 70)).heap[b5]? = _ := (heap_new_old _ _ _ (blk_lt KA7.out)).trans KA7.out
  have a0 : (w7.alloc (.cells #[.int .i64 f0, .string f1, .int .u64 f2, .slice A4 f3.length c4, .int .u64 f4, .int .u64 f5, .string f6] 70)).cell? ⟨b5, 0, none⟩ = some (.int .i64 x0) := (blk_cell hk_ 0).trans rfl
  have a1 : (w7.alloc (.cells #[.int .i64 f0, .string f1, .int .u64 f2, .slice A4 f3.length c4, .int .u64 f4, .int .u64 f5, .string f6] 70)).cell? ⟨b5, 1, none⟩ = some (.string x1) := (blk_cell hk_ 1).trans rfl
  have a2 : (w7.alloc (.cells #[.int .i64 f0, .string f1, .int .u64 f2, .slice A4 f3.length c4, .int .u64 f4, .int .u64 f5, .string f6] 70)).cell? ⟨b5, 2, none⟩ = some (.int .u64 x2) := (blk_cell hk_ 2).trans rfl
  have a3 : (w7.alloc (.cells #[.int .i64 f0, .string f1, .int .u64 f2, .slice A4 f3.length c4, .int .u64 f4, .int .u64 f5, .string f6] 70)).cell? ⟨b5, 3, none⟩ = some (.slice A x3.length c) := (blk_cell hk_ 3).trans rfl
  have a4 : (w7.alloc (.cells #[.int .i64 f0, .string f1, .int .u64 f2, .slice A4 f3.length c4, .int .u64 f4, .int .u64 f5, .string f6] 70)).cell? ⟨b5, 4, none⟩ = some (.int .u64 x4) := (blk_cell hk_ 4).trans rfl
  have a5 : (w7.alloc (.cells #[.int .i64 f0, .string f1, .int .u64 f2, .slice A4 f3.length c4, .int .u64 f4, .int .u64 f5, .string f6] 70)).cell? ⟨b5, 5, none⟩ = some (.int .u64 x5) := (blk_cell hk_ 5).trans rfl
  have a6 : (w7.alloc (.cells #[.int .i64 f0, .string f1, .int .u64 f2, .slice A4 f3.length c4, .int .u64 f4, .int .u64 f5, .string f6] 70)).cell? ⟨b5, 6, none⟩ = some (.string x6) := (blk_cell hk_ 6).trans rfl
  clear hk_
  go_wp2_with fail
  clear a0 a1 a2 a3 a4 a5 a6
  obtain ⟨w8, hw⟩ : ∃ w8, w7.alloc (.cells #[.int .i64 f0, .string f1, .int .u64 f2, .slice A4 f3.length c4, .int .u64 f4, .int .u64 f5, .string f6] 70) = w8 := ⟨_, rfl⟩
  have hbN : Below w7.heap.size w7 w8 := by rw [← hw]; exact (Below.refl _ _).alloc (Nat.le_refl _) _
  have hkN : w8.heap[w7.heap.size]? = some (.cells #[.int .i64 f0, .string f1, .int .u64 f2, .slice A4 f3.length c4, .int .u64 f4, .int .u64 f5, .string f6] 70 (0, 0)) := by rw [← hw]; exact heap_new _ _
  rw [hw]
  obtain ⟨b10, hbx⟩ : ∃ b, w7.heap.size = b := ⟨_, rfl⟩
  have Hb10 := Lib.hid hbx
  have KD8 := Lib.hid (hbx ▸ hkN : w8.heap[b10]? = some (.cells #[.int .i64 f0, .string f1, .int .u64 f2, .slice A4 f3.length c4, .int .u64 f4, .int .u64 f5, .string f6] 70 (0, 0)))
  have HB8 := Lib.hid (HB7.out.trans (hbN.mono HB7.out.size))
  have KA8 := Lib.hid (blk_below KA7.out hbN)
  have KC8 := Lib.hid (blk_below KC7.out hbN)
  have CA38 := Lib.hid (And.intro (Kd.C_below CA37.out.1 hbN) CA37.out.2)
  have CA48 := Lib.hid (And.intro (Kd.C_below CA47.out.1 hbN) CA47.out.2)
  have HY8 := Lib.hid (HY7.out.trans (hbN.mono HY7.out.size))
  have HX8 := Lib.hid (HX7.out.trans (hbN.mono HX7.out.size))
  rw [hbx]
  clear hbN hkN hw hbx
  have a0 : w8.cell? ⟨b5, 0, none⟩ = some (.int .i64 x0) := (blk_cell KA8.out 0).trans rfl
  have a1 : w8.cell? ⟨b5, 1, none⟩ = some (.string x1) := (blk_cell KA8.out 1).trans rfl
  have a2 : w8.cell? ⟨b5, 2, none⟩ = some (.int .u64 x2) := (blk_cell KA8.out 2).trans rfl
  have a3 : w8.cell? ⟨b5, 3, none⟩ = some (.slice A x3.length c) := (blk_cell KA8.out 3).trans rfl
  have a4 : w8.cell? ⟨b5, 4, none⟩ = some (.int .u64 x4) := (blk_cell KA8.out 4).trans rfl
  have a5 : w8.cell? ⟨b5, 5, none⟩ = some (.int .u64 x5) := (blk_cell KA8.out 5).trans rfl
  have a6 : w8.cell? ⟨b5, 6, none⟩ = some (.string x6) := (blk_cell KA8.out 6).trans rfl
  refine (HT3.out w8 HB8.out).mono ?_
  rintro e w9 ⟨A5, c5, rfl, hR, hb⟩
  have HB9 := Lib.hid (HB8.out.trans (hb.mono HB8.out.size))
  have HRA5 := Lib.hid (And.intro (Kd.R_mono (Kd.R_bound hR) (ok' := fun k => w8.heap.size ≤ k ∧ k < w9.heap.size) (fun k hk => ⟨hk.2.1, hk.2.2.1⟩)) (Kd.R_reads' hR).2)
  have CA59 := Lib.hid (And.intro HRA5.out.2.2 HRA5.out.2.1)
  have CA39 := Lib.hid (And.intro (Kd.C_below CA38.out.1 hb) CA38.out.2)
  have CA49 := Lib.hid (And.intro (Kd.C_below CA48.out.1 hb) CA48.out.2)
  have HY9 := Lib.hid (HY8.out.trans (hb.mono HY8.out.size))
  have HX9 := Lib.hid (HX8.out.trans (hb.mono HX8.out.size))
  clear a0 a1 a2 a3 a4 a5 a6
  have KA9 := Lib.hid (blk_below KA8.out hb)
  have KC9 := Lib.hid (blk_below KC8.out hb)
  have KD9 := Lib.hid (blk_below KD8.out hb)
  clear hR hb
  have hk_ : (w9.alloc (.cells #[.int .i64 g0, .string g1, .int .u64 g2, .slice A5 g3.length c5, .int .u64 g4, .int .u64 g5, .string g6] 70)).heap[b5]? = _ := (heap_new_old _ _ _ (blk_lt KA9.out)).trans KA9.out
  have a0 : (w9.alloc (.cells #[.int .i64 g0, .string g1, .int .u64 g2, .slice A5 g3.length c5, .int .u64 g4, .int .u64 g5, .string g6] 70)).cell? ⟨b5, 0, none⟩ = some (.int .i64 x0) := (blk_cell hk_ 0).trans rfl
  have a1 : (w9.alloc (.cells #[.int .i64 g0, .string g1, .int .u64 g2, .slice A5 g3.length c5, .int .u64 g4, .int .u64 g5, .string g6] 70)).cell? ⟨b5, 1, none⟩ = some (.string x1) := (blk_cell hk_ 1).trans rfl
  have a2 : (w9.alloc (.cells #[.int .i64 g0, .string g1, .int .u64 g2, .slice A5 g3.length c5, .int .u64 g4, .int .u64 g5, .string g6] 70)).cell? ⟨b5, 2, none⟩ = some (.int .u64 x2) := (blk_cell hk_ 2).trans rfl
  have a3 : (w9.alloc (.cells #[.int .i64 g0, .string g1, .int .u64 g2, .slice A5 g3.length c5, .int .u64 g4, .int .u64 g5, .string g6] 70)).cell? ⟨b5, 3, none⟩ = some (.slice A x3.length c) := (blk_cell hk_ 3).trans rfl
  have a4 : (w9.alloc (.cells #[.int .i64 g0, .string g1, .int .u64 g2, .slice A5 g3.length c5, .int .u64 g4, .int .u64 g5, .string g6] 70)).cell? ⟨b5, 4, none⟩ = some (.int .u64 x4) := (blk_cell hk_ 4).trans rfl
  have a5 : (w9.alloc (.cells #[.int .i64 g0, .string g1, .int .u64 g2, .slice A5 g3.length c5, .int .u64 g4, .int .u64 g5, .string g6] 70)).cell? ⟨b5, 5, none⟩ = some (.int .u64 x5) := (blk_cell hk_ 5).trans rfl
  have a6 : (w9.alloc (.cells #[.int .i64 g0, .string g1, .int .u64 g2, .slice A5 g3.length c5, .int .u64 g4, .int .u64 g5, .string g6] 70)).cell? ⟨b5, 6, none⟩ = some (.string x6) := (blk_cell hk_ 6).trans rfl
  clear hk_
  go_wp2_with fail
  clear a0 a1 a2 a3 a4 a5 a6
  obtain ⟨w10, hw⟩ : ∃ w10, w9.alloc (.cells #[.int .i64 g0, .string g1, .int .u64 g2, .slice A5 g3.length c5, .int .u64 g4, .int .u64 g5, .string g6] 70) = w10 := ⟨_, rfl⟩
  have hbN : Below w9.heap.size w9 w10 := by rw [← hw]; exact (Below.refl _ _).alloc (Nat.le_refl _) _
  have hkN : w10.heap[w9.heap.size]? = some (.cells #[.int .i64 g0, .string g1, .int .u64 g2, .slice A5 g3.length c5, .int .u64 g4, .int .u64 g5, .string g6] 70 (0, 0)) := by rw [← hw]; exact heap_new _ _
  rw [hw]
  obtain ⟨b12, hbx⟩ : ∃ b, w9.heap.size = b := ⟨_, rfl⟩
  have Hb12 := Lib.hid hbx
  have KE10 := Lib.hid (hbx ▸ hkN : w10.heap[b12]? = some (.cells #[.int .i64 g0, .string g1, .int .u64 g2, .slice A5 g3.length c5, .int .u64 g4, .int .u64 g5, .string g6] 70 (0, 0)))
  have HB10 := Lib.hid (HB9.out.trans (hbN.mono HB9.out.size))
  have KA10 := Lib.hid (blk_below KA9.out hbN)
  have KC10 := Lib.hid (blk_below KC9.out hbN)
  have KD10 := Lib.hid (blk_below KD9.out hbN)
  have CA310 := Lib.hid (And.intro (Kd.C_below CA39.out.1 hbN) CA39.out.2)
  have CA410 := Lib.hid (And.intro (Kd.C_below CA49.out.1 hbN) CA49.out.2)
  have CA510 := Lib.hid (And.intro (Kd.C_below CA59.out.1 hbN) CA59.out.2)
  have HY10 := Lib.hid (HY9.out.trans (hbN.mono HY9.out.size))
  have HX10 := Lib.hid (HX9.out.trans (hbN.mono HX9.out.size))
  rw [hbx]
  clear hbN hkN hw hbx
  have a0 : w10.cell? ⟨b5, 0, none⟩ = some (.int .i64 x0) := (blk_cell KA10.out 0).trans rfl
  have a1 : w10.cell? ⟨b5, 1, none⟩ = some (.string x1) := (blk_cell KA10.out 1).trans rfl
  have a2 : w10.cell? ⟨b5, 2, none⟩ = some (.int .u64 x2) := (blk_cell KA10.out 2).trans rfl
  have a3 : w10.cell? ⟨b5, 3, none⟩ = some (.slice A x3.length c) := (blk_cell KA10.out 3).trans rfl
  have a4 : w10.cell? ⟨b5, 4, none⟩ = some (.int .u64 x4) := (blk_cell KA10.out 4).trans rfl
  have a5 : w10.cell? ⟨b5, 5, none⟩ = some (.int .u64 x5) := (blk_cell KA10.out 5).trans rfl
  have a6 : w10.cell? ⟨b5, 6, none⟩ = some (.string x6) := (blk_cell KA10.out 6).trans rfl
  refine (HT4.out w10 HB10.out).mono ?_
  rintro e w11 ⟨A6, c6, rfl, hR, hb⟩
  have HB11 := Lib.hid (HB10.out.trans (hb.mono HB10.out.size))
  have HRA6 := Lib.hid (And.intro trivial (And.intro hR.2 hR.1) : True ∧ _)
  have CA611 := Lib.hid (And.intro HRA6.out.2.2 HRA6.out.2.1)
  have CA311 := Lib.hid (And.intro (Kd.C_below CA310.out.1 hb) CA310.out.2)
  have CA411 := Lib.hid (And.intro (Kd.C_below CA410.out.1 hb) CA410.out.2)
  have CA511 := Lib.hid (And.intro (Kd.C_below CA510.out.1 hb) CA510.out.2)
  have HY11 := Lib.hid (HY10.out.trans (hb.mono HY10.out.size))
  have HX11 := Lib.hid (HX10.out.trans (hb.mono HX10.out.size))
  clear a0 a1 a2 a3 a4 a5 a6
  have KA11 := Lib.hid (blk_below KA10.out hb)
  have KC11 := Lib.hid (blk_below KC10.out hb)
  have KD11 := Lib.hid (blk_below KD10.out hb)
  have KE11 := Lib.hid (blk_below KE10.out hb)
  clear hR hb
  have hk_ : (w11.alloc (.cells #[.int .i64 g0, .string g1, .int .u64 g2, .slice A6 g3.length c6, .int .u64 g4, .int .u64 g5, .string g6] 70)).heap[b8]? = _ := (heap_new_old _ _ _ (blk_lt KC11.out)).trans KC11.out
  have p0 : (w11.alloc (.cells #[.int .i64 g0, .string g1, .int .u64 g2, .slice A6 g3.length c6, .int .u64 g4, .int .u64 g5, .string g6] 70)).cell? ⟨b8, 0, none⟩ = some (.int .i64 f0) := (blk_cell hk_ 0).trans rfl
  have p1 : (w11.alloc (.cells #[.int .i64 g0, .string g1, .int .u64 g2, .slice A6 g3.length c6, .int .u64 g4, .int .u64 g5, .string g6] 70)).cell? ⟨b8, 1, none⟩ = some (.string f1) := (blk_cell hk_ 1).trans rfl
  have p2 : (w11.alloc (.cells #[.int .i64 g0, .string g1, .int .u64 g2, .slice A6 g3.length c6, .int .u64 g4, .int .u64 g5, .string g6] 70)).cell? ⟨b8, 2, none⟩ = some (.int .u64 f2) := (blk_cell hk_ 2).trans rfl
  have p3 : (w11.alloc (.cells #[.int .i64 g0, .string g1, .int .u64 g2, .slice A6 g3.length c6, .int .u64 g4, .int .u64 g5, .string g6] 70)).cell? ⟨b8, 3, none⟩ = some (.slice A3 f3.length c3) := (blk_cell hk_ 3).trans rfl
  have p4 : (w11.alloc (.cells #[.int .i64 g0, .string g1, .int .u64 g2, .slice A6 g3.length c6, .int .u64 g4, .int .u64 g5, .string g6] 70)).cell? ⟨b8, 4, none⟩ = some (.int .u64 f4) := (blk_cell hk_ 4).trans rfl
  have p5 : (w11.alloc (.cells #[.int .i64 g0, .string g1, .int .u64 g2, .slice A6 g3.length c6, .int .u64 g4, .int .u64 g5, .string g6] 70)).cell? ⟨b8, 5, none⟩ = some (.int .u64 f5) := (blk_cell hk_ 5).trans rfl
  have p6 : (w11.alloc (.cells #[.int .i64 g0, .string g1, .int .u64 g2, .slice A6 g3.length c6, .int .u64 g4, .int .u64 g5, .string g6] 70)).cell? ⟨b8, 6, none⟩ = some (.string f6) := (blk_cell hk_ 6).trans rfl
  clear hk_
  have hk_ : (w11.alloc (.cells #[.int .i64 g0, .string g1, .int .u64 g2, .slice A6 g3.length c6, .int .u64 g4, .int .u64 g5, .string g6] 70)).heap[b10]? = _ := (heap_new_old _ _ _ (blk_lt KD11.out)).trans KD11.out
  have q0 : (w11.alloc (.cells #[.int .i64 g0, .string g1, .int .u64 g2, .slice A6 g3.length c6, .int .u64 g4, .int .u64 g5, .string g6] 70)).cell? ⟨b10, 0, none⟩ = some (.int .i64 f0) := (blk_cell hk_ 0).trans rfl
  have q1 : (w11.alloc (.cells #[.int .i64 g0, .string g1, .int .u64 g2, .slice A6 g3.length c6, .int .u64 g4, .int .u64 g5, .string g6] 70)).cell? ⟨b10, 1, none⟩ = some (.string f1) := (blk_cell hk_ 1).trans rfl
  have q2 : (w11.alloc (.cells #[.int .i64 g0, .string g1, .int .u64 g2, .slice A6 g3.length c6, .int .u64 g4, .int .u64 g5, .string g6] 70)).cell? ⟨b10, 2, none⟩ = some (.int .u64 f2) := (blk_cell hk_ 2).trans rfl
  have q3 : (w11.alloc (.cells #[.int .i64 g0, .string g1, .int .u64 g2, .slice A6 g3.length c6, .int .u64 g4, .int .u64 g5, .string g6] 70)).cell? ⟨b10, 3, none⟩ = some (.slice A4 f3.length c4) := (blk_cell hk_ 3).trans rfl
  have q4 : (w11.alloc (.cells #[.int .i64 g0, .string g1, .int .u64 g2, .slice A6 g3.length c6, .int .u64 g4, .int .u64 g5, .string g6] 70)).cell? ⟨b10, 4, none⟩ = some (.int .u64 f4) := (blk_cell hk_ 4).trans rfl
  have q5 : (w11.alloc (.cells #[.int .i64 g0, .string g1, .int .u64 g2, .slice A6 g3.length c6, .int .u64 g4, .int .u64 g5, .string g6] 70)).cell? ⟨b10, 5, none⟩ = some (.int .u64 f5) := (blk_cell hk_ 5).trans rfl
  have q6 : (w11.alloc (.cells #[.int .i64 g0, .string g1, .int .u64 g2, .slice A6 g3.length c6, .int .u64 g4, .int .u64 g5, .string g6] 70)).cell? ⟨b10, 6, none⟩ = some (.string f6) := (blk_cell hk_ 6).trans rfl
  clear hk_
  go_wp2_with fail
  clear p0 p1 p2 p3 p4 p5 p6
  clear q0 q1 q2 q3 q4 q5 q6
  obtain ⟨w12, hw⟩ : ∃ w12, w11.alloc (.cells #[.int .i64 g0, .string g1, .int .u64 g2, .slice A6 g3.length c6, .int .u64 g4, .int .u64 g5, .string g6] 70) = w12 := ⟨_, rfl⟩
  have hbN : Below w11.heap.size w11 w12 := by rw [← hw]; exact (Below.refl _ _).alloc (Nat.le_refl _) _
  have hkN : w12.heap[w11.heap.size]? = some (.cells #[.int .i64 g0, .string g1, .int .u64 g2, .slice A6 g3.length c6, .int .u64 g4, .int .u64 g5, .string g6] 70 (0, 0)) := by rw [← hw]; exact heap_new _ _
  rw [hw]
  obtain ⟨b14, hbx⟩ : ∃ b, w11.heap.size = b := ⟨_, rfl⟩
  have Hb14 := Lib.hid hbx
  have KF12 := Lib.hid (hbx ▸ hkN : w12.heap[b14]? = some (.cells #[.int .i64 g0, .string g1, .int .u64 g2, .slice A6 g3.length c6, .int .u64 g4, .int .u64 g5, .string g6] 70 (0, 0)))
  have HB12 := Lib.hid (HB11.out.trans (hbN.mono HB11.out.size))
  have KA12 := Lib.hid (blk_below KA11.out hbN)
  have KC12 := Lib.hid (blk_below KC11.out hbN)
  have KD12 := Lib.hid (blk_below KD11.out hbN)
  have KE12 := Lib.hid (blk_below KE11.out hbN)
  have CA312 := Lib.hid (And.intro (Kd.C_below CA311.out.1 hbN) CA311.out.2)
  have CA412 := Lib.hid (And.intro (Kd.C_below CA411.out.1 hbN) CA411.out.2)
  have CA512 := Lib.hid (And.intro (Kd.C_below CA511.out.1 hbN) CA511.out.2)
  have CA612 := Lib.hid (And.intro (Kd.C_below CA611.out.1 hbN) CA611.out.2)
  have HY12 := Lib.hid (HY11.out.trans (hbN.mono HY11.out.size))
  have HX12 := Lib.hid (HX11.out.trans (hbN.mono HX11.out.size))
  rw [hbx]
  clear hbN hkN hw hbx
  refine (HSF.out w12 A3 A4 c3 c4 CA312.out.1 CA412.out.1 CA312.out.2 CA412.out.2).mono ?_
  rintro e w13 ⟨rfl, hb⟩
  have HB13 := Lib.hid (HB12.out.trans (hb.mono HB12.out.size))
  have CA513 := Lib.hid (And.intro (Kd.C_below CA512.out.1 hb) CA512.out.2)
  have CA613 := Lib.hid (And.intro (Kd.C_below CA612.out.1 hb) CA612.out.2)
  have HY13 := Lib.hid (HY12.out.trans (hb.mono HY12.out.size))
  have HX13 := Lib.hid (HX12.out.trans (hb.mono HX12.out.size))
  have KA13 := Lib.hid (blk_below KA12.out hb)
  have KC13 := Lib.hid (blk_below KC12.out hb)
  have KD13 := Lib.hid (blk_below KD12.out hb)
  have KE13 := Lib.hid (blk_below KE12.out hb)
  have KF13 := Lib.hid (blk_below KF12.out hb)
  clear hb
  have p0 : w13.cell? ⟨b12, 0, none⟩ = some (.int .i64 g0) := (blk_cell KE13.out 0).trans rfl
  have p1 : w13.cell? ⟨b12, 1, none⟩ = some (.string g1) := (blk_cell KE13.out 1).trans rfl
  have p2 : w13.cell? ⟨b12, 2, none⟩ = some (.int .u64 g2) := (blk_cell KE13.out 2).trans rfl
  have p3 : w13.cell? ⟨b12, 3, none⟩ = some (.slice A5 g3.length c5) := (blk_cell KE13.out 3).trans rfl
  have p4 : w13.cell? ⟨b12, 4, none⟩ = some (.int .u64 g4) := (blk_cell KE13.out 4).trans rfl
  have p5 : w13.cell? ⟨b12, 5, none⟩ = some (.int .u64 g5) := (blk_cell KE13.out 5).trans rfl
  have p6 : w13.cell? ⟨b12, 6, none⟩ = some (.string g6) := (blk_cell KE13.out 6).trans rfl
  have q0 : w13.cell? ⟨b14, 0, none⟩ = some (.int .i64 g0) := (blk_cell KF13.out 0).trans rfl
  have q1 : w13.cell? ⟨b14, 1, none⟩ = some (.string g1) := (blk_cell KF13.out 1).trans rfl
  have q2 : w13.cell? ⟨b14, 2, none⟩ = some (.int .u64 g2) := (blk_cell KF13.out 2).trans rfl
  have q3 : w13.cell? ⟨b14, 3, none⟩ = some (.slice A6 g3.length c6) := (blk_cell KF13.out 3).trans rfl
  have q4 : w13.cell? ⟨b14, 4, none⟩ = some (.int .u64 g4) := (blk_cell KF13.out 4).trans rfl
  have q5 : w13.cell? ⟨b14, 5, none⟩ = some (.int .u64 g5) := (blk_cell KF13.out 5).trans rfl
  have q6 : w13.cell? ⟨b14, 6, none⟩ = some (.string g6) := (blk_cell KF13.out 6).trans rfl
  go_wp2_with fail
  clear p0 p1 p2 p3 p4 p5 p6
  clear q0 q1 q2 q3 q4 q5 q6
  refine (HSG.out w13 A5 A6 c5 c6 CA513.out.1 CA613.out.1 CA513.out.2 CA613.out.2).mono ?_
  rintro e w14 ⟨rfl, hb⟩
  have HB14 := Lib.hid (HB13.out.trans (hb.mono HB13.out.size))
  have HY14 := Lib.hid (HY13.out.trans (hb.mono HY13.out.size))
  have HX14 := Lib.hid (HX13.out.trans (hb.mono HX13.out.size))
  have KA14 := Lib.hid (blk_below KA13.out hb)
  have KC14 := Lib.hid (blk_below KC13.out hb)
  have KD14 := Lib.hid (blk_below KD13.out hb)
  have KE14 := Lib.hid (blk_below KE13.out hb)
  have KF14 := Lib.hid (blk_below KF13.out hb)
  clear hb
  have p0 : w14.cell? ⟨b8, 0, none⟩ = some (.int .i64 f0) := (blk_cell KC14.out 0).trans rfl
  have p1 : w14.cell? ⟨b8, 1, none⟩ = some (.string f1) := (blk_cell KC14.out 1).trans rfl
  have p2 : w14.cell? ⟨b8, 2, none⟩ = some (.int .u64 f2) := (blk_cell KC14.out 2).trans rfl
  have p3 : w14.cell? ⟨b8, 3, none⟩ = some (.slice A3 f3.length c3) := (blk_cell KC14.out 3).trans rfl
  have p4 : w14.cell? ⟨b8, 4, none⟩ = some (.int .u64 f4) := (blk_cell KC14.out 4).trans rfl
  have p5 : w14.cell? ⟨b8, 5, none⟩ = some (.int .u64 f5) := (blk_cell KC14.out 5).trans rfl
  have p6 : w14.cell? ⟨b8, 6, none⟩ = some (.string f6) := (blk_cell KC14.out 6).trans rfl
  go_wp2_with fail
  clear p0 p1 p2 p3 p4 p5 p6
  have HR8 := Lib.hid (Kd.R_step HRA3.out.1 (fun k hk _ => HX14.out.block k hk.2))
  have H0 := Lib.hid (And.intro HY14.out (And.intro KC14.out (Exists.intro f3 HR8.out)))
  have hlt8 := Hb8.out
  go_loopw [73, 17] (fun u73 _ wq => ∃ (i : Nat), i ≤ f3.length ∧ u73 = .int .i64 i ∧ Hid (Below w4.heap.size w4 wq ∧ wq.heap[b8]? = some (.cells #[.int .i64 f0, .string f1, .int .u64 f2, .slice A3 f3.length c3, .int .u64 f4, .int .u64 f5, .string f6] 70 (0, 0)) ∧ ∃ xs, Kd.R k76 76 wq w4.heap.size (fun k => w4.heap.size ≤ k ∧ k < w5.heap.size) (.slice A3 f3.length c3) xs)) (fun u _ _ => f3.length - (intOf u).toNat)
  case atStart => exact ⟨0, by omega, rfl, H0⟩
  case round =>
    obtain ⟨i, hi, rfl, hp⟩ := hrel
    obtain ⟨hY, hk8, xs, hR⟩ := hp.out
    by_cases hlt : i < f3.length
    · have hl5 : i < xs.length := by have := (Kd.R_reads' hR).1; omega
      obtain ⟨ad, c9, he⟩ := Kd.R_slice1 hR (by omega)
      have he1 : A3 = some ad := by injection he
      obtain ⟨gb, he2⟩ := Kd.R_head (he1 ▸ hR)
      subst he2
      subst he1
      obtain ⟨y, hy1, hyf, hw⟩ := own_at hR i hlt
      have hgb := hR.1 gb rfl
      have HW := Lib.hid hw
      have HK8 := Lib.hid hk8
      have HYr := Lib.hid hY
      have HGB := Lib.hid hgb
      have hq3 : wr.cell? ⟨b8, 3, none⟩ = some (.slice (some ⟨gb, 0, none⟩) f3.length c3) := (blk_cell hk8 3).trans rfl
      have hgne : gb ≠ b8 := by omega
      have HGN := Lib.hid hgne
      clear he hw hk8 hY hgb hR hp hgne
      go_wp2_with fail
      go_roundw
      case rel => exact ⟨i + 1, by omega, by go_num, Lib.hid ⟨HYr.out.setCell (p := ⟨gb, _, none⟩) HGB.out.1 _, (Below.heap_setCell _ _ _ _ (Ne.symm HGN.out)).trans HK8.out, _, HW.out _⟩⟩
      case measure => simp [intOf]; omega
    · obtain rfl : i = f3.length := by omega
      have HY15 := Lib.hid hY
      clear hp hk8 hR
      go_wp2_with fail
      clear hlt
      go_loopw [88, 18] (fun u88 _ wq => ∃ (i : Nat), i ≤ x3.length ∧ u88 = .int .i64 i ∧ Hid (Below w4.heap.size w4 wq)) (fun u _ _ => x3.length - (intOf u).toNat)
      case atStart => exact ⟨0, by omega, rfl, HY15⟩
      case round =>
        clear HY15
        obtain ⟨i, hi, rfl, hp⟩ := hrel
        have hY := hp.out
        have hBw := HB4.out.trans (hY.mono HB4.out.size)
        have hkb := (hY.block b5 (blk_lt KA4.out)).trans KA4.out
        by_cases hlt : i < x3.length
        · obtain ⟨ad, had, hcl0, hcl1, hcl2⟩ := at_T76 (HCA.out _ hBw) (i : Int) (by omega) (by omega)
          obtain ⟨ad7, had7, hdl0, hdl1, hdl2⟩ := at_T76 (HC7.out _ hY) (i : Int) (by omega) (by omega)
          subst had had7
          rw [Int.toNat_natCast, rd_dep x3 i hlt] at hcl0 hcl1 hcl2 hdl0 hdl1 hdl2
          generalize x3[i] = d at hcl0 hcl1 hcl2 hdl0 hdl1 hdl2
          obtain ⟨d0, d1, d2⟩ := d
          dsimp only at hcl0 hcl1 hcl2 hdl0 hdl1 hdl2
          have hq3 : wr.cell? ⟨b5, 3, none⟩ = some (.slice (some ad) x3.length c) := (blk_cell hkb 3).trans rfl
          have HYr := Lib.hid hY
          clear hkb hBw hY hp
          go_wp2_with fail
          go_quiet (fail)
          go_wp2_with fail
          go_roundw
          case rel => exact ⟨i + 1, by omega, by go_num, Lib.hid (pw_below_drewN HYr.out _)⟩
          case measure => simp [intOf]; omega
        · obtain rfl : i = x3.length := by omega
          have HBE := Lib.hid hBw
          clear hkb hY hp hBw
          go_wp2_with fail
          refine (fixed11_any _).mono ?_
          rintro e w9 ⟨rfl, hb⟩
          go_wp2_with fail
          go_ret
          exact ⟨rfl, HBE.out.trans (hb.mono HBE.out.size)⟩
abbrev RecT := (Int × ByteArray × Int × List S76 × Int × Int × ByteArray) × Option Addr × Nat
theorem walk (u v : Int) (v2 : Value) (p2 : RecT) (w : World) (w0 : (Lit.int .i64 u).wf = true) (w1 : (Lit.int .i64 v).wf = true) (w2 : IsRec w v2 p2) :
    Calls Try.prog 13 #[.int .i64 u, .int .i64 v, v2] w fun e w' => e = .returned (.bool true) ∧ Below w.heap.size w w' := by
  obtain ⟨⟨x0, x1, x2, x3, x4, x5, x6⟩, A, c⟩ := p2
  have hv := w2.v
  have hcA := w2.c
  have hrA := w2.row
  have hlA := w2.len
  dsimp only at hv hcA hrA hlA
  subst hv
  obtain ⟨ga, hga, hga2⟩ := great_is x0 x1 x2 x3 x4 x5 x6 (by simp only [maxLen] at hlA; omega) (x3.length + 1) (by omega)
  cases ga with
  | true => exact to_great u v A c x0 x1 x2 x3 x4 x5 x6 w hrA hcA ⟨_, hga⟩
  | false => exact to_main u v A c x0 x1 x2 x3 x4 x5 x6 w hrA hcA ⟨_, hga⟩ (hga2 rfl).ok (hga2 rfl).n
end Go.Proofs.Ythpbkhagjgggjaa.WMigrateTo
