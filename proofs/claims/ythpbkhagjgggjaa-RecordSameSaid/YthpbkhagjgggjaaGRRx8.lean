-- by a program of this session (gprint.py, over the kit's print): the machine's side of a law
import Derived.Test.YthpbkhagjgggjaaRecF
import Derived.Test.YthpbkhagjgggjaaGRRx0
import Derived.Test.YthpbkhagjgggjaaGRRx3
import Derived.Test.YthpbkhagjgggjaaGRRx5
import Derived.Test.YthpbkhagjgggjaaGRRx6
import Derived.Test.YthpbkhagjgggjaaGRRx7
namespace Go.Proofs.Ythpbkhagjgggjaa.GRR
open Go.RowKit Go.Proofs.YthpbkhagjgggjaaW.PrintWords Go.Proofs.YthpbkhagjgggjaaW.PrintLast Go.Proofs.YthpbkhagjgggjaaW.PrintMore
attribute [local go_sem] max2_int min2_int max_two min_two max_three min_three max_four min_four   -- for this text's walks alone
set_option linter.unusedVariables false
set_option linter.unusedSimpArgs false

/-! ### tephralaw08_RecordSame: function 9 -/
mutual
def tephralaw08_RecordSame.j0 : Nat → Bool → Int → ByteArray → Int → List (S76) → Int → Int → ByteArray → Int → ByteArray → Int → List (S76) → Int → Int → ByteArray → Option (Bool)
  | 0, _, _, _, _, _, _, _, _, _, _, _, _, _, _, _ => none
  | k + 1, x13, x179000, x179001, x179002, x179003, x179004, x179005, x179006, x180000, x180001, x180002, x180003, x180004, x180005, x180006 => if x13 = true then ((tephralaw08_fixed.f).bind fun t182 => (some t182)) else ((record_Same.f k x179000 x179001 x179002 x179003 x179004 x179005 x179006 x180000 x180001 x180002 x180003 x180004 x180005 x180006).bind fun t183 => ((tephraref08_Same.f k x179000 x179001 x179002 x179003 x179004 x179005 x179006 x180000 x180001 x180002 x180003 x180004 x180005 x180006).bind fun t184 => (if (t183 != t184) = true then (tephralaw08_RecordSame.j1 k true x179000 x179001 x179002 x179003 x179004 x179005 x179006) else ((record_Same.f k x180000 x180001 x180002 x180003 x180004 x180005 x180006 x179000 x179001 x179002 x179003 x179004 x179005 x179006).bind fun t185 => ((tephraref08_Same.f k x179000 x179001 x179002 x179003 x179004 x179005 x179006 x180000 x180001 x180002 x180003 x180004 x180005 x180006).bind fun t186 => (if (t185 != t186) = true then (tephralaw08_RecordSame.j1 k true x179000 x179001 x179002 x179003 x179004 x179005 x179006) else ((record_Same.f k x179000 x179001 x179002 x179003 x179004 x179005 x179006 x179000 x179001 x179002 x179003 x179004 x179005 x179006).bind fun t187 => (tephralaw08_RecordSame.j1 k (!t187) x179000 x179001 x179002 x179003 x179004 x179005 x179006))))))))
def tephralaw08_RecordSame.j1 : Nat → Bool → Int → ByteArray → Int → List (S76) → Int → Int → ByteArray → Option (Bool)
  | 0, _, _, _, _, _, _, _, _ => none
  | k + 1, x36, x179000, x179001, x179002, x179003, x179004, x179005, x179006 => if x36 = true then (some false) else ((some (([] : List (S76)) : List (S76))).bind fun y188 => (if y188.length + x179003.length < 4398046511104 then ((some (y188 ++ x179003 : List (S76))).bind fun y191 => ((record_Clone.f x179000 x179001 x179002 y191 x179004 x179005 x179006).bind fun bt195 => (tephralaw08_RecordSame.l0 k (y191.length : Int) 0 x179000 x179001 x179002 x179003 x179004 x179005 x179006 x179000 x179001 x179002 y191 x179004 x179005 x179006 bt195.1 bt195.2.1 bt195.2.2.1 bt195.2.2.2.1 bt195.2.2.2.2.1 bt195.2.2.2.2.2.1 bt195.2.2.2.2.2.2))) else (none)))
def tephralaw08_RecordSame.l0 : Nat → Int → Int → Int → ByteArray → Int → List (S76) → Int → Int → ByteArray → Int → ByteArray → Int → List (S76) → Int → Int → ByteArray → Int → ByteArray → Int → List (S76) → Int → Int → ByteArray → Option (Bool)
  | 0, _, _, _, _, _, _, _, _, _, _, _, _, _, _, _, _, _, _, _, _, _, _, _ => none
  | k + 1, x58, x59, x179000, x179001, x179002, x179003, x179004, x179005, x179006, x195000, x195001, x195002, x195003, x195004, x195005, x195006, x205000, x205001, x205002, x205003, x205004, x205005, x205006 => if x59 < x58 then (if 0 ≤ x59 then (if x59 < (x195003.length : Int) then (tephralaw08_RecordSame.l0 k x58 (wrap64 (x59 + 1)) x179000 x179001 x179002 x179003 x179004 x179005 x179006 x195000 x195001 x195002 (x195003.set (x59 : Int).toNat (⟨(rd_T76 x195003 x59).f0, IntKind.u64.wrap (((rd_T76 x195003 x59).f1) + 1), (rd_T76 x195003 x59).f2⟩ : S76)) x195004 x195005 x195006 x205000 x205001 x205002 x205003 x205004 x205005 x205006) else (none)) else (none)) else ((tephralaw08_fixed.f).bind fun t207 => (if t207 = true then ((tephraref08_Same.f k x205000 x205001 x205002 x205003 x205004 x205005 x205006 x179000 x179001 x179002 x179003 x179004 x179005 x179006).bind fun t208 => (some t208)) else (some false)))
end
def tephralaw08_RecordSame.f (k : Nat) (a0_0 : Int) (a0_1 : ByteArray) (a0_2 : Int) (l0_3 : List (S76)) (a0_4 : Int) (a0_5 : Int) (a0_6 : ByteArray) (a1_0 : Int) (a1_1 : ByteArray) (a1_2 : Int) (l1_3 : List (S76)) (a1_4 : Int) (a1_5 : Int) (a1_6 : ByteArray) : Option (Bool) := (tephralaw08_Great.f k a0_0 a0_1 a0_2 l0_3 a0_4 a0_5 a0_6).bind fun t180 => (if t180 = true then (tephralaw08_RecordSame.j0 k true a0_0 a0_1 a0_2 l0_3 a0_4 a0_5 a0_6 a1_0 a1_1 a1_2 l1_3 a1_4 a1_5 a1_6) else ((tephralaw08_Great.f k a1_0 a1_1 a1_2 l1_3 a1_4 a1_5 a1_6).bind fun t181 => (tephralaw08_RecordSame.j0 k t181 a0_0 a0_1 a0_2 l0_3 a0_4 a0_5 a0_6 a1_0 a1_1 a1_2 l1_3 a1_4 a1_5 a1_6)))
theorem tephralaw08_RecordSame.mono_l : ∀ k, (∀ y0 y1 y2 y3 y4 y5 y6 y7 y8 y9 y10 y11 y12 y13 y14, LeO (tephralaw08_RecordSame.j0 k y0 y1 y2 y3 y4 y5 y6 y7 y8 y9 y10 y11 y12 y13 y14) (tephralaw08_RecordSame.j0 (k + 1) y0 y1 y2 y3 y4 y5 y6 y7 y8 y9 y10 y11 y12 y13 y14)) ∧ (∀ y0 y1 y2 y3 y4 y5 y6 y7, LeO (tephralaw08_RecordSame.j1 k y0 y1 y2 y3 y4 y5 y6 y7) (tephralaw08_RecordSame.j1 (k + 1) y0 y1 y2 y3 y4 y5 y6 y7)) ∧ (∀ y0 y1 y2 y3 y4 y5 y6 y7 y8 y9 y10 y11 y12 y13 y14 y15 y16 y17 y18 y19 y20 y21 y22, LeO (tephralaw08_RecordSame.l0 k y0 y1 y2 y3 y4 y5 y6 y7 y8 y9 y10 y11 y12 y13 y14 y15 y16 y17 y18 y19 y20 y21 y22) (tephralaw08_RecordSame.l0 (k + 1) y0 y1 y2 y3 y4 y5 y6 y7 y8 y9 y10 y11 y12 y13 y14 y15 y16 y17 y18 y19 y20 y21 y22))
  | 0 => ⟨fun _ _ _ _ _ _ _ _ _ _ _ _ _ _ _ r h => by simp [tephralaw08_RecordSame.j0] at h, fun _ _ _ _ _ _ _ _ r h => by simp [tephralaw08_RecordSame.j1] at h, fun _ _ _ _ _ _ _ _ _ _ _ _ _ _ _ _ _ _ _ _ _ _ _ r h => by simp [tephralaw08_RecordSame.l0] at h⟩
  | k + 1 => by
    obtain ⟨ih0, ih1, ih2⟩ := tephralaw08_RecordSame.mono_l k
    refine ⟨?_, ?_, ?_⟩
    · intro y0 y1 y2 y3 y4 y5 y6 y7 y8 y9 y10 y11 y12 y13 y14
      unfold tephralaw08_RecordSame.j0
      repeat' first
      | (with_reducible exact ih0 _ _ _ _ _ _ _ _ _ _ _ _ _ _ _)
      | (with_reducible exact ih1 _ _ _ _ _ _ _ _)
      | (with_reducible exact ih2 _ _ _ _ _ _ _ _ _ _ _ _ _ _ _ _ _ _ _ _ _ _ _)
      | (with_reducible exact record_Same.mono _ _ _ _ _ _ _ _ _ _ _ _ _ _ _)
      | (with_reducible exact tephralaw08_Great.mono _ _ _ _ _ _ _ _)
      | (with_reducible exact tephraref08_Same.mono _ _ _ _ _ _ _ _ _ _ _ _ _ _ _)
      | (with_reducible exact LeO.refl _)
      | (with_reducible exact LeO.none _)
      | (with_reducible refine LeO.ite ?_ ?_)
      | (with_reducible refine LeO.bind ?_ (fun _ => ?_))
      | exact ih0 _ _ _ _ _ _ _ _ _ _ _ _ _ _ _
      | exact ih1 _ _ _ _ _ _ _ _
      | exact ih2 _ _ _ _ _ _ _ _ _ _ _ _ _ _ _ _ _ _ _ _ _ _ _
      | exact record_Same.mono _ _ _ _ _ _ _ _ _ _ _ _ _ _ _
      | exact tephralaw08_Great.mono _ _ _ _ _ _ _ _
      | exact tephraref08_Same.mono _ _ _ _ _ _ _ _ _ _ _ _ _ _ _
      | exact LeO.none _
      | refine LeO.ite ?_ ?_
      | refine LeO.bind ?_ (fun _ => ?_)
    · intro y0 y1 y2 y3 y4 y5 y6 y7
      unfold tephralaw08_RecordSame.j1
      repeat' first
      | (with_reducible exact ih0 _ _ _ _ _ _ _ _ _ _ _ _ _ _ _)
      | (with_reducible exact ih1 _ _ _ _ _ _ _ _)
      | (with_reducible exact ih2 _ _ _ _ _ _ _ _ _ _ _ _ _ _ _ _ _ _ _ _ _ _ _)
      | (with_reducible exact record_Same.mono _ _ _ _ _ _ _ _ _ _ _ _ _ _ _)
      | (with_reducible exact tephralaw08_Great.mono _ _ _ _ _ _ _ _)
      | (with_reducible exact tephraref08_Same.mono _ _ _ _ _ _ _ _ _ _ _ _ _ _ _)
      | (with_reducible exact LeO.refl _)
      | (with_reducible exact LeO.none _)
      | (with_reducible refine LeO.ite ?_ ?_)
      | (with_reducible refine LeO.bind ?_ (fun _ => ?_))
      | exact ih0 _ _ _ _ _ _ _ _ _ _ _ _ _ _ _
      | exact ih1 _ _ _ _ _ _ _ _
      | exact ih2 _ _ _ _ _ _ _ _ _ _ _ _ _ _ _ _ _ _ _ _ _ _ _
      | exact record_Same.mono _ _ _ _ _ _ _ _ _ _ _ _ _ _ _
      | exact tephralaw08_Great.mono _ _ _ _ _ _ _ _
      | exact tephraref08_Same.mono _ _ _ _ _ _ _ _ _ _ _ _ _ _ _
      | exact LeO.none _
      | refine LeO.ite ?_ ?_
      | refine LeO.bind ?_ (fun _ => ?_)
    · intro y0 y1 y2 y3 y4 y5 y6 y7 y8 y9 y10 y11 y12 y13 y14 y15 y16 y17 y18 y19 y20 y21 y22
      unfold tephralaw08_RecordSame.l0
      repeat' first
      | (with_reducible exact ih0 _ _ _ _ _ _ _ _ _ _ _ _ _ _ _)
      | (with_reducible exact ih1 _ _ _ _ _ _ _ _)
      | (with_reducible exact ih2 _ _ _ _ _ _ _ _ _ _ _ _ _ _ _ _ _ _ _ _ _ _ _)
      | (with_reducible exact record_Same.mono _ _ _ _ _ _ _ _ _ _ _ _ _ _ _)
      | (with_reducible exact tephralaw08_Great.mono _ _ _ _ _ _ _ _)
      | (with_reducible exact tephraref08_Same.mono _ _ _ _ _ _ _ _ _ _ _ _ _ _ _)
      | (with_reducible exact LeO.refl _)
      | (with_reducible exact LeO.none _)
      | (with_reducible refine LeO.ite ?_ ?_)
      | (with_reducible refine LeO.bind ?_ (fun _ => ?_))
      | exact ih0 _ _ _ _ _ _ _ _ _ _ _ _ _ _ _
      | exact ih1 _ _ _ _ _ _ _ _
      | exact ih2 _ _ _ _ _ _ _ _ _ _ _ _ _ _ _ _ _ _ _ _ _ _ _
      | exact record_Same.mono _ _ _ _ _ _ _ _ _ _ _ _ _ _ _
      | exact tephralaw08_Great.mono _ _ _ _ _ _ _ _
      | exact tephraref08_Same.mono _ _ _ _ _ _ _ _ _ _ _ _ _ _ _
      | exact LeO.none _
      | refine LeO.ite ?_ ?_
      | refine LeO.bind ?_ (fun _ => ?_)
theorem tephralaw08_RecordSame.mono : ∀ a0 a1 a2 a3 a4 a5 a6 a7 a8 a9 a10 a11 a12 a13 k, LeO (tephralaw08_RecordSame.f k a0 a1 a2 a3 a4 a5 a6 a7 a8 a9 a10 a11 a12 a13) (tephralaw08_RecordSame.f (k + 1) a0 a1 a2 a3 a4 a5 a6 a7 a8 a9 a10 a11 a12 a13) := by
  intro a0 a1 a2 a3 a4 a5 a6 a7 a8 a9 a10 a11 a12 a13 k
  obtain ⟨ih0, ih1, ih2⟩ := tephralaw08_RecordSame.mono_l k
  unfold tephralaw08_RecordSame.f
  repeat' first
      | (with_reducible exact ih0 _ _ _ _ _ _ _ _ _ _ _ _ _ _ _)
      | (with_reducible exact ih1 _ _ _ _ _ _ _ _)
      | (with_reducible exact ih2 _ _ _ _ _ _ _ _ _ _ _ _ _ _ _ _ _ _ _ _ _ _ _)
      | (with_reducible exact record_Same.mono _ _ _ _ _ _ _ _ _ _ _ _ _ _ _)
      | (with_reducible exact tephralaw08_Great.mono _ _ _ _ _ _ _ _)
      | (with_reducible exact tephraref08_Same.mono _ _ _ _ _ _ _ _ _ _ _ _ _ _ _)
      | (with_reducible exact LeO.refl _)
      | (with_reducible exact LeO.none _)
      | (with_reducible refine LeO.ite ?_ ?_)
      | (with_reducible refine LeO.bind ?_ (fun _ => ?_))
      | exact ih0 _ _ _ _ _ _ _ _ _ _ _ _ _ _ _
      | exact ih1 _ _ _ _ _ _ _ _
      | exact ih2 _ _ _ _ _ _ _ _ _ _ _ _ _ _ _ _ _ _ _ _ _ _ _
      | exact record_Same.mono _ _ _ _ _ _ _ _ _ _ _ _ _ _ _
      | exact tephralaw08_Great.mono _ _ _ _ _ _ _ _
      | exact tephraref08_Same.mono _ _ _ _ _ _ _ _ _ _ _ _ _ _ _
      | exact LeO.none _
      | refine LeO.ite ?_ ?_
      | refine LeO.bind ?_ (fun _ => ?_)
def tephralaw08_RecordSame.T3 : Bool × List (List Nat × List Nat) := (true, [([], []), ([], []), ([0, 1], [0, 1]), ([], []), ([], []), ([3, 4, 2], [3, 4]), ([2, 5], [2, 5]), ([6, 5], [6]), ([7], [7]), ([7], [7]), ([8, 9, 7, 7], [7, 8, 9]), ([7], [7]), ([7], [7]), ([11, 12, 10, 7], [7, 11, 12]), ([10, 13, 7], [7, 10, 13]), ([7, 14], [7, 14]), ([15, 13], [15]), ([16], [16]), ([16], [16]), ([17, 18, 16, 16], [16, 17, 18]), ([19, 16], [16, 19]), ([16, 20], [16, 20])])
def tephralaw08_RecordSame.B3 : List Nat := [0, 0, 3, 0, 0, 31, 63, 127, 255, 255, 1023, 255, 255, 8191, 16383, 32767, 65535, 131071, 131071, 524287, 1048575, 2097151]
theorem tephralaw08_RecordSame.tab3 : rtab .any (opsOf Try.f9 3) = tephralaw08_RecordSame.T3 := by kernel_rfl
theorem tephralaw08_RecordSame.bits3 : waitsOk tephralaw08_RecordSame.T3.2 tephralaw08_RecordSame.B3 = true := by kernel_rfl
def tephralaw08_RecordSame.T5 : Bool × List (List Nat × List Nat) := (true, [([], []), ([0], [0]), ([], []), ([2], [2]), ([], []), ([4], [4]), ([], []), ([], []), ([7], [7]), ([6, 8], [6, 8]), ([], []), ([10], [10]), ([], []), ([12], [12]), ([], []), ([14], [14]), ([1, 3, 5, 9, 11, 13, 15], [1, 3, 5, 9, 11, 13, 15]), ([], []), ([17, 16, 9, 0, 1, 2, 3, 4, 5, 6, 7, 8, 9, 10, 11, 12, 13, 14, 15, 16, 17], [16, 17])])
def tephralaw08_RecordSame.B5 : List Nat := [0, 1, 0, 4, 0, 16, 0, 0, 128, 448, 0, 1024, 0, 4096, 0, 16384, 65535, 0, 262143]
theorem tephralaw08_RecordSame.tab5 : rtab .any (opsOf Try.f9 5) = tephralaw08_RecordSame.T5 := by kernel_rfl
theorem tephralaw08_RecordSame.bits5 : waitsOk tephralaw08_RecordSame.T5.2 tephralaw08_RecordSame.B5 = true := by kernel_rfl
set_option maxHeartbeats 8000000 in
set_option maxRecDepth 100000 in
theorem tephralaw08_RecordSame.calls (k : Nat) (a0_0 : Int) (a0_1 : ByteArray) (a0_2 : Int) (A0_3 : Option Addr) (c0_3 : Nat) (l0_3 : List (S76)) (a0_4 : Int) (a0_5 : Int) (a0_6 : ByteArray) (a1_0 : Int) (a1_1 : ByteArray) (a1_2 : Int) (A1_3 : Option Addr) (c1_3 : Nat) (l1_3 : List (S76)) (a1_4 : Int) (a1_5 : Int) (a1_6 : ByteArray) (r : Bool) (w : World) (hr0_3 : Kd.C k76 w A0_3 l0_3.length l0_3) (hc0_3 : l0_3.length ≤ c0_3) (hr1_3 : Kd.C k76 w A1_3 l1_3.length l1_3) (hc1_3 : l1_3.length ≤ c1_3) (h : tephralaw08_RecordSame.f k a0_0 a0_1 a0_2 l0_3 a0_4 a0_5 a0_6 a1_0 a1_1 a1_2 l1_3 a1_4 a1_5 a1_6 = some r) :
    Calls Try.prog 9 #[.agg #[.int .i64 a0_0, .string a0_1, .int .u64 a0_2, .slice A0_3 l0_3.length c0_3, .int .u64 a0_4, .int .u64 a0_5, .string a0_6], .agg #[.int .i64 a1_0, .string a1_1, .int .u64 a1_2, .slice A1_3 l1_3.length c1_3, .int .u64 a1_4, .int .u64 a1_5, .string a1_6]] w fun e w' => e = .returned (.bool r) ∧ Below w.heap.size w w' := by
  have hu70 := Try.underlying70
  have HR0_3 := Aside0.mk hr0_3
  have HC0_3 := Aside0.mk hc0_3
  clear hr0_3 hc0_3
  have HR1_3 := Aside0.mk hr1_3
  have HC1_3 := Aside0.mk hc1_3
  clear hr1_3 hc1_3
  have HB := Aside0.mk (Below.refl w.heap.size w)
  have H : ((tephralaw08_Great.f k a0_0 a0_1 a0_2 l0_3 a0_4 a0_5 a0_6).bind fun t180 => (if t180 = true then (tephralaw08_RecordSame.j0 k true a0_0 a0_1 a0_2 l0_3 a0_4 a0_5 a0_6 a1_0 a1_1 a1_2 l1_3 a1_4 a1_5 a1_6) else ((tephralaw08_Great.f k a1_0 a1_1 a1_2 l1_3 a1_4 a1_5 a1_6).bind fun t181 => (tephralaw08_RecordSame.j0 k t181 a0_0 a0_1 a0_2 l0_3 a0_4 a0_5 a0_6 a1_0 a1_1 a1_2 l1_3 a1_4 a1_5 a1_6)))) = some r := h
  clear h
  have HC3 := Aside0.mk H
  clear H
  go_enter Try.func9, Try.ntmps9
  go_upto_region 1 with (first | ((with_reducible refine gate_dst (N := 2) rfl ?_); refine box_event ?hg (N := 2) ?hd (cs := #[.int .i64 a0_0, .string a0_1, .int .u64 a0_2, .slice A0_3 l0_3.length c0_3, .int .u64 a0_4, .int .u64 a0_5, .string a0_6]) (t := 70) ?hr ?_; (case hd => rfl); (case hg => rfl); (case hr => first | (go_simp; done) | (go_simp; rfl)); intro gb178 hg w4 hbox hb; have n0_ := Aside0.mk (below_step (by repeat (first | (with_reducible first | exact HB.out | apply below_alloc | apply pw_below_drewN | apply below_drew1) | exact HB.out)) hb); have n1_ := Aside0.mk (hbox); have n2_ := Aside0.mk ((by rw [hg]; exact (below_size (by repeat (first | (with_reducible first | exact HB.out | apply below_alloc | apply pw_below_drewN | apply below_drew1) | exact HB.out))) : w.heap.size ≤ gb178)); have n3_ := Aside0.mk ((by rw [hg]; exact (below_size (by repeat (first | (with_reducible first | exact HB.out | apply below_alloc | apply pw_below_drewN | apply below_drew1) | exact HB.out))) : w.heap.size ≤ gb178)); clear HB; have HB := n0_; have BK178 := n1_; have GW178 := n2_; have GE178 := n3_; clear n0_ n1_ n2_ n3_; clear hb hbox hg) | ((with_reducible refine gate_dst (N := 3) rfl ?_); refine box_event ?hg (N := 3) ?hd (cs := #[.int .i64 a1_0, .string a1_1, .int .u64 a1_2, .slice A1_3 l1_3.length c1_3, .int .u64 a1_4, .int .u64 a1_5, .string a1_6]) (t := 70) ?hr ?_; (case hd => rfl); (case hg => rfl); (case hr => first | (go_simp; done) | (go_simp; rfl)); intro gb179 hg w5 hbox hb; have n0_ := Aside0.mk (blk_below (g := gb178) (o := .cells #[.int .i64 a0_0, .string a0_1, .int .u64 a0_2, .slice A0_3 l0_3.length c0_3, .int .u64 a0_4, .int .u64 a0_5, .string a0_6] 70 (0, 0)) (by (with_reducible repeat (first | refine blk_drewN ?_ _ | refine blk_drew ?_ | refine blk_alloc ?_ _)); exact BK178.out) hb); have n1_ := Aside0.mk (below_step (by repeat (first | (with_reducible first | exact HB.out | apply below_alloc | apply pw_below_drewN | apply below_drew1 | refine below_set ?_ GE178.out) | exact HB.out)) hb); have n2_ := Aside0.mk (hbox); have n3_ := Aside0.mk ((by rw [hg]; exact (below_size (by repeat (first | (with_reducible first | exact HB.out | apply below_alloc | apply pw_below_drewN | apply below_drew1 | refine below_set ?_ GE178.out) | exact HB.out))) : w.heap.size ≤ gb179)); have n4_ := Aside0.mk ((by rw [hg]; exact (below_size (by repeat (first | (with_reducible first | exact HB.out | apply below_alloc | apply pw_below_drewN | apply below_drew1 | refine below_set ?_ GE178.out) | exact HB.out))) : w.heap.size ≤ gb179)); have n5_ := Aside0.mk ((by rw [hg]; exact Nat.ne_of_lt (blk_lt (g := gb178) (o := .cells #[.int .i64 a0_0, .string a0_1, .int .u64 a0_2, .slice A0_3 l0_3.length c0_3, .int .u64 a0_4, .int .u64 a0_5, .string a0_6] 70 (0, 0)) (by (with_reducible repeat (first | refine blk_drewN ?_ _ | refine blk_drew ?_ | refine blk_alloc ?_ _)); exact BK178.out)) : gb178 ≠ gb179)); have n6_ := Aside0.mk ((by rw [hg]; exact Nat.ne_of_gt (blk_lt (g := gb178) (o := .cells #[.int .i64 a0_0, .string a0_1, .int .u64 a0_2, .slice A0_3 l0_3.length c0_3, .int .u64 a0_4, .int .u64 a0_5, .string a0_6] 70 (0, 0)) (by (with_reducible repeat (first | refine blk_drewN ?_ _ | refine blk_drew ?_ | refine blk_alloc ?_ _)); exact BK178.out)) : gb179 ≠ gb178)); clear BK178; clear HB; have BK178 := n0_; have HB := n1_; have BK179 := n2_; have GW179 := n3_; have GE179 := n4_; have NB178_179 := n5_; have NB179_178 := n6_; clear n0_ n1_ n2_ n3_ n4_ n5_ n6_; clear hb hbox hg))
  (try simp only [Act.put, List.setIfInBounds_toArray, List.set_cons_zero, List.set_cons_succ])
  go_cut [13] (fun v13 wc => ∃ (kq : Nat) (x13_2 : Bool), v13 = .bool x13_2 ∧ Aside0 (tephralaw08_RecordSame.j0 kq x13_2 a0_0 a0_1 a0_2 l0_3 a0_4 a0_5 a0_6 a1_0 a1_1 a1_2 l1_3 a1_4 a1_5 a1_6 = some r) ∧ Aside0 (kq ≤ k) ∧ Aside0 (wc.heap[gb178]? = some (.cells #[.int .i64 a0_0, .string a0_1, .int .u64 a0_2, (.slice A0_3 l0_3.length c0_3), .int .u64 a0_4, .int .u64 a0_5, .string a0_6] 70 (0, 0))) ∧ Aside0 (wc.heap[gb179]? = some (.cells #[.int .i64 a1_0, .string a1_1, .int .u64 a1_2, (.slice A1_3 l1_3.length c1_3), .int .u64 a1_4, .int .u64 a1_5, .string a1_6] 70 (0, 0))) ∧ Aside0 (Below w.heap.size w wc))
  case first =>
    have H := HC3.out
    clear HC3
    replace H := Option.bind_eq_some_iff.mp H
    obtain ⟨t180, A60, H⟩ := H
    replace H : (if t180 = true then (tephralaw08_RecordSame.j0 k true a0_0 a0_1 a0_2 l0_3 a0_4 a0_5 a0_6 a1_0 a1_1 a1_2 l1_3 a1_4 a1_5 a1_6) else ((tephralaw08_Great.f k a1_0 a1_1 a1_2 l1_3 a1_4 a1_5 a1_6).bind fun t181 => (tephralaw08_RecordSame.j0 k t181 a0_0 a0_1 a0_2 l0_3 a0_4 a0_5 a0_6 a1_0 a1_1 a1_2 l1_3 a1_4 a1_5 a1_6))) = some r := H
    have A6 := Aside0.mk A60
    clear A60
    by_cases c7 : t180 = true
    · subst c7
      have H1 : (tephralaw08_RecordSame.j0 k true a0_0 a0_1 a0_2 l0_3 a0_4 a0_5 a0_6 a1_0 a1_1 a1_2 l1_3 a1_4 a1_5 a1_6) = some r := by rw [if_pos rfl] at H; exact H
      clear H
      have H := H1
      clear H1
      have H' := Aside0.mk H
      clear H
      have hnb8 := NB178_179.out
      have hnc8 := NB179_178.out
      have hcz9_0 : w5.cell? ⟨gb178, 0, none⟩ = some (.int .i64 a0_0) := (blk_cell BK178.out 0).trans rfl
      have hcz9_1 : w5.cell? ⟨gb178, 1, none⟩ = some (.string a0_1) := (blk_cell BK178.out 1).trans rfl
      have hcz9_2 : w5.cell? ⟨gb178, 2, none⟩ = some (.int .u64 a0_2) := (blk_cell BK178.out 2).trans rfl
      have hcz9_3 : w5.cell? ⟨gb178, 3, none⟩ = some (.slice A0_3 l0_3.length c0_3) := (blk_cell BK178.out 3).trans rfl
      have hcz9_4 : w5.cell? ⟨gb178, 4, none⟩ = some (.int .u64 a0_4) := (blk_cell BK178.out 4).trans rfl
      have hcz9_5 : w5.cell? ⟨gb178, 5, none⟩ = some (.int .u64 a0_5) := (blk_cell BK178.out 5).trans rfl
      have hcz9_6 : w5.cell? ⟨gb178, 6, none⟩ = some (.string a0_6) := (blk_cell BK178.out 6).trans rfl
      have hfz9_0 := blk_frozen BK178.out 0
      have hfz9_1 := blk_frozen BK178.out 1
      have hfz9_2 := blk_frozen BK178.out 2
      have hfz9_3 := blk_frozen BK178.out 3
      have hfz9_4 := blk_frozen BK178.out 4
      have hfz9_5 := blk_frozen BK178.out 5
      have hfz9_6 := blk_frozen BK178.out 6
      go_wp2_with (first | ((with_reducible refine gate_callee (f := 42) rfl ?_); refine goesL_ (some 9) rfl rfl Try.func42 (by kernel_rfl) rfl #[.agg #[.int .i64 a0_0, .string a0_1, .int .u64 a0_2, .slice A0_3 l0_3.length c0_3, .int .u64 a0_4, .int .u64 a0_5, .string a0_6]] rfl (by (try simp only [List.map_toArray, List.map_cons, List.map_nil]); first | done | rfl | (simp only [List.length_drop, List.length_take]; rfl)) ?_; (with_reducible refine (tephralaw08_Great.calls k a0_0 a0_1 a0_2 _ _ l0_3 a0_4 a0_5 a0_6 true _ ?side1 ?side2 A6.out).mono ?_); (case side1 => repeat (first | exact (Kd.C_below HR0_3.out HB.out) | (with_reducible refine Kd.C_alloc ?_ _) | (with_reducible refine Kd.C_drewN ?_ _) | (with_reducible refine Kd.C_drew ?_))); (case side2 => exact HC0_3.out); rintro e w10 ⟨rfl, hb⟩; refine ⟨_, rfl, ?_⟩; have n0_ := Aside0.mk (blk_below (g := gb178) (o := .cells #[.int .i64 a0_0, .string a0_1, .int .u64 a0_2, .slice A0_3 l0_3.length c0_3, .int .u64 a0_4, .int .u64 a0_5, .string a0_6] 70 (0, 0)) (by (with_reducible repeat (first | refine blk_drewN ?_ _ | refine blk_drew ?_ | refine blk_alloc ?_ _)); exact BK178.out) hb); have n1_ := Aside0.mk (blk_below (g := gb179) (o := .cells #[.int .i64 a1_0, .string a1_1, .int .u64 a1_2, .slice A1_3 l1_3.length c1_3, .int .u64 a1_4, .int .u64 a1_5, .string a1_6] 70 (0, 0)) (by (with_reducible repeat (first | refine blk_drewN ?_ _ | refine blk_drew ?_ | refine blk_alloc ?_ _)); exact BK179.out) hb); have n2_ := Aside0.mk (below_step (by repeat (first | (with_reducible first | exact HB.out | apply below_alloc | apply pw_below_drewN | apply below_drew1 | refine below_set ?_ GE178.out | refine below_set ?_ GE179.out) | exact HB.out)) hb); clear BK178; clear BK179; clear HB; have BK178 := n0_; have BK179 := n1_; have HB := n2_; clear n0_ n1_ n2_; (try clear hb); (try clear hb2); (try clear hk); (try clear hi)))
      go_meet
      case rel => exact ⟨_, (true), (by first | rfl | (simp; done) | (simp [*]; done) | (simp; rw [Bool.eq_iff_iff]; simp; done)), H', ⟨by first | omega | exact Nat.le_refl _⟩, ⟨by (with_reducible repeat (first | refine blk_drewN ?_ _ | refine blk_drew ?_ | refine blk_alloc ?_ _)); exact BK178.out⟩, ⟨by (with_reducible repeat (first | refine blk_drewN ?_ _ | refine blk_drew ?_ | refine blk_alloc ?_ _)); exact BK179.out⟩, ⟨by repeat (first | (with_reducible first | exact HB.out | apply below_alloc | apply pw_below_drewN | apply below_drew1 | refine below_set ?_ GE178.out | refine below_set ?_ GE179.out) | exact HB.out)⟩⟩
    · replace c7 := Bool.eq_false_iff.mpr c7
      subst c7
      have H1 : ((tephralaw08_Great.f k a1_0 a1_1 a1_2 l1_3 a1_4 a1_5 a1_6).bind fun t181 => (tephralaw08_RecordSame.j0 k t181 a0_0 a0_1 a0_2 l0_3 a0_4 a0_5 a0_6 a1_0 a1_1 a1_2 l1_3 a1_4 a1_5 a1_6)) = some r := by rw [if_neg (show ¬ (false = true) by decide)] at H; exact H
      clear H
      have H := H1
      clear H1
      replace H := Option.bind_eq_some_iff.mp H
      obtain ⟨t181, A110, H⟩ := H
      replace H : (tephralaw08_RecordSame.j0 k t181 a0_0 a0_1 a0_2 l0_3 a0_4 a0_5 a0_6 a1_0 a1_1 a1_2 l1_3 a1_4 a1_5 a1_6) = some r := H
      have A11 := Aside0.mk A110
      clear A110
      have H' := Aside0.mk H
      clear H
      have hnb12 := NB178_179.out
      have hnc12 := NB179_178.out
      have hcz13_0 : w5.cell? ⟨gb178, 0, none⟩ = some (.int .i64 a0_0) := (blk_cell BK178.out 0).trans rfl
      have hcz13_1 : w5.cell? ⟨gb178, 1, none⟩ = some (.string a0_1) := (blk_cell BK178.out 1).trans rfl
      have hcz13_2 : w5.cell? ⟨gb178, 2, none⟩ = some (.int .u64 a0_2) := (blk_cell BK178.out 2).trans rfl
      have hcz13_3 : w5.cell? ⟨gb178, 3, none⟩ = some (.slice A0_3 l0_3.length c0_3) := (blk_cell BK178.out 3).trans rfl
      have hcz13_4 : w5.cell? ⟨gb178, 4, none⟩ = some (.int .u64 a0_4) := (blk_cell BK178.out 4).trans rfl
      have hcz13_5 : w5.cell? ⟨gb178, 5, none⟩ = some (.int .u64 a0_5) := (blk_cell BK178.out 5).trans rfl
      have hcz13_6 : w5.cell? ⟨gb178, 6, none⟩ = some (.string a0_6) := (blk_cell BK178.out 6).trans rfl
      have hfz13_0 := blk_frozen BK178.out 0
      have hfz13_1 := blk_frozen BK178.out 1
      have hfz13_2 := blk_frozen BK178.out 2
      have hfz13_3 := blk_frozen BK178.out 3
      have hfz13_4 := blk_frozen BK178.out 4
      have hfz13_5 := blk_frozen BK178.out 5
      have hfz13_6 := blk_frozen BK178.out 6
      go_wp2_with (first | ((with_reducible refine gate_callee (f := 42) rfl ?_); refine goesL_ (some 9) rfl rfl Try.func42 (by kernel_rfl) rfl #[.agg #[.int .i64 a0_0, .string a0_1, .int .u64 a0_2, .slice A0_3 l0_3.length c0_3, .int .u64 a0_4, .int .u64 a0_5, .string a0_6]] rfl (by (try simp only [List.map_toArray, List.map_cons, List.map_nil]); first | done | rfl | (simp only [List.length_drop, List.length_take]; rfl)) ?_; (with_reducible refine (tephralaw08_Great.calls k a0_0 a0_1 a0_2 _ _ l0_3 a0_4 a0_5 a0_6 false _ ?side1 ?side2 A6.out).mono ?_); (case side1 => repeat (first | exact (Kd.C_below HR0_3.out HB.out) | (with_reducible refine Kd.C_alloc ?_ _) | (with_reducible refine Kd.C_drewN ?_ _) | (with_reducible refine Kd.C_drew ?_))); (case side2 => exact HC0_3.out); rintro e w14 ⟨rfl, hb⟩; refine ⟨_, rfl, ?_⟩; have n0_ := Aside0.mk (blk_below (g := gb178) (o := .cells #[.int .i64 a0_0, .string a0_1, .int .u64 a0_2, .slice A0_3 l0_3.length c0_3, .int .u64 a0_4, .int .u64 a0_5, .string a0_6] 70 (0, 0)) (by (with_reducible repeat (first | refine blk_drewN ?_ _ | refine blk_drew ?_ | refine blk_alloc ?_ _)); exact BK178.out) hb); have n1_ := Aside0.mk (blk_below (g := gb179) (o := .cells #[.int .i64 a1_0, .string a1_1, .int .u64 a1_2, .slice A1_3 l1_3.length c1_3, .int .u64 a1_4, .int .u64 a1_5, .string a1_6] 70 (0, 0)) (by (with_reducible repeat (first | refine blk_drewN ?_ _ | refine blk_drew ?_ | refine blk_alloc ?_ _)); exact BK179.out) hb); have n2_ := Aside0.mk (below_step (by repeat (first | (with_reducible first | exact HB.out | apply below_alloc | apply pw_below_drewN | apply below_drew1 | refine below_set ?_ GE178.out | refine below_set ?_ GE179.out) | exact HB.out)) hb); clear BK178; clear BK179; clear HB; have BK178 := n0_; have BK179 := n1_; have HB := n2_; clear n0_ n1_ n2_; (try clear hb); (try clear hb2); (try clear hk); (try clear hi); have hcz15_0 : w14.cell? ⟨gb179, 0, none⟩ = some (.int .i64 a1_0) := (blk_cell BK179.out 0).trans rfl; have hcz15_1 : w14.cell? ⟨gb179, 1, none⟩ = some (.string a1_1) := (blk_cell BK179.out 1).trans rfl; have hcz15_2 : w14.cell? ⟨gb179, 2, none⟩ = some (.int .u64 a1_2) := (blk_cell BK179.out 2).trans rfl; have hcz15_3 : w14.cell? ⟨gb179, 3, none⟩ = some (.slice A1_3 l1_3.length c1_3) := (blk_cell BK179.out 3).trans rfl; have hcz15_4 : w14.cell? ⟨gb179, 4, none⟩ = some (.int .u64 a1_4) := (blk_cell BK179.out 4).trans rfl; have hcz15_5 : w14.cell? ⟨gb179, 5, none⟩ = some (.int .u64 a1_5) := (blk_cell BK179.out 5).trans rfl; have hcz15_6 : w14.cell? ⟨gb179, 6, none⟩ = some (.string a1_6) := (blk_cell BK179.out 6).trans rfl; have hfz15_0 := blk_frozen BK179.out 0; have hfz15_1 := blk_frozen BK179.out 1; have hfz15_2 := blk_frozen BK179.out 2; have hfz15_3 := blk_frozen BK179.out 3; have hfz15_4 := blk_frozen BK179.out 4; have hfz15_5 := blk_frozen BK179.out 5; have hfz15_6 := blk_frozen BK179.out 6) | (go_at_call 42; (with_reducible refine (tephralaw08_Great.calls k a1_0 a1_1 a1_2 _ _ l1_3 a1_4 a1_5 a1_6 t181 _ ?side1 ?side2 A11.out).mono ?_); (case side1 => repeat (first | exact (Kd.C_below HR1_3.out HB.out) | (with_reducible refine Kd.C_alloc ?_ _) | (with_reducible refine Kd.C_drewN ?_ _) | (with_reducible refine Kd.C_drew ?_))); (case side2 => exact HC1_3.out); rintro e w16 ⟨rfl, hb⟩; have n0_ := Aside0.mk (blk_below (g := gb178) (o := .cells #[.int .i64 a0_0, .string a0_1, .int .u64 a0_2, .slice A0_3 l0_3.length c0_3, .int .u64 a0_4, .int .u64 a0_5, .string a0_6] 70 (0, 0)) (by (with_reducible repeat (first | refine blk_drewN ?_ _ | refine blk_drew ?_ | refine blk_alloc ?_ _)); exact BK178.out) hb); have n1_ := Aside0.mk (blk_below (g := gb179) (o := .cells #[.int .i64 a1_0, .string a1_1, .int .u64 a1_2, .slice A1_3 l1_3.length c1_3, .int .u64 a1_4, .int .u64 a1_5, .string a1_6] 70 (0, 0)) (by (with_reducible repeat (first | refine blk_drewN ?_ _ | refine blk_drew ?_ | refine blk_alloc ?_ _)); exact BK179.out) hb); have n2_ := Aside0.mk (below_step (by repeat (first | (with_reducible first | exact HB.out | apply below_alloc | apply pw_below_drewN | apply below_drew1 | refine below_set ?_ GE178.out | refine below_set ?_ GE179.out) | exact HB.out)) hb); clear BK178; clear BK179; clear HB; have BK178 := n0_; have BK179 := n1_; have HB := n2_; clear n0_ n1_ n2_; (try clear hb); (try clear hb2); (try clear hk); (try clear hi)))
      go_meet
      case rel => exact ⟨_, (t181), (by first | rfl | (simp; done) | (simp [*]; done) | (simp; rw [Bool.eq_iff_iff]; simp; done)), H', ⟨by first | omega | exact Nat.le_refl _⟩, ⟨by (with_reducible repeat (first | refine blk_drewN ?_ _ | refine blk_drew ?_ | refine blk_alloc ?_ _)); exact BK178.out⟩, ⟨by (with_reducible repeat (first | refine blk_drewN ?_ _ | refine blk_drew ?_ | refine blk_alloc ?_ _)); exact BK179.out⟩, ⟨by repeat (first | (with_reducible first | exact HB.out | apply below_alloc | apply pw_below_drewN | apply below_drew1 | refine below_set ?_ GE178.out | refine below_set ?_ GE179.out) | exact HB.out)⟩⟩
  case rest =>
    clear HC3
    try clear c1
    try clear p2
    try clear c4
    try clear c7
    try clear c8
    try clear c9
    try clear c12
    try clear hcz13_0
    try clear hcz13_1
    try clear hcz13_2
    try clear hcz13_3
    try clear hcz13_4
    try clear hcz13_5
    try clear hcz13_6
    try clear hcz15_0
    try clear hcz15_1
    try clear hcz15_2
    try clear hcz15_3
    try clear hcz15_4
    try clear hcz15_5
    try clear hcz15_6
    try clear hcz9_0
    try clear hcz9_1
    try clear hcz9_2
    try clear hcz9_3
    try clear hcz9_4
    try clear hcz9_5
    try clear hcz9_6
    try clear hfz13_0
    try clear hfz13_1
    try clear hfz13_2
    try clear hfz13_3
    try clear hfz13_4
    try clear hfz13_5
    try clear hfz13_6
    try clear hfz15_0
    try clear hfz15_1
    try clear hfz15_2
    try clear hfz15_3
    try clear hfz15_4
    try clear hfz15_5
    try clear hfz15_6
    try clear hfz9_0
    try clear hfz9_1
    try clear hfz9_2
    try clear hfz9_3
    try clear hfz9_4
    try clear hfz9_5
    try clear hfz9_6
    obtain ⟨kq, x13_2, rfl, HA, HJ2, BK178, BK179, HB⟩ := hcut
    cases kq with
    | zero => exact absurd HA.out (by simp [tephralaw08_RecordSame.j0])
    | succ kj2 =>
      have H := HA.out
      clear HA
      simp only [tephralaw08_RecordSame.j0] at H
      by_cases c17 : x13_2 = true
      · subst c17
        have H1 : ((tephralaw08_fixed.f).bind fun t182 => (some t182)) = some r := by rw [if_pos rfl] at H; exact H
        clear H
        have H := H1
        clear H1
        replace H := Option.bind_eq_some_iff.mp H
        obtain ⟨t182, A180, H⟩ := H
        replace H : (some t182) = some r := H
        have A18 := Aside0.mk A180
        clear A180
        obtain rfl := Option.some.inj H
        go_wp2_with (first | ((with_reducible refine gate_callee (f := 43) rfl ?_); refine goesL_ (some 14) rfl rfl Try.func43 (by kernel_rfl) rfl #[] rfl (by (try simp only [List.map_toArray, List.map_cons, List.map_nil]); first | done | rfl | (simp only [List.length_drop, List.length_take]; rfl)) ?_; (with_reducible refine (tephralaw08_fixed.calls  t182 _ A18.out).mono ?_); rintro e w19 ⟨rfl, hb⟩; refine ⟨_, rfl, ?_⟩; have n0_ := Aside0.mk (blk_below (g := gb178) (o := .cells #[.int .i64 a0_0, .string a0_1, .int .u64 a0_2, .slice A0_3 l0_3.length c0_3, .int .u64 a0_4, .int .u64 a0_5, .string a0_6] 70 (0, 0)) (by (with_reducible repeat (first | refine blk_drewN ?_ _ | refine blk_drew ?_ | refine blk_alloc ?_ _)); exact BK178.out) hb); have n1_ := Aside0.mk (blk_below (g := gb179) (o := .cells #[.int .i64 a1_0, .string a1_1, .int .u64 a1_2, .slice A1_3 l1_3.length c1_3, .int .u64 a1_4, .int .u64 a1_5, .string a1_6] 70 (0, 0)) (by (with_reducible repeat (first | refine blk_drewN ?_ _ | refine blk_drew ?_ | refine blk_alloc ?_ _)); exact BK179.out) hb); have n2_ := Aside0.mk (below_step (by repeat (first | (with_reducible first | exact HB.out | apply below_alloc | apply pw_below_drewN | apply below_drew1 | refine below_set ?_ GE178.out | refine below_set ?_ GE179.out) | exact HB.out)) hb); clear BK178; clear BK179; clear HB; have BK178 := n0_; have BK179 := n1_; have HB := n2_; clear n0_ n1_ n2_; (try clear hb); (try clear hb2); (try clear hk); (try clear hi)))
        go_ret
        exact ⟨by first | rfl | (simp [errW_none, errW_some] <;> rfl) | (simp [*, errW_none, errW_some] <;> rfl), by repeat (first | (with_reducible first | exact HB.out | apply below_alloc | apply pw_below_drewN | apply below_drew1 | refine below_set ?_ GE178.out | refine below_set ?_ GE179.out) | exact HB.out)⟩
      · replace c17 := Bool.eq_false_iff.mpr c17
        subst c17
        have H1 : ((record_Same.f kj2 a0_0 a0_1 a0_2 l0_3 a0_4 a0_5 a0_6 a1_0 a1_1 a1_2 l1_3 a1_4 a1_5 a1_6).bind fun t183 => ((tephraref08_Same.f kj2 a0_0 a0_1 a0_2 l0_3 a0_4 a0_5 a0_6 a1_0 a1_1 a1_2 l1_3 a1_4 a1_5 a1_6).bind fun t184 => (if (t183 != t184) = true then (tephralaw08_RecordSame.j1 kj2 true a0_0 a0_1 a0_2 l0_3 a0_4 a0_5 a0_6) else ((record_Same.f kj2 a1_0 a1_1 a1_2 l1_3 a1_4 a1_5 a1_6 a0_0 a0_1 a0_2 l0_3 a0_4 a0_5 a0_6).bind fun t185 => ((tephraref08_Same.f kj2 a0_0 a0_1 a0_2 l0_3 a0_4 a0_5 a0_6 a1_0 a1_1 a1_2 l1_3 a1_4 a1_5 a1_6).bind fun t186 => (if (t185 != t186) = true then (tephralaw08_RecordSame.j1 kj2 true a0_0 a0_1 a0_2 l0_3 a0_4 a0_5 a0_6) else ((record_Same.f kj2 a0_0 a0_1 a0_2 l0_3 a0_4 a0_5 a0_6 a0_0 a0_1 a0_2 l0_3 a0_4 a0_5 a0_6).bind fun t187 => (tephralaw08_RecordSame.j1 kj2 (!t187) a0_0 a0_1 a0_2 l0_3 a0_4 a0_5 a0_6)))))))) = some r := by rw [if_neg (show ¬ (false = true) by decide)] at H; exact H
        clear H
        have H := H1
        clear H1
        have HC20 := Aside0.mk H
        clear H
        go_upto_region 3 with (fail)
        go_cut [36] (fun v36 wc => ∃ (kq : Nat) (x36_19 : Bool), v36 = .bool x36_19 ∧ Aside0 (tephralaw08_RecordSame.j1 kq x36_19 a0_0 a0_1 a0_2 l0_3 a0_4 a0_5 a0_6 = some r) ∧ Aside0 (kq ≤ kj2) ∧ Aside0 (wc.heap[gb178]? = some (.cells #[.int .i64 a0_0, .string a0_1, .int .u64 a0_2, (.slice A0_3 l0_3.length c0_3), .int .u64 a0_4, .int .u64 a0_5, .string a0_6] 70 (0, 0))) ∧ Aside0 (wc.heap[gb179]? = some (.cells #[.int .i64 a1_0, .string a1_1, .int .u64 a1_2, (.slice A1_3 l1_3.length c1_3), .int .u64 a1_4, .int .u64 a1_5, .string a1_6] 70 (0, 0))) ∧ Aside0 (Below w.heap.size w wc))
        case first =>
          have H := HC20.out
          clear HC20
          replace H := Option.bind_eq_some_iff.mp H
          obtain ⟨t183, A210, H⟩ := H
          replace H : ((tephraref08_Same.f kj2 a0_0 a0_1 a0_2 l0_3 a0_4 a0_5 a0_6 a1_0 a1_1 a1_2 l1_3 a1_4 a1_5 a1_6).bind fun t184 => (if (t183 != t184) = true then (tephralaw08_RecordSame.j1 kj2 true a0_0 a0_1 a0_2 l0_3 a0_4 a0_5 a0_6) else ((record_Same.f kj2 a1_0 a1_1 a1_2 l1_3 a1_4 a1_5 a1_6 a0_0 a0_1 a0_2 l0_3 a0_4 a0_5 a0_6).bind fun t185 => ((tephraref08_Same.f kj2 a0_0 a0_1 a0_2 l0_3 a0_4 a0_5 a0_6 a1_0 a1_1 a1_2 l1_3 a1_4 a1_5 a1_6).bind fun t186 => (if (t185 != t186) = true then (tephralaw08_RecordSame.j1 kj2 true a0_0 a0_1 a0_2 l0_3 a0_4 a0_5 a0_6) else ((record_Same.f kj2 a0_0 a0_1 a0_2 l0_3 a0_4 a0_5 a0_6 a0_0 a0_1 a0_2 l0_3 a0_4 a0_5 a0_6).bind fun t187 => (tephralaw08_RecordSame.j1 kj2 (!t187) a0_0 a0_1 a0_2 l0_3 a0_4 a0_5 a0_6))))))) = some r := H
          have A21 := Aside0.mk A210
          clear A210
          replace H := Option.bind_eq_some_iff.mp H
          obtain ⟨t184, A220, H⟩ := H
          replace H : (if (t183 != t184) = true then (tephralaw08_RecordSame.j1 kj2 true a0_0 a0_1 a0_2 l0_3 a0_4 a0_5 a0_6) else ((record_Same.f kj2 a1_0 a1_1 a1_2 l1_3 a1_4 a1_5 a1_6 a0_0 a0_1 a0_2 l0_3 a0_4 a0_5 a0_6).bind fun t185 => ((tephraref08_Same.f kj2 a0_0 a0_1 a0_2 l0_3 a0_4 a0_5 a0_6 a1_0 a1_1 a1_2 l1_3 a1_4 a1_5 a1_6).bind fun t186 => (if (t185 != t186) = true then (tephralaw08_RecordSame.j1 kj2 true a0_0 a0_1 a0_2 l0_3 a0_4 a0_5 a0_6) else ((record_Same.f kj2 a0_0 a0_1 a0_2 l0_3 a0_4 a0_5 a0_6 a0_0 a0_1 a0_2 l0_3 a0_4 a0_5 a0_6).bind fun t187 => (tephralaw08_RecordSame.j1 kj2 (!t187) a0_0 a0_1 a0_2 l0_3 a0_4 a0_5 a0_6)))))) = some r := H
          have A22 := Aside0.mk A220
          clear A220
          by_cases c23 : (t183 != t184) = true
          · rw [if_pos c23] at H
            have c23b0 : (t183 != t184) = true := c23
            (try (have c23b1 : decide (t183 = t184) = false := by simpa using c23))
            (try (have c23b2 : (t183 == t184) = false := by simpa using c23))
            (try (have c23b3 : ¬ (t183 = t184) := by simpa using c23))
            clear c23
            (first | rw [c23b0] | (simp only [i64_w, i32_w]; rw [c23b0]) | skip)
            have H' := Aside0.mk H
            clear H
            try go_wp2
            have n0_ := Aside0.mk (blk_drew BK178.out)
            have n1_ := Aside0.mk (blk_drew BK179.out)
            have n2_ := Aside0.mk (below_drew1 HB.out)
            clear BK178
            clear BK179
            clear HB
            have BK178 := n0_
            have BK179 := n1_
            have HB := n2_
            clear n0_ n1_ n2_
            refine start_ (n := 22) (S := fun w' => w'.cell? ⟨gb178, 0, none⟩ = some (.int .i64 a0_0) ∧ w'.cell? ⟨gb178, 1, none⟩ = some (.string a0_1) ∧ w'.cell? ⟨gb178, 2, none⟩ = some (.int .u64 a0_2) ∧ w'.cell? ⟨gb178, 3, none⟩ = some (.slice A0_3 l0_3.length c0_3) ∧ w'.cell? ⟨gb178, 4, none⟩ = some (.int .u64 a0_4) ∧ w'.cell? ⟨gb178, 5, none⟩ = some (.int .u64 a0_5) ∧ w'.cell? ⟨gb178, 6, none⟩ = some (.string a0_6) ∧ w'.cell? ⟨gb179, 0, none⟩ = some (.int .i64 a1_0) ∧ w'.cell? ⟨gb179, 1, none⟩ = some (.string a1_1) ∧ w'.cell? ⟨gb179, 2, none⟩ = some (.int .u64 a1_2) ∧ w'.cell? ⟨gb179, 3, none⟩ = some (.slice A1_3 l1_3.length c1_3) ∧ w'.cell? ⟨gb179, 4, none⟩ = some (.int .u64 a1_4) ∧ w'.cell? ⟨gb179, 5, none⟩ = some (.int .u64 a1_5) ∧ w'.cell? ⟨gb179, 6, none⟩ = some (.string a1_6)) (ds := []) #[false, false, false, false, false, false, false, false, false, false, false, false, false, false, false, false, false, false, false, false, false, false] (by kernel_rfl) rfl rfl ⟨(blk_cell BK178.out 0).trans rfl, (blk_cell BK178.out 1).trans rfl, (blk_cell BK178.out 2).trans rfl, (blk_cell BK178.out 3).trans rfl, (blk_cell BK178.out 4).trans rfl, (blk_cell BK178.out 5).trans rfl, (blk_cell BK178.out 6).trans rfl, (blk_cell BK179.out 0).trans rfl, (blk_cell BK179.out 1).trans rfl, (blk_cell BK179.out 2).trans rfl, (blk_cell BK179.out 3).trans rfl, (blk_cell BK179.out 4).trans rfl, (blk_cell BK179.out 5).trans rfl, (blk_cell BK179.out 6).trans rfl⟩ (fun hHeld => ?_); refine with_tabW tephralaw08_RecordSame.tab3 tephralaw08_RecordSame.bits3 (fun HT_ HW_ => ?_)
            generalize wc.drew = w24 at BK178 BK179 HB hHeld ⊢
            refine take_ (i := 0) (N := some 15) (v := ?_) (a' := ?_) #[true, false, false, false, false, false, false, false, false, false, false, false, false, false, false, false, false, false, false, false, false, false] rfl rfl (take_ofW HT_.out HW_.out (by kernel_rfl)) (fun _ _ _ h => h) (Or.inl ⟨by rfl, ?_⟩) hHeld ?_ ?_
            rotate_left
            · rintro w' ⟨s0, s1, s2, s3, s4, s5, s6, s7, s8, s9, s10, s11, s12, s13⟩
              go_simp
              with_reducible rfl
            rotate_left
            · simp only [Act.put, List.setIfInBounds_toArray, List.set_cons_zero, List.set_cons_succ, i64_w, i32_w]
              rfl
            refine take_ (i := 1) (N := some 16) (v := ?_) (a' := ?_) #[true, true, false, false, false, false, false, false, false, false, false, false, false, false, false, false, false, false, false, false, false, false] rfl rfl (take_ofW HT_.out HW_.out (by kernel_rfl)) (fun _ _ _ h => h) (Or.inl ⟨by rfl, ?_⟩) hHeld ?_ ?_
            rotate_left
            · rintro w' ⟨s0, s1, s2, s3, s4, s5, s6, s7, s8, s9, s10, s11, s12, s13⟩
              go_simp
              with_reducible rfl
            rotate_left
            · simp only [Act.put, List.setIfInBounds_toArray, List.set_cons_zero, List.set_cons_succ, i64_w, i32_w]
              rfl
            refine take_ (i := 3) (N := some 18) (v := ?_) (a' := ?_) #[true, true, false, true, false, false, false, false, false, false, false, false, false, false, false, false, false, false, false, false, false, false] rfl rfl (take_ofW HT_.out HW_.out (by kernel_rfl)) (fun _ _ _ h => h) (Or.inl ⟨by rfl, ?_⟩) hHeld ?_ ?_
            rotate_left
            · rintro w' ⟨s0, s1, s2, s3, s4, s5, s6, s7, s8, s9, s10, s11, s12, s13⟩
              go_simp
              with_reducible rfl
            rotate_left
            · simp only [Act.put, List.setIfInBounds_toArray, List.set_cons_zero, List.set_cons_succ, i64_w, i32_w]
              rfl
            refine take_ (i := 4) (N := some 19) (v := ?_) (a' := ?_) #[true, true, false, true, true, false, false, false, false, false, false, false, false, false, false, false, false, false, false, false, false, false] rfl rfl (take_ofW HT_.out HW_.out (by kernel_rfl)) (fun _ _ _ h => h) (Or.inl ⟨by rfl, ?_⟩) hHeld ?_ ?_
            rotate_left
            · rintro w' ⟨s0, s1, s2, s3, s4, s5, s6, s7, s8, s9, s10, s11, s12, s13⟩
              go_simp
              with_reducible rfl
            rotate_left
            · simp only [Act.put, List.setIfInBounds_toArray, List.set_cons_zero, List.set_cons_succ, i64_w, i32_w]
              rfl
            refine one_ (i := 2) (N := some 17) #[true, true, true, true, true, false, false, false, false, false, false, false, false, false, false, false, false, false, false, false, false, false] rfl rfl (one_of HT_.out (by kernel_rfl)) (by decide) (fun K hK => ?_)
            refine goes_ Try.func45 (by kernel_rfl) rfl #[.agg #[.int .i64 a0_0, .string a0_1, .int .u64 a0_2, .slice A0_3 l0_3.length c0_3, .int .u64 a0_4, .int .u64 a0_5, .string a0_6], .agg #[.int .i64 a1_0, .string a1_1, .int .u64 a1_2, .slice A1_3 l1_3.length c1_3, .int .u64 a1_4, .int .u64 a1_5, .string a1_6]] (by rfl) rfl rfl (by (try simp only [List.map_toArray, List.map_cons, List.map_nil]); first | done | rfl | (simp only [List.length_drop, List.length_take]; rfl)) ?_
            with_reducible refine (record_Same.calls kj2 a0_0 a0_1 a0_2 _ _ l0_3 a0_4 a0_5 a0_6 a1_0 a1_1 a1_2 _ _ l1_3 a1_4 a1_5 a1_6 t183 _ ?side1 ?side2 ?side3 ?side4 A21.out).mono ?_
            (case side1 => repeat (first | exact (Kd.C_below HR0_3.out HB.out) | (with_reducible refine Kd.C_alloc ?_ _) | (with_reducible refine Kd.C_drewN ?_ _) | (with_reducible refine Kd.C_drew ?_)))
            (case side2 => exact HC0_3.out)
            (case side3 => repeat (first | exact (Kd.C_below HR1_3.out HB.out) | (with_reducible refine Kd.C_alloc ?_ _) | (with_reducible refine Kd.C_drewN ?_ _) | (with_reducible refine Kd.C_drew ?_)))
            (case side4 => exact HC1_3.out)
            rintro e w25 ⟨rfl, hb⟩
            refine ⟨_, rfl, ?_⟩
            have n0_ := Aside0.mk (blk_below (g := gb178) (o := .cells #[.int .i64 a0_0, .string a0_1, .int .u64 a0_2, .slice A0_3 l0_3.length c0_3, .int .u64 a0_4, .int .u64 a0_5, .string a0_6] 70 (0, 0)) (by (with_reducible repeat (first | refine blk_drewN ?_ _ | refine blk_drew ?_ | refine blk_alloc ?_ _)); exact BK178.out) hb)
            have n1_ := Aside0.mk (blk_below (g := gb179) (o := .cells #[.int .i64 a1_0, .string a1_1, .int .u64 a1_2, .slice A1_3 l1_3.length c1_3, .int .u64 a1_4, .int .u64 a1_5, .string a1_6] 70 (0, 0)) (by (with_reducible repeat (first | refine blk_drewN ?_ _ | refine blk_drew ?_ | refine blk_alloc ?_ _)); exact BK179.out) hb)
            have n2_ := Aside0.mk (below_step (by repeat (first | (with_reducible first | exact HB.out | apply below_alloc | apply pw_below_drewN | apply below_drew1 | refine below_set ?_ GE178.out | refine below_set ?_ GE179.out) | exact HB.out)) hb)
            clear BK178
            clear BK179
            clear HB
            have BK178 := n0_
            have BK179 := n1_
            have HB := n2_
            clear n0_ n1_ n2_
            (try clear hb)
            (try clear hb2)
            (try clear hk)
            (try clear hi)
            refine hK.out _ _ ⟨(blk_cell BK178.out 0).trans rfl, (blk_cell BK178.out 1).trans rfl, (blk_cell BK178.out 2).trans rfl, (blk_cell BK178.out 3).trans rfl, (blk_cell BK178.out 4).trans rfl, (blk_cell BK178.out 5).trans rfl, (blk_cell BK178.out 6).trans rfl, (blk_cell BK179.out 0).trans rfl, (blk_cell BK179.out 1).trans rfl, (blk_cell BK179.out 2).trans rfl, (blk_cell BK179.out 3).trans rfl, (blk_cell BK179.out 4).trans rfl, (blk_cell BK179.out 5).trans rfl, (blk_cell BK179.out 6).trans rfl⟩ (fun hHeld => ?_)
            clear hK K
            refine norm_ (a' := ?_) ?_ ?_
            rotate_left
            · show Act.put _ (some 17) _ = _
              simp only [Act.put, List.setIfInBounds_toArray, List.set_cons_zero, List.set_cons_succ, i64_w, i32_w]
              rfl
            refine one_ (i := 5) (N := some 20) #[true, true, true, true, true, true, false, false, false, false, false, false, false, false, false, false, false, false, false, false, false, false] rfl rfl (one_of HT_.out (by kernel_rfl)) (by decide) (fun K hK => ?_)
            refine goes_ Try.func46 (by kernel_rfl) rfl #[.agg #[.int .i64 a0_0, .string a0_1, .int .u64 a0_2, .slice A0_3 l0_3.length c0_3, .int .u64 a0_4, .int .u64 a0_5, .string a0_6], .agg #[.int .i64 a1_0, .string a1_1, .int .u64 a1_2, .slice A1_3 l1_3.length c1_3, .int .u64 a1_4, .int .u64 a1_5, .string a1_6]] (by rfl) rfl rfl (by (try simp only [List.map_toArray, List.map_cons, List.map_nil]); first | done | rfl | (simp only [List.length_drop, List.length_take]; rfl)) ?_
            with_reducible refine (tephraref08_Same.calls kj2 a0_0 a0_1 a0_2 _ _ l0_3 a0_4 a0_5 a0_6 a1_0 a1_1 a1_2 _ _ l1_3 a1_4 a1_5 a1_6 t184 _ ?side1 ?side2 ?side3 ?side4 A22.out).mono ?_
            (case side1 => repeat (first | exact (Kd.C_below HR0_3.out HB.out) | (with_reducible refine Kd.C_alloc ?_ _) | (with_reducible refine Kd.C_drewN ?_ _) | (with_reducible refine Kd.C_drew ?_)))
            (case side2 => exact HC0_3.out)
            (case side3 => repeat (first | exact (Kd.C_below HR1_3.out HB.out) | (with_reducible refine Kd.C_alloc ?_ _) | (with_reducible refine Kd.C_drewN ?_ _) | (with_reducible refine Kd.C_drew ?_)))
            (case side4 => exact HC1_3.out)
            rintro e w26 ⟨rfl, hb⟩
            refine ⟨_, rfl, ?_⟩
            have n0_ := Aside0.mk (blk_below (g := gb178) (o := .cells #[.int .i64 a0_0, .string a0_1, .int .u64 a0_2, .slice A0_3 l0_3.length c0_3, .int .u64 a0_4, .int .u64 a0_5, .string a0_6] 70 (0, 0)) (by (with_reducible repeat (first | refine blk_drewN ?_ _ | refine blk_drew ?_ | refine blk_alloc ?_ _)); exact BK178.out) hb)
            have n1_ := Aside0.mk (blk_below (g := gb179) (o := .cells #[.int .i64 a1_0, .string a1_1, .int .u64 a1_2, .slice A1_3 l1_3.length c1_3, .int .u64 a1_4, .int .u64 a1_5, .string a1_6] 70 (0, 0)) (by (with_reducible repeat (first | refine blk_drewN ?_ _ | refine blk_drew ?_ | refine blk_alloc ?_ _)); exact BK179.out) hb)
            have n2_ := Aside0.mk (below_step (by repeat (first | (with_reducible first | exact HB.out | apply below_alloc | apply pw_below_drewN | apply below_drew1 | refine below_set ?_ GE178.out | refine below_set ?_ GE179.out) | exact HB.out)) hb)
            clear BK178
            clear BK179
            clear HB
            have BK178 := n0_
            have BK179 := n1_
            have HB := n2_
            clear n0_ n1_ n2_
            (try clear hb)
            (try clear hb2)
            (try clear hk)
            (try clear hi)
            refine hK.out _ _ ⟨(blk_cell BK178.out 0).trans rfl, (blk_cell BK178.out 1).trans rfl, (blk_cell BK178.out 2).trans rfl, (blk_cell BK178.out 3).trans rfl, (blk_cell BK178.out 4).trans rfl, (blk_cell BK178.out 5).trans rfl, (blk_cell BK178.out 6).trans rfl, (blk_cell BK179.out 0).trans rfl, (blk_cell BK179.out 1).trans rfl, (blk_cell BK179.out 2).trans rfl, (blk_cell BK179.out 3).trans rfl, (blk_cell BK179.out 4).trans rfl, (blk_cell BK179.out 5).trans rfl, (blk_cell BK179.out 6).trans rfl⟩ (fun hHeld => ?_)
            clear hK K
            refine norm_ (a' := ?_) ?_ ?_
            rotate_left
            · show Act.put _ (some 20) _ = _
              simp only [Act.put, List.setIfInBounds_toArray, List.set_cons_zero, List.set_cons_succ, i64_w, i32_w]
              rfl
            refine pure_ (i := 6) (N := some 21) (v := ?_) (a' := ?_) #[true, true, true, true, true, true, true, false, false, false, false, false, false, false, false, false, false, false, false, false, false, false] rfl rfl (any_of HT_.out (by kernel_rfl)) (fun _ _ _ h => h) (Or.inl ⟨by rfl, ?_⟩) ?_ ?_
            rotate_left
            · intro w'
              go_simp
              with_reducible rfl
            rotate_left
            · simp only [Act.put, List.setIfInBounds_toArray, List.set_cons_zero, List.set_cons_succ, i64_w, i32_w]
              rfl
            refine pure_ (i := 7) (N := some 22) (v := ?_) (a' := ?_) #[true, true, true, true, true, true, true, true, false, false, false, false, false, false, false, false, false, false, false, false, false, false] rfl rfl (any_of HT_.out (by kernel_rfl)) (fun _ _ _ h => h) (Or.inl ⟨by rfl, ?_⟩) ?_ ?_
            rotate_left
            · intro w'
              go_simp
              with_reducible rfl
            rotate_left
            · simp only [Act.put, List.setIfInBounds_toArray, List.set_cons_zero, List.set_cons_succ, i64_w, i32_w]
              rfl
            refine pure_ (i := 8) (N := some 23) (v := undef) (a' := ?_) #[true, true, true, true, true, true, true, true, true, false, false, false, false, false, false, false, false, false, false, false, false, false] rfl rfl (any_of HT_.out (by kernel_rfl)) (fun _ _ _ h => h) (Or.inr ⟨by rfl, rfl⟩) ?_ ?_
            rotate_left
            · simp only [Act.put, List.setIfInBounds_toArray, List.set_cons_zero, List.set_cons_succ, i64_w, i32_w]
              rfl
            refine pure_ (i := 9) (N := some 24) (v := undef) (a' := ?_) #[true, true, true, true, true, true, true, true, true, true, false, false, false, false, false, false, false, false, false, false, false, false] rfl rfl (any_of HT_.out (by kernel_rfl)) (fun _ _ _ h => h) (Or.inr ⟨by rfl, rfl⟩) ?_ ?_
            rotate_left
            · simp only [Act.put, List.setIfInBounds_toArray, List.set_cons_zero, List.set_cons_succ, i64_w, i32_w]
              rfl
            refine pure_ (i := 10) (N := some 25) (v := undef) (a' := ?_) #[true, true, true, true, true, true, true, true, true, true, true, false, false, false, false, false, false, false, false, false, false, false] rfl rfl (any_of HT_.out (by kernel_rfl)) (fun _ _ _ h => h) (Or.inr ⟨by rfl, rfl⟩) ?_ ?_
            rotate_left
            · simp only [Act.put, List.setIfInBounds_toArray, List.set_cons_zero, List.set_cons_succ, i64_w, i32_w]
              rfl
            refine pure_ (i := 11) (N := some 26) (v := undef) (a' := ?_) #[true, true, true, true, true, true, true, true, true, true, true, true, false, false, false, false, false, false, false, false, false, false] rfl rfl (any_of HT_.out (by kernel_rfl)) (fun _ _ _ h => h) (Or.inr ⟨by rfl, rfl⟩) ?_ ?_
            rotate_left
            · simp only [Act.put, List.setIfInBounds_toArray, List.set_cons_zero, List.set_cons_succ, i64_w, i32_w]
              rfl
            refine pure_ (i := 12) (N := some 27) (v := undef) (a' := ?_) #[true, true, true, true, true, true, true, true, true, true, true, true, true, false, false, false, false, false, false, false, false, false] rfl rfl (any_of HT_.out (by kernel_rfl)) (fun _ _ _ h => h) (Or.inr ⟨by rfl, rfl⟩) ?_ ?_
            rotate_left
            · simp only [Act.put, List.setIfInBounds_toArray, List.set_cons_zero, List.set_cons_succ, i64_w, i32_w]
              rfl
            refine pure_ (i := 13) (N := some 28) (v := undef) (a' := ?_) #[true, true, true, true, true, true, true, true, true, true, true, true, true, true, false, false, false, false, false, false, false, false] rfl rfl (any_of HT_.out (by kernel_rfl)) (fun _ _ _ h => h) (Or.inr ⟨by rfl, rfl⟩) ?_ ?_
            rotate_left
            · simp only [Act.put, List.setIfInBounds_toArray, List.set_cons_zero, List.set_cons_succ, i64_w, i32_w]
              rfl
            refine pure_ (i := 14) (N := some 29) (v := undef) (a' := ?_) #[true, true, true, true, true, true, true, true, true, true, true, true, true, true, true, false, false, false, false, false, false, false] rfl rfl (any_of HT_.out (by kernel_rfl)) (fun _ _ _ h => h) (Or.inr ⟨by rfl, rfl⟩) ?_ ?_
            rotate_left
            · simp only [Act.put, List.setIfInBounds_toArray, List.set_cons_zero, List.set_cons_succ, i64_w, i32_w]
              rfl
            refine pure_ (i := 15) (N := some 30) (v := ?_) (a' := ?_) #[true, true, true, true, true, true, true, true, true, true, true, true, true, true, true, true, false, false, false, false, false, false] rfl rfl (any_of HT_.out (by kernel_rfl)) (fun _ _ _ h => h) (Or.inl ⟨by rfl, ?_⟩) ?_ ?_
            rotate_left
            · intro w'
              go_simp
              with_reducible rfl
            rotate_left
            · simp only [Act.put, List.setIfInBounds_toArray, List.set_cons_zero, List.set_cons_succ, i64_w, i32_w]
              rfl
            refine pure_ (i := 16) (N := some 31) (v := ?_) (a' := ?_) #[true, true, true, true, true, true, true, true, true, true, true, true, true, true, true, true, true, false, false, false, false, false] rfl rfl (any_of HT_.out (by kernel_rfl)) (fun _ _ _ h => h) (Or.inl ⟨by rfl, ?_⟩) ?_ ?_
            rotate_left
            · intro w'
              go_simp
              with_reducible rfl
            rotate_left
            · simp only [Act.put, List.setIfInBounds_toArray, List.set_cons_zero, List.set_cons_succ, i64_w, i32_w]
              rfl
            refine pure_ (i := 17) (N := some 32) (v := undef) (a' := ?_) #[true, true, true, true, true, true, true, true, true, true, true, true, true, true, true, true, true, true, false, false, false, false] rfl rfl (any_of HT_.out (by kernel_rfl)) (fun _ _ _ h => h) (Or.inr ⟨by rfl, rfl⟩) ?_ ?_
            rotate_left
            · simp only [Act.put, List.setIfInBounds_toArray, List.set_cons_zero, List.set_cons_succ, i64_w, i32_w]
              rfl
            refine pure_ (i := 18) (N := some 33) (v := undef) (a' := ?_) #[true, true, true, true, true, true, true, true, true, true, true, true, true, true, true, true, true, true, true, false, false, false] rfl rfl (any_of HT_.out (by kernel_rfl)) (fun _ _ _ h => h) (Or.inr ⟨by rfl, rfl⟩) ?_ ?_
            rotate_left
            · simp only [Act.put, List.setIfInBounds_toArray, List.set_cons_zero, List.set_cons_succ, i64_w, i32_w]
              rfl
            refine pure_ (i := 19) (N := some 34) (v := undef) (a' := ?_) #[true, true, true, true, true, true, true, true, true, true, true, true, true, true, true, true, true, true, true, true, false, false] rfl rfl (any_of HT_.out (by kernel_rfl)) (fun _ _ _ h => h) (Or.inr ⟨by rfl, rfl⟩) ?_ ?_
            rotate_left
            · simp only [Act.put, List.setIfInBounds_toArray, List.set_cons_zero, List.set_cons_succ, i64_w, i32_w]
              rfl
            refine pure_ (i := 20) (N := some 35) (v := undef) (a' := ?_) #[true, true, true, true, true, true, true, true, true, true, true, true, true, true, true, true, true, true, true, true, true, false] rfl rfl (any_of HT_.out (by kernel_rfl)) (fun _ _ _ h => h) (Or.inr ⟨by rfl, rfl⟩) ?_ ?_
            rotate_left
            · simp only [Act.put, List.setIfInBounds_toArray, List.set_cons_zero, List.set_cons_succ, i64_w, i32_w]
              rfl
            refine pure_ (i := 21) (N := some 36) (v := ?_) (a' := ?_) #[true, true, true, true, true, true, true, true, true, true, true, true, true, true, true, true, true, true, true, true, true, true] rfl rfl (any_of HT_.out (by kernel_rfl)) (fun _ _ _ h => h) (Or.inl ⟨by rfl, ?_⟩) ?_ ?_
            rotate_left
            · intro w'
              go_simp
              with_reducible rfl
            rotate_left
            · simp only [Act.put, List.setIfInBounds_toArray, List.set_cons_zero, List.set_cons_succ, i64_w, i32_w]
              rfl
            refine done_ (done_of HT_.out (by kernel_rfl)) ?_
            try go_wp2
            go_meet
            case rel => exact ⟨_, (true), (by first | rfl | (simp; done) | (simp [*]; done) | (simp; rw [Bool.eq_iff_iff]; simp; done)), H', ⟨by have := HJ2.out; first | omega | exact Nat.le_refl _⟩, ⟨by (with_reducible repeat (first | refine blk_drewN ?_ _ | refine blk_drew ?_ | refine blk_alloc ?_ _)); exact BK178.out⟩, ⟨by (with_reducible repeat (first | refine blk_drewN ?_ _ | refine blk_drew ?_ | refine blk_alloc ?_ _)); exact BK179.out⟩, ⟨by repeat (first | (with_reducible first | exact HB.out | apply below_alloc | apply pw_below_drewN | apply below_drew1 | refine below_set ?_ GE178.out | refine below_set ?_ GE179.out) | exact HB.out)⟩⟩
          · rw [if_neg c23] at H
            have c23b0 : (t183 != t184) = false := by simpa using c23
            (try (have c23b1 : decide (t183 = t184) = true := by simpa using c23))
            (try (have c23b2 : (t183 == t184) = true := by simpa using c23))
            clear c23
            (first | rw [c23b0] | (simp only [i64_w, i32_w]; rw [c23b0]) | skip)
            replace H := Option.bind_eq_some_iff.mp H
            obtain ⟨t185, A270, H⟩ := H
            replace H : ((tephraref08_Same.f kj2 a0_0 a0_1 a0_2 l0_3 a0_4 a0_5 a0_6 a1_0 a1_1 a1_2 l1_3 a1_4 a1_5 a1_6).bind fun t186 => (if (t185 != t186) = true then (tephralaw08_RecordSame.j1 kj2 true a0_0 a0_1 a0_2 l0_3 a0_4 a0_5 a0_6) else ((record_Same.f kj2 a0_0 a0_1 a0_2 l0_3 a0_4 a0_5 a0_6 a0_0 a0_1 a0_2 l0_3 a0_4 a0_5 a0_6).bind fun t187 => (tephralaw08_RecordSame.j1 kj2 (!t187) a0_0 a0_1 a0_2 l0_3 a0_4 a0_5 a0_6)))) = some r := H
            have A27 := Aside0.mk A270
            clear A270
            replace H := Option.bind_eq_some_iff.mp H
            obtain ⟨t186, A280, H⟩ := H
            replace H : (if (t185 != t186) = true then (tephralaw08_RecordSame.j1 kj2 true a0_0 a0_1 a0_2 l0_3 a0_4 a0_5 a0_6) else ((record_Same.f kj2 a0_0 a0_1 a0_2 l0_3 a0_4 a0_5 a0_6 a0_0 a0_1 a0_2 l0_3 a0_4 a0_5 a0_6).bind fun t187 => (tephralaw08_RecordSame.j1 kj2 (!t187) a0_0 a0_1 a0_2 l0_3 a0_4 a0_5 a0_6))) = some r := H
            have A28 := Aside0.mk A280
            clear A280
            by_cases c29 : (t185 != t186) = true
            · rw [if_pos c29] at H
              have c29b0 : (t185 != t186) = true := c29
              (try (have c29b1 : decide (t185 = t186) = false := by simpa using c29))
              (try (have c29b2 : (t185 == t186) = false := by simpa using c29))
              (try (have c29b3 : ¬ (t185 = t186) := by simpa using c29))
              clear c29
              have H' := Aside0.mk H
              clear H
              try go_wp2
              have n0_ := Aside0.mk (blk_drew BK178.out)
              have n1_ := Aside0.mk (blk_drew BK179.out)
              have n2_ := Aside0.mk (below_drew1 HB.out)
              clear BK178
              clear BK179
              clear HB
              have BK178 := n0_
              have BK179 := n1_
              have HB := n2_
              clear n0_ n1_ n2_
              refine start_ (n := 22) (S := fun w' => w'.cell? ⟨gb178, 0, none⟩ = some (.int .i64 a0_0) ∧ w'.cell? ⟨gb178, 1, none⟩ = some (.string a0_1) ∧ w'.cell? ⟨gb178, 2, none⟩ = some (.int .u64 a0_2) ∧ w'.cell? ⟨gb178, 3, none⟩ = some (.slice A0_3 l0_3.length c0_3) ∧ w'.cell? ⟨gb178, 4, none⟩ = some (.int .u64 a0_4) ∧ w'.cell? ⟨gb178, 5, none⟩ = some (.int .u64 a0_5) ∧ w'.cell? ⟨gb178, 6, none⟩ = some (.string a0_6) ∧ w'.cell? ⟨gb179, 0, none⟩ = some (.int .i64 a1_0) ∧ w'.cell? ⟨gb179, 1, none⟩ = some (.string a1_1) ∧ w'.cell? ⟨gb179, 2, none⟩ = some (.int .u64 a1_2) ∧ w'.cell? ⟨gb179, 3, none⟩ = some (.slice A1_3 l1_3.length c1_3) ∧ w'.cell? ⟨gb179, 4, none⟩ = some (.int .u64 a1_4) ∧ w'.cell? ⟨gb179, 5, none⟩ = some (.int .u64 a1_5) ∧ w'.cell? ⟨gb179, 6, none⟩ = some (.string a1_6)) (ds := []) #[false, false, false, false, false, false, false, false, false, false, false, false, false, false, false, false, false, false, false, false, false, false] (by kernel_rfl) rfl rfl ⟨(blk_cell BK178.out 0).trans rfl, (blk_cell BK178.out 1).trans rfl, (blk_cell BK178.out 2).trans rfl, (blk_cell BK178.out 3).trans rfl, (blk_cell BK178.out 4).trans rfl, (blk_cell BK178.out 5).trans rfl, (blk_cell BK178.out 6).trans rfl, (blk_cell BK179.out 0).trans rfl, (blk_cell BK179.out 1).trans rfl, (blk_cell BK179.out 2).trans rfl, (blk_cell BK179.out 3).trans rfl, (blk_cell BK179.out 4).trans rfl, (blk_cell BK179.out 5).trans rfl, (blk_cell BK179.out 6).trans rfl⟩ (fun hHeld => ?_); refine with_tabW tephralaw08_RecordSame.tab3 tephralaw08_RecordSame.bits3 (fun HT_ HW_ => ?_)
              generalize wc.drew = w30 at BK178 BK179 HB hHeld ⊢
              refine take_ (i := 0) (N := some 15) (v := ?_) (a' := ?_) #[true, false, false, false, false, false, false, false, false, false, false, false, false, false, false, false, false, false, false, false, false, false] rfl rfl (take_ofW HT_.out HW_.out (by kernel_rfl)) (fun _ _ _ h => h) (Or.inl ⟨by rfl, ?_⟩) hHeld ?_ ?_
              rotate_left
              · rintro w' ⟨s0, s1, s2, s3, s4, s5, s6, s7, s8, s9, s10, s11, s12, s13⟩
                go_simp
                with_reducible rfl
              rotate_left
              · simp only [Act.put, List.setIfInBounds_toArray, List.set_cons_zero, List.set_cons_succ, i64_w, i32_w]
                rfl
              refine take_ (i := 1) (N := some 16) (v := ?_) (a' := ?_) #[true, true, false, false, false, false, false, false, false, false, false, false, false, false, false, false, false, false, false, false, false, false] rfl rfl (take_ofW HT_.out HW_.out (by kernel_rfl)) (fun _ _ _ h => h) (Or.inl ⟨by rfl, ?_⟩) hHeld ?_ ?_
              rotate_left
              · rintro w' ⟨s0, s1, s2, s3, s4, s5, s6, s7, s8, s9, s10, s11, s12, s13⟩
                go_simp
                with_reducible rfl
              rotate_left
              · simp only [Act.put, List.setIfInBounds_toArray, List.set_cons_zero, List.set_cons_succ, i64_w, i32_w]
                rfl
              refine take_ (i := 3) (N := some 18) (v := ?_) (a' := ?_) #[true, true, false, true, false, false, false, false, false, false, false, false, false, false, false, false, false, false, false, false, false, false] rfl rfl (take_ofW HT_.out HW_.out (by kernel_rfl)) (fun _ _ _ h => h) (Or.inl ⟨by rfl, ?_⟩) hHeld ?_ ?_
              rotate_left
              · rintro w' ⟨s0, s1, s2, s3, s4, s5, s6, s7, s8, s9, s10, s11, s12, s13⟩
                go_simp
                with_reducible rfl
              rotate_left
              · simp only [Act.put, List.setIfInBounds_toArray, List.set_cons_zero, List.set_cons_succ, i64_w, i32_w]
                rfl
              refine take_ (i := 4) (N := some 19) (v := ?_) (a' := ?_) #[true, true, false, true, true, false, false, false, false, false, false, false, false, false, false, false, false, false, false, false, false, false] rfl rfl (take_ofW HT_.out HW_.out (by kernel_rfl)) (fun _ _ _ h => h) (Or.inl ⟨by rfl, ?_⟩) hHeld ?_ ?_
              rotate_left
              · rintro w' ⟨s0, s1, s2, s3, s4, s5, s6, s7, s8, s9, s10, s11, s12, s13⟩
                go_simp
                with_reducible rfl
              rotate_left
              · simp only [Act.put, List.setIfInBounds_toArray, List.set_cons_zero, List.set_cons_succ, i64_w, i32_w]
                rfl
              refine one_ (i := 2) (N := some 17) #[true, true, true, true, true, false, false, false, false, false, false, false, false, false, false, false, false, false, false, false, false, false] rfl rfl (one_of HT_.out (by kernel_rfl)) (by decide) (fun K hK => ?_)
              refine goes_ Try.func45 (by kernel_rfl) rfl #[.agg #[.int .i64 a0_0, .string a0_1, .int .u64 a0_2, .slice A0_3 l0_3.length c0_3, .int .u64 a0_4, .int .u64 a0_5, .string a0_6], .agg #[.int .i64 a1_0, .string a1_1, .int .u64 a1_2, .slice A1_3 l1_3.length c1_3, .int .u64 a1_4, .int .u64 a1_5, .string a1_6]] (by rfl) rfl rfl (by (try simp only [List.map_toArray, List.map_cons, List.map_nil]); first | done | rfl | (simp only [List.length_drop, List.length_take]; rfl)) ?_
              with_reducible refine (record_Same.calls kj2 a0_0 a0_1 a0_2 _ _ l0_3 a0_4 a0_5 a0_6 a1_0 a1_1 a1_2 _ _ l1_3 a1_4 a1_5 a1_6 t183 _ ?side1 ?side2 ?side3 ?side4 A21.out).mono ?_
              (case side1 => repeat (first | exact (Kd.C_below HR0_3.out HB.out) | (with_reducible refine Kd.C_alloc ?_ _) | (with_reducible refine Kd.C_drewN ?_ _) | (with_reducible refine Kd.C_drew ?_)))
              (case side2 => exact HC0_3.out)
              (case side3 => repeat (first | exact (Kd.C_below HR1_3.out HB.out) | (with_reducible refine Kd.C_alloc ?_ _) | (with_reducible refine Kd.C_drewN ?_ _) | (with_reducible refine Kd.C_drew ?_)))
              (case side4 => exact HC1_3.out)
              rintro e w31 ⟨rfl, hb⟩
              refine ⟨_, rfl, ?_⟩
              have n0_ := Aside0.mk (blk_below (g := gb178) (o := .cells #[.int .i64 a0_0, .string a0_1, .int .u64 a0_2, .slice A0_3 l0_3.length c0_3, .int .u64 a0_4, .int .u64 a0_5, .string a0_6] 70 (0, 0)) (by (with_reducible repeat (first | refine blk_drewN ?_ _ | refine blk_drew ?_ | refine blk_alloc ?_ _)); exact BK178.out) hb)
              have n1_ := Aside0.mk (blk_below (g := gb179) (o := .cells #[.int .i64 a1_0, .string a1_1, .int .u64 a1_2, .slice A1_3 l1_3.length c1_3, .int .u64 a1_4, .int .u64 a1_5, .string a1_6] 70 (0, 0)) (by (with_reducible repeat (first | refine blk_drewN ?_ _ | refine blk_drew ?_ | refine blk_alloc ?_ _)); exact BK179.out) hb)
              have n2_ := Aside0.mk (below_step (by repeat (first | (with_reducible first | exact HB.out | apply below_alloc | apply pw_below_drewN | apply below_drew1 | refine below_set ?_ GE178.out | refine below_set ?_ GE179.out) | exact HB.out)) hb)
              clear BK178
              clear BK179
              clear HB
              have BK178 := n0_
              have BK179 := n1_
              have HB := n2_
              clear n0_ n1_ n2_
              (try clear hb)
              (try clear hb2)
              (try clear hk)
              (try clear hi)
              refine hK.out _ _ ⟨(blk_cell BK178.out 0).trans rfl, (blk_cell BK178.out 1).trans rfl, (blk_cell BK178.out 2).trans rfl, (blk_cell BK178.out 3).trans rfl, (blk_cell BK178.out 4).trans rfl, (blk_cell BK178.out 5).trans rfl, (blk_cell BK178.out 6).trans rfl, (blk_cell BK179.out 0).trans rfl, (blk_cell BK179.out 1).trans rfl, (blk_cell BK179.out 2).trans rfl, (blk_cell BK179.out 3).trans rfl, (blk_cell BK179.out 4).trans rfl, (blk_cell BK179.out 5).trans rfl, (blk_cell BK179.out 6).trans rfl⟩ (fun hHeld => ?_)
              clear hK K
              refine norm_ (a' := ?_) ?_ ?_
              rotate_left
              · show Act.put _ (some 17) _ = _
                simp only [Act.put, List.setIfInBounds_toArray, List.set_cons_zero, List.set_cons_succ, i64_w, i32_w]
                rfl
              refine one_ (i := 5) (N := some 20) #[true, true, true, true, true, true, false, false, false, false, false, false, false, false, false, false, false, false, false, false, false, false] rfl rfl (one_of HT_.out (by kernel_rfl)) (by decide) (fun K hK => ?_)
              refine goes_ Try.func46 (by kernel_rfl) rfl #[.agg #[.int .i64 a0_0, .string a0_1, .int .u64 a0_2, .slice A0_3 l0_3.length c0_3, .int .u64 a0_4, .int .u64 a0_5, .string a0_6], .agg #[.int .i64 a1_0, .string a1_1, .int .u64 a1_2, .slice A1_3 l1_3.length c1_3, .int .u64 a1_4, .int .u64 a1_5, .string a1_6]] (by rfl) rfl rfl (by (try simp only [List.map_toArray, List.map_cons, List.map_nil]); first | done | rfl | (simp only [List.length_drop, List.length_take]; rfl)) ?_
              with_reducible refine (tephraref08_Same.calls kj2 a0_0 a0_1 a0_2 _ _ l0_3 a0_4 a0_5 a0_6 a1_0 a1_1 a1_2 _ _ l1_3 a1_4 a1_5 a1_6 t184 _ ?side1 ?side2 ?side3 ?side4 A22.out).mono ?_
              (case side1 => repeat (first | exact (Kd.C_below HR0_3.out HB.out) | (with_reducible refine Kd.C_alloc ?_ _) | (with_reducible refine Kd.C_drewN ?_ _) | (with_reducible refine Kd.C_drew ?_)))
              (case side2 => exact HC0_3.out)
              (case side3 => repeat (first | exact (Kd.C_below HR1_3.out HB.out) | (with_reducible refine Kd.C_alloc ?_ _) | (with_reducible refine Kd.C_drewN ?_ _) | (with_reducible refine Kd.C_drew ?_)))
              (case side4 => exact HC1_3.out)
              rintro e w32 ⟨rfl, hb⟩
              refine ⟨_, rfl, ?_⟩
              have n0_ := Aside0.mk (blk_below (g := gb178) (o := .cells #[.int .i64 a0_0, .string a0_1, .int .u64 a0_2, .slice A0_3 l0_3.length c0_3, .int .u64 a0_4, .int .u64 a0_5, .string a0_6] 70 (0, 0)) (by (with_reducible repeat (first | refine blk_drewN ?_ _ | refine blk_drew ?_ | refine blk_alloc ?_ _)); exact BK178.out) hb)
              have n1_ := Aside0.mk (blk_below (g := gb179) (o := .cells #[.int .i64 a1_0, .string a1_1, .int .u64 a1_2, .slice A1_3 l1_3.length c1_3, .int .u64 a1_4, .int .u64 a1_5, .string a1_6] 70 (0, 0)) (by (with_reducible repeat (first | refine blk_drewN ?_ _ | refine blk_drew ?_ | refine blk_alloc ?_ _)); exact BK179.out) hb)
              have n2_ := Aside0.mk (below_step (by repeat (first | (with_reducible first | exact HB.out | apply below_alloc | apply pw_below_drewN | apply below_drew1 | refine below_set ?_ GE178.out | refine below_set ?_ GE179.out) | exact HB.out)) hb)
              clear BK178
              clear BK179
              clear HB
              have BK178 := n0_
              have BK179 := n1_
              have HB := n2_
              clear n0_ n1_ n2_
              (try clear hb)
              (try clear hb2)
              (try clear hk)
              (try clear hi)
              refine hK.out _ _ ⟨(blk_cell BK178.out 0).trans rfl, (blk_cell BK178.out 1).trans rfl, (blk_cell BK178.out 2).trans rfl, (blk_cell BK178.out 3).trans rfl, (blk_cell BK178.out 4).trans rfl, (blk_cell BK178.out 5).trans rfl, (blk_cell BK178.out 6).trans rfl, (blk_cell BK179.out 0).trans rfl, (blk_cell BK179.out 1).trans rfl, (blk_cell BK179.out 2).trans rfl, (blk_cell BK179.out 3).trans rfl, (blk_cell BK179.out 4).trans rfl, (blk_cell BK179.out 5).trans rfl, (blk_cell BK179.out 6).trans rfl⟩ (fun hHeld => ?_)
              clear hK K
              refine norm_ (a' := ?_) ?_ ?_
              rotate_left
              · show Act.put _ (some 20) _ = _
                simp only [Act.put, List.setIfInBounds_toArray, List.set_cons_zero, List.set_cons_succ, i64_w, i32_w]
                rfl
              refine pure_ (i := 6) (N := some 21) (v := ?_) (a' := ?_) #[true, true, true, true, true, true, true, false, false, false, false, false, false, false, false, false, false, false, false, false, false, false] rfl rfl (any_of HT_.out (by kernel_rfl)) (fun _ _ _ h => h) (Or.inl ⟨by rfl, ?_⟩) ?_ ?_
              rotate_left
              · intro w'
                go_simp
                with_reducible rfl
              rotate_left
              · simp only [Act.put, List.setIfInBounds_toArray, List.set_cons_zero, List.set_cons_succ, i64_w, i32_w]
                rfl
              refine pure_ (i := 7) (N := some 22) (v := ?_) (a' := ?_) #[true, true, true, true, true, true, true, true, false, false, false, false, false, false, false, false, false, false, false, false, false, false] rfl rfl (any_of HT_.out (by kernel_rfl)) (fun _ _ _ h => h) (Or.inl ⟨by rfl, ?_⟩) ?_ ?_
              rotate_left
              · intro w'
                go_simp
                with_reducible rfl
              rotate_left
              · simp only [Act.put, List.setIfInBounds_toArray, List.set_cons_zero, List.set_cons_succ, i64_w, i32_w]
                rfl
              refine take_ (i := 8) (N := some 23) (v := ?_) (a' := ?_) #[true, true, true, true, true, true, true, true, true, false, false, false, false, false, false, false, false, false, false, false, false, false] rfl rfl (take_ofW HT_.out HW_.out (by kernel_rfl)) (fun _ _ _ h => h) (Or.inl ⟨by rfl, ?_⟩) hHeld ?_ ?_
              rotate_left
              · rintro w' ⟨s0, s1, s2, s3, s4, s5, s6, s7, s8, s9, s10, s11, s12, s13⟩
                go_simp
                with_reducible rfl
              rotate_left
              · simp only [Act.put, List.setIfInBounds_toArray, List.set_cons_zero, List.set_cons_succ, i64_w, i32_w]
                rfl
              refine take_ (i := 9) (N := some 24) (v := ?_) (a' := ?_) #[true, true, true, true, true, true, true, true, true, true, false, false, false, false, false, false, false, false, false, false, false, false] rfl rfl (take_ofW HT_.out HW_.out (by kernel_rfl)) (fun _ _ _ h => h) (Or.inl ⟨by rfl, ?_⟩) hHeld ?_ ?_
              rotate_left
              · rintro w' ⟨s0, s1, s2, s3, s4, s5, s6, s7, s8, s9, s10, s11, s12, s13⟩
                go_simp
                with_reducible rfl
              rotate_left
              · simp only [Act.put, List.setIfInBounds_toArray, List.set_cons_zero, List.set_cons_succ, i64_w, i32_w]
                rfl
              refine take_ (i := 11) (N := some 26) (v := ?_) (a' := ?_) #[true, true, true, true, true, true, true, true, true, true, false, true, false, false, false, false, false, false, false, false, false, false] rfl rfl (take_ofW HT_.out HW_.out (by kernel_rfl)) (fun _ _ _ h => h) (Or.inl ⟨by rfl, ?_⟩) hHeld ?_ ?_
              rotate_left
              · rintro w' ⟨s0, s1, s2, s3, s4, s5, s6, s7, s8, s9, s10, s11, s12, s13⟩
                go_simp
                with_reducible rfl
              rotate_left
              · simp only [Act.put, List.setIfInBounds_toArray, List.set_cons_zero, List.set_cons_succ, i64_w, i32_w]
                rfl
              refine take_ (i := 12) (N := some 27) (v := ?_) (a' := ?_) #[true, true, true, true, true, true, true, true, true, true, false, true, true, false, false, false, false, false, false, false, false, false] rfl rfl (take_ofW HT_.out HW_.out (by kernel_rfl)) (fun _ _ _ h => h) (Or.inl ⟨by rfl, ?_⟩) hHeld ?_ ?_
              rotate_left
              · rintro w' ⟨s0, s1, s2, s3, s4, s5, s6, s7, s8, s9, s10, s11, s12, s13⟩
                go_simp
                with_reducible rfl
              rotate_left
              · simp only [Act.put, List.setIfInBounds_toArray, List.set_cons_zero, List.set_cons_succ, i64_w, i32_w]
                rfl
              refine one_ (i := 10) (N := some 25) #[true, true, true, true, true, true, true, true, true, true, true, true, true, false, false, false, false, false, false, false, false, false] rfl rfl (one_of HT_.out (by kernel_rfl)) (by decide) (fun K hK => ?_)
              refine goes_ Try.func45 (by kernel_rfl) rfl #[.agg #[.int .i64 a1_0, .string a1_1, .int .u64 a1_2, .slice A1_3 l1_3.length c1_3, .int .u64 a1_4, .int .u64 a1_5, .string a1_6], .agg #[.int .i64 a0_0, .string a0_1, .int .u64 a0_2, .slice A0_3 l0_3.length c0_3, .int .u64 a0_4, .int .u64 a0_5, .string a0_6]] (by rfl) rfl rfl (by (try simp only [List.map_toArray, List.map_cons, List.map_nil]); first | done | rfl | (simp only [List.length_drop, List.length_take]; rfl)) ?_
              with_reducible refine (record_Same.calls kj2 a1_0 a1_1 a1_2 _ _ l1_3 a1_4 a1_5 a1_6 a0_0 a0_1 a0_2 _ _ l0_3 a0_4 a0_5 a0_6 t185 _ ?side1 ?side2 ?side3 ?side4 A27.out).mono ?_
              (case side1 => repeat (first | exact (Kd.C_below HR1_3.out HB.out) | (with_reducible refine Kd.C_alloc ?_ _) | (with_reducible refine Kd.C_drewN ?_ _) | (with_reducible refine Kd.C_drew ?_)))
              (case side2 => exact HC1_3.out)
              (case side3 => repeat (first | exact (Kd.C_below HR0_3.out HB.out) | (with_reducible refine Kd.C_alloc ?_ _) | (with_reducible refine Kd.C_drewN ?_ _) | (with_reducible refine Kd.C_drew ?_)))
              (case side4 => exact HC0_3.out)
              rintro e w33 ⟨rfl, hb⟩
              refine ⟨_, rfl, ?_⟩
              have n0_ := Aside0.mk (blk_below (g := gb178) (o := .cells #[.int .i64 a0_0, .string a0_1, .int .u64 a0_2, .slice A0_3 l0_3.length c0_3, .int .u64 a0_4, .int .u64 a0_5, .string a0_6] 70 (0, 0)) (by (with_reducible repeat (first | refine blk_drewN ?_ _ | refine blk_drew ?_ | refine blk_alloc ?_ _)); exact BK178.out) hb)
              have n1_ := Aside0.mk (blk_below (g := gb179) (o := .cells #[.int .i64 a1_0, .string a1_1, .int .u64 a1_2, .slice A1_3 l1_3.length c1_3, .int .u64 a1_4, .int .u64 a1_5, .string a1_6] 70 (0, 0)) (by (with_reducible repeat (first | refine blk_drewN ?_ _ | refine blk_drew ?_ | refine blk_alloc ?_ _)); exact BK179.out) hb)
              have n2_ := Aside0.mk (below_step (by repeat (first | (with_reducible first | exact HB.out | apply below_alloc | apply pw_below_drewN | apply below_drew1 | refine below_set ?_ GE178.out | refine below_set ?_ GE179.out) | exact HB.out)) hb)
              clear BK178
              clear BK179
              clear HB
              have BK178 := n0_
              have BK179 := n1_
              have HB := n2_
              clear n0_ n1_ n2_
              (try clear hb)
              (try clear hb2)
              (try clear hk)
              (try clear hi)
              refine hK.out _ _ ⟨(blk_cell BK178.out 0).trans rfl, (blk_cell BK178.out 1).trans rfl, (blk_cell BK178.out 2).trans rfl, (blk_cell BK178.out 3).trans rfl, (blk_cell BK178.out 4).trans rfl, (blk_cell BK178.out 5).trans rfl, (blk_cell BK178.out 6).trans rfl, (blk_cell BK179.out 0).trans rfl, (blk_cell BK179.out 1).trans rfl, (blk_cell BK179.out 2).trans rfl, (blk_cell BK179.out 3).trans rfl, (blk_cell BK179.out 4).trans rfl, (blk_cell BK179.out 5).trans rfl, (blk_cell BK179.out 6).trans rfl⟩ (fun hHeld => ?_)
              clear hK K
              refine norm_ (a' := ?_) ?_ ?_
              rotate_left
              · show Act.put _ (some 25) _ = _
                simp only [Act.put, List.setIfInBounds_toArray, List.set_cons_zero, List.set_cons_succ, i64_w, i32_w]
                rfl
              refine one_ (i := 13) (N := some 28) #[true, true, true, true, true, true, true, true, true, true, true, true, true, true, false, false, false, false, false, false, false, false] rfl rfl (one_of HT_.out (by kernel_rfl)) (by decide) (fun K hK => ?_)
              refine goes_ Try.func46 (by kernel_rfl) rfl #[.agg #[.int .i64 a0_0, .string a0_1, .int .u64 a0_2, .slice A0_3 l0_3.length c0_3, .int .u64 a0_4, .int .u64 a0_5, .string a0_6], .agg #[.int .i64 a1_0, .string a1_1, .int .u64 a1_2, .slice A1_3 l1_3.length c1_3, .int .u64 a1_4, .int .u64 a1_5, .string a1_6]] (by rfl) rfl rfl (by (try simp only [List.map_toArray, List.map_cons, List.map_nil]); first | done | rfl | (simp only [List.length_drop, List.length_take]; rfl)) ?_
              with_reducible refine (tephraref08_Same.calls kj2 a0_0 a0_1 a0_2 _ _ l0_3 a0_4 a0_5 a0_6 a1_0 a1_1 a1_2 _ _ l1_3 a1_4 a1_5 a1_6 t186 _ ?side1 ?side2 ?side3 ?side4 A28.out).mono ?_
              (case side1 => repeat (first | exact (Kd.C_below HR0_3.out HB.out) | (with_reducible refine Kd.C_alloc ?_ _) | (with_reducible refine Kd.C_drewN ?_ _) | (with_reducible refine Kd.C_drew ?_)))
              (case side2 => exact HC0_3.out)
              (case side3 => repeat (first | exact (Kd.C_below HR1_3.out HB.out) | (with_reducible refine Kd.C_alloc ?_ _) | (with_reducible refine Kd.C_drewN ?_ _) | (with_reducible refine Kd.C_drew ?_)))
              (case side4 => exact HC1_3.out)
              rintro e w34 ⟨rfl, hb⟩
              refine ⟨_, rfl, ?_⟩
              have n0_ := Aside0.mk (blk_below (g := gb178) (o := .cells #[.int .i64 a0_0, .string a0_1, .int .u64 a0_2, .slice A0_3 l0_3.length c0_3, .int .u64 a0_4, .int .u64 a0_5, .string a0_6] 70 (0, 0)) (by (with_reducible repeat (first | refine blk_drewN ?_ _ | refine blk_drew ?_ | refine blk_alloc ?_ _)); exact BK178.out) hb)
              have n1_ := Aside0.mk (blk_below (g := gb179) (o := .cells #[.int .i64 a1_0, .string a1_1, .int .u64 a1_2, .slice A1_3 l1_3.length c1_3, .int .u64 a1_4, .int .u64 a1_5, .string a1_6] 70 (0, 0)) (by (with_reducible repeat (first | refine blk_drewN ?_ _ | refine blk_drew ?_ | refine blk_alloc ?_ _)); exact BK179.out) hb)
              have n2_ := Aside0.mk (below_step (by repeat (first | (with_reducible first | exact HB.out | apply below_alloc | apply pw_below_drewN | apply below_drew1 | refine below_set ?_ GE178.out | refine below_set ?_ GE179.out) | exact HB.out)) hb)
              clear BK178
              clear BK179
              clear HB
              have BK178 := n0_
              have BK179 := n1_
              have HB := n2_
              clear n0_ n1_ n2_
              (try clear hb)
              (try clear hb2)
              (try clear hk)
              (try clear hi)
              refine hK.out _ _ ⟨(blk_cell BK178.out 0).trans rfl, (blk_cell BK178.out 1).trans rfl, (blk_cell BK178.out 2).trans rfl, (blk_cell BK178.out 3).trans rfl, (blk_cell BK178.out 4).trans rfl, (blk_cell BK178.out 5).trans rfl, (blk_cell BK178.out 6).trans rfl, (blk_cell BK179.out 0).trans rfl, (blk_cell BK179.out 1).trans rfl, (blk_cell BK179.out 2).trans rfl, (blk_cell BK179.out 3).trans rfl, (blk_cell BK179.out 4).trans rfl, (blk_cell BK179.out 5).trans rfl, (blk_cell BK179.out 6).trans rfl⟩ (fun hHeld => ?_)
              clear hK K
              refine norm_ (a' := ?_) ?_ ?_
              rotate_left
              · show Act.put _ (some 28) _ = _
                simp only [Act.put, List.setIfInBounds_toArray, List.set_cons_zero, List.set_cons_succ, i64_w, i32_w]
                rfl
              refine pure_ (i := 14) (N := some 29) (v := ?_) (a' := ?_) #[true, true, true, true, true, true, true, true, true, true, true, true, true, true, true, false, false, false, false, false, false, false] rfl rfl (any_of HT_.out (by kernel_rfl)) (fun _ _ _ h => h) (Or.inl ⟨by rfl, ?_⟩) ?_ ?_
              rotate_left
              · intro w'
                go_simp
                with_reducible rfl
              rotate_left
              · simp only [Act.put, List.setIfInBounds_toArray, List.set_cons_zero, List.set_cons_succ, i64_w, i32_w]
                rfl
              refine pure_ (i := 15) (N := some 30) (v := ?_) (a' := ?_) #[true, true, true, true, true, true, true, true, true, true, true, true, true, true, true, true, false, false, false, false, false, false] rfl rfl (any_of HT_.out (by kernel_rfl)) (fun _ _ _ h => h) (Or.inl ⟨by rfl, ?_⟩) ?_ ?_
              rotate_left
              · intro w'
                go_simp
                with_reducible rfl
              rotate_left
              · simp only [Act.put, List.setIfInBounds_toArray, List.set_cons_zero, List.set_cons_succ, i64_w, i32_w]
                rfl
              refine pure_ (i := 16) (N := some 31) (v := ?_) (a' := ?_) #[true, true, true, true, true, true, true, true, true, true, true, true, true, true, true, true, true, false, false, false, false, false] rfl rfl (any_of HT_.out (by kernel_rfl)) (fun _ _ _ h => h) (Or.inl ⟨by rfl, ?_⟩) ?_ ?_
              rotate_left
              · intro w'
                go_simp
                with_reducible rfl
              rotate_left
              · simp only [Act.put, List.setIfInBounds_toArray, List.set_cons_zero, List.set_cons_succ, i64_w, i32_w]
                rfl
              refine pure_ (i := 17) (N := some 32) (v := undef) (a' := ?_) #[true, true, true, true, true, true, true, true, true, true, true, true, true, true, true, true, true, true, false, false, false, false] rfl rfl (any_of HT_.out (by kernel_rfl)) (fun _ _ _ h => h) (Or.inr ⟨by rfl, rfl⟩) ?_ ?_
              rotate_left
              · simp only [Act.put, List.setIfInBounds_toArray, List.set_cons_zero, List.set_cons_succ, i64_w, i32_w]
                rfl
              refine pure_ (i := 18) (N := some 33) (v := undef) (a' := ?_) #[true, true, true, true, true, true, true, true, true, true, true, true, true, true, true, true, true, true, true, false, false, false] rfl rfl (any_of HT_.out (by kernel_rfl)) (fun _ _ _ h => h) (Or.inr ⟨by rfl, rfl⟩) ?_ ?_
              rotate_left
              · simp only [Act.put, List.setIfInBounds_toArray, List.set_cons_zero, List.set_cons_succ, i64_w, i32_w]
                rfl
              refine pure_ (i := 19) (N := some 34) (v := undef) (a' := ?_) #[true, true, true, true, true, true, true, true, true, true, true, true, true, true, true, true, true, true, true, true, false, false] rfl rfl (any_of HT_.out (by kernel_rfl)) (fun _ _ _ h => h) (Or.inr ⟨by rfl, rfl⟩) ?_ ?_
              rotate_left
              · simp only [Act.put, List.setIfInBounds_toArray, List.set_cons_zero, List.set_cons_succ, i64_w, i32_w]
                rfl
              refine pure_ (i := 20) (N := some 35) (v := undef) (a' := ?_) #[true, true, true, true, true, true, true, true, true, true, true, true, true, true, true, true, true, true, true, true, true, false] rfl rfl (any_of HT_.out (by kernel_rfl)) (fun _ _ _ h => h) (Or.inr ⟨by rfl, rfl⟩) ?_ ?_
              rotate_left
              · simp only [Act.put, List.setIfInBounds_toArray, List.set_cons_zero, List.set_cons_succ, i64_w, i32_w]
                rfl
              refine pure_ (i := 21) (N := some 36) (v := ?_) (a' := ?_) #[true, true, true, true, true, true, true, true, true, true, true, true, true, true, true, true, true, true, true, true, true, true] rfl rfl (any_of HT_.out (by kernel_rfl)) (fun _ _ _ h => h) (Or.inl ⟨by rfl, ?_⟩) ?_ ?_
              rotate_left
              · intro w'
                go_simp
                with_reducible rfl
              rotate_left
              · simp only [Act.put, List.setIfInBounds_toArray, List.set_cons_zero, List.set_cons_succ, i64_w, i32_w]
                rfl
              refine done_ (done_of HT_.out (by kernel_rfl)) ?_
              try go_wp2
              go_meet
              case rel => exact ⟨_, (true), (by first | rfl | (simp; done) | (simp [*]; done) | (simp; rw [Bool.eq_iff_iff]; simp; done)), H', ⟨by have := HJ2.out; first | omega | exact Nat.le_refl _⟩, ⟨by (with_reducible repeat (first | refine blk_drewN ?_ _ | refine blk_drew ?_ | refine blk_alloc ?_ _)); exact BK178.out⟩, ⟨by (with_reducible repeat (first | refine blk_drewN ?_ _ | refine blk_drew ?_ | refine blk_alloc ?_ _)); exact BK179.out⟩, ⟨by repeat (first | (with_reducible first | exact HB.out | apply below_alloc | apply pw_below_drewN | apply below_drew1 | refine below_set ?_ GE178.out | refine below_set ?_ GE179.out) | exact HB.out)⟩⟩
            · rw [if_neg c29] at H
              have c29b0 : (t185 != t186) = false := by simpa using c29
              (try (have c29b1 : decide (t185 = t186) = true := by simpa using c29))
              (try (have c29b2 : (t185 == t186) = true := by simpa using c29))
              clear c29
              replace H := Option.bind_eq_some_iff.mp H
              obtain ⟨t187, A350, H⟩ := H
              replace H : (tephralaw08_RecordSame.j1 kj2 (!t187) a0_0 a0_1 a0_2 l0_3 a0_4 a0_5 a0_6) = some r := H
              have A35 := Aside0.mk A350
              clear A350
              have H' := Aside0.mk H
              clear H
              try go_wp2
              have n0_ := Aside0.mk (blk_drew BK178.out)
              have n1_ := Aside0.mk (blk_drew BK179.out)
              have n2_ := Aside0.mk (below_drew1 HB.out)
              clear BK178
              clear BK179
              clear HB
              have BK178 := n0_
              have BK179 := n1_
              have HB := n2_
              clear n0_ n1_ n2_
              refine start_ (n := 22) (S := fun w' => w'.cell? ⟨gb178, 0, none⟩ = some (.int .i64 a0_0) ∧ w'.cell? ⟨gb178, 1, none⟩ = some (.string a0_1) ∧ w'.cell? ⟨gb178, 2, none⟩ = some (.int .u64 a0_2) ∧ w'.cell? ⟨gb178, 3, none⟩ = some (.slice A0_3 l0_3.length c0_3) ∧ w'.cell? ⟨gb178, 4, none⟩ = some (.int .u64 a0_4) ∧ w'.cell? ⟨gb178, 5, none⟩ = some (.int .u64 a0_5) ∧ w'.cell? ⟨gb178, 6, none⟩ = some (.string a0_6) ∧ w'.cell? ⟨gb179, 0, none⟩ = some (.int .i64 a1_0) ∧ w'.cell? ⟨gb179, 1, none⟩ = some (.string a1_1) ∧ w'.cell? ⟨gb179, 2, none⟩ = some (.int .u64 a1_2) ∧ w'.cell? ⟨gb179, 3, none⟩ = some (.slice A1_3 l1_3.length c1_3) ∧ w'.cell? ⟨gb179, 4, none⟩ = some (.int .u64 a1_4) ∧ w'.cell? ⟨gb179, 5, none⟩ = some (.int .u64 a1_5) ∧ w'.cell? ⟨gb179, 6, none⟩ = some (.string a1_6)) (ds := []) #[false, false, false, false, false, false, false, false, false, false, false, false, false, false, false, false, false, false, false, false, false, false] (by kernel_rfl) rfl rfl ⟨(blk_cell BK178.out 0).trans rfl, (blk_cell BK178.out 1).trans rfl, (blk_cell BK178.out 2).trans rfl, (blk_cell BK178.out 3).trans rfl, (blk_cell BK178.out 4).trans rfl, (blk_cell BK178.out 5).trans rfl, (blk_cell BK178.out 6).trans rfl, (blk_cell BK179.out 0).trans rfl, (blk_cell BK179.out 1).trans rfl, (blk_cell BK179.out 2).trans rfl, (blk_cell BK179.out 3).trans rfl, (blk_cell BK179.out 4).trans rfl, (blk_cell BK179.out 5).trans rfl, (blk_cell BK179.out 6).trans rfl⟩ (fun hHeld => ?_); refine with_tabW tephralaw08_RecordSame.tab3 tephralaw08_RecordSame.bits3 (fun HT_ HW_ => ?_)
              generalize wc.drew = w36 at BK178 BK179 HB hHeld ⊢
              refine take_ (i := 0) (N := some 15) (v := ?_) (a' := ?_) #[true, false, false, false, false, false, false, false, false, false, false, false, false, false, false, false, false, false, false, false, false, false] rfl rfl (take_ofW HT_.out HW_.out (by kernel_rfl)) (fun _ _ _ h => h) (Or.inl ⟨by rfl, ?_⟩) hHeld ?_ ?_
              rotate_left
              · rintro w' ⟨s0, s1, s2, s3, s4, s5, s6, s7, s8, s9, s10, s11, s12, s13⟩
                go_simp
                with_reducible rfl
              rotate_left
              · simp only [Act.put, List.setIfInBounds_toArray, List.set_cons_zero, List.set_cons_succ, i64_w, i32_w]
                rfl
              refine take_ (i := 1) (N := some 16) (v := ?_) (a' := ?_) #[true, true, false, false, false, false, false, false, false, false, false, false, false, false, false, false, false, false, false, false, false, false] rfl rfl (take_ofW HT_.out HW_.out (by kernel_rfl)) (fun _ _ _ h => h) (Or.inl ⟨by rfl, ?_⟩) hHeld ?_ ?_
              rotate_left
              · rintro w' ⟨s0, s1, s2, s3, s4, s5, s6, s7, s8, s9, s10, s11, s12, s13⟩
                go_simp
                with_reducible rfl
              rotate_left
              · simp only [Act.put, List.setIfInBounds_toArray, List.set_cons_zero, List.set_cons_succ, i64_w, i32_w]
                rfl
              refine take_ (i := 3) (N := some 18) (v := ?_) (a' := ?_) #[true, true, false, true, false, false, false, false, false, false, false, false, false, false, false, false, false, false, false, false, false, false] rfl rfl (take_ofW HT_.out HW_.out (by kernel_rfl)) (fun _ _ _ h => h) (Or.inl ⟨by rfl, ?_⟩) hHeld ?_ ?_
              rotate_left
              · rintro w' ⟨s0, s1, s2, s3, s4, s5, s6, s7, s8, s9, s10, s11, s12, s13⟩
                go_simp
                with_reducible rfl
              rotate_left
              · simp only [Act.put, List.setIfInBounds_toArray, List.set_cons_zero, List.set_cons_succ, i64_w, i32_w]
                rfl
              refine take_ (i := 4) (N := some 19) (v := ?_) (a' := ?_) #[true, true, false, true, true, false, false, false, false, false, false, false, false, false, false, false, false, false, false, false, false, false] rfl rfl (take_ofW HT_.out HW_.out (by kernel_rfl)) (fun _ _ _ h => h) (Or.inl ⟨by rfl, ?_⟩) hHeld ?_ ?_
              rotate_left
              · rintro w' ⟨s0, s1, s2, s3, s4, s5, s6, s7, s8, s9, s10, s11, s12, s13⟩
                go_simp
                with_reducible rfl
              rotate_left
              · simp only [Act.put, List.setIfInBounds_toArray, List.set_cons_zero, List.set_cons_succ, i64_w, i32_w]
                rfl
              refine one_ (i := 2) (N := some 17) #[true, true, true, true, true, false, false, false, false, false, false, false, false, false, false, false, false, false, false, false, false, false] rfl rfl (one_of HT_.out (by kernel_rfl)) (by decide) (fun K hK => ?_)
              refine goes_ Try.func45 (by kernel_rfl) rfl #[.agg #[.int .i64 a0_0, .string a0_1, .int .u64 a0_2, .slice A0_3 l0_3.length c0_3, .int .u64 a0_4, .int .u64 a0_5, .string a0_6], .agg #[.int .i64 a1_0, .string a1_1, .int .u64 a1_2, .slice A1_3 l1_3.length c1_3, .int .u64 a1_4, .int .u64 a1_5, .string a1_6]] (by rfl) rfl rfl (by (try simp only [List.map_toArray, List.map_cons, List.map_nil]); first | done | rfl | (simp only [List.length_drop, List.length_take]; rfl)) ?_
              with_reducible refine (record_Same.calls kj2 a0_0 a0_1 a0_2 _ _ l0_3 a0_4 a0_5 a0_6 a1_0 a1_1 a1_2 _ _ l1_3 a1_4 a1_5 a1_6 t183 _ ?side1 ?side2 ?side3 ?side4 A21.out).mono ?_
              (case side1 => repeat (first | exact (Kd.C_below HR0_3.out HB.out) | (with_reducible refine Kd.C_alloc ?_ _) | (with_reducible refine Kd.C_drewN ?_ _) | (with_reducible refine Kd.C_drew ?_)))
              (case side2 => exact HC0_3.out)
              (case side3 => repeat (first | exact (Kd.C_below HR1_3.out HB.out) | (with_reducible refine Kd.C_alloc ?_ _) | (with_reducible refine Kd.C_drewN ?_ _) | (with_reducible refine Kd.C_drew ?_)))
              (case side4 => exact HC1_3.out)
              rintro e w37 ⟨rfl, hb⟩
              refine ⟨_, rfl, ?_⟩
              have n0_ := Aside0.mk (blk_below (g := gb178) (o := .cells #[.int .i64 a0_0, .string a0_1, .int .u64 a0_2, .slice A0_3 l0_3.length c0_3, .int .u64 a0_4, .int .u64 a0_5, .string a0_6] 70 (0, 0)) (by (with_reducible repeat (first | refine blk_drewN ?_ _ | refine blk_drew ?_ | refine blk_alloc ?_ _)); exact BK178.out) hb)
              have n1_ := Aside0.mk (blk_below (g := gb179) (o := .cells #[.int .i64 a1_0, .string a1_1, .int .u64 a1_2, .slice A1_3 l1_3.length c1_3, .int .u64 a1_4, .int .u64 a1_5, .string a1_6] 70 (0, 0)) (by (with_reducible repeat (first | refine blk_drewN ?_ _ | refine blk_drew ?_ | refine blk_alloc ?_ _)); exact BK179.out) hb)
              have n2_ := Aside0.mk (below_step (by repeat (first | (with_reducible first | exact HB.out | apply below_alloc | apply pw_below_drewN | apply below_drew1 | refine below_set ?_ GE178.out | refine below_set ?_ GE179.out) | exact HB.out)) hb)
              clear BK178
              clear BK179
              clear HB
              have BK178 := n0_
              have BK179 := n1_
              have HB := n2_
              clear n0_ n1_ n2_
              (try clear hb)
              (try clear hb2)
              (try clear hk)
              (try clear hi)
              refine hK.out _ _ ⟨(blk_cell BK178.out 0).trans rfl, (blk_cell BK178.out 1).trans rfl, (blk_cell BK178.out 2).trans rfl, (blk_cell BK178.out 3).trans rfl, (blk_cell BK178.out 4).trans rfl, (blk_cell BK178.out 5).trans rfl, (blk_cell BK178.out 6).trans rfl, (blk_cell BK179.out 0).trans rfl, (blk_cell BK179.out 1).trans rfl, (blk_cell BK179.out 2).trans rfl, (blk_cell BK179.out 3).trans rfl, (blk_cell BK179.out 4).trans rfl, (blk_cell BK179.out 5).trans rfl, (blk_cell BK179.out 6).trans rfl⟩ (fun hHeld => ?_)
              clear hK K
              refine norm_ (a' := ?_) ?_ ?_
              rotate_left
              · show Act.put _ (some 17) _ = _
                simp only [Act.put, List.setIfInBounds_toArray, List.set_cons_zero, List.set_cons_succ, i64_w, i32_w]
                rfl
              refine one_ (i := 5) (N := some 20) #[true, true, true, true, true, true, false, false, false, false, false, false, false, false, false, false, false, false, false, false, false, false] rfl rfl (one_of HT_.out (by kernel_rfl)) (by decide) (fun K hK => ?_)
              refine goes_ Try.func46 (by kernel_rfl) rfl #[.agg #[.int .i64 a0_0, .string a0_1, .int .u64 a0_2, .slice A0_3 l0_3.length c0_3, .int .u64 a0_4, .int .u64 a0_5, .string a0_6], .agg #[.int .i64 a1_0, .string a1_1, .int .u64 a1_2, .slice A1_3 l1_3.length c1_3, .int .u64 a1_4, .int .u64 a1_5, .string a1_6]] (by rfl) rfl rfl (by (try simp only [List.map_toArray, List.map_cons, List.map_nil]); first | done | rfl | (simp only [List.length_drop, List.length_take]; rfl)) ?_
              with_reducible refine (tephraref08_Same.calls kj2 a0_0 a0_1 a0_2 _ _ l0_3 a0_4 a0_5 a0_6 a1_0 a1_1 a1_2 _ _ l1_3 a1_4 a1_5 a1_6 t184 _ ?side1 ?side2 ?side3 ?side4 A22.out).mono ?_
              (case side1 => repeat (first | exact (Kd.C_below HR0_3.out HB.out) | (with_reducible refine Kd.C_alloc ?_ _) | (with_reducible refine Kd.C_drewN ?_ _) | (with_reducible refine Kd.C_drew ?_)))
              (case side2 => exact HC0_3.out)
              (case side3 => repeat (first | exact (Kd.C_below HR1_3.out HB.out) | (with_reducible refine Kd.C_alloc ?_ _) | (with_reducible refine Kd.C_drewN ?_ _) | (with_reducible refine Kd.C_drew ?_)))
              (case side4 => exact HC1_3.out)
              rintro e w38 ⟨rfl, hb⟩
              refine ⟨_, rfl, ?_⟩
              have n0_ := Aside0.mk (blk_below (g := gb178) (o := .cells #[.int .i64 a0_0, .string a0_1, .int .u64 a0_2, .slice A0_3 l0_3.length c0_3, .int .u64 a0_4, .int .u64 a0_5, .string a0_6] 70 (0, 0)) (by (with_reducible repeat (first | refine blk_drewN ?_ _ | refine blk_drew ?_ | refine blk_alloc ?_ _)); exact BK178.out) hb)
              have n1_ := Aside0.mk (blk_below (g := gb179) (o := .cells #[.int .i64 a1_0, .string a1_1, .int .u64 a1_2, .slice A1_3 l1_3.length c1_3, .int .u64 a1_4, .int .u64 a1_5, .string a1_6] 70 (0, 0)) (by (with_reducible repeat (first | refine blk_drewN ?_ _ | refine blk_drew ?_ | refine blk_alloc ?_ _)); exact BK179.out) hb)
              have n2_ := Aside0.mk (below_step (by repeat (first | (with_reducible first | exact HB.out | apply below_alloc | apply pw_below_drewN | apply below_drew1 | refine below_set ?_ GE178.out | refine below_set ?_ GE179.out) | exact HB.out)) hb)
              clear BK178
              clear BK179
              clear HB
              have BK178 := n0_
              have BK179 := n1_
              have HB := n2_
              clear n0_ n1_ n2_
              (try clear hb)
              (try clear hb2)
              (try clear hk)
              (try clear hi)
              refine hK.out _ _ ⟨(blk_cell BK178.out 0).trans rfl, (blk_cell BK178.out 1).trans rfl, (blk_cell BK178.out 2).trans rfl, (blk_cell BK178.out 3).trans rfl, (blk_cell BK178.out 4).trans rfl, (blk_cell BK178.out 5).trans rfl, (blk_cell BK178.out 6).trans rfl, (blk_cell BK179.out 0).trans rfl, (blk_cell BK179.out 1).trans rfl, (blk_cell BK179.out 2).trans rfl, (blk_cell BK179.out 3).trans rfl, (blk_cell BK179.out 4).trans rfl, (blk_cell BK179.out 5).trans rfl, (blk_cell BK179.out 6).trans rfl⟩ (fun hHeld => ?_)
              clear hK K
              refine norm_ (a' := ?_) ?_ ?_
              rotate_left
              · show Act.put _ (some 20) _ = _
                simp only [Act.put, List.setIfInBounds_toArray, List.set_cons_zero, List.set_cons_succ, i64_w, i32_w]
                rfl
              refine pure_ (i := 6) (N := some 21) (v := ?_) (a' := ?_) #[true, true, true, true, true, true, true, false, false, false, false, false, false, false, false, false, false, false, false, false, false, false] rfl rfl (any_of HT_.out (by kernel_rfl)) (fun _ _ _ h => h) (Or.inl ⟨by rfl, ?_⟩) ?_ ?_
              rotate_left
              · intro w'
                go_simp
                with_reducible rfl
              rotate_left
              · simp only [Act.put, List.setIfInBounds_toArray, List.set_cons_zero, List.set_cons_succ, i64_w, i32_w]
                rfl
              refine pure_ (i := 7) (N := some 22) (v := ?_) (a' := ?_) #[true, true, true, true, true, true, true, true, false, false, false, false, false, false, false, false, false, false, false, false, false, false] rfl rfl (any_of HT_.out (by kernel_rfl)) (fun _ _ _ h => h) (Or.inl ⟨by rfl, ?_⟩) ?_ ?_
              rotate_left
              · intro w'
                go_simp
                with_reducible rfl
              rotate_left
              · simp only [Act.put, List.setIfInBounds_toArray, List.set_cons_zero, List.set_cons_succ, i64_w, i32_w]
                rfl
              refine take_ (i := 8) (N := some 23) (v := ?_) (a' := ?_) #[true, true, true, true, true, true, true, true, true, false, false, false, false, false, false, false, false, false, false, false, false, false] rfl rfl (take_ofW HT_.out HW_.out (by kernel_rfl)) (fun _ _ _ h => h) (Or.inl ⟨by rfl, ?_⟩) hHeld ?_ ?_
              rotate_left
              · rintro w' ⟨s0, s1, s2, s3, s4, s5, s6, s7, s8, s9, s10, s11, s12, s13⟩
                go_simp
                with_reducible rfl
              rotate_left
              · simp only [Act.put, List.setIfInBounds_toArray, List.set_cons_zero, List.set_cons_succ, i64_w, i32_w]
                rfl
              refine take_ (i := 9) (N := some 24) (v := ?_) (a' := ?_) #[true, true, true, true, true, true, true, true, true, true, false, false, false, false, false, false, false, false, false, false, false, false] rfl rfl (take_ofW HT_.out HW_.out (by kernel_rfl)) (fun _ _ _ h => h) (Or.inl ⟨by rfl, ?_⟩) hHeld ?_ ?_
              rotate_left
              · rintro w' ⟨s0, s1, s2, s3, s4, s5, s6, s7, s8, s9, s10, s11, s12, s13⟩
                go_simp
                with_reducible rfl
              rotate_left
              · simp only [Act.put, List.setIfInBounds_toArray, List.set_cons_zero, List.set_cons_succ, i64_w, i32_w]
                rfl
              refine take_ (i := 11) (N := some 26) (v := ?_) (a' := ?_) #[true, true, true, true, true, true, true, true, true, true, false, true, false, false, false, false, false, false, false, false, false, false] rfl rfl (take_ofW HT_.out HW_.out (by kernel_rfl)) (fun _ _ _ h => h) (Or.inl ⟨by rfl, ?_⟩) hHeld ?_ ?_
              rotate_left
              · rintro w' ⟨s0, s1, s2, s3, s4, s5, s6, s7, s8, s9, s10, s11, s12, s13⟩
                go_simp
                with_reducible rfl
              rotate_left
              · simp only [Act.put, List.setIfInBounds_toArray, List.set_cons_zero, List.set_cons_succ, i64_w, i32_w]
                rfl
              refine take_ (i := 12) (N := some 27) (v := ?_) (a' := ?_) #[true, true, true, true, true, true, true, true, true, true, false, true, true, false, false, false, false, false, false, false, false, false] rfl rfl (take_ofW HT_.out HW_.out (by kernel_rfl)) (fun _ _ _ h => h) (Or.inl ⟨by rfl, ?_⟩) hHeld ?_ ?_
              rotate_left
              · rintro w' ⟨s0, s1, s2, s3, s4, s5, s6, s7, s8, s9, s10, s11, s12, s13⟩
                go_simp
                with_reducible rfl
              rotate_left
              · simp only [Act.put, List.setIfInBounds_toArray, List.set_cons_zero, List.set_cons_succ, i64_w, i32_w]
                rfl
              refine one_ (i := 10) (N := some 25) #[true, true, true, true, true, true, true, true, true, true, true, true, true, false, false, false, false, false, false, false, false, false] rfl rfl (one_of HT_.out (by kernel_rfl)) (by decide) (fun K hK => ?_)
              refine goes_ Try.func45 (by kernel_rfl) rfl #[.agg #[.int .i64 a1_0, .string a1_1, .int .u64 a1_2, .slice A1_3 l1_3.length c1_3, .int .u64 a1_4, .int .u64 a1_5, .string a1_6], .agg #[.int .i64 a0_0, .string a0_1, .int .u64 a0_2, .slice A0_3 l0_3.length c0_3, .int .u64 a0_4, .int .u64 a0_5, .string a0_6]] (by rfl) rfl rfl (by (try simp only [List.map_toArray, List.map_cons, List.map_nil]); first | done | rfl | (simp only [List.length_drop, List.length_take]; rfl)) ?_
              with_reducible refine (record_Same.calls kj2 a1_0 a1_1 a1_2 _ _ l1_3 a1_4 a1_5 a1_6 a0_0 a0_1 a0_2 _ _ l0_3 a0_4 a0_5 a0_6 t185 _ ?side1 ?side2 ?side3 ?side4 A27.out).mono ?_
              (case side1 => repeat (first | exact (Kd.C_below HR1_3.out HB.out) | (with_reducible refine Kd.C_alloc ?_ _) | (with_reducible refine Kd.C_drewN ?_ _) | (with_reducible refine Kd.C_drew ?_)))
              (case side2 => exact HC1_3.out)
              (case side3 => repeat (first | exact (Kd.C_below HR0_3.out HB.out) | (with_reducible refine Kd.C_alloc ?_ _) | (with_reducible refine Kd.C_drewN ?_ _) | (with_reducible refine Kd.C_drew ?_)))
              (case side4 => exact HC0_3.out)
              rintro e w39 ⟨rfl, hb⟩
              refine ⟨_, rfl, ?_⟩
              have n0_ := Aside0.mk (blk_below (g := gb178) (o := .cells #[.int .i64 a0_0, .string a0_1, .int .u64 a0_2, .slice A0_3 l0_3.length c0_3, .int .u64 a0_4, .int .u64 a0_5, .string a0_6] 70 (0, 0)) (by (with_reducible repeat (first | refine blk_drewN ?_ _ | refine blk_drew ?_ | refine blk_alloc ?_ _)); exact BK178.out) hb)
              have n1_ := Aside0.mk (blk_below (g := gb179) (o := .cells #[.int .i64 a1_0, .string a1_1, .int .u64 a1_2, .slice A1_3 l1_3.length c1_3, .int .u64 a1_4, .int .u64 a1_5, .string a1_6] 70 (0, 0)) (by (with_reducible repeat (first | refine blk_drewN ?_ _ | refine blk_drew ?_ | refine blk_alloc ?_ _)); exact BK179.out) hb)
              have n2_ := Aside0.mk (below_step (by repeat (first | (with_reducible first | exact HB.out | apply below_alloc | apply pw_below_drewN | apply below_drew1 | refine below_set ?_ GE178.out | refine below_set ?_ GE179.out) | exact HB.out)) hb)
              clear BK178
              clear BK179
              clear HB
              have BK178 := n0_
              have BK179 := n1_
              have HB := n2_
              clear n0_ n1_ n2_
              (try clear hb)
              (try clear hb2)
              (try clear hk)
              (try clear hi)
              refine hK.out _ _ ⟨(blk_cell BK178.out 0).trans rfl, (blk_cell BK178.out 1).trans rfl, (blk_cell BK178.out 2).trans rfl, (blk_cell BK178.out 3).trans rfl, (blk_cell BK178.out 4).trans rfl, (blk_cell BK178.out 5).trans rfl, (blk_cell BK178.out 6).trans rfl, (blk_cell BK179.out 0).trans rfl, (blk_cell BK179.out 1).trans rfl, (blk_cell BK179.out 2).trans rfl, (blk_cell BK179.out 3).trans rfl, (blk_cell BK179.out 4).trans rfl, (blk_cell BK179.out 5).trans rfl, (blk_cell BK179.out 6).trans rfl⟩ (fun hHeld => ?_)
              clear hK K
              refine norm_ (a' := ?_) ?_ ?_
              rotate_left
              · show Act.put _ (some 25) _ = _
                simp only [Act.put, List.setIfInBounds_toArray, List.set_cons_zero, List.set_cons_succ, i64_w, i32_w]
                rfl
              refine one_ (i := 13) (N := some 28) #[true, true, true, true, true, true, true, true, true, true, true, true, true, true, false, false, false, false, false, false, false, false] rfl rfl (one_of HT_.out (by kernel_rfl)) (by decide) (fun K hK => ?_)
              refine goes_ Try.func46 (by kernel_rfl) rfl #[.agg #[.int .i64 a0_0, .string a0_1, .int .u64 a0_2, .slice A0_3 l0_3.length c0_3, .int .u64 a0_4, .int .u64 a0_5, .string a0_6], .agg #[.int .i64 a1_0, .string a1_1, .int .u64 a1_2, .slice A1_3 l1_3.length c1_3, .int .u64 a1_4, .int .u64 a1_5, .string a1_6]] (by rfl) rfl rfl (by (try simp only [List.map_toArray, List.map_cons, List.map_nil]); first | done | rfl | (simp only [List.length_drop, List.length_take]; rfl)) ?_
              with_reducible refine (tephraref08_Same.calls kj2 a0_0 a0_1 a0_2 _ _ l0_3 a0_4 a0_5 a0_6 a1_0 a1_1 a1_2 _ _ l1_3 a1_4 a1_5 a1_6 t186 _ ?side1 ?side2 ?side3 ?side4 A28.out).mono ?_
              (case side1 => repeat (first | exact (Kd.C_below HR0_3.out HB.out) | (with_reducible refine Kd.C_alloc ?_ _) | (with_reducible refine Kd.C_drewN ?_ _) | (with_reducible refine Kd.C_drew ?_)))
              (case side2 => exact HC0_3.out)
              (case side3 => repeat (first | exact (Kd.C_below HR1_3.out HB.out) | (with_reducible refine Kd.C_alloc ?_ _) | (with_reducible refine Kd.C_drewN ?_ _) | (with_reducible refine Kd.C_drew ?_)))
              (case side4 => exact HC1_3.out)
              rintro e w40 ⟨rfl, hb⟩
              refine ⟨_, rfl, ?_⟩
              have n0_ := Aside0.mk (blk_below (g := gb178) (o := .cells #[.int .i64 a0_0, .string a0_1, .int .u64 a0_2, .slice A0_3 l0_3.length c0_3, .int .u64 a0_4, .int .u64 a0_5, .string a0_6] 70 (0, 0)) (by (with_reducible repeat (first | refine blk_drewN ?_ _ | refine blk_drew ?_ | refine blk_alloc ?_ _)); exact BK178.out) hb)
              have n1_ := Aside0.mk (blk_below (g := gb179) (o := .cells #[.int .i64 a1_0, .string a1_1, .int .u64 a1_2, .slice A1_3 l1_3.length c1_3, .int .u64 a1_4, .int .u64 a1_5, .string a1_6] 70 (0, 0)) (by (with_reducible repeat (first | refine blk_drewN ?_ _ | refine blk_drew ?_ | refine blk_alloc ?_ _)); exact BK179.out) hb)
              have n2_ := Aside0.mk (below_step (by repeat (first | (with_reducible first | exact HB.out | apply below_alloc | apply pw_below_drewN | apply below_drew1 | refine below_set ?_ GE178.out | refine below_set ?_ GE179.out) | exact HB.out)) hb)
              clear BK178
              clear BK179
              clear HB
              have BK178 := n0_
              have BK179 := n1_
              have HB := n2_
              clear n0_ n1_ n2_
              (try clear hb)
              (try clear hb2)
              (try clear hk)
              (try clear hi)
              refine hK.out _ _ ⟨(blk_cell BK178.out 0).trans rfl, (blk_cell BK178.out 1).trans rfl, (blk_cell BK178.out 2).trans rfl, (blk_cell BK178.out 3).trans rfl, (blk_cell BK178.out 4).trans rfl, (blk_cell BK178.out 5).trans rfl, (blk_cell BK178.out 6).trans rfl, (blk_cell BK179.out 0).trans rfl, (blk_cell BK179.out 1).trans rfl, (blk_cell BK179.out 2).trans rfl, (blk_cell BK179.out 3).trans rfl, (blk_cell BK179.out 4).trans rfl, (blk_cell BK179.out 5).trans rfl, (blk_cell BK179.out 6).trans rfl⟩ (fun hHeld => ?_)
              clear hK K
              refine norm_ (a' := ?_) ?_ ?_
              rotate_left
              · show Act.put _ (some 28) _ = _
                simp only [Act.put, List.setIfInBounds_toArray, List.set_cons_zero, List.set_cons_succ, i64_w, i32_w]
                rfl
              refine pure_ (i := 14) (N := some 29) (v := ?_) (a' := ?_) #[true, true, true, true, true, true, true, true, true, true, true, true, true, true, true, false, false, false, false, false, false, false] rfl rfl (any_of HT_.out (by kernel_rfl)) (fun _ _ _ h => h) (Or.inl ⟨by rfl, ?_⟩) ?_ ?_
              rotate_left
              · intro w'
                go_simp
                with_reducible rfl
              rotate_left
              · simp only [Act.put, List.setIfInBounds_toArray, List.set_cons_zero, List.set_cons_succ, i64_w, i32_w]
                rfl
              refine pure_ (i := 15) (N := some 30) (v := ?_) (a' := ?_) #[true, true, true, true, true, true, true, true, true, true, true, true, true, true, true, true, false, false, false, false, false, false] rfl rfl (any_of HT_.out (by kernel_rfl)) (fun _ _ _ h => h) (Or.inl ⟨by rfl, ?_⟩) ?_ ?_
              rotate_left
              · intro w'
                go_simp
                with_reducible rfl
              rotate_left
              · simp only [Act.put, List.setIfInBounds_toArray, List.set_cons_zero, List.set_cons_succ, i64_w, i32_w]
                rfl
              refine pure_ (i := 16) (N := some 31) (v := ?_) (a' := ?_) #[true, true, true, true, true, true, true, true, true, true, true, true, true, true, true, true, true, false, false, false, false, false] rfl rfl (any_of HT_.out (by kernel_rfl)) (fun _ _ _ h => h) (Or.inl ⟨by rfl, ?_⟩) ?_ ?_
              rotate_left
              · intro w'
                go_simp
                with_reducible rfl
              rotate_left
              · simp only [Act.put, List.setIfInBounds_toArray, List.set_cons_zero, List.set_cons_succ, i64_w, i32_w]
                rfl
              refine take_ (i := 17) (N := some 32) (v := ?_) (a' := ?_) #[true, true, true, true, true, true, true, true, true, true, true, true, true, true, true, true, true, true, false, false, false, false] rfl rfl (take_ofW HT_.out HW_.out (by kernel_rfl)) (fun _ _ _ h => h) (Or.inl ⟨by rfl, ?_⟩) hHeld ?_ ?_
              rotate_left
              · rintro w' ⟨s0, s1, s2, s3, s4, s5, s6, s7, s8, s9, s10, s11, s12, s13⟩
                go_simp
                with_reducible rfl
              rotate_left
              · simp only [Act.put, List.setIfInBounds_toArray, List.set_cons_zero, List.set_cons_succ, i64_w, i32_w]
                rfl
              refine take_ (i := 18) (N := some 33) (v := ?_) (a' := ?_) #[true, true, true, true, true, true, true, true, true, true, true, true, true, true, true, true, true, true, true, false, false, false] rfl rfl (take_ofW HT_.out HW_.out (by kernel_rfl)) (fun _ _ _ h => h) (Or.inl ⟨by rfl, ?_⟩) hHeld ?_ ?_
              rotate_left
              · rintro w' ⟨s0, s1, s2, s3, s4, s5, s6, s7, s8, s9, s10, s11, s12, s13⟩
                go_simp
                with_reducible rfl
              rotate_left
              · simp only [Act.put, List.setIfInBounds_toArray, List.set_cons_zero, List.set_cons_succ, i64_w, i32_w]
                rfl
              refine one_ (i := 19) (N := some 34) #[true, true, true, true, true, true, true, true, true, true, true, true, true, true, true, true, true, true, true, true, false, false] rfl rfl (one_of HT_.out (by kernel_rfl)) (by decide) (fun K hK => ?_)
              refine goes_ Try.func45 (by kernel_rfl) rfl #[.agg #[.int .i64 a0_0, .string a0_1, .int .u64 a0_2, .slice A0_3 l0_3.length c0_3, .int .u64 a0_4, .int .u64 a0_5, .string a0_6], .agg #[.int .i64 a0_0, .string a0_1, .int .u64 a0_2, .slice A0_3 l0_3.length c0_3, .int .u64 a0_4, .int .u64 a0_5, .string a0_6]] (by rfl) rfl rfl (by (try simp only [List.map_toArray, List.map_cons, List.map_nil]); first | done | rfl | (simp only [List.length_drop, List.length_take]; rfl)) ?_
              with_reducible refine (record_Same.calls kj2 a0_0 a0_1 a0_2 _ _ l0_3 a0_4 a0_5 a0_6 a0_0 a0_1 a0_2 _ _ l0_3 a0_4 a0_5 a0_6 t187 _ ?side1 ?side2 ?side3 ?side4 A35.out).mono ?_
              (case side1 => repeat (first | exact (Kd.C_below HR0_3.out HB.out) | (with_reducible refine Kd.C_alloc ?_ _) | (with_reducible refine Kd.C_drewN ?_ _) | (with_reducible refine Kd.C_drew ?_)))
              (case side2 => exact HC0_3.out)
              (case side3 => repeat (first | exact (Kd.C_below HR0_3.out HB.out) | (with_reducible refine Kd.C_alloc ?_ _) | (with_reducible refine Kd.C_drewN ?_ _) | (with_reducible refine Kd.C_drew ?_)))
              (case side4 => exact HC0_3.out)
              rintro e w41 ⟨rfl, hb⟩
              refine ⟨_, rfl, ?_⟩
              have n0_ := Aside0.mk (blk_below (g := gb178) (o := .cells #[.int .i64 a0_0, .string a0_1, .int .u64 a0_2, .slice A0_3 l0_3.length c0_3, .int .u64 a0_4, .int .u64 a0_5, .string a0_6] 70 (0, 0)) (by (with_reducible repeat (first | refine blk_drewN ?_ _ | refine blk_drew ?_ | refine blk_alloc ?_ _)); exact BK178.out) hb)
              have n1_ := Aside0.mk (blk_below (g := gb179) (o := .cells #[.int .i64 a1_0, .string a1_1, .int .u64 a1_2, .slice A1_3 l1_3.length c1_3, .int .u64 a1_4, .int .u64 a1_5, .string a1_6] 70 (0, 0)) (by (with_reducible repeat (first | refine blk_drewN ?_ _ | refine blk_drew ?_ | refine blk_alloc ?_ _)); exact BK179.out) hb)
              have n2_ := Aside0.mk (below_step (by repeat (first | (with_reducible first | exact HB.out | apply below_alloc | apply pw_below_drewN | apply below_drew1 | refine below_set ?_ GE178.out | refine below_set ?_ GE179.out) | exact HB.out)) hb)
              clear BK178
              clear BK179
              clear HB
              have BK178 := n0_
              have BK179 := n1_
              have HB := n2_
              clear n0_ n1_ n2_
              (try clear hb)
              (try clear hb2)
              (try clear hk)
              (try clear hi)
              refine hK.out _ _ ⟨(blk_cell BK178.out 0).trans rfl, (blk_cell BK178.out 1).trans rfl, (blk_cell BK178.out 2).trans rfl, (blk_cell BK178.out 3).trans rfl, (blk_cell BK178.out 4).trans rfl, (blk_cell BK178.out 5).trans rfl, (blk_cell BK178.out 6).trans rfl, (blk_cell BK179.out 0).trans rfl, (blk_cell BK179.out 1).trans rfl, (blk_cell BK179.out 2).trans rfl, (blk_cell BK179.out 3).trans rfl, (blk_cell BK179.out 4).trans rfl, (blk_cell BK179.out 5).trans rfl, (blk_cell BK179.out 6).trans rfl⟩ (fun hHeld => ?_)
              clear hK K
              refine norm_ (a' := ?_) ?_ ?_
              rotate_left
              · show Act.put _ (some 34) _ = _
                simp only [Act.put, List.setIfInBounds_toArray, List.set_cons_zero, List.set_cons_succ, i64_w, i32_w]
                rfl
              refine pure_ (i := 20) (N := some 35) (v := ?_) (a' := ?_) #[true, true, true, true, true, true, true, true, true, true, true, true, true, true, true, true, true, true, true, true, true, false] rfl rfl (any_of HT_.out (by kernel_rfl)) (fun _ _ _ h => h) (Or.inl ⟨by rfl, ?_⟩) ?_ ?_
              rotate_left
              · intro w'
                go_simp
                with_reducible rfl
              rotate_left
              · simp only [Act.put, List.setIfInBounds_toArray, List.set_cons_zero, List.set_cons_succ, i64_w, i32_w]
                rfl
              refine pure_ (i := 21) (N := some 36) (v := ?_) (a' := ?_) #[true, true, true, true, true, true, true, true, true, true, true, true, true, true, true, true, true, true, true, true, true, true] rfl rfl (any_of HT_.out (by kernel_rfl)) (fun _ _ _ h => h) (Or.inl ⟨by rfl, ?_⟩) ?_ ?_
              rotate_left
              · intro w'
                go_simp
                with_reducible rfl
              rotate_left
              · simp only [Act.put, List.setIfInBounds_toArray, List.set_cons_zero, List.set_cons_succ, i64_w, i32_w]
                rfl
              refine done_ (done_of HT_.out (by kernel_rfl)) ?_
              try go_wp2
              go_meet
              case rel => exact ⟨_, (!t187), (by first | rfl | (simp; done) | (simp [*]; done) | (simp; rw [Bool.eq_iff_iff]; simp; done)), H', ⟨by have := HJ2.out; first | omega | exact Nat.le_refl _⟩, ⟨by (with_reducible repeat (first | refine blk_drewN ?_ _ | refine blk_drew ?_ | refine blk_alloc ?_ _)); exact BK178.out⟩, ⟨by (with_reducible repeat (first | refine blk_drewN ?_ _ | refine blk_drew ?_ | refine blk_alloc ?_ _)); exact BK179.out⟩, ⟨by repeat (first | (with_reducible first | exact HB.out | apply below_alloc | apply pw_below_drewN | apply below_drew1 | refine below_set ?_ GE178.out | refine below_set ?_ GE179.out) | exact HB.out)⟩⟩
        case rest =>
          clear HC20
          try clear c1
          try clear c2
          try clear p2
          try clear c4
          try clear c29
          try clear c29b0
          try clear c29b1
          try clear c29b2
          obtain ⟨kq, x36_19, rfl, HA, HJ19, BK178, BK179, HB⟩ := hcut
          cases kq with
          | zero => exact absurd HA.out (by simp [tephralaw08_RecordSame.j1])
          | succ kj19 =>
            have H := HA.out
            clear HA
            simp only [tephralaw08_RecordSame.j1] at H
            by_cases c42 : x36_19 = true
            · subst c42
              have H1 : (some false) = some r := by rw [if_pos rfl] at H; exact H
              clear H
              have H := H1
              clear H1
              obtain rfl := Option.some.inj H
              go_wp2
              go_ret
              exact ⟨by first | rfl | (simp [errW_none, errW_some] <;> rfl) | (simp [*, errW_none, errW_some] <;> rfl), by repeat (first | (with_reducible first | exact HB.out | apply below_alloc | apply pw_below_drewN | apply below_drew1 | refine below_set ?_ GE178.out | refine below_set ?_ GE179.out) | exact HB.out)⟩
            · replace c42 := Bool.eq_false_iff.mpr c42
              subst c42
              have H1 : ((some (([] : List (S76)) : List (S76))).bind fun y188 => (if y188.length + l0_3.length < 4398046511104 then ((some (y188 ++ l0_3 : List (S76))).bind fun y191 => ((record_Clone.f a0_0 a0_1 a0_2 y191 a0_4 a0_5 a0_6).bind fun bt195 => (tephralaw08_RecordSame.l0 kj19 (y191.length : Int) 0 a0_0 a0_1 a0_2 l0_3 a0_4 a0_5 a0_6 a0_0 a0_1 a0_2 y191 a0_4 a0_5 a0_6 bt195.1 bt195.2.1 bt195.2.2.1 bt195.2.2.2.1 bt195.2.2.2.2.1 bt195.2.2.2.2.2.1 bt195.2.2.2.2.2.2))) else (none))) = some r := by rw [if_neg (show ¬ (false = true) by decide)] at H; exact H
              clear H
              have H := H1
              clear H1
              obtain ⟨y188, hy188⟩ : ∃ y_ : List (S76), y_ = (([] : List (S76))) := ⟨_, rfl⟩
              replace H : (if y188.length + l0_3.length < 4398046511104 then ((some (y188 ++ l0_3 : List (S76))).bind fun y191 => ((record_Clone.f a0_0 a0_1 a0_2 y191 a0_4 a0_5 a0_6).bind fun bt195 => (tephralaw08_RecordSame.l0 kj19 (y191.length : Int) 0 a0_0 a0_1 a0_2 l0_3 a0_4 a0_5 a0_6 a0_0 a0_1 a0_2 y191 a0_4 a0_5 a0_6 bt195.1 bt195.2.1 bt195.2.2.1 bt195.2.2.2.1 bt195.2.2.2.2.1 bt195.2.2.2.2.2.1 bt195.2.2.2.2.2.2))) else (none)) = some r := by first | (rw [hy188]; with_reducible exact H) | (have H2_ := (Option.bind_some _ _).symm.trans H; rw [hy188]; with_reducible exact H2_) | (have H2_ := (Option.bind_some _ _).symm.trans H; with_reducible exact H2_) | with_reducible exact H | (rw [hy188]; exact H) | exact H
              have Ny188 := Aside0.mk hy188
              clear hy188
              by_cases c43 : y188.length + l0_3.length < 4398046511104
              · rw [if_pos c43] at H
                have LMc43 := Aside0.mk c43
                clear c43
                obtain ⟨y191, hy191⟩ : ∃ y_ : List (S76), y_ = (y188 ++ l0_3) := ⟨_, rfl⟩
                replace H : ((record_Clone.f a0_0 a0_1 a0_2 y191 a0_4 a0_5 a0_6).bind fun bt195 => (tephralaw08_RecordSame.l0 kj19 (y191.length : Int) 0 a0_0 a0_1 a0_2 l0_3 a0_4 a0_5 a0_6 a0_0 a0_1 a0_2 y191 a0_4 a0_5 a0_6 bt195.1 bt195.2.1 bt195.2.2.1 bt195.2.2.2.1 bt195.2.2.2.2.1 bt195.2.2.2.2.2.1 bt195.2.2.2.2.2.2)) = some r := by first | (rw [hy191]; with_reducible exact H) | (have H2_ := (Option.bind_some _ _).symm.trans H; rw [hy191]; with_reducible exact H2_) | (have H2_ := (Option.bind_some _ _).symm.trans H; with_reducible exact H2_) | with_reducible exact H | (rw [hy191]; exact H) | exact H
                have Ny191 := Aside0.mk hy191
                clear hy191
                replace H := Option.bind_eq_some_iff.mp H
                obtain ⟨⟨t195, t196, t197, t198, t201, t202, t203⟩, A440, H⟩ := H
                replace H : (tephralaw08_RecordSame.l0 kj19 (y191.length : Int) 0 a0_0 a0_1 a0_2 l0_3 a0_4 a0_5 a0_6 a0_0 a0_1 a0_2 y191 a0_4 a0_5 a0_6 t195 t196 t197 t198 t201 t202 t203) = some r := H
                have A44 := Aside0.mk A440
                clear A440
                have H' := Aside0.mk H
                clear H
                try go_wp2
                have n0_ := Aside0.mk (blk_drew BK178.out)
                have n1_ := Aside0.mk (blk_drew BK179.out)
                have n2_ := Aside0.mk (below_drew1 HB.out)
                clear BK178
                clear BK179
                clear HB
                have BK178 := n0_
                have BK179 := n1_
                have HB := n2_
                clear n0_ n1_ n2_
                refine start_ (n := 19) (S := fun w' => w'.cell? ⟨gb178, 0, none⟩ = some (.int .i64 a0_0) ∧ w'.cell? ⟨gb178, 1, none⟩ = some (.string a0_1) ∧ w'.cell? ⟨gb178, 2, none⟩ = some (.int .u64 a0_2) ∧ w'.cell? ⟨gb178, 3, none⟩ = some (.slice A0_3 l0_3.length c0_3) ∧ w'.cell? ⟨gb178, 4, none⟩ = some (.int .u64 a0_4) ∧ w'.cell? ⟨gb178, 5, none⟩ = some (.int .u64 a0_5) ∧ w'.cell? ⟨gb178, 6, none⟩ = some (.string a0_6)) (ds := []) #[false, false, false, false, false, false, false, false, false, false, false, false, false, false, false, false, false, false, false] (by kernel_rfl) rfl rfl ⟨(blk_cell BK178.out 0).trans rfl, (blk_cell BK178.out 1).trans rfl, (blk_cell BK178.out 2).trans rfl, (blk_cell BK178.out 3).trans rfl, (blk_cell BK178.out 4).trans rfl, (blk_cell BK178.out 5).trans rfl, (blk_cell BK178.out 6).trans rfl⟩ (fun hHeld => ?_); refine with_tabW tephralaw08_RecordSame.tab5 tephralaw08_RecordSame.bits5 (fun HT_ HW_ => ?_)
                generalize wc.drew = w45 at BK178 BK179 HB hHeld ⊢
                refine pure_ (i := 0) (N := some 37) (v := ?_) (a' := ?_) #[true, false, false, false, false, false, false, false, false, false, false, false, false, false, false, false, false, false, false] rfl rfl (any_of HT_.out (by kernel_rfl)) (fun _ _ _ h => h) (Or.inl ⟨by rfl, ?_⟩) ?_ ?_
                rotate_left
                · intro w'
                  go_simp
                  with_reducible rfl
                rotate_left
                · simp only [Act.put, List.setIfInBounds_toArray, List.set_cons_zero, List.set_cons_succ, i64_w, i32_w]
                  rfl
                refine pure_ (i := 2) (N := some 39) (v := ?_) (a' := ?_) #[true, false, true, false, false, false, false, false, false, false, false, false, false, false, false, false, false, false, false] rfl rfl (any_of HT_.out (by kernel_rfl)) (fun _ _ _ h => h) (Or.inl ⟨by rfl, ?_⟩) ?_ ?_
                rotate_left
                · intro w'
                  go_simp
                  with_reducible rfl
                rotate_left
                · simp only [Act.put, List.setIfInBounds_toArray, List.set_cons_zero, List.set_cons_succ, i64_w, i32_w]
                  rfl
                refine pure_ (i := 4) (N := some 41) (v := ?_) (a' := ?_) #[true, false, true, false, true, false, false, false, false, false, false, false, false, false, false, false, false, false, false] rfl rfl (any_of HT_.out (by kernel_rfl)) (fun _ _ _ h => h) (Or.inl ⟨by rfl, ?_⟩) ?_ ?_
                rotate_left
                · intro w'
                  go_simp
                  with_reducible rfl
                rotate_left
                · simp only [Act.put, List.setIfInBounds_toArray, List.set_cons_zero, List.set_cons_succ, i64_w, i32_w]
                  rfl
                refine pure_ (i := 7) (N := some 44) (v := ?_) (a' := ?_) #[true, false, true, false, true, false, false, true, false, false, false, false, false, false, false, false, false, false, false] rfl rfl (any_of HT_.out (by kernel_rfl)) (fun _ _ _ h => h) (Or.inl ⟨by rfl, ?_⟩) ?_ ?_
                rotate_left
                · intro w'
                  go_simp
                  with_reducible rfl
                rotate_left
                · simp only [Act.put, List.setIfInBounds_toArray, List.set_cons_zero, List.set_cons_succ, i64_w, i32_w]
                  rfl
                refine pure_ (i := 10) (N := some 47) (v := ?_) (a' := ?_) #[true, false, true, false, true, false, false, true, false, false, true, false, false, false, false, false, false, false, false] rfl rfl (any_of HT_.out (by kernel_rfl)) (fun _ _ _ h => h) (Or.inl ⟨by rfl, ?_⟩) ?_ ?_
                rotate_left
                · intro w'
                  go_simp
                  with_reducible rfl
                rotate_left
                · simp only [Act.put, List.setIfInBounds_toArray, List.set_cons_zero, List.set_cons_succ, i64_w, i32_w]
                  rfl
                refine pure_ (i := 12) (N := some 49) (v := ?_) (a' := ?_) #[true, false, true, false, true, false, false, true, false, false, true, false, true, false, false, false, false, false, false] rfl rfl (any_of HT_.out (by kernel_rfl)) (fun _ _ _ h => h) (Or.inl ⟨by rfl, ?_⟩) ?_ ?_
                rotate_left
                · intro w'
                  go_simp
                  with_reducible rfl
                rotate_left
                · simp only [Act.put, List.setIfInBounds_toArray, List.set_cons_zero, List.set_cons_succ, i64_w, i32_w]
                  rfl
                refine pure_ (i := 14) (N := some 51) (v := ?_) (a' := ?_) #[true, false, true, false, true, false, false, true, false, false, true, false, true, false, true, false, false, false, false] rfl rfl (any_of HT_.out (by kernel_rfl)) (fun _ _ _ h => h) (Or.inl ⟨by rfl, ?_⟩) ?_ ?_
                rotate_left
                · intro w'
                  go_simp
                  with_reducible rfl
                rotate_left
                · simp only [Act.put, List.setIfInBounds_toArray, List.set_cons_zero, List.set_cons_succ, i64_w, i32_w]
                  rfl
                refine take_ (i := 1) (N := some 38) (v := ?_) (a' := ?_) #[true, true, true, false, true, false, false, true, false, false, true, false, true, false, true, false, false, false, false] rfl rfl (take_ofW HT_.out HW_.out (by kernel_rfl)) (fun _ _ _ h => h) (Or.inl ⟨by rfl, ?_⟩) hHeld ?_ ?_
                rotate_left
                · rintro w' ⟨s0, s1, s2, s3, s4, s5, s6⟩
                  go_simp
                  with_reducible rfl
                rotate_left
                · simp only [Act.put, List.setIfInBounds_toArray, List.set_cons_zero, List.set_cons_succ, i64_w, i32_w]
                  rfl
                refine take_ (i := 3) (N := some 40) (v := ?_) (a' := ?_) #[true, true, true, true, true, false, false, true, false, false, true, false, true, false, true, false, false, false, false] rfl rfl (take_ofW HT_.out HW_.out (by kernel_rfl)) (fun _ _ _ h => h) (Or.inl ⟨by rfl, ?_⟩) hHeld ?_ ?_
                rotate_left
                · rintro w' ⟨s0, s1, s2, s3, s4, s5, s6⟩
                  go_simp
                  with_reducible rfl
                rotate_left
                · simp only [Act.put, List.setIfInBounds_toArray, List.set_cons_zero, List.set_cons_succ, i64_w, i32_w]
                  rfl
                refine take_ (i := 5) (N := some 42) (v := ?_) (a' := ?_) #[true, true, true, true, true, true, false, true, false, false, true, false, true, false, true, false, false, false, false] rfl rfl (take_ofW HT_.out HW_.out (by kernel_rfl)) (fun _ _ _ h => h) (Or.inl ⟨by rfl, ?_⟩) hHeld ?_ ?_
                rotate_left
                · rintro w' ⟨s0, s1, s2, s3, s4, s5, s6⟩
                  go_simp
                  with_reducible rfl
                rotate_left
                · simp only [Act.put, List.setIfInBounds_toArray, List.set_cons_zero, List.set_cons_succ, i64_w, i32_w]
                  rfl
                refine take_ (i := 8) (N := some 45) (v := ?_) (a' := ?_) #[true, true, true, true, true, true, false, true, true, false, true, false, true, false, true, false, false, false, false] rfl rfl (take_ofW HT_.out HW_.out (by kernel_rfl)) (fun _ _ _ h => h) (Or.inl ⟨by rfl, ?_⟩) hHeld ?_ ?_
                rotate_left
                · rintro w' ⟨s0, s1, s2, s3, s4, s5, s6⟩
                  go_simp
                  with_reducible rfl
                rotate_left
                · simp only [Act.put, List.setIfInBounds_toArray, List.set_cons_zero, List.set_cons_succ, i64_w, i32_w]
                  rfl
                refine take_ (i := 11) (N := some 48) (v := ?_) (a' := ?_) #[true, true, true, true, true, true, false, true, true, false, true, true, true, false, true, false, false, false, false] rfl rfl (take_ofW HT_.out HW_.out (by kernel_rfl)) (fun _ _ _ h => h) (Or.inl ⟨by rfl, ?_⟩) hHeld ?_ ?_
                rotate_left
                · rintro w' ⟨s0, s1, s2, s3, s4, s5, s6⟩
                  go_simp
                  with_reducible rfl
                rotate_left
                · simp only [Act.put, List.setIfInBounds_toArray, List.set_cons_zero, List.set_cons_succ, i64_w, i32_w]
                  rfl
                refine take_ (i := 13) (N := some 50) (v := ?_) (a' := ?_) #[true, true, true, true, true, true, false, true, true, false, true, true, true, true, true, false, false, false, false] rfl rfl (take_ofW HT_.out HW_.out (by kernel_rfl)) (fun _ _ _ h => h) (Or.inl ⟨by rfl, ?_⟩) hHeld ?_ ?_
                rotate_left
                · rintro w' ⟨s0, s1, s2, s3, s4, s5, s6⟩
                  go_simp
                  with_reducible rfl
                rotate_left
                · simp only [Act.put, List.setIfInBounds_toArray, List.set_cons_zero, List.set_cons_succ, i64_w, i32_w]
                  rfl
                refine take_ (i := 15) (N := some 52) (v := ?_) (a' := ?_) #[true, true, true, true, true, true, false, true, true, false, true, true, true, true, true, true, false, false, false] rfl rfl (take_ofW HT_.out HW_.out (by kernel_rfl)) (fun _ _ _ h => h) (Or.inl ⟨by rfl, ?_⟩) hHeld ?_ ?_
                rotate_left
                · rintro w' ⟨s0, s1, s2, s3, s4, s5, s6⟩
                  go_simp
                  with_reducible rfl
                rotate_left
                · simp only [Act.put, List.setIfInBounds_toArray, List.set_cons_zero, List.set_cons_succ, i64_w, i32_w]
                  rfl
                refine join_ (σ := Value × Value × Nat) 1 #[true, true, true, true, true, true, true, true, true, true, true, true, true, true, true, true, true, true, false] (fun s_ => [(43, s_.1), (46, s_.2.1), (5, .pointer (some ⟨s_.2.2, 0, none⟩)), (53, .agg #[.int .i64 a0_0, .string a0_1, .int .u64 a0_2, s_.2.1, .int .u64 a0_4, .int .u64 a0_5, .string a0_6])]) (fun s_ w' => (w'.cell? ⟨gb178, 0, none⟩ = some (.int .i64 a0_0) ∧ w'.cell? ⟨gb178, 1, none⟩ = some (.string a0_1) ∧ w'.cell? ⟨gb178, 2, none⟩ = some (.int .u64 a0_2) ∧ w'.cell? ⟨gb178, 3, none⟩ = some (.slice A0_3 l0_3.length c0_3) ∧ w'.cell? ⟨gb178, 4, none⟩ = some (.int .u64 a0_4) ∧ w'.cell? ⟨gb178, 5, none⟩ = some (.int .u64 a0_5) ∧ w'.cell? ⟨gb178, 6, none⟩ = some (.string a0_6)) ∧ (Kd.R k76 76 w' w.heap.size (fun _ => True) s_.2.1 y191) ∧ (w'.heap[gb178]? = some (.cells #[.int .i64 a0_0, .string a0_1, .int .u64 a0_2, .slice A0_3 l0_3.length c0_3, .int .u64 a0_4, .int .u64 a0_5, .string a0_6] 70 (0, 0))) ∧ (w'.heap[gb179]? = some (.cells #[.int .i64 a1_0, .string a1_1, .int .u64 a1_2, .slice A1_3 l1_3.length c1_3, .int .u64 a1_4, .int .u64 a1_5, .string a1_6] 70 (0, 0))) ∧ (w'.heap[s_.2.2]? = some (.cells #[.int .i64 0, .string (⟨#[]⟩ : ByteArray), .int .u64 0, .slice none 0 0, .int .u64 0, .int .u64 0, .string (⟨#[]⟩ : ByteArray)] 70 (0, 0))) ∧ (w.heap.size ≤ s_.2.2) ∧ (w.heap.size ≤ s_.2.2) ∧ (gb178 ≠ s_.2.2) ∧ (s_.2.2 ≠ gb178) ∧ (gb179 ≠ s_.2.2) ∧ (s_.2.2 ≠ gb179) ∧ (Below w.heap.size w w')) ?_ ?_
                rotate_left
                · intro hCont
                  refine two_ (i := 6) (j := 17) (Ni := some 43) (Nj := some 5) #[true, true, true, true, true, true, true, true, true, false, true, true, true, true, true, true, false, false, false] #[true, true, true, true, true, true, false, true, true, false, true, true, true, true, true, true, false, true, false] rfl rfl rfl rfl (two_of HT_.out (by kernel_rfl)) (by decide) (by decide) (fun K hK => ?_) (fun K hK => ?_)
                  · skip
                    refine Kd.R_lit_step k76 _ 76 ?hg (N := 43) ?hd (xs := ([] : List (S76))) (inner := []) (ok := fun _ => True) (okp := fun _ => True) ?hr ?hp (fun _ hk => hk) trivial (Below.refl _ _) (Nat.le_refl _) (by simp) ?_; (case hd => rfl); (case hg => rfl); (case hr => first | (go_simp; done) | (go_simp; rfl)); (case hp => exact (Reps.none _ _))
                    intro v189 w46 ho47 hb hg_ hnew_
                    clear hg_ hnew_
                    (first | rw [← Ny188.out] at ho47 | (simp only [Int.reduceToNat] at ho47; rw [← Ny188.out] at ho47))
                    have n0_ := Aside0.mk (Kd.R_lower ho47 (below_size (by repeat (first | (with_reducible first | exact HB.out | apply below_alloc | apply pw_below_drewN | apply below_drew1 | refine below_set ?_ GE178.out | refine below_set ?_ GE179.out) | exact HB.out))))
                    have n1_ := Aside0.mk (blk_below (g := gb178) (o := .cells #[.int .i64 a0_0, .string a0_1, .int .u64 a0_2, .slice A0_3 l0_3.length c0_3, .int .u64 a0_4, .int .u64 a0_5, .string a0_6] 70 (0, 0)) (by (with_reducible repeat (first | refine blk_drewN ?_ _ | refine blk_drew ?_ | refine blk_alloc ?_ _)); exact BK178.out) hb)
                    have n2_ := Aside0.mk (blk_below (g := gb179) (o := .cells #[.int .i64 a1_0, .string a1_1, .int .u64 a1_2, .slice A1_3 l1_3.length c1_3, .int .u64 a1_4, .int .u64 a1_5, .string a1_6] 70 (0, 0)) (by (with_reducible repeat (first | refine blk_drewN ?_ _ | refine blk_drew ?_ | refine blk_alloc ?_ _)); exact BK179.out) hb)
                    have n3_ := Aside0.mk (below_step (by repeat (first | (with_reducible first | exact HB.out | apply below_alloc | apply pw_below_drewN | apply below_drew1 | refine below_set ?_ GE178.out | refine below_set ?_ GE179.out) | exact HB.out)) hb)
                    clear BK178
                    clear BK179
                    clear HB
                    have HO190 := n0_
                    have BK178 := n1_
                    have BK179 := n2_
                    have HB := n3_
                    clear n0_ n1_ n2_ n3_
                    clear hb ho47
                    refine hK.out _ _ ⟨(blk_cell BK178.out 0).trans rfl, (blk_cell BK178.out 1).trans rfl, (blk_cell BK178.out 2).trans rfl, (blk_cell BK178.out 3).trans rfl, (blk_cell BK178.out 4).trans rfl, (blk_cell BK178.out 5).trans rfl, (blk_cell BK178.out 6).trans rfl⟩ (fun hHeld => ?_)
                    clear hK K
                    refine norm_ (a' := ?_) ?_ ?_
                    rotate_left
                    · show Act.put _ (some 43) _ = _
                      simp only [Act.put, List.setIfInBounds_toArray, List.set_cons_zero, List.set_cons_succ, i64_w, i32_w]
                      rfl
                    refine two_ (i := 9) (j := 17) (Ni := some 46) (Nj := some 5) #[true, true, true, true, true, true, true, true, true, true, true, true, true, true, true, true, false, false, false] #[true, true, true, true, true, true, true, true, true, false, true, true, true, true, true, true, false, true, false] rfl rfl rfl rfl (two_of HT_.out (by kernel_rfl)) (by decide) (by decide) (fun K hK => ?_) (fun K hK => ?_)
                    · skip
                      refine Kd.R_append_rows_step k76 (w0 := w) w.heap.size (by rfl) (.tmp 43) (.tmp 45) 68 76 (.agg #[(.string ⟨#[]⟩), (.int .u64 0), (.bool false)]) 32 rfl Try.underlying68 info76 rfl (by decide) (by omega) v189 y188 l0_3 _ _ _ (fun _ => True) (fun _ => False) rfl rfl ?aO ?aR (fun _ _ h => h) (fun _ h => h.elim) ?aF ?aB ?aS ?aL ?_
                      (case aR => repeat (first | exact (Kd.C_below HR0_3.out HB.out) | (with_reducible refine Kd.C_alloc ?_ _) | (with_reducible refine Kd.C_drewN ?_ _) | (with_reducible refine Kd.C_drew ?_)))
                      (case aB => exact (by repeat (first | (with_reducible first | exact HB.out | apply below_alloc | apply pw_below_drewN | apply below_drew1 | refine below_set ?_ GE178.out | refine below_set ?_ GE179.out) | exact HB.out)))
                      (case aF => exact (fun _ _ => trivial))
                      (case aO => exact (by (with_reducible repeat (first | apply Kd.R_alloc | apply Kd.R_drewN | apply Kd.R_drew)); exact HO190.out))
                      (case aS => exact (below_size (by repeat (first | (with_reducible first | exact HB.out | apply below_alloc | apply pw_below_drewN | apply below_drew1 | refine below_set ?_ GE178.out | refine below_set ?_ GE179.out) | exact HB.out))))
                      (case aL => have := LMc43.out; omega)
                      intro v192 w48 ho hb hg hat
                      rw [← Ny191.out] at ho
                      have n0_ := Aside0.mk (blk_grown (g := gb178) (o := .cells #[.int .i64 a0_0, .string a0_1, .int .u64 a0_2, .slice A0_3 l0_3.length c0_3, .int .u64 a0_4, .int .u64 a0_5, .string a0_6] 70 (0, 0)) (by (with_reducible repeat (first | refine blk_drewN ?_ _ | refine blk_drew ?_ | refine blk_alloc ?_ _)); exact BK178.out) hg (Kd.R_ne HO190.out BK178.out (by decide)))
                      have n1_ := Aside0.mk (blk_grown (g := gb179) (o := .cells #[.int .i64 a1_0, .string a1_1, .int .u64 a1_2, .slice A1_3 l1_3.length c1_3, .int .u64 a1_4, .int .u64 a1_5, .string a1_6] 70 (0, 0)) (by (with_reducible repeat (first | refine blk_drewN ?_ _ | refine blk_drew ?_ | refine blk_alloc ?_ _)); exact BK179.out) hg (Kd.R_ne HO190.out BK179.out (by decide)))
                      have n2_ := Aside0.mk (hb)
                      have n3_ := Aside0.mk (ho)
                      clear BK178
                      clear BK179
                      clear HB
                      clear HO190
                      have BK178 := n0_
                      have BK179 := n1_
                      have HB := n2_
                      have HO193 := n3_
                      clear n0_ n1_ n2_ n3_
                      clear ho hb hg hat
                      obtain ⟨Ao49, co49, eo49⟩ := Kd.R_slice HO193.out
                      (first | subst eo49 | (injection eo49 with f1_ f2_ f3_; have f4_ := f1_.symm; have f5_ := f3_.symm; clear f1_ f2_ f3_; subst f4_; subst f5_))
                      refine hK.out _ _ ⟨(blk_cell BK178.out 0).trans rfl, (blk_cell BK178.out 1).trans rfl, (blk_cell BK178.out 2).trans rfl, (blk_cell BK178.out 3).trans rfl, (blk_cell BK178.out 4).trans rfl, (blk_cell BK178.out 5).trans rfl, (blk_cell BK178.out 6).trans rfl⟩ (fun hHeld => ?_)
                      clear hK K
                      refine norm_ (a' := ?_) ?_ ?_
                      rotate_left
                      · show Act.put _ (some 46) _ = _
                        simp only [Act.put, List.setIfInBounds_toArray, List.set_cons_zero, List.set_cons_succ, i64_w, i32_w]
                        rfl
                      refine pure_ (i := 16) (N := some 53) (v := ?_) (a' := ?_) #[true, true, true, true, true, true, true, true, true, true, true, true, true, true, true, true, true, false, false] rfl rfl (any_of HT_.out (by kernel_rfl)) (fun _ _ _ h => h) (Or.inl ⟨by rfl, ?_⟩) ?_ ?_
                      rotate_left
                      · intro w'
                        go_simp
                        with_reducible rfl
                      rotate_left
                      · simp only [Act.put, List.setIfInBounds_toArray, List.set_cons_zero, List.set_cons_succ, i64_w, i32_w]
                        rfl
                      refine one_ (i := 17) (N := some 5) #[true, true, true, true, true, true, true, true, true, true, true, true, true, true, true, true, true, true, false] rfl rfl (one_of HT_.out (by kernel_rfl)) (by decide) (fun K hK => ?_)
                      refine box_step ?hg (N := 5) ?hd (cs := #[.int .i64 0, .string (⟨#[]⟩ : ByteArray), .int .u64 0, .slice none 0 0, .int .u64 0, .int .u64 0, .string (⟨#[]⟩ : ByteArray)]) (t := 70) ?hr ?_; (case hd => rfl); (case hg => rfl); (case hr => first | (go_simp; done) | (go_simp; rfl))
                      intro gb194 hg w50 hbox hb
                      have n0_ := Aside0.mk (Kd.R_below (by (with_reducible repeat (first | apply Kd.R_alloc | apply Kd.R_drewN | apply Kd.R_drew)); exact HO193.out) hb)
                      have n1_ := Aside0.mk (blk_below (g := gb178) (o := .cells #[.int .i64 a0_0, .string a0_1, .int .u64 a0_2, .slice A0_3 l0_3.length c0_3, .int .u64 a0_4, .int .u64 a0_5, .string a0_6] 70 (0, 0)) (by (with_reducible repeat (first | refine blk_drewN ?_ _ | refine blk_drew ?_ | refine blk_alloc ?_ _)); exact BK178.out) hb)
                      have n2_ := Aside0.mk (blk_below (g := gb179) (o := .cells #[.int .i64 a1_0, .string a1_1, .int .u64 a1_2, .slice A1_3 l1_3.length c1_3, .int .u64 a1_4, .int .u64 a1_5, .string a1_6] 70 (0, 0)) (by (with_reducible repeat (first | refine blk_drewN ?_ _ | refine blk_drew ?_ | refine blk_alloc ?_ _)); exact BK179.out) hb)
                      have n3_ := Aside0.mk (below_step (by repeat (first | (with_reducible first | exact HB.out | apply below_alloc | apply pw_below_drewN | apply below_drew1 | refine below_set ?_ GE178.out | refine below_set ?_ GE179.out) | exact HB.out)) hb)
                      have n4_ := Aside0.mk (hbox)
                      have n5_ := Aside0.mk ((by rw [hg]; exact (below_size (by repeat (first | (with_reducible first | exact HB.out | apply below_alloc | apply pw_below_drewN | apply below_drew1 | refine below_set ?_ GE178.out | refine below_set ?_ GE179.out) | exact HB.out))) : w.heap.size ≤ gb194))
                      have n6_ := Aside0.mk ((by rw [hg]; exact (below_size (by repeat (first | (with_reducible first | exact HB.out | apply below_alloc | apply pw_below_drewN | apply below_drew1 | refine below_set ?_ GE178.out | refine below_set ?_ GE179.out) | exact HB.out))) : w.heap.size ≤ gb194))
                      have n7_ := Aside0.mk ((by rw [hg]; exact Nat.ne_of_lt (blk_lt (g := gb178) (o := .cells #[.int .i64 a0_0, .string a0_1, .int .u64 a0_2, .slice A0_3 l0_3.length c0_3, .int .u64 a0_4, .int .u64 a0_5, .string a0_6] 70 (0, 0)) (by (with_reducible repeat (first | refine blk_drewN ?_ _ | refine blk_drew ?_ | refine blk_alloc ?_ _)); exact BK178.out)) : gb178 ≠ gb194))
                      have n8_ := Aside0.mk ((by rw [hg]; exact Nat.ne_of_gt (blk_lt (g := gb178) (o := .cells #[.int .i64 a0_0, .string a0_1, .int .u64 a0_2, .slice A0_3 l0_3.length c0_3, .int .u64 a0_4, .int .u64 a0_5, .string a0_6] 70 (0, 0)) (by (with_reducible repeat (first | refine blk_drewN ?_ _ | refine blk_drew ?_ | refine blk_alloc ?_ _)); exact BK178.out)) : gb194 ≠ gb178))
                      have n9_ := Aside0.mk ((by rw [hg]; exact Nat.ne_of_lt (blk_lt (g := gb179) (o := .cells #[.int .i64 a1_0, .string a1_1, .int .u64 a1_2, .slice A1_3 l1_3.length c1_3, .int .u64 a1_4, .int .u64 a1_5, .string a1_6] 70 (0, 0)) (by (with_reducible repeat (first | refine blk_drewN ?_ _ | refine blk_drew ?_ | refine blk_alloc ?_ _)); exact BK179.out)) : gb179 ≠ gb194))
                      have n10_ := Aside0.mk ((by rw [hg]; exact Nat.ne_of_gt (blk_lt (g := gb179) (o := .cells #[.int .i64 a1_0, .string a1_1, .int .u64 a1_2, .slice A1_3 l1_3.length c1_3, .int .u64 a1_4, .int .u64 a1_5, .string a1_6] 70 (0, 0)) (by (with_reducible repeat (first | refine blk_drewN ?_ _ | refine blk_drew ?_ | refine blk_alloc ?_ _)); exact BK179.out)) : gb194 ≠ gb179))
                      clear HO193
                      clear BK178
                      clear BK179
                      clear HB
                      have HO193 := n0_
                      have BK178 := n1_
                      have BK179 := n2_
                      have HB := n3_
                      have BK194 := n4_
                      have GW194 := n5_
                      have GE194 := n6_
                      have NB178_194 := n7_
                      have NB194_178 := n8_
                      have NB179_194 := n9_
                      have NB194_179 := n10_
                      clear n0_ n1_ n2_ n3_ n4_ n5_ n6_ n7_ n8_ n9_ n10_
                      clear hb hbox hg
                      refine hK.out _ _ ⟨(blk_cell BK178.out 0).trans rfl, (blk_cell BK178.out 1).trans rfl, (blk_cell BK178.out 2).trans rfl, (blk_cell BK178.out 3).trans rfl, (blk_cell BK178.out 4).trans rfl, (blk_cell BK178.out 5).trans rfl, (blk_cell BK178.out 6).trans rfl⟩ (fun hHeld => ?_)
                      clear hK K
                      refine norm_ (a' := ?_) ?_ ?_
                      rotate_left
                      · show Act.put _ (some 5) _ = _
                        simp only [Act.put, List.setIfInBounds_toArray, List.set_cons_zero, List.set_cons_succ, i64_w, i32_w]
                        rfl
                      exact norm_ (by simp only [putAll, Act.put, List.setIfInBounds_toArray, List.set_cons_zero, List.set_cons_succ]) (hCont (v189, .slice Ao49 y191.length co49, gb194) _ ⟨hHeld, (by (with_reducible repeat (first | apply Kd.R_alloc | apply Kd.R_drewN | apply Kd.R_drew)); exact HO193.out), (by (with_reducible repeat (first | refine blk_drewN ?_ _ | refine blk_drew ?_ | refine blk_alloc ?_ _)); exact BK178.out), (by (with_reducible repeat (first | refine blk_drewN ?_ _ | refine blk_drew ?_ | refine blk_alloc ?_ _)); exact BK179.out), (by (with_reducible repeat (first | refine blk_drewN ?_ _ | refine blk_drew ?_ | refine blk_alloc ?_ _)); exact BK194.out), GW194.out, GE194.out, NB178_194.out, NB194_178.out, NB179_194.out, NB194_179.out, (by repeat (first | (with_reducible first | exact HB.out | apply below_alloc | apply pw_below_drewN | apply below_drew1 | refine below_set ?_ GE178.out | refine below_set ?_ GE179.out | refine below_set ?_ GE194.out) | exact HB.out))⟩)
                    · skip
                      refine box_step ?hg (N := 5) ?hd (cs := #[.int .i64 0, .string (⟨#[]⟩ : ByteArray), .int .u64 0, .slice none 0 0, .int .u64 0, .int .u64 0, .string (⟨#[]⟩ : ByteArray)]) (t := 70) ?hr ?_; (case hd => rfl); (case hg => rfl); (case hr => first | (go_simp; done) | (go_simp; rfl))
                      intro gb194 hg w48 hbox hb
                      have n0_ := Aside0.mk (Kd.R_below (by (with_reducible repeat (first | apply Kd.R_alloc | apply Kd.R_drewN | apply Kd.R_drew)); exact HO190.out) hb)
                      have n1_ := Aside0.mk (blk_below (g := gb178) (o := .cells #[.int .i64 a0_0, .string a0_1, .int .u64 a0_2, .slice A0_3 l0_3.length c0_3, .int .u64 a0_4, .int .u64 a0_5, .string a0_6] 70 (0, 0)) (by (with_reducible repeat (first | refine blk_drewN ?_ _ | refine blk_drew ?_ | refine blk_alloc ?_ _)); exact BK178.out) hb)
                      have n2_ := Aside0.mk (blk_below (g := gb179) (o := .cells #[.int .i64 a1_0, .string a1_1, .int .u64 a1_2, .slice A1_3 l1_3.length c1_3, .int .u64 a1_4, .int .u64 a1_5, .string a1_6] 70 (0, 0)) (by (with_reducible repeat (first | refine blk_drewN ?_ _ | refine blk_drew ?_ | refine blk_alloc ?_ _)); exact BK179.out) hb)
                      have n3_ := Aside0.mk (below_step (by repeat (first | (with_reducible first | exact HB.out | apply below_alloc | apply pw_below_drewN | apply below_drew1 | refine below_set ?_ GE178.out | refine below_set ?_ GE179.out) | exact HB.out)) hb)
                      have n4_ := Aside0.mk (hbox)
                      have n5_ := Aside0.mk ((by rw [hg]; exact (below_size (by repeat (first | (with_reducible first | exact HB.out | apply below_alloc | apply pw_below_drewN | apply below_drew1 | refine below_set ?_ GE178.out | refine below_set ?_ GE179.out) | exact HB.out))) : w.heap.size ≤ gb194))
                      have n6_ := Aside0.mk ((by rw [hg]; exact (below_size (by repeat (first | (with_reducible first | exact HB.out | apply below_alloc | apply pw_below_drewN | apply below_drew1 | refine below_set ?_ GE178.out | refine below_set ?_ GE179.out) | exact HB.out))) : w.heap.size ≤ gb194))
                      have n7_ := Aside0.mk ((by rw [hg]; exact Nat.ne_of_lt (blk_lt (g := gb178) (o := .cells #[.int .i64 a0_0, .string a0_1, .int .u64 a0_2, .slice A0_3 l0_3.length c0_3, .int .u64 a0_4, .int .u64 a0_5, .string a0_6] 70 (0, 0)) (by (with_reducible repeat (first | refine blk_drewN ?_ _ | refine blk_drew ?_ | refine blk_alloc ?_ _)); exact BK178.out)) : gb178 ≠ gb194))
                      have n8_ := Aside0.mk ((by rw [hg]; exact Nat.ne_of_gt (blk_lt (g := gb178) (o := .cells #[.int .i64 a0_0, .string a0_1, .int .u64 a0_2, .slice A0_3 l0_3.length c0_3, .int .u64 a0_4, .int .u64 a0_5, .string a0_6] 70 (0, 0)) (by (with_reducible repeat (first | refine blk_drewN ?_ _ | refine blk_drew ?_ | refine blk_alloc ?_ _)); exact BK178.out)) : gb194 ≠ gb178))
                      have n9_ := Aside0.mk ((by rw [hg]; exact Nat.ne_of_lt (blk_lt (g := gb179) (o := .cells #[.int .i64 a1_0, .string a1_1, .int .u64 a1_2, .slice A1_3 l1_3.length c1_3, .int .u64 a1_4, .int .u64 a1_5, .string a1_6] 70 (0, 0)) (by (with_reducible repeat (first | refine blk_drewN ?_ _ | refine blk_drew ?_ | refine blk_alloc ?_ _)); exact BK179.out)) : gb179 ≠ gb194))
                      have n10_ := Aside0.mk ((by rw [hg]; exact Nat.ne_of_gt (blk_lt (g := gb179) (o := .cells #[.int .i64 a1_0, .string a1_1, .int .u64 a1_2, .slice A1_3 l1_3.length c1_3, .int .u64 a1_4, .int .u64 a1_5, .string a1_6] 70 (0, 0)) (by (with_reducible repeat (first | refine blk_drewN ?_ _ | refine blk_drew ?_ | refine blk_alloc ?_ _)); exact BK179.out)) : gb194 ≠ gb179))
                      clear HO190
                      clear BK178
                      clear BK179
                      clear HB
                      have HO190 := n0_
                      have BK178 := n1_
                      have BK179 := n2_
                      have HB := n3_
                      have BK194 := n4_
                      have GW194 := n5_
                      have GE194 := n6_
                      have NB178_194 := n7_
                      have NB194_178 := n8_
                      have NB179_194 := n9_
                      have NB194_179 := n10_
                      clear n0_ n1_ n2_ n3_ n4_ n5_ n6_ n7_ n8_ n9_ n10_
                      clear hb hbox hg
                      refine hK.out _ _ ⟨(blk_cell BK178.out 0).trans rfl, (blk_cell BK178.out 1).trans rfl, (blk_cell BK178.out 2).trans rfl, (blk_cell BK178.out 3).trans rfl, (blk_cell BK178.out 4).trans rfl, (blk_cell BK178.out 5).trans rfl, (blk_cell BK178.out 6).trans rfl⟩ (fun hHeld => ?_)
                      clear hK K
                      refine norm_ (a' := ?_) ?_ ?_
                      rotate_left
                      · show Act.put _ (some 5) _ = _
                        simp only [Act.put, List.setIfInBounds_toArray, List.set_cons_zero, List.set_cons_succ, i64_w, i32_w]
                        rfl
                      refine one_ (i := 9) (N := some 46) #[true, true, true, true, true, true, true, true, true, true, true, true, true, true, true, true, false, true, false] rfl rfl (one_of HT_.out (by kernel_rfl)) (by decide) (fun K hK => ?_)
                      refine Kd.R_append_rows_step k76 (w0 := w) w.heap.size (by rfl) (.tmp 43) (.tmp 45) 68 76 (.agg #[(.string ⟨#[]⟩), (.int .u64 0), (.bool false)]) 32 rfl Try.underlying68 info76 rfl (by decide) (by omega) v189 y188 l0_3 _ _ _ (fun _ => True) (fun _ => False) rfl rfl ?aO ?aR (fun _ _ h => h) (fun _ h => h.elim) ?aF ?aB ?aS ?aL ?_
                      (case aR => repeat (first | exact (Kd.C_below HR0_3.out HB.out) | (with_reducible refine Kd.C_alloc ?_ _) | (with_reducible refine Kd.C_drewN ?_ _) | (with_reducible refine Kd.C_drew ?_)))
                      (case aB => exact (by repeat (first | (with_reducible first | exact HB.out | apply below_alloc | apply pw_below_drewN | apply below_drew1 | refine below_set ?_ GE178.out | refine below_set ?_ GE179.out | refine below_set ?_ GE194.out) | exact HB.out)))
                      (case aF => exact (fun _ _ => trivial))
                      (case aO => exact (by (with_reducible repeat (first | apply Kd.R_alloc | apply Kd.R_drewN | apply Kd.R_drew)); exact HO190.out))
                      (case aS => exact (below_size (by repeat (first | (with_reducible first | exact HB.out | apply below_alloc | apply pw_below_drewN | apply below_drew1 | refine below_set ?_ GE178.out | refine below_set ?_ GE179.out | refine below_set ?_ GE194.out) | exact HB.out))))
                      (case aL => have := LMc43.out; omega)
                      intro v192 w49 ho hb hg hat
                      rw [← Ny191.out] at ho
                      have n0_ := Aside0.mk (blk_grown (g := gb178) (o := .cells #[.int .i64 a0_0, .string a0_1, .int .u64 a0_2, .slice A0_3 l0_3.length c0_3, .int .u64 a0_4, .int .u64 a0_5, .string a0_6] 70 (0, 0)) (by (with_reducible repeat (first | refine blk_drewN ?_ _ | refine blk_drew ?_ | refine blk_alloc ?_ _)); exact BK178.out) hg (Kd.R_ne HO190.out BK178.out (by decide)))
                      have n1_ := Aside0.mk (blk_grown (g := gb179) (o := .cells #[.int .i64 a1_0, .string a1_1, .int .u64 a1_2, .slice A1_3 l1_3.length c1_3, .int .u64 a1_4, .int .u64 a1_5, .string a1_6] 70 (0, 0)) (by (with_reducible repeat (first | refine blk_drewN ?_ _ | refine blk_drew ?_ | refine blk_alloc ?_ _)); exact BK179.out) hg (Kd.R_ne HO190.out BK179.out (by decide)))
                      have n2_ := Aside0.mk (blk_grown (g := gb194) (o := .cells #[.int .i64 0, .string (⟨#[]⟩ : ByteArray), .int .u64 0, .slice none 0 0, .int .u64 0, .int .u64 0, .string (⟨#[]⟩ : ByteArray)] 70 (0, 0)) (by (with_reducible repeat (first | refine blk_drewN ?_ _ | refine blk_drew ?_ | refine blk_alloc ?_ _)); exact BK194.out) hg (Kd.R_ne HO190.out BK194.out (by decide)))
                      have n3_ := Aside0.mk (hb)
                      have n4_ := Aside0.mk (ho)
                      clear BK178
                      clear BK179
                      clear BK194
                      clear HB
                      clear HO190
                      have BK178 := n0_
                      have BK179 := n1_
                      have BK194 := n2_
                      have HB := n3_
                      have HO193 := n4_
                      clear n0_ n1_ n2_ n3_ n4_
                      clear ho hb hg hat
                      obtain ⟨Ao50, co50, eo50⟩ := Kd.R_slice HO193.out
                      (first | subst eo50 | (injection eo50 with f1_ f2_ f3_; have f4_ := f1_.symm; have f5_ := f3_.symm; clear f1_ f2_ f3_; subst f4_; subst f5_))
                      refine hK.out _ _ ⟨(blk_cell BK178.out 0).trans rfl, (blk_cell BK178.out 1).trans rfl, (blk_cell BK178.out 2).trans rfl, (blk_cell BK178.out 3).trans rfl, (blk_cell BK178.out 4).trans rfl, (blk_cell BK178.out 5).trans rfl, (blk_cell BK178.out 6).trans rfl⟩ (fun hHeld => ?_)
                      clear hK K
                      refine norm_ (a' := ?_) ?_ ?_
                      rotate_left
                      · show Act.put _ (some 46) _ = _
                        simp only [Act.put, List.setIfInBounds_toArray, List.set_cons_zero, List.set_cons_succ, i64_w, i32_w]
                        rfl
                      refine pure_ (i := 16) (N := some 53) (v := ?_) (a' := ?_) #[true, true, true, true, true, true, true, true, true, true, true, true, true, true, true, true, true, true, false] rfl rfl (any_of HT_.out (by kernel_rfl)) (fun _ _ _ h => h) (Or.inl ⟨by rfl, ?_⟩) ?_ ?_
                      rotate_left
                      · intro w'
                        go_simp
                        with_reducible rfl
                      rotate_left
                      · simp only [Act.put, List.setIfInBounds_toArray, List.set_cons_zero, List.set_cons_succ, i64_w, i32_w]
                        rfl
                      exact norm_ (by simp only [putAll, Act.put, List.setIfInBounds_toArray, List.set_cons_zero, List.set_cons_succ]) (hCont (v189, .slice Ao50 y191.length co50, gb194) _ ⟨hHeld, (by (with_reducible repeat (first | apply Kd.R_alloc | apply Kd.R_drewN | apply Kd.R_drew)); exact HO193.out), (by (with_reducible repeat (first | refine blk_drewN ?_ _ | refine blk_drew ?_ | refine blk_alloc ?_ _)); exact BK178.out), (by (with_reducible repeat (first | refine blk_drewN ?_ _ | refine blk_drew ?_ | refine blk_alloc ?_ _)); exact BK179.out), (by (with_reducible repeat (first | refine blk_drewN ?_ _ | refine blk_drew ?_ | refine blk_alloc ?_ _)); exact BK194.out), GW194.out, GE194.out, NB178_194.out, NB194_178.out, NB179_194.out, NB194_179.out, (by repeat (first | (with_reducible first | exact HB.out | apply below_alloc | apply pw_below_drewN | apply below_drew1 | refine below_set ?_ GE178.out | refine below_set ?_ GE179.out | refine below_set ?_ GE194.out) | exact HB.out))⟩)
                  · skip
                    refine box_step ?hg (N := 5) ?hd (cs := #[.int .i64 0, .string (⟨#[]⟩ : ByteArray), .int .u64 0, .slice none 0 0, .int .u64 0, .int .u64 0, .string (⟨#[]⟩ : ByteArray)]) (t := 70) ?hr ?_; (case hd => rfl); (case hg => rfl); (case hr => first | (go_simp; done) | (go_simp; rfl))
                    intro gb194 hg w46 hbox hb
                    have n0_ := Aside0.mk (blk_below (g := gb178) (o := .cells #[.int .i64 a0_0, .string a0_1, .int .u64 a0_2, .slice A0_3 l0_3.length c0_3, .int .u64 a0_4, .int .u64 a0_5, .string a0_6] 70 (0, 0)) (by (with_reducible repeat (first | refine blk_drewN ?_ _ | refine blk_drew ?_ | refine blk_alloc ?_ _)); exact BK178.out) hb)
                    have n1_ := Aside0.mk (blk_below (g := gb179) (o := .cells #[.int .i64 a1_0, .string a1_1, .int .u64 a1_2, .slice A1_3 l1_3.length c1_3, .int .u64 a1_4, .int .u64 a1_5, .string a1_6] 70 (0, 0)) (by (with_reducible repeat (first | refine blk_drewN ?_ _ | refine blk_drew ?_ | refine blk_alloc ?_ _)); exact BK179.out) hb)
                    have n2_ := Aside0.mk (below_step (by repeat (first | (with_reducible first | exact HB.out | apply below_alloc | apply pw_below_drewN | apply below_drew1 | refine below_set ?_ GE178.out | refine below_set ?_ GE179.out) | exact HB.out)) hb)
                    have n3_ := Aside0.mk (hbox)
                    have n4_ := Aside0.mk ((by rw [hg]; exact (below_size (by repeat (first | (with_reducible first | exact HB.out | apply below_alloc | apply pw_below_drewN | apply below_drew1 | refine below_set ?_ GE178.out | refine below_set ?_ GE179.out) | exact HB.out))) : w.heap.size ≤ gb194))
                    have n5_ := Aside0.mk ((by rw [hg]; exact (below_size (by repeat (first | (with_reducible first | exact HB.out | apply below_alloc | apply pw_below_drewN | apply below_drew1 | refine below_set ?_ GE178.out | refine below_set ?_ GE179.out) | exact HB.out))) : w.heap.size ≤ gb194))
                    have n6_ := Aside0.mk ((by rw [hg]; exact Nat.ne_of_lt (blk_lt (g := gb178) (o := .cells #[.int .i64 a0_0, .string a0_1, .int .u64 a0_2, .slice A0_3 l0_3.length c0_3, .int .u64 a0_4, .int .u64 a0_5, .string a0_6] 70 (0, 0)) (by (with_reducible repeat (first | refine blk_drewN ?_ _ | refine blk_drew ?_ | refine blk_alloc ?_ _)); exact BK178.out)) : gb178 ≠ gb194))
                    have n7_ := Aside0.mk ((by rw [hg]; exact Nat.ne_of_gt (blk_lt (g := gb178) (o := .cells #[.int .i64 a0_0, .string a0_1, .int .u64 a0_2, .slice A0_3 l0_3.length c0_3, .int .u64 a0_4, .int .u64 a0_5, .string a0_6] 70 (0, 0)) (by (with_reducible repeat (first | refine blk_drewN ?_ _ | refine blk_drew ?_ | refine blk_alloc ?_ _)); exact BK178.out)) : gb194 ≠ gb178))
                    have n8_ := Aside0.mk ((by rw [hg]; exact Nat.ne_of_lt (blk_lt (g := gb179) (o := .cells #[.int .i64 a1_0, .string a1_1, .int .u64 a1_2, .slice A1_3 l1_3.length c1_3, .int .u64 a1_4, .int .u64 a1_5, .string a1_6] 70 (0, 0)) (by (with_reducible repeat (first | refine blk_drewN ?_ _ | refine blk_drew ?_ | refine blk_alloc ?_ _)); exact BK179.out)) : gb179 ≠ gb194))
                    have n9_ := Aside0.mk ((by rw [hg]; exact Nat.ne_of_gt (blk_lt (g := gb179) (o := .cells #[.int .i64 a1_0, .string a1_1, .int .u64 a1_2, .slice A1_3 l1_3.length c1_3, .int .u64 a1_4, .int .u64 a1_5, .string a1_6] 70 (0, 0)) (by (with_reducible repeat (first | refine blk_drewN ?_ _ | refine blk_drew ?_ | refine blk_alloc ?_ _)); exact BK179.out)) : gb194 ≠ gb179))
                    clear BK178
                    clear BK179
                    clear HB
                    have BK178 := n0_
                    have BK179 := n1_
                    have HB := n2_
                    have BK194 := n3_
                    have GW194 := n4_
                    have GE194 := n5_
                    have NB178_194 := n6_
                    have NB194_178 := n7_
                    have NB179_194 := n8_
                    have NB194_179 := n9_
                    clear n0_ n1_ n2_ n3_ n4_ n5_ n6_ n7_ n8_ n9_
                    clear hb hbox hg
                    refine hK.out _ _ ⟨(blk_cell BK178.out 0).trans rfl, (blk_cell BK178.out 1).trans rfl, (blk_cell BK178.out 2).trans rfl, (blk_cell BK178.out 3).trans rfl, (blk_cell BK178.out 4).trans rfl, (blk_cell BK178.out 5).trans rfl, (blk_cell BK178.out 6).trans rfl⟩ (fun hHeld => ?_)
                    clear hK K
                    refine norm_ (a' := ?_) ?_ ?_
                    rotate_left
                    · show Act.put _ (some 5) _ = _
                      simp only [Act.put, List.setIfInBounds_toArray, List.set_cons_zero, List.set_cons_succ, i64_w, i32_w]
                      rfl
                    refine one_ (i := 6) (N := some 43) #[true, true, true, true, true, true, true, true, true, false, true, true, true, true, true, true, false, true, false] rfl rfl (one_of HT_.out (by kernel_rfl)) (by decide) (fun K hK => ?_)
                    refine Kd.R_lit_step k76 _ 76 ?hg (N := 43) ?hd (xs := ([] : List (S76))) (inner := []) (ok := fun _ => True) (okp := fun _ => True) ?hr ?hp (fun _ hk => hk) trivial (Below.refl _ _) (Nat.le_refl _) (by simp) ?_; (case hd => rfl); (case hg => rfl); (case hr => first | (go_simp; done) | (go_simp; rfl)); (case hp => exact (Reps.none _ _))
                    intro v189 w47 ho48 hb hg_ hnew_
                    clear hg_ hnew_
                    (first | rw [← Ny188.out] at ho48 | (simp only [Int.reduceToNat] at ho48; rw [← Ny188.out] at ho48))
                    have n0_ := Aside0.mk (Kd.R_lower ho48 (below_size (by repeat (first | (with_reducible first | exact HB.out | apply below_alloc | apply pw_below_drewN | apply below_drew1 | refine below_set ?_ GE178.out | refine below_set ?_ GE179.out | refine below_set ?_ GE194.out) | exact HB.out))))
                    have n1_ := Aside0.mk (blk_below (g := gb178) (o := .cells #[.int .i64 a0_0, .string a0_1, .int .u64 a0_2, .slice A0_3 l0_3.length c0_3, .int .u64 a0_4, .int .u64 a0_5, .string a0_6] 70 (0, 0)) (by (with_reducible repeat (first | refine blk_drewN ?_ _ | refine blk_drew ?_ | refine blk_alloc ?_ _)); exact BK178.out) hb)
                    have n2_ := Aside0.mk (blk_below (g := gb179) (o := .cells #[.int .i64 a1_0, .string a1_1, .int .u64 a1_2, .slice A1_3 l1_3.length c1_3, .int .u64 a1_4, .int .u64 a1_5, .string a1_6] 70 (0, 0)) (by (with_reducible repeat (first | refine blk_drewN ?_ _ | refine blk_drew ?_ | refine blk_alloc ?_ _)); exact BK179.out) hb)
                    have n3_ := Aside0.mk (blk_below (g := gb194) (o := .cells #[.int .i64 0, .string (⟨#[]⟩ : ByteArray), .int .u64 0, .slice none 0 0, .int .u64 0, .int .u64 0, .string (⟨#[]⟩ : ByteArray)] 70 (0, 0)) (by (with_reducible repeat (first | refine blk_drewN ?_ _ | refine blk_drew ?_ | refine blk_alloc ?_ _)); exact BK194.out) hb)
                    have n4_ := Aside0.mk (below_step (by repeat (first | (with_reducible first | exact HB.out | apply below_alloc | apply pw_below_drewN | apply below_drew1 | refine below_set ?_ GE178.out | refine below_set ?_ GE179.out | refine below_set ?_ GE194.out) | exact HB.out)) hb)
                    clear BK178
                    clear BK179
                    clear BK194
                    clear HB
                    have HO190 := n0_
                    have BK178 := n1_
                    have BK179 := n2_
                    have BK194 := n3_
                    have HB := n4_
                    clear n0_ n1_ n2_ n3_ n4_
                    clear hb ho48
                    refine hK.out _ _ ⟨(blk_cell BK178.out 0).trans rfl, (blk_cell BK178.out 1).trans rfl, (blk_cell BK178.out 2).trans rfl, (blk_cell BK178.out 3).trans rfl, (blk_cell BK178.out 4).trans rfl, (blk_cell BK178.out 5).trans rfl, (blk_cell BK178.out 6).trans rfl⟩ (fun hHeld => ?_)
                    clear hK K
                    refine norm_ (a' := ?_) ?_ ?_
                    rotate_left
                    · show Act.put _ (some 43) _ = _
                      simp only [Act.put, List.setIfInBounds_toArray, List.set_cons_zero, List.set_cons_succ, i64_w, i32_w]
                      rfl
                    refine one_ (i := 9) (N := some 46) #[true, true, true, true, true, true, true, true, true, true, true, true, true, true, true, true, false, true, false] rfl rfl (one_of HT_.out (by kernel_rfl)) (by decide) (fun K hK => ?_)
                    refine Kd.R_append_rows_step k76 (w0 := w) w.heap.size (by rfl) (.tmp 43) (.tmp 45) 68 76 (.agg #[(.string ⟨#[]⟩), (.int .u64 0), (.bool false)]) 32 rfl Try.underlying68 info76 rfl (by decide) (by omega) v189 y188 l0_3 _ _ _ (fun _ => True) (fun _ => False) rfl rfl ?aO ?aR (fun _ _ h => h) (fun _ h => h.elim) ?aF ?aB ?aS ?aL ?_
                    (case aR => repeat (first | exact (Kd.C_below HR0_3.out HB.out) | (with_reducible refine Kd.C_alloc ?_ _) | (with_reducible refine Kd.C_drewN ?_ _) | (with_reducible refine Kd.C_drew ?_)))
                    (case aB => exact (by repeat (first | (with_reducible first | exact HB.out | apply below_alloc | apply pw_below_drewN | apply below_drew1 | refine below_set ?_ GE178.out | refine below_set ?_ GE179.out | refine below_set ?_ GE194.out) | exact HB.out)))
                    (case aF => exact (fun _ _ => trivial))
                    (case aO => exact (by (with_reducible repeat (first | apply Kd.R_alloc | apply Kd.R_drewN | apply Kd.R_drew)); exact HO190.out))
                    (case aS => exact (below_size (by repeat (first | (with_reducible first | exact HB.out | apply below_alloc | apply pw_below_drewN | apply below_drew1 | refine below_set ?_ GE178.out | refine below_set ?_ GE179.out | refine below_set ?_ GE194.out) | exact HB.out))))
                    (case aL => have := LMc43.out; omega)
                    intro v192 w49 ho hb hg hat
                    rw [← Ny191.out] at ho
                    have n0_ := Aside0.mk (blk_grown (g := gb178) (o := .cells #[.int .i64 a0_0, .string a0_1, .int .u64 a0_2, .slice A0_3 l0_3.length c0_3, .int .u64 a0_4, .int .u64 a0_5, .string a0_6] 70 (0, 0)) (by (with_reducible repeat (first | refine blk_drewN ?_ _ | refine blk_drew ?_ | refine blk_alloc ?_ _)); exact BK178.out) hg (Kd.R_ne HO190.out BK178.out (by decide)))
                    have n1_ := Aside0.mk (blk_grown (g := gb179) (o := .cells #[.int .i64 a1_0, .string a1_1, .int .u64 a1_2, .slice A1_3 l1_3.length c1_3, .int .u64 a1_4, .int .u64 a1_5, .string a1_6] 70 (0, 0)) (by (with_reducible repeat (first | refine blk_drewN ?_ _ | refine blk_drew ?_ | refine blk_alloc ?_ _)); exact BK179.out) hg (Kd.R_ne HO190.out BK179.out (by decide)))
                    have n2_ := Aside0.mk (blk_grown (g := gb194) (o := .cells #[.int .i64 0, .string (⟨#[]⟩ : ByteArray), .int .u64 0, .slice none 0 0, .int .u64 0, .int .u64 0, .string (⟨#[]⟩ : ByteArray)] 70 (0, 0)) (by (with_reducible repeat (first | refine blk_drewN ?_ _ | refine blk_drew ?_ | refine blk_alloc ?_ _)); exact BK194.out) hg (Kd.R_ne HO190.out BK194.out (by decide)))
                    have n3_ := Aside0.mk (hb)
                    have n4_ := Aside0.mk (ho)
                    clear BK178
                    clear BK179
                    clear BK194
                    clear HB
                    clear HO190
                    have BK178 := n0_
                    have BK179 := n1_
                    have BK194 := n2_
                    have HB := n3_
                    have HO193 := n4_
                    clear n0_ n1_ n2_ n3_ n4_
                    clear ho hb hg hat
                    obtain ⟨Ao50, co50, eo50⟩ := Kd.R_slice HO193.out
                    (first | subst eo50 | (injection eo50 with f1_ f2_ f3_; have f4_ := f1_.symm; have f5_ := f3_.symm; clear f1_ f2_ f3_; subst f4_; subst f5_))
                    refine hK.out _ _ ⟨(blk_cell BK178.out 0).trans rfl, (blk_cell BK178.out 1).trans rfl, (blk_cell BK178.out 2).trans rfl, (blk_cell BK178.out 3).trans rfl, (blk_cell BK178.out 4).trans rfl, (blk_cell BK178.out 5).trans rfl, (blk_cell BK178.out 6).trans rfl⟩ (fun hHeld => ?_)
                    clear hK K
                    refine norm_ (a' := ?_) ?_ ?_
                    rotate_left
                    · show Act.put _ (some 46) _ = _
                      simp only [Act.put, List.setIfInBounds_toArray, List.set_cons_zero, List.set_cons_succ, i64_w, i32_w]
                      rfl
                    refine pure_ (i := 16) (N := some 53) (v := ?_) (a' := ?_) #[true, true, true, true, true, true, true, true, true, true, true, true, true, true, true, true, true, true, false] rfl rfl (any_of HT_.out (by kernel_rfl)) (fun _ _ _ h => h) (Or.inl ⟨by rfl, ?_⟩) ?_ ?_
                    rotate_left
                    · intro w'
                      go_simp
                      with_reducible rfl
                    rotate_left
                    · simp only [Act.put, List.setIfInBounds_toArray, List.set_cons_zero, List.set_cons_succ, i64_w, i32_w]
                      rfl
                    exact norm_ (by simp only [putAll, Act.put, List.setIfInBounds_toArray, List.set_cons_zero, List.set_cons_succ]) (hCont (v189, .slice Ao50 y191.length co50, gb194) _ ⟨hHeld, (by (with_reducible repeat (first | apply Kd.R_alloc | apply Kd.R_drewN | apply Kd.R_drew)); exact HO193.out), (by (with_reducible repeat (first | refine blk_drewN ?_ _ | refine blk_drew ?_ | refine blk_alloc ?_ _)); exact BK178.out), (by (with_reducible repeat (first | refine blk_drewN ?_ _ | refine blk_drew ?_ | refine blk_alloc ?_ _)); exact BK179.out), (by (with_reducible repeat (first | refine blk_drewN ?_ _ | refine blk_drew ?_ | refine blk_alloc ?_ _)); exact BK194.out), GW194.out, GE194.out, NB178_194.out, NB194_178.out, NB179_194.out, NB194_179.out, (by repeat (first | (with_reducible first | exact HB.out | apply below_alloc | apply pw_below_drewN | apply below_drew1 | refine below_set ?_ GE178.out | refine below_set ?_ GE179.out | refine below_set ?_ GE194.out) | exact HB.out))⟩)
                rintro ⟨v189, v192, gb194⟩ w51 ⟨hS_, h0_, h1_, h2_, h3_, h4_, h5_, h6_, h7_, h8_, h9_, h10_⟩
                have n0_ : Aside0 (Kd.R k76 76 w51 w.heap.size (fun _ => True) v192 y191) := ⟨h0_⟩
                have n1_ : Aside0 (w51.heap[gb178]? = some (.cells #[.int .i64 a0_0, .string a0_1, .int .u64 a0_2, .slice A0_3 l0_3.length c0_3, .int .u64 a0_4, .int .u64 a0_5, .string a0_6] 70 (0, 0))) := ⟨h1_⟩
                have n2_ : Aside0 (w51.heap[gb179]? = some (.cells #[.int .i64 a1_0, .string a1_1, .int .u64 a1_2, .slice A1_3 l1_3.length c1_3, .int .u64 a1_4, .int .u64 a1_5, .string a1_6] 70 (0, 0))) := ⟨h2_⟩
                have n3_ : Aside0 (w51.heap[gb194]? = some (.cells #[.int .i64 0, .string (⟨#[]⟩ : ByteArray), .int .u64 0, .slice none 0 0, .int .u64 0, .int .u64 0, .string (⟨#[]⟩ : ByteArray)] 70 (0, 0))) := ⟨h3_⟩
                have n4_ : Aside0 (w.heap.size ≤ gb194) := ⟨h4_⟩
                have n5_ : Aside0 (w.heap.size ≤ gb194) := ⟨h5_⟩
                have n6_ : Aside0 (gb178 ≠ gb194) := ⟨h6_⟩
                have n7_ : Aside0 (gb194 ≠ gb178) := ⟨h7_⟩
                have n8_ : Aside0 (gb179 ≠ gb194) := ⟨h8_⟩
                have n9_ : Aside0 (gb194 ≠ gb179) := ⟨h9_⟩
                have n10_ : Aside0 (Below w.heap.size w w51) := ⟨h10_⟩
                clear BK178
                clear BK179
                clear HB
                clear h0_ h1_ h2_ h3_ h4_ h5_ h6_ h7_ h8_ h9_ h10_
                have HO193 := n0_
                have BK178 := n1_
                have BK179 := n2_
                have BK194 := n3_
                have GW194 := n4_
                have GE194 := n5_
                have NB178_194 := n6_
                have NB194_178 := n7_
                have NB179_194 := n8_
                have NB194_179 := n9_
                have HB := n10_
                clear n0_ n1_ n2_ n3_ n4_ n5_ n6_ n7_ n8_ n9_ n10_
                have hHeld : w51.cell? ⟨gb178, 0, none⟩ = some (.int .i64 a0_0) ∧ w51.cell? ⟨gb178, 1, none⟩ = some (.string a0_1) ∧ w51.cell? ⟨gb178, 2, none⟩ = some (.int .u64 a0_2) ∧ w51.cell? ⟨gb178, 3, none⟩ = some (.slice A0_3 l0_3.length c0_3) ∧ w51.cell? ⟨gb178, 4, none⟩ = some (.int .u64 a0_4) ∧ w51.cell? ⟨gb178, 5, none⟩ = some (.int .u64 a0_5) ∧ w51.cell? ⟨gb178, 6, none⟩ = some (.string a0_6) := hS_
                obtain ⟨Ao52, co52, eo52⟩ := Kd.R_slice HO193.out
                (first | subst eo52 | (injection eo52 with f1_ f2_ f3_; have f4_ := f1_.symm; have f5_ := f3_.symm; clear f1_ f2_ f3_; subst f4_; subst f5_))
                refine norm_ (a' := ?_) ?_ ?_
                rotate_left
                · simp only [putAll, Act.put, List.setIfInBounds_toArray, List.set_cons_zero, List.set_cons_succ]
                  rfl
                refine one_ (i := 18) (N := none) #[true, true, true, true, true, true, true, true, true, true, true, true, true, true, true, true, true, true, true] rfl rfl (one_of HT_.out (by kernel_rfl)) (by decide) (fun K hK => ?_)
                have hs53 : w51.cell? ⟨gb194, 0, none⟩ = some (.int .i64 0) := (blk_cell BK194.out 0).trans rfl
                have hfs53 := blk_frozen BK194.out 0
                have hns53_0 := NB178_194.out
                have hns53_1 := NB179_194.out
                have hms53_0 := NB194_178.out
                have hms53_1 := NB194_179.out
                have hs54 : w51.cell? ⟨gb194, 1, none⟩ = some (.string (⟨#[]⟩ : ByteArray)) := (blk_cell BK194.out 1).trans rfl
                have hfs54 := blk_frozen BK194.out 1
                have hns54_0 := NB178_194.out
                have hns54_1 := NB179_194.out
                have hms54_0 := NB194_178.out
                have hms54_1 := NB194_179.out
                have hs55 : w51.cell? ⟨gb194, 2, none⟩ = some (.int .u64 0) := (blk_cell BK194.out 2).trans rfl
                have hfs55 := blk_frozen BK194.out 2
                have hns55_0 := NB178_194.out
                have hns55_1 := NB179_194.out
                have hms55_0 := NB194_178.out
                have hms55_1 := NB194_179.out
                have hs56 : w51.cell? ⟨gb194, 3, none⟩ = some (.slice none 0 0) := (blk_cell BK194.out 3).trans rfl
                have hfs56 := blk_frozen BK194.out 3
                have hns56_0 := NB178_194.out
                have hns56_1 := NB179_194.out
                have hms56_0 := NB194_178.out
                have hms56_1 := NB194_179.out
                have hs57 : w51.cell? ⟨gb194, 4, none⟩ = some (.int .u64 0) := (blk_cell BK194.out 4).trans rfl
                have hfs57 := blk_frozen BK194.out 4
                have hns57_0 := NB178_194.out
                have hns57_1 := NB179_194.out
                have hms57_0 := NB194_178.out
                have hms57_1 := NB194_179.out
                have hs58 : w51.cell? ⟨gb194, 5, none⟩ = some (.int .u64 0) := (blk_cell BK194.out 5).trans rfl
                have hfs58 := blk_frozen BK194.out 5
                have hns58_0 := NB178_194.out
                have hns58_1 := NB179_194.out
                have hms58_0 := NB194_178.out
                have hms58_1 := NB194_179.out
                have hs59 : w51.cell? ⟨gb194, 6, none⟩ = some (.string (⟨#[]⟩ : ByteArray)) := (blk_cell BK194.out 6).trans rfl
                have hfs59 := blk_frozen BK194.out 6
                have hns59_0 := NB178_194.out
                have hns59_1 := NB179_194.out
                have hms59_0 := NB194_178.out
                have hms59_1 := NB194_179.out
                refine skip_ (w1 := ?_) (by rfl) rfl ?_ ?_
                rotate_left
                · go_simp
                  rfl
                refine hK.out _ _ ⟨((cell_far (p := ⟨gb194, _, none⟩) NB178_194.out _).trans (((cell_far (p := ⟨gb194, _, none⟩) NB178_194.out _).trans (((cell_far (p := ⟨gb194, _, none⟩) NB178_194.out _).trans (((cell_far (p := ⟨gb194, _, none⟩) NB178_194.out _).trans (((cell_far (p := ⟨gb194, _, none⟩) NB178_194.out _).trans (((cell_far (p := ⟨gb194, _, none⟩) NB178_194.out _).trans (((cell_far (p := ⟨gb194, _, none⟩) NB178_194.out _).trans (hHeld.1)))))))))))))), ((cell_far (p := ⟨gb194, _, none⟩) NB178_194.out _).trans (((cell_far (p := ⟨gb194, _, none⟩) NB178_194.out _).trans (((cell_far (p := ⟨gb194, _, none⟩) NB178_194.out _).trans (((cell_far (p := ⟨gb194, _, none⟩) NB178_194.out _).trans (((cell_far (p := ⟨gb194, _, none⟩) NB178_194.out _).trans (((cell_far (p := ⟨gb194, _, none⟩) NB178_194.out _).trans (((cell_far (p := ⟨gb194, _, none⟩) NB178_194.out _).trans (hHeld.2.1)))))))))))))), ((cell_far (p := ⟨gb194, _, none⟩) NB178_194.out _).trans (((cell_far (p := ⟨gb194, _, none⟩) NB178_194.out _).trans (((cell_far (p := ⟨gb194, _, none⟩) NB178_194.out _).trans (((cell_far (p := ⟨gb194, _, none⟩) NB178_194.out _).trans (((cell_far (p := ⟨gb194, _, none⟩) NB178_194.out _).trans (((cell_far (p := ⟨gb194, _, none⟩) NB178_194.out _).trans (((cell_far (p := ⟨gb194, _, none⟩) NB178_194.out _).trans (hHeld.2.2.1)))))))))))))), ((cell_far (p := ⟨gb194, _, none⟩) NB178_194.out _).trans (((cell_far (p := ⟨gb194, _, none⟩) NB178_194.out _).trans (((cell_far (p := ⟨gb194, _, none⟩) NB178_194.out _).trans (((cell_far (p := ⟨gb194, _, none⟩) NB178_194.out _).trans (((cell_far (p := ⟨gb194, _, none⟩) NB178_194.out _).trans (((cell_far (p := ⟨gb194, _, none⟩) NB178_194.out _).trans (((cell_far (p := ⟨gb194, _, none⟩) NB178_194.out _).trans (hHeld.2.2.2.1)))))))))))))), ((cell_far (p := ⟨gb194, _, none⟩) NB178_194.out _).trans (((cell_far (p := ⟨gb194, _, none⟩) NB178_194.out _).trans (((cell_far (p := ⟨gb194, _, none⟩) NB178_194.out _).trans (((cell_far (p := ⟨gb194, _, none⟩) NB178_194.out _).trans (((cell_far (p := ⟨gb194, _, none⟩) NB178_194.out _).trans (((cell_far (p := ⟨gb194, _, none⟩) NB178_194.out _).trans (((cell_far (p := ⟨gb194, _, none⟩) NB178_194.out _).trans (hHeld.2.2.2.2.1)))))))))))))), ((cell_far (p := ⟨gb194, _, none⟩) NB178_194.out _).trans (((cell_far (p := ⟨gb194, _, none⟩) NB178_194.out _).trans (((cell_far (p := ⟨gb194, _, none⟩) NB178_194.out _).trans (((cell_far (p := ⟨gb194, _, none⟩) NB178_194.out _).trans (((cell_far (p := ⟨gb194, _, none⟩) NB178_194.out _).trans (((cell_far (p := ⟨gb194, _, none⟩) NB178_194.out _).trans (((cell_far (p := ⟨gb194, _, none⟩) NB178_194.out _).trans (hHeld.2.2.2.2.2.1)))))))))))))), ((cell_far (p := ⟨gb194, _, none⟩) NB178_194.out _).trans (((cell_far (p := ⟨gb194, _, none⟩) NB178_194.out _).trans (((cell_far (p := ⟨gb194, _, none⟩) NB178_194.out _).trans (((cell_far (p := ⟨gb194, _, none⟩) NB178_194.out _).trans (((cell_far (p := ⟨gb194, _, none⟩) NB178_194.out _).trans (((cell_far (p := ⟨gb194, _, none⟩) NB178_194.out _).trans (((cell_far (p := ⟨gb194, _, none⟩) NB178_194.out _).trans (hHeld.2.2.2.2.2.2))))))))))))))⟩ (fun hHeld => ?_)
                clear hK K
                refine done_ (done_of HT_.out (by kernel_rfl)) ?_
                have hnb60 := NB194_178.out
                have hnc60 := NB178_194.out
                have hnb61 := NB194_179.out
                have hnc61 := NB179_194.out
                have hcz62_0 : w51.cell? ⟨gb194, 0, none⟩ = some (.int .i64 0) := (blk_cell BK194.out 0).trans rfl
                have hcz62_1 : w51.cell? ⟨gb194, 1, none⟩ = some (.string (⟨#[]⟩ : ByteArray)) := (blk_cell BK194.out 1).trans rfl
                have hcz62_2 : w51.cell? ⟨gb194, 2, none⟩ = some (.int .u64 0) := (blk_cell BK194.out 2).trans rfl
                have hcz62_3 : w51.cell? ⟨gb194, 3, none⟩ = some (.slice none 0 0) := (blk_cell BK194.out 3).trans rfl
                have hcz62_4 : w51.cell? ⟨gb194, 4, none⟩ = some (.int .u64 0) := (blk_cell BK194.out 4).trans rfl
                have hcz62_5 : w51.cell? ⟨gb194, 5, none⟩ = some (.int .u64 0) := (blk_cell BK194.out 5).trans rfl
                have hcz62_6 : w51.cell? ⟨gb194, 6, none⟩ = some (.string (⟨#[]⟩ : ByteArray)) := (blk_cell BK194.out 6).trans rfl
                have hfz62_0 := blk_frozen BK194.out 0
                have hfz62_1 := blk_frozen BK194.out 1
                have hfz62_2 := blk_frozen BK194.out 2
                have hfz62_3 := blk_frozen BK194.out 3
                have hfz62_4 := blk_frozen BK194.out 4
                have hfz62_5 := blk_frozen BK194.out 5
                have hfz62_6 := blk_frozen BK194.out 6
                try go_wp2_with (first | ((with_reducible refine gate_callee (f := 47) rfl ?_); refine goesL_ (some 55) rfl rfl Try.func47 (by kernel_rfl) rfl #[.agg #[.int .i64 a0_0, .string a0_1, .int .u64 a0_2, .slice Ao52 y191.length co52, .int .u64 a0_4, .int .u64 a0_5, .string a0_6]] rfl (by (try simp only [List.map_toArray, List.map_cons, List.map_nil]); first | done | rfl | (simp only [List.length_drop, List.length_take]; rfl)) ?_; (with_reducible refine (record_Clone.calls a0_0 a0_1 a0_2 _ _ y191 a0_4 a0_5 a0_6 t195 t196 t197 t198 t201 t202 t203 _ ?side1 ?side2 A44.out).mono ?_); (case side1 => refine (Kd.R_reads' (e := 76) (base := w.heap.size) (ok := fun k_ => True) (n := y191.length) (c := co52) ?_).2.2; exact (by (with_reducible repeat (first | apply Kd.R_alloc | apply Kd.R_drewN | apply Kd.R_drew)); exact (Kd.R_mono (Kd.R_far (p := ⟨gb194, 6, none⟩) (Kd.R_far (p := ⟨gb194, 5, none⟩) (Kd.R_far (p := ⟨gb194, 4, none⟩) (Kd.R_far (p := ⟨gb194, 3, none⟩) (Kd.R_far (p := ⟨gb194, 2, none⟩) (Kd.R_far (p := ⟨gb194, 1, none⟩) (Kd.R_far (p := ⟨gb194, 0, none⟩) (Kd.R_types HO193.out BK194.out (by decide)) (fun _ hk => hk.2) (.int .i64 a0_0)) (fun _ hk => hk.2) (.string a0_1)) (fun _ hk => hk.2) (.int .u64 a0_2)) (fun _ hk => hk.2) (.slice Ao52 y191.length co52)) (fun _ hk => hk.2) (.int .u64 a0_4)) (fun _ hk => hk.2) (.int .u64 a0_5)) (fun _ hk => hk.2) (.string a0_6)) (fun _ h_ => h_.1)))); (case side2 => exact (Kd.R_reads' HO193.out).2.1); rintro e w63 ⟨v199, rfl, ho0, hb⟩; refine ⟨_, rfl, ?_⟩; have n0_ := Aside0.mk (Kd.R_elder' (by (with_reducible repeat (first | apply Kd.R_alloc | apply Kd.R_drewN | apply Kd.R_drew)); exact (Kd.R_mono (Kd.R_far (p := ⟨gb194, 6, none⟩) (Kd.R_far (p := ⟨gb194, 5, none⟩) (Kd.R_far (p := ⟨gb194, 4, none⟩) (Kd.R_far (p := ⟨gb194, 3, none⟩) (Kd.R_far (p := ⟨gb194, 2, none⟩) (Kd.R_far (p := ⟨gb194, 1, none⟩) (Kd.R_far (p := ⟨gb194, 0, none⟩) (Kd.R_types HO193.out BK194.out (by decide)) (fun _ hk => hk.2) (.int .i64 a0_0)) (fun _ hk => hk.2) (.string a0_1)) (fun _ hk => hk.2) (.int .u64 a0_2)) (fun _ hk => hk.2) (.slice Ao52 y191.length co52)) (fun _ hk => hk.2) (.int .u64 a0_4)) (fun _ hk => hk.2) (.int .u64 a0_5)) (fun _ hk => hk.2) (.string a0_6)) (fun _ h_ => h_.1))) (Kd.R_base ho0) hb); have n1_ := Aside0.mk (Kd.R_lower (Kd.R_new' ho0 (Kd.R_lt (by (with_reducible repeat (first | apply Kd.R_alloc | apply Kd.R_drewN | apply Kd.R_drew)); exact (Kd.R_mono (Kd.R_far (p := ⟨gb194, 6, none⟩) (Kd.R_far (p := ⟨gb194, 5, none⟩) (Kd.R_far (p := ⟨gb194, 4, none⟩) (Kd.R_far (p := ⟨gb194, 3, none⟩) (Kd.R_far (p := ⟨gb194, 2, none⟩) (Kd.R_far (p := ⟨gb194, 1, none⟩) (Kd.R_far (p := ⟨gb194, 0, none⟩) (Kd.R_types HO193.out BK194.out (by decide)) (fun _ hk => hk.2) (.int .i64 a0_0)) (fun _ hk => hk.2) (.string a0_1)) (fun _ hk => hk.2) (.int .u64 a0_2)) (fun _ hk => hk.2) (.slice Ao52 y191.length co52)) (fun _ hk => hk.2) (.int .u64 a0_4)) (fun _ hk => hk.2) (.int .u64 a0_5)) (fun _ hk => hk.2) (.string a0_6)) (fun _ h_ => h_.1))))) (below_size (by repeat (first | (with_reducible first | exact HB.out | apply below_alloc | apply pw_below_drewN | apply below_drew1 | refine below_set ?_ GE178.out | refine below_set ?_ GE179.out | refine below_set ?_ GE194.out) | exact HB.out)))); have n2_ := Aside0.mk (blk_below (g := gb178) (o := .cells #[.int .i64 a0_0, .string a0_1, .int .u64 a0_2, .slice A0_3 l0_3.length c0_3, .int .u64 a0_4, .int .u64 a0_5, .string a0_6] 70 (0, 0)) (by (with_reducible repeat (first | refine blk_drewN ?_ _ | refine blk_drew ?_ | refine blk_alloc ?_ _)); refine blk_far ?_ NB178_194.out _; (with_reducible repeat (first | refine blk_drewN ?_ _ | refine blk_drew ?_ | refine blk_alloc ?_ _)); refine blk_far ?_ NB178_194.out _; (with_reducible repeat (first | refine blk_drewN ?_ _ | refine blk_drew ?_ | refine blk_alloc ?_ _)); refine blk_far ?_ NB178_194.out _; (with_reducible repeat (first | refine blk_drewN ?_ _ | refine blk_drew ?_ | refine blk_alloc ?_ _)); refine blk_far ?_ NB178_194.out _; (with_reducible repeat (first | refine blk_drewN ?_ _ | refine blk_drew ?_ | refine blk_alloc ?_ _)); refine blk_far ?_ NB178_194.out _; (with_reducible repeat (first | refine blk_drewN ?_ _ | refine blk_drew ?_ | refine blk_alloc ?_ _)); refine blk_far ?_ NB178_194.out _; (with_reducible repeat (first | refine blk_drewN ?_ _ | refine blk_drew ?_ | refine blk_alloc ?_ _)); refine blk_far ?_ NB178_194.out _; (with_reducible repeat (first | refine blk_drewN ?_ _ | refine blk_drew ?_ | refine blk_alloc ?_ _)); exact BK178.out) hb); have n3_ := Aside0.mk (blk_below (g := gb179) (o := .cells #[.int .i64 a1_0, .string a1_1, .int .u64 a1_2, .slice A1_3 l1_3.length c1_3, .int .u64 a1_4, .int .u64 a1_5, .string a1_6] 70 (0, 0)) (by (with_reducible repeat (first | refine blk_drewN ?_ _ | refine blk_drew ?_ | refine blk_alloc ?_ _)); refine blk_far ?_ NB179_194.out _; (with_reducible repeat (first | refine blk_drewN ?_ _ | refine blk_drew ?_ | refine blk_alloc ?_ _)); refine blk_far ?_ NB179_194.out _; (with_reducible repeat (first | refine blk_drewN ?_ _ | refine blk_drew ?_ | refine blk_alloc ?_ _)); refine blk_far ?_ NB179_194.out _; (with_reducible repeat (first | refine blk_drewN ?_ _ | refine blk_drew ?_ | refine blk_alloc ?_ _)); refine blk_far ?_ NB179_194.out _; (with_reducible repeat (first | refine blk_drewN ?_ _ | refine blk_drew ?_ | refine blk_alloc ?_ _)); refine blk_far ?_ NB179_194.out _; (with_reducible repeat (first | refine blk_drewN ?_ _ | refine blk_drew ?_ | refine blk_alloc ?_ _)); refine blk_far ?_ NB179_194.out _; (with_reducible repeat (first | refine blk_drewN ?_ _ | refine blk_drew ?_ | refine blk_alloc ?_ _)); refine blk_far ?_ NB179_194.out _; (with_reducible repeat (first | refine blk_drewN ?_ _ | refine blk_drew ?_ | refine blk_alloc ?_ _)); exact BK179.out) hb); have n4_ := Aside0.mk (blk_below (g := gb194) (o := .cells #[.int .i64 a0_0, .string a0_1, .int .u64 a0_2, .slice Ao52 y191.length co52, .int .u64 a0_4, .int .u64 a0_5, .string a0_6] 70 (0, 0)) (by (with_reducible repeat (first | refine blk_drewN ?_ _ | refine blk_drew ?_ | refine blk_alloc ?_ _)); refine blk_put (cs := #[.int .i64 a0_0, .string a0_1, .int .u64 a0_2, .slice Ao52 y191.length co52, .int .u64 a0_4, .int .u64 a0_5, .string (⟨#[]⟩ : ByteArray)]) ?_ 6 _ rfl; (with_reducible repeat (first | refine blk_drewN ?_ _ | refine blk_drew ?_ | refine blk_alloc ?_ _)); refine blk_put (cs := #[.int .i64 a0_0, .string a0_1, .int .u64 a0_2, .slice Ao52 y191.length co52, .int .u64 a0_4, .int .u64 0, .string (⟨#[]⟩ : ByteArray)]) ?_ 5 _ rfl; (with_reducible repeat (first | refine blk_drewN ?_ _ | refine blk_drew ?_ | refine blk_alloc ?_ _)); refine blk_put (cs := #[.int .i64 a0_0, .string a0_1, .int .u64 a0_2, .slice Ao52 y191.length co52, .int .u64 0, .int .u64 0, .string (⟨#[]⟩ : ByteArray)]) ?_ 4 _ rfl; (with_reducible repeat (first | refine blk_drewN ?_ _ | refine blk_drew ?_ | refine blk_alloc ?_ _)); refine blk_put (cs := #[.int .i64 a0_0, .string a0_1, .int .u64 a0_2, .slice none 0 0, .int .u64 0, .int .u64 0, .string (⟨#[]⟩ : ByteArray)]) ?_ 3 _ rfl; (with_reducible repeat (first | refine blk_drewN ?_ _ | refine blk_drew ?_ | refine blk_alloc ?_ _)); refine blk_put (cs := #[.int .i64 a0_0, .string a0_1, .int .u64 0, .slice none 0 0, .int .u64 0, .int .u64 0, .string (⟨#[]⟩ : ByteArray)]) ?_ 2 _ rfl; (with_reducible repeat (first | refine blk_drewN ?_ _ | refine blk_drew ?_ | refine blk_alloc ?_ _)); refine blk_put (cs := #[.int .i64 a0_0, .string (⟨#[]⟩ : ByteArray), .int .u64 0, .slice none 0 0, .int .u64 0, .int .u64 0, .string (⟨#[]⟩ : ByteArray)]) ?_ 1 _ rfl; (with_reducible repeat (first | refine blk_drewN ?_ _ | refine blk_drew ?_ | refine blk_alloc ?_ _)); refine blk_put (cs := #[.int .i64 0, .string (⟨#[]⟩ : ByteArray), .int .u64 0, .slice none 0 0, .int .u64 0, .int .u64 0, .string (⟨#[]⟩ : ByteArray)]) ?_ 0 _ rfl; (with_reducible repeat (first | refine blk_drewN ?_ _ | refine blk_drew ?_ | refine blk_alloc ?_ _)); exact BK194.out) hb); have n5_ := Aside0.mk (below_step (by repeat (first | (with_reducible first | exact HB.out | apply below_alloc | apply pw_below_drewN | apply below_drew1 | refine below_set ?_ GE178.out | refine below_set ?_ GE179.out | refine below_set ?_ GE194.out) | exact HB.out)) hb); clear HO193; clear BK178; clear BK179; clear BK194; clear HB; have HO193 := n0_; have HO200 := n1_; have BK178 := n2_; have BK179 := n3_; have BK194 := n4_; have HB := n5_; clear n0_ n1_ n2_ n3_ n4_ n5_; (try clear hb); (try clear hb2); (try clear hk); (try clear hi); (try clear ho0)) | ((with_reducible refine gate_dst (N := 6) rfl ?_); refine box_event ?hg (N := 6) ?hd (cs := #[.int .i64 0, .string (⟨#[]⟩ : ByteArray), .int .u64 0, .slice none 0 0, .int .u64 0, .int .u64 0, .string (⟨#[]⟩ : ByteArray)]) (t := 70) ?hr ?_; (case hd => rfl); (case hg => rfl); (case hr => first | (go_simp; done) | (go_simp; rfl)); intro gb204 hg w64 hbox hb; have n0_ := Aside0.mk (Kd.R_below (by (with_reducible repeat (first | apply Kd.R_alloc | apply Kd.R_drewN | apply Kd.R_drew)); exact HO193.out) hb); have n1_ := Aside0.mk (Kd.R_below (by (with_reducible repeat (first | apply Kd.R_alloc | apply Kd.R_drewN | apply Kd.R_drew)); exact HO200.out) hb); have n2_ := Aside0.mk (blk_below (g := gb178) (o := .cells #[.int .i64 a0_0, .string a0_1, .int .u64 a0_2, .slice A0_3 l0_3.length c0_3, .int .u64 a0_4, .int .u64 a0_5, .string a0_6] 70 (0, 0)) (by (with_reducible repeat (first | refine blk_drewN ?_ _ | refine blk_drew ?_ | refine blk_alloc ?_ _)); exact BK178.out) hb); have n3_ := Aside0.mk (blk_below (g := gb179) (o := .cells #[.int .i64 a1_0, .string a1_1, .int .u64 a1_2, .slice A1_3 l1_3.length c1_3, .int .u64 a1_4, .int .u64 a1_5, .string a1_6] 70 (0, 0)) (by (with_reducible repeat (first | refine blk_drewN ?_ _ | refine blk_drew ?_ | refine blk_alloc ?_ _)); exact BK179.out) hb); have n4_ := Aside0.mk (blk_below (g := gb194) (o := .cells #[.int .i64 a0_0, .string a0_1, .int .u64 a0_2, .slice Ao52 y191.length co52, .int .u64 a0_4, .int .u64 a0_5, .string a0_6] 70 (0, 0)) (by (with_reducible repeat (first | refine blk_drewN ?_ _ | refine blk_drew ?_ | refine blk_alloc ?_ _)); exact BK194.out) hb); have n5_ := Aside0.mk (below_step (by repeat (first | (with_reducible first | exact HB.out | apply below_alloc | apply pw_below_drewN | apply below_drew1 | refine below_set ?_ GE178.out | refine below_set ?_ GE179.out | refine below_set ?_ GE194.out) | exact HB.out)) hb); have n6_ := Aside0.mk (hbox); have n7_ := Aside0.mk ((by rw [hg]; exact (below_size (by repeat (first | (with_reducible first | exact HB.out | apply below_alloc | apply pw_below_drewN | apply below_drew1 | refine below_set ?_ GE178.out | refine below_set ?_ GE179.out | refine below_set ?_ GE194.out) | exact HB.out))) : w.heap.size ≤ gb204)); have n8_ := Aside0.mk ((by rw [hg]; exact (below_size (by repeat (first | (with_reducible first | exact HB.out | apply below_alloc | apply pw_below_drewN | apply below_drew1 | refine below_set ?_ GE178.out | refine below_set ?_ GE179.out | refine below_set ?_ GE194.out) | exact HB.out))) : w.heap.size ≤ gb204)); have n9_ := Aside0.mk ((by rw [hg]; exact Nat.ne_of_lt (blk_lt (g := gb178) (o := .cells #[.int .i64 a0_0, .string a0_1, .int .u64 a0_2, .slice A0_3 l0_3.length c0_3, .int .u64 a0_4, .int .u64 a0_5, .string a0_6] 70 (0, 0)) (by (with_reducible repeat (first | refine blk_drewN ?_ _ | refine blk_drew ?_ | refine blk_alloc ?_ _)); exact BK178.out)) : gb178 ≠ gb204)); have n10_ := Aside0.mk ((by rw [hg]; exact Nat.ne_of_gt (blk_lt (g := gb178) (o := .cells #[.int .i64 a0_0, .string a0_1, .int .u64 a0_2, .slice A0_3 l0_3.length c0_3, .int .u64 a0_4, .int .u64 a0_5, .string a0_6] 70 (0, 0)) (by (with_reducible repeat (first | refine blk_drewN ?_ _ | refine blk_drew ?_ | refine blk_alloc ?_ _)); exact BK178.out)) : gb204 ≠ gb178)); have n11_ := Aside0.mk ((by rw [hg]; exact Nat.ne_of_lt (blk_lt (g := gb179) (o := .cells #[.int .i64 a1_0, .string a1_1, .int .u64 a1_2, .slice A1_3 l1_3.length c1_3, .int .u64 a1_4, .int .u64 a1_5, .string a1_6] 70 (0, 0)) (by (with_reducible repeat (first | refine blk_drewN ?_ _ | refine blk_drew ?_ | refine blk_alloc ?_ _)); exact BK179.out)) : gb179 ≠ gb204)); have n12_ := Aside0.mk ((by rw [hg]; exact Nat.ne_of_gt (blk_lt (g := gb179) (o := .cells #[.int .i64 a1_0, .string a1_1, .int .u64 a1_2, .slice A1_3 l1_3.length c1_3, .int .u64 a1_4, .int .u64 a1_5, .string a1_6] 70 (0, 0)) (by (with_reducible repeat (first | refine blk_drewN ?_ _ | refine blk_drew ?_ | refine blk_alloc ?_ _)); exact BK179.out)) : gb204 ≠ gb179)); have n13_ := Aside0.mk ((by rw [hg]; exact Nat.ne_of_lt (blk_lt (g := gb194) (o := .cells #[.int .i64 a0_0, .string a0_1, .int .u64 a0_2, .slice Ao52 y191.length co52, .int .u64 a0_4, .int .u64 a0_5, .string a0_6] 70 (0, 0)) (by (with_reducible repeat (first | refine blk_drewN ?_ _ | refine blk_drew ?_ | refine blk_alloc ?_ _)); exact BK194.out)) : gb194 ≠ gb204)); have n14_ := Aside0.mk ((by rw [hg]; exact Nat.ne_of_gt (blk_lt (g := gb194) (o := .cells #[.int .i64 a0_0, .string a0_1, .int .u64 a0_2, .slice Ao52 y191.length co52, .int .u64 a0_4, .int .u64 a0_5, .string a0_6] 70 (0, 0)) (by (with_reducible repeat (first | refine blk_drewN ?_ _ | refine blk_drew ?_ | refine blk_alloc ?_ _)); exact BK194.out)) : gb204 ≠ gb194)); clear HO193; clear HO200; clear BK178; clear BK179; clear BK194; clear HB; have HO193 := n0_; have HO200 := n1_; have BK178 := n2_; have BK179 := n3_; have BK194 := n4_; have HB := n5_; have BK204 := n6_; have GW204 := n7_; have GE204 := n8_; have NB178_204 := n9_; have NB204_178 := n10_; have NB179_204 := n11_; have NB204_179 := n12_; have NB194_204 := n13_; have NB204_194 := n14_; clear n0_ n1_ n2_ n3_ n4_ n5_ n6_ n7_ n8_ n9_ n10_ n11_ n12_ n13_ n14_; clear hb hbox hg; have hnb65 := NB204_178.out; have hnc65 := NB178_204.out; have hnb66 := NB204_179.out; have hnc66 := NB179_204.out; have hnb67 := NB204_194.out; have hnc67 := NB194_204.out; have hcz68_0 : w64.cell? ⟨gb204, 0, none⟩ = some (.int .i64 0) := (blk_cell BK204.out 0).trans rfl; have hcz68_1 : w64.cell? ⟨gb204, 1, none⟩ = some (.string (⟨#[]⟩ : ByteArray)) := (blk_cell BK204.out 1).trans rfl; have hcz68_2 : w64.cell? ⟨gb204, 2, none⟩ = some (.int .u64 0) := (blk_cell BK204.out 2).trans rfl; have hcz68_3 : w64.cell? ⟨gb204, 3, none⟩ = some (.slice none 0 0) := (blk_cell BK204.out 3).trans rfl; have hcz68_4 : w64.cell? ⟨gb204, 4, none⟩ = some (.int .u64 0) := (blk_cell BK204.out 4).trans rfl; have hcz68_5 : w64.cell? ⟨gb204, 5, none⟩ = some (.int .u64 0) := (blk_cell BK204.out 5).trans rfl; have hcz68_6 : w64.cell? ⟨gb204, 6, none⟩ = some (.string (⟨#[]⟩ : ByteArray)) := (blk_cell BK204.out 6).trans rfl; have hfz68_0 := blk_frozen BK204.out 0; have hfz68_1 := blk_frozen BK204.out 1; have hfz68_2 := blk_frozen BK204.out 2; have hfz68_3 := blk_frozen BK204.out 3; have hfz68_4 := blk_frozen BK204.out 4; have hfz68_5 := blk_frozen BK204.out 5; have hfz68_6 := blk_frozen BK204.out 6; obtain ⟨Ao69, co69, eo69⟩ := Kd.R_slice HO200.out; subst eo69; have hcz70_0 : w64.cell? ⟨gb194, 0, none⟩ = some (.int .i64 a0_0) := (blk_cell BK194.out 0).trans rfl; have hcz70_1 : w64.cell? ⟨gb194, 1, none⟩ = some (.string a0_1) := (blk_cell BK194.out 1).trans rfl; have hcz70_2 : w64.cell? ⟨gb194, 2, none⟩ = some (.int .u64 a0_2) := (blk_cell BK194.out 2).trans rfl; have hcz70_3 : w64.cell? ⟨gb194, 3, none⟩ = some (.slice Ao52 y191.length co52) := (blk_cell BK194.out 3).trans rfl; have hcz70_4 : w64.cell? ⟨gb194, 4, none⟩ = some (.int .u64 a0_4) := (blk_cell BK194.out 4).trans rfl; have hcz70_5 : w64.cell? ⟨gb194, 5, none⟩ = some (.int .u64 a0_5) := (blk_cell BK194.out 5).trans rfl; have hcz70_6 : w64.cell? ⟨gb194, 6, none⟩ = some (.string a0_6) := (blk_cell BK194.out 6).trans rfl; have hfz70_0 := blk_frozen BK194.out 0; have hfz70_1 := blk_frozen BK194.out 1; have hfz70_2 := blk_frozen BK194.out 2; have hfz70_3 := blk_frozen BK194.out 3; have hfz70_4 := blk_frozen BK194.out 4; have hfz70_5 := blk_frozen BK194.out 5; have hfz70_6 := blk_frozen BK194.out 6))
                go_loopg [59] kj19 (fun kq v59 w' => ∃ (x59_3 : Int) (x195003_3 : List (S76)) (x205003_3 : List (S76)) (u195003 : Value) (u205003 : Value), v59 = .int .i64 x59_3 ∧ Aside0 (tephralaw08_RecordSame.l0 kq (y191.length : Int) x59_3 a0_0 a0_1 a0_2 l0_3 a0_4 a0_5 a0_6 a0_0 a0_1 a0_2 x195003_3 a0_4 a0_5 a0_6 t195 t196 t197 x205003_3 t201 t202 t203 = some r) ∧ Aside0 (kq ≤ kj19) ∧ Aside0 (Kd.R k76 76 w' w.heap.size (fun k_ => some k_ ≠ (u205003 : Value).ownBlock) u195003 x195003_3) ∧ Aside0 (Kd.R k76 76 w' w.heap.size (fun k_ => some k_ ≠ (u195003 : Value).ownBlock) u205003 x205003_3) ∧ Aside0 (w'.heap[gb178]? = some (.cells #[.int .i64 a0_0, .string a0_1, .int .u64 a0_2, (.slice A0_3 l0_3.length c0_3), .int .u64 a0_4, .int .u64 a0_5, .string a0_6] 70 (0, 0))) ∧ Aside0 (w'.heap[gb179]? = some (.cells #[.int .i64 a1_0, .string a1_1, .int .u64 a1_2, (.slice A1_3 l1_3.length c1_3), .int .u64 a1_4, .int .u64 a1_5, .string a1_6] 70 (0, 0))) ∧ Aside0 (w'.heap[gb194]? = some (.cells #[.int .i64 a0_0, .string a0_1, .int .u64 a0_2, u195003, .int .u64 a0_4, .int .u64 a0_5, .string a0_6] 70 (0, 0))) ∧ Aside0 (w'.heap[gb204]? = some (.cells #[.int .i64 t195, .string t196, .int .u64 t197, u205003, .int .u64 t201, .int .u64 t202, .string t203] 70 (0, 0))) ∧ Aside0 (Below w.heap.size w w'))
                case atStart => exact ⟨(0), (y191), (t198), (.slice Ao52 y191.length co52), (.slice Ao69 t198.length co69), (by first | rfl | (simp; done) | (simp [*]; done) | (simp; rw [Bool.eq_iff_iff]; simp; done)), H', ⟨Nat.le_refl _⟩, ⟨by (with_reducible repeat (first | apply Kd.R_alloc | apply Kd.R_drewN | apply Kd.R_drew)); exact Kd.R_mono (Kd.R_far (p := ⟨gb204, 6, none⟩) (Kd.R_far (p := ⟨gb204, 5, none⟩) (Kd.R_far (p := ⟨gb204, 4, none⟩) (Kd.R_far (p := ⟨gb204, 3, none⟩) (Kd.R_far (p := ⟨gb204, 2, none⟩) (Kd.R_far (p := ⟨gb204, 1, none⟩) (Kd.R_far (p := ⟨gb204, 0, none⟩) (Kd.R_types HO193.out BK204.out (by decide)) (fun _ hk => hk.2) (.int .i64 t195)) (fun _ hk => hk.2) (.string t196)) (fun _ hk => hk.2) (.int .u64 t197)) (fun _ hk => hk.2) (.slice Ao69 t198.length co69)) (fun _ hk => hk.2) (.int .u64 t201)) (fun _ hk => hk.2) (.int .u64 t202)) (fun _ hk => hk.2) (.string t203)) (fun _ hk => hk.1.2)⟩, ⟨by (with_reducible repeat (first | apply Kd.R_alloc | apply Kd.R_drewN | apply Kd.R_drew)); exact Kd.R_mono (Kd.R_far (p := ⟨gb204, 6, none⟩) (Kd.R_far (p := ⟨gb204, 5, none⟩) (Kd.R_far (p := ⟨gb204, 4, none⟩) (Kd.R_far (p := ⟨gb204, 3, none⟩) (Kd.R_far (p := ⟨gb204, 2, none⟩) (Kd.R_far (p := ⟨gb204, 1, none⟩) (Kd.R_far (p := ⟨gb204, 0, none⟩) (Kd.R_types HO200.out BK204.out (by decide)) (fun _ hk => hk.2) (.int .i64 t195)) (fun _ hk => hk.2) (.string t196)) (fun _ hk => hk.2) (.int .u64 t197)) (fun _ hk => hk.2) (.slice Ao69 t198.length co69)) (fun _ hk => hk.2) (.int .u64 t201)) (fun _ hk => hk.2) (.int .u64 t202)) (fun _ hk => hk.2) (.string t203)) (fun _ hk => hk.1.2)⟩, ⟨by (with_reducible repeat (first | refine blk_drewN ?_ _ | refine blk_drew ?_ | refine blk_alloc ?_ _)); refine blk_far ?_ NB178_204.out _; (with_reducible repeat (first | refine blk_drewN ?_ _ | refine blk_drew ?_ | refine blk_alloc ?_ _)); refine blk_far ?_ NB178_204.out _; (with_reducible repeat (first | refine blk_drewN ?_ _ | refine blk_drew ?_ | refine blk_alloc ?_ _)); refine blk_far ?_ NB178_204.out _; (with_reducible repeat (first | refine blk_drewN ?_ _ | refine blk_drew ?_ | refine blk_alloc ?_ _)); refine blk_far ?_ NB178_204.out _; (with_reducible repeat (first | refine blk_drewN ?_ _ | refine blk_drew ?_ | refine blk_alloc ?_ _)); refine blk_far ?_ NB178_204.out _; (with_reducible repeat (first | refine blk_drewN ?_ _ | refine blk_drew ?_ | refine blk_alloc ?_ _)); refine blk_far ?_ NB178_204.out _; (with_reducible repeat (first | refine blk_drewN ?_ _ | refine blk_drew ?_ | refine blk_alloc ?_ _)); refine blk_far ?_ NB178_204.out _; (with_reducible repeat (first | refine blk_drewN ?_ _ | refine blk_drew ?_ | refine blk_alloc ?_ _)); exact BK178.out⟩, ⟨by (with_reducible repeat (first | refine blk_drewN ?_ _ | refine blk_drew ?_ | refine blk_alloc ?_ _)); refine blk_far ?_ NB179_204.out _; (with_reducible repeat (first | refine blk_drewN ?_ _ | refine blk_drew ?_ | refine blk_alloc ?_ _)); refine blk_far ?_ NB179_204.out _; (with_reducible repeat (first | refine blk_drewN ?_ _ | refine blk_drew ?_ | refine blk_alloc ?_ _)); refine blk_far ?_ NB179_204.out _; (with_reducible repeat (first | refine blk_drewN ?_ _ | refine blk_drew ?_ | refine blk_alloc ?_ _)); refine blk_far ?_ NB179_204.out _; (with_reducible repeat (first | refine blk_drewN ?_ _ | refine blk_drew ?_ | refine blk_alloc ?_ _)); refine blk_far ?_ NB179_204.out _; (with_reducible repeat (first | refine blk_drewN ?_ _ | refine blk_drew ?_ | refine blk_alloc ?_ _)); refine blk_far ?_ NB179_204.out _; (with_reducible repeat (first | refine blk_drewN ?_ _ | refine blk_drew ?_ | refine blk_alloc ?_ _)); refine blk_far ?_ NB179_204.out _; (with_reducible repeat (first | refine blk_drewN ?_ _ | refine blk_drew ?_ | refine blk_alloc ?_ _)); exact BK179.out⟩, ⟨by (with_reducible repeat (first | refine blk_drewN ?_ _ | refine blk_drew ?_ | refine blk_alloc ?_ _)); refine blk_far ?_ NB194_204.out _; (with_reducible repeat (first | refine blk_drewN ?_ _ | refine blk_drew ?_ | refine blk_alloc ?_ _)); refine blk_far ?_ NB194_204.out _; (with_reducible repeat (first | refine blk_drewN ?_ _ | refine blk_drew ?_ | refine blk_alloc ?_ _)); refine blk_far ?_ NB194_204.out _; (with_reducible repeat (first | refine blk_drewN ?_ _ | refine blk_drew ?_ | refine blk_alloc ?_ _)); refine blk_far ?_ NB194_204.out _; (with_reducible repeat (first | refine blk_drewN ?_ _ | refine blk_drew ?_ | refine blk_alloc ?_ _)); refine blk_far ?_ NB194_204.out _; (with_reducible repeat (first | refine blk_drewN ?_ _ | refine blk_drew ?_ | refine blk_alloc ?_ _)); refine blk_far ?_ NB194_204.out _; (with_reducible repeat (first | refine blk_drewN ?_ _ | refine blk_drew ?_ | refine blk_alloc ?_ _)); refine blk_far ?_ NB194_204.out _; (with_reducible repeat (first | refine blk_drewN ?_ _ | refine blk_drew ?_ | refine blk_alloc ?_ _)); exact BK194.out⟩, ⟨by (with_reducible repeat (first | refine blk_drewN ?_ _ | refine blk_drew ?_ | refine blk_alloc ?_ _)); refine blk_put (cs := #[.int .i64 t195, .string t196, .int .u64 t197, .slice Ao69 t198.length co69, .int .u64 t201, .int .u64 t202, .string (⟨#[]⟩ : ByteArray)]) ?_ 6 _ rfl; (with_reducible repeat (first | refine blk_drewN ?_ _ | refine blk_drew ?_ | refine blk_alloc ?_ _)); refine blk_put (cs := #[.int .i64 t195, .string t196, .int .u64 t197, .slice Ao69 t198.length co69, .int .u64 t201, .int .u64 0, .string (⟨#[]⟩ : ByteArray)]) ?_ 5 _ rfl; (with_reducible repeat (first | refine blk_drewN ?_ _ | refine blk_drew ?_ | refine blk_alloc ?_ _)); refine blk_put (cs := #[.int .i64 t195, .string t196, .int .u64 t197, .slice Ao69 t198.length co69, .int .u64 0, .int .u64 0, .string (⟨#[]⟩ : ByteArray)]) ?_ 4 _ rfl; (with_reducible repeat (first | refine blk_drewN ?_ _ | refine blk_drew ?_ | refine blk_alloc ?_ _)); refine blk_put (cs := #[.int .i64 t195, .string t196, .int .u64 t197, .slice none 0 0, .int .u64 0, .int .u64 0, .string (⟨#[]⟩ : ByteArray)]) ?_ 3 _ rfl; (with_reducible repeat (first | refine blk_drewN ?_ _ | refine blk_drew ?_ | refine blk_alloc ?_ _)); refine blk_put (cs := #[.int .i64 t195, .string t196, .int .u64 0, .slice none 0 0, .int .u64 0, .int .u64 0, .string (⟨#[]⟩ : ByteArray)]) ?_ 2 _ rfl; (with_reducible repeat (first | refine blk_drewN ?_ _ | refine blk_drew ?_ | refine blk_alloc ?_ _)); refine blk_put (cs := #[.int .i64 t195, .string (⟨#[]⟩ : ByteArray), .int .u64 0, .slice none 0 0, .int .u64 0, .int .u64 0, .string (⟨#[]⟩ : ByteArray)]) ?_ 1 _ rfl; (with_reducible repeat (first | refine blk_drewN ?_ _ | refine blk_drew ?_ | refine blk_alloc ?_ _)); refine blk_put (cs := #[.int .i64 0, .string (⟨#[]⟩ : ByteArray), .int .u64 0, .slice none 0 0, .int .u64 0, .int .u64 0, .string (⟨#[]⟩ : ByteArray)]) ?_ 0 _ rfl; (with_reducible repeat (first | refine blk_drewN ?_ _ | refine blk_drew ?_ | refine blk_alloc ?_ _)); exact BK204.out⟩, ⟨by repeat (first | (with_reducible first | exact HB.out | apply below_alloc | apply pw_below_drewN | apply below_drew1 | refine below_set ?_ GE178.out | refine below_set ?_ GE179.out | refine below_set ?_ GE194.out | refine below_set ?_ GE204.out) | exact HB.out)⟩⟩
                case round =>
                  clear H'
                  try clear c1
                  try clear c2
                  try clear p2
                  try clear c4
                  try clear c6
                  try clear c29
                  try clear c29b0
                  try clear c29b1
                  try clear c29b2
                  try clear c42
                  try clear c43
                  try clear c47
                  try clear c60
                  try clear c61
                  try clear c65
                  try clear c66
                  try clear c67
                  try clear hcz62_0
                  try clear hcz62_1
                  try clear hcz62_2
                  try clear hcz62_3
                  try clear hcz62_4
                  try clear hcz62_5
                  try clear hcz62_6
                  try clear hcz68_0
                  try clear hcz68_1
                  try clear hcz68_2
                  try clear hcz68_3
                  try clear hcz68_4
                  try clear hcz68_5
                  try clear hcz68_6
                  try clear hcz70_0
                  try clear hcz70_1
                  try clear hcz70_2
                  try clear hcz70_3
                  try clear hcz70_4
                  try clear hcz70_5
                  try clear hcz70_6
                  try clear hfz62_0
                  try clear hfz62_1
                  try clear hfz62_2
                  try clear hfz62_3
                  try clear hfz62_4
                  try clear hfz62_5
                  try clear hfz62_6
                  try clear hfz68_0
                  try clear hfz68_1
                  try clear hfz68_2
                  try clear hfz68_3
                  try clear hfz68_4
                  try clear hfz68_5
                  try clear hfz68_6
                  try clear hfz70_0
                  try clear hfz70_1
                  try clear hfz70_2
                  try clear hfz70_3
                  try clear hfz70_4
                  try clear hfz70_5
                  try clear hfz70_6
                  try clear p2
                  obtain ⟨x59_3, x195003_3, x205003_3, u195003, u205003, rfl, HA, HK3, HO_195003, HO_205003, BK178, BK179, BK194, BK204, HB⟩ := hrel
                  cases gk with
                  | zero => exact absurd HA.out (by simp [tephralaw08_RecordSame.l0])
                  | succ k3 =>
                    have H := HA.out
                    clear HA
                    simp only [tephralaw08_RecordSame.l0] at H
                    by_cases c71 : x59_3 < (y191.length : Int)
                    · rw [if_pos c71] at H
                      have c71b0 : decide (x59_3 < (y191.length : Int)) = true := decide_eq_true c71
                      clear c71
                      by_cases c72 : 0 ≤ x59_3
                      · rw [if_pos c72] at H
                        have c72b0 : decide (0 ≤ x59_3) = true := decide_eq_true c72
                        clear c72
                        by_cases c73 : x59_3 < (x195003_3.length : Int)
                        · rw [if_pos c73] at H
                          have c73b0 : decide (x59_3 < (x195003_3.length : Int)) = true := decide_eq_true c73
                          clear c73
                          obtain ⟨y206, hy206⟩ : ∃ y_ : List (S76), y_ = (x195003_3.set (x59_3 : Int).toNat (⟨(rd_T76 x195003_3 x59_3).f0, IntKind.u64.wrap (((rd_T76 x195003_3 x59_3).f1) + 1), (rd_T76 x195003_3 x59_3).f2⟩ : S76)) := ⟨_, rfl⟩
                          replace H : (tephralaw08_RecordSame.l0 k3 (y191.length : Int) (wrap64 (x59_3 + 1)) a0_0 a0_1 a0_2 l0_3 a0_4 a0_5 a0_6 a0_0 a0_1 a0_2 y206 a0_4 a0_5 a0_6 t195 t196 t197 x205003_3 t201 t202 t203) = some r := by first | (rw [hy206]; with_reducible exact H) | (have H2_ := (Option.bind_some _ _).symm.trans H; rw [hy206]; with_reducible exact H2_) | (have H2_ := (Option.bind_some _ _).symm.trans H; with_reducible exact H2_) | with_reducible exact H | (rw [hy206]; exact H) | exact H
                          have Ny206 := Aside0.mk hy206
                          clear hy206
                          have H' := Aside0.mk H
                          clear H
                          have hnb75 := NB194_178.out
                          have hnc75 := NB178_194.out
                          have hnb76 := NB194_179.out
                          have hnc76 := NB179_194.out
                          have hnb77 := NB194_204.out
                          have hnc77 := NB204_194.out
                          have hcz78_0 : wr.cell? ⟨gb194, 0, none⟩ = some (.int .i64 a0_0) := (blk_cell BK194.out 0).trans rfl
                          have hcz78_1 : wr.cell? ⟨gb194, 1, none⟩ = some (.string a0_1) := (blk_cell BK194.out 1).trans rfl
                          have hcz78_2 : wr.cell? ⟨gb194, 2, none⟩ = some (.int .u64 a0_2) := (blk_cell BK194.out 2).trans rfl
                          have hcz78_3 : wr.cell? ⟨gb194, 3, none⟩ = some (u195003) := (blk_cell BK194.out 3).trans rfl
                          have hcz78_4 : wr.cell? ⟨gb194, 4, none⟩ = some (.int .u64 a0_4) := (blk_cell BK194.out 4).trans rfl
                          have hcz78_5 : wr.cell? ⟨gb194, 5, none⟩ = some (.int .u64 a0_5) := (blk_cell BK194.out 5).trans rfl
                          have hcz78_6 : wr.cell? ⟨gb194, 6, none⟩ = some (.string a0_6) := (blk_cell BK194.out 6).trans rfl
                          have hfz78_0 := blk_frozen BK194.out 0
                          have hfz78_1 := blk_frozen BK194.out 1
                          have hfz78_2 := blk_frozen BK194.out 2
                          have hfz78_3 := blk_frozen BK194.out 3
                          have hfz78_4 := blk_frozen BK194.out 4
                          have hfz78_5 := blk_frozen BK194.out 5
                          have hfz78_6 := blk_frozen BK194.out 6
                          obtain ⟨Ao79, co79, eo79⟩ := Kd.R_slice HO_195003.out
                          subst eo79
                          have p205 : 0 ≤ (x59_3 : Int) := of_decide_eq_true (by first | (with_reducible assumption) | assumption)
                          have q205 : x59_3 < (x195003_3.length : Int) := of_decide_eq_true (by first | (with_reducible assumption) | assumption)
                          obtain ⟨ad205, e205, hx205_0, hx205_1, hx205_2⟩ := at_T76 (Kd.R_reads' HO_195003.out).2.2 x59_3 p205 q205
                          cases e205
                          replace p205 := eq_true p205
                          replace q205 := eq_true q205
                          have p74 : 0 ≤ (x59_3 : Int) := of_decide_eq_true (by first | (with_reducible assumption) | assumption)
                          have q74 : (x59_3 : Int) < ((x195003_3.length : Int) : Int) := of_decide_eq_true (by first | (with_reducible assumption) | assumption)
                          obtain ⟨go74, co74, eo74, gb74, gl74, cl74, HG74⟩ := Kd.R_form HO_195003.out (by omega)
                          (first | cases eo74 | (injection eo74 with ea_ en_ ec_; (first | subst ea_ | (injection ea_ with ea_; subst ea_)); subst ec_; clear en_))
                          have GB74 := Aside0.mk gb74
                          have GG74 := Aside0.mk HG74
                          clear gb74 gl74 HG74
                          (first | simp only [add_plain] at hx205_0 | skip)
                          (first | simp only [add_plain] at hx205_1 | skip)
                          (first | simp only [add_plain] at hx205_2 | skip)
                          obtain ⟨ce74, hcl74, hM74, hcc74, hfr74⟩ := Kd.R_elem HO_195003.out z76 (x59_3 : Int) p74 q74
                          obtain rfl := k76_openM hM74
                          have hx74_0 : wr.cell? ⟨go74, (x59_3 : Int).toNat * 3, none⟩ = some (.string ((rd_T76 x195003_3 x59_3).f0)) := hcc74 0 _ rfl
                          have hx74_1 : wr.cell? ⟨go74, (x59_3 : Int).toNat * 3 + 1, none⟩ = some (.int .u64 ((rd_T76 x195003_3 x59_3).f1)) := hcc74 1 _ rfl
                          have hx74_2 : wr.cell? ⟨go74, (x59_3 : Int).toNat * 3 + 2, none⟩ = some (.bool ((rd_T76 x195003_3 x59_3).f2)) := hcc74 2 _ rfl
                          have hf74_0 : wr.frozen? ⟨go74, (x59_3 : Int).toNat * 3, none⟩ = false := hfr74 0
                          have hf74_1 : wr.frozen? ⟨go74, (x59_3 : Int).toNat * 3 + 1, none⟩ = false := hfr74 1
                          have hf74_2 : wr.frozen? ⟨go74, (x59_3 : Int).toNat * 3 + 2, none⟩ = false := hfr74 2
                          clear hcl74 hcc74 hfr74 hM74
                          replace p74 := eq_true p74
                          replace q74 := eq_true q74
                          have HX80 := Aside0.mk (show Kd.R k76 76 wr w.heap.size (fun k_ => some k_ ≠ (u205003 : Value).ownBlock) (.slice (some ⟨go74, 0, none⟩) x195003_3.length co79) x195003_3 from (by (with_reducible repeat (first | apply Kd.R_alloc | apply Kd.R_drewN | apply Kd.R_drew)); exact HO_195003.out))
                          obtain ⟨ce80, hcl80, hM80, hcc80, hfr80⟩ := Kd.R_elem HX80.out z76 (x59_3 : Int) (of_decide_eq_true (by first | (with_reducible assumption) | assumption)) (by have h_ : (x59_3 : Int) < ((x195003_3.length : Int) : Int) := of_decide_eq_true (by first | (with_reducible assumption) | assumption); first | exact h_ | (have e_ := (Kd.R_reads' HO_195003.out).1; omega) | simpa using h_)
                          obtain rfl := k76_openM hM80
                          have HP80 := Kd.R_seg HX80.out (x59_3 : Int) (of_decide_eq_true (by first | (with_reducible assumption) | assumption)) (by have h_ : (x59_3 : Int) < ((x195003_3.length : Int) : Int) := of_decide_eq_true (by first | (with_reducible assumption) | assumption); first | exact h_ | (have e_ := (Kd.R_reads' HO_195003.out).1; omega) | simpa using h_) (seg := [.int .u64 (IntKind.u64.wrap (((rd_T76 x195003_3 x59_3).f1) + 1))]) (j := 1) hcl80 hcc80 (show 2 ≤ 3 from by decide) (x' := (⟨(rd_T76 x195003_3 x59_3).f0, IntKind.u64.wrap (((rd_T76 x195003_3 x59_3).f1) + 1), (rd_T76 x195003_3 x59_3).f2⟩ : S76)) (k76_mkM _ _ _ (⟨(rd_T76 x195003_3 x59_3).f0, IntKind.u64.wrap (((rd_T76 x195003_3 x59_3).f1) + 1), (rd_T76 x195003_3 x59_3).f2⟩ : S76) ) (fun _ hk => hk)
                          have hx80_1 := hcc80 1 _ rfl
                          (try simp only [show (k76).sz = 3 from rfl, Nat.mul_one, Nat.add_zero] at hx80_1)
                          have hf80_1 := hfr80 1
                          (try simp only [show (k76).sz = 3 from rfl, Nat.mul_one, Nat.add_zero] at hf80_1)
                          clear hcl80 hcc80 hfr80 hM80
                          go_wp2_with (first | ((with_reducible refine gate_store (t := 48) (p := 70) rfl ?_); refine store_event (t := 48) (p := 70) (v := ?vo_w81) (w1 := (wr.setCell ⟨go74, (x59_3 : Int).toNat * 3 + 1, none⟩ (.int .u64 (IntKind.u64.wrap (((rd_T76 x195003_3 x59_3).f1) + 1))))) ?hg ?ho ?hn ?hr ?_; (case ho => rfl); (case hg => rfl); (case hn => rfl); (case hr => first | (go_simp; done) | (go_simp; rfl)); intro w81 hw; have hg : wr.grownBy w81 (some go74) := (by rw [hw]; exact HP80.2); have hp_ : Kd.R k76 76 w81 w.heap.size (fun k_ => some k_ ≠ (u205003 : Value).ownBlock) (.slice (some ⟨go74, 0, none⟩) x195003_3.length co79) y206 := (by rw [hw, Ny206.out]; exact HP80.1); clear HP80; have n0_ := Aside0.mk (hp_); have n1_ := Aside0.mk (Kd.R_after (v := (.slice (some ⟨go74, 0, none⟩) x195003_3.length co79)) (v1 := (.slice (some ⟨go74, 0, none⟩) x195003_3.length co79)) (ok := (fun _ => True)) (by (with_reducible repeat (first | apply Kd.R_alloc | apply Kd.R_drewN | apply Kd.R_drew)); exact Kd.R_mono HO_205003.out (fun _ hk => ⟨trivial, hk⟩)) hg (.inl rfl)); have n2_ := Aside0.mk (blk_grown (g := gb178) (o := .cells #[.int .i64 a0_0, .string a0_1, .int .u64 a0_2, .slice A0_3 l0_3.length c0_3, .int .u64 a0_4, .int .u64 a0_5, .string a0_6] 70 (0, 0)) (by (with_reducible repeat (first | refine blk_drewN ?_ _ | refine blk_drew ?_ | refine blk_alloc ?_ _)); exact BK178.out) hg (Kd.R_ne HO_195003.out BK178.out (by decide))); have n3_ := Aside0.mk (blk_grown (g := gb179) (o := .cells #[.int .i64 a1_0, .string a1_1, .int .u64 a1_2, .slice A1_3 l1_3.length c1_3, .int .u64 a1_4, .int .u64 a1_5, .string a1_6] 70 (0, 0)) (by (with_reducible repeat (first | refine blk_drewN ?_ _ | refine blk_drew ?_ | refine blk_alloc ?_ _)); exact BK179.out) hg (Kd.R_ne HO_195003.out BK179.out (by decide))); have n4_ := Aside0.mk (blk_grown (g := gb194) (o := .cells #[.int .i64 a0_0, .string a0_1, .int .u64 a0_2, .slice (some ⟨go74, 0, none⟩) x195003_3.length co79, .int .u64 a0_4, .int .u64 a0_5, .string a0_6] 70 (0, 0)) (by (with_reducible repeat (first | refine blk_drewN ?_ _ | refine blk_drew ?_ | refine blk_alloc ?_ _)); exact BK194.out) hg (Kd.R_ne HO_195003.out BK194.out (by decide))); have n5_ := Aside0.mk (blk_grown (g := gb204) (o := .cells #[.int .i64 t195, .string t196, .int .u64 t197, u205003, .int .u64 t201, .int .u64 t202, .string t203] 70 (0, 0)) (by (with_reducible repeat (first | refine blk_drewN ?_ _ | refine blk_drew ?_ | refine blk_alloc ?_ _)); exact BK204.out) hg (Kd.R_ne HO_195003.out BK204.out (by decide))); have n6_ := Aside0.mk ((by rw [hw]; exact below_set (HB.out) GB74.out : Below w.heap.size w w81)); clear HO_195003; clear HO_205003; clear BK178; clear BK179; clear BK194; clear BK204; clear HB; have HO_195003 := n0_; have HO_205003 := n1_; have BK178 := n2_; have BK179 := n3_; have BK194 := n4_; have BK204 := n5_; have HB := n6_; clear n0_ n1_ n2_ n3_ n4_ n5_ n6_; clear hg hw hp_))
                          go_roundg k3
                          case measure => have := HJ2.out; have := HJ19.out; have := HK3.out; omega
                          case rel => exact ⟨(wrap64 (x59_3 + 1)), (y206), (x205003_3), (.slice (some ⟨go74, 0, none⟩) x195003_3.length co79), (u205003), (by first | rfl | (simp; done) | (simp [*]; done) | (simp; rw [Bool.eq_iff_iff]; simp; done)), H', ⟨by have := HJ2.out; have := HJ19.out; have := HK3.out; omega⟩, ⟨by (with_reducible repeat (first | apply Kd.R_alloc | apply Kd.R_drewN | apply Kd.R_drew)); exact HO_195003.out⟩, ⟨by (with_reducible repeat (first | apply Kd.R_alloc | apply Kd.R_drewN | apply Kd.R_drew)); exact Kd.R_mono HO_205003.out (fun _ hk => hk.2)⟩, ⟨by (with_reducible repeat (first | refine blk_drewN ?_ _ | refine blk_drew ?_ | refine blk_alloc ?_ _)); exact BK178.out⟩, ⟨by (with_reducible repeat (first | refine blk_drewN ?_ _ | refine blk_drew ?_ | refine blk_alloc ?_ _)); exact BK179.out⟩, ⟨by (with_reducible repeat (first | refine blk_drewN ?_ _ | refine blk_drew ?_ | refine blk_alloc ?_ _)); exact BK194.out⟩, ⟨by (with_reducible repeat (first | refine blk_drewN ?_ _ | refine blk_drew ?_ | refine blk_alloc ?_ _)); exact BK204.out⟩, ⟨by repeat (first | (with_reducible first | exact HB.out | apply below_alloc | apply pw_below_drewN | apply below_drew1 | refine below_set ?_ GE178.out | refine below_set ?_ GE179.out | refine below_set ?_ GE194.out | refine below_set ?_ GE204.out) | exact HB.out)⟩⟩
                        · rw [if_neg c73] at H
                          exact absurd H (by simp)
                      · rw [if_neg c72] at H
                        exact absurd H (by simp)
                    · rw [if_neg c71] at H
                      have c71b0 : decide (x59_3 < (y191.length : Int)) = false := decide_eq_false c71
                      clear c71
                      replace H := Option.bind_eq_some_iff.mp H
                      obtain ⟨t207, A820, H⟩ := H
                      replace H : (if t207 = true then ((tephraref08_Same.f k3 t195 t196 t197 x205003_3 t201 t202 t203 a0_0 a0_1 a0_2 l0_3 a0_4 a0_5 a0_6).bind fun t208 => (some t208)) else (some false)) = some r := H
                      have A82 := Aside0.mk A820
                      clear A820
                      by_cases c83 : t207 = true
                      · subst c83
                        have H1 : ((tephraref08_Same.f k3 t195 t196 t197 x205003_3 t201 t202 t203 a0_0 a0_1 a0_2 l0_3 a0_4 a0_5 a0_6).bind fun t208 => (some t208)) = some r := by rw [if_pos rfl] at H; exact H
                        clear H
                        have H := H1
                        clear H1
                        replace H := Option.bind_eq_some_iff.mp H
                        obtain ⟨t208, A840, H⟩ := H
                        replace H : (some t208) = some r := H
                        have A84 := Aside0.mk A840
                        clear A840
                        obtain rfl := Option.some.inj H
                        go_wp2_with (first | ((with_reducible refine gate_callee (f := 43) rfl ?_); refine goesL_ (some 72) rfl rfl Try.func43 (by kernel_rfl) rfl #[] rfl (by (try simp only [List.map_toArray, List.map_cons, List.map_nil]); first | done | rfl | (simp only [List.length_drop, List.length_take]; rfl)) ?_; (with_reducible refine (tephralaw08_fixed.calls  true _ A82.out).mono ?_); rintro e w85 ⟨rfl, hb⟩; refine ⟨_, rfl, ?_⟩; have n0_ := Aside0.mk (Kd.R_below (by (with_reducible repeat (first | apply Kd.R_alloc | apply Kd.R_drewN | apply Kd.R_drew)); exact HO_195003.out) hb); have n1_ := Aside0.mk (Kd.R_below (by (with_reducible repeat (first | apply Kd.R_alloc | apply Kd.R_drewN | apply Kd.R_drew)); exact HO_205003.out) hb); have n2_ := Aside0.mk (blk_below (g := gb178) (o := .cells #[.int .i64 a0_0, .string a0_1, .int .u64 a0_2, .slice A0_3 l0_3.length c0_3, .int .u64 a0_4, .int .u64 a0_5, .string a0_6] 70 (0, 0)) (by (with_reducible repeat (first | refine blk_drewN ?_ _ | refine blk_drew ?_ | refine blk_alloc ?_ _)); exact BK178.out) hb); have n3_ := Aside0.mk (blk_below (g := gb179) (o := .cells #[.int .i64 a1_0, .string a1_1, .int .u64 a1_2, .slice A1_3 l1_3.length c1_3, .int .u64 a1_4, .int .u64 a1_5, .string a1_6] 70 (0, 0)) (by (with_reducible repeat (first | refine blk_drewN ?_ _ | refine blk_drew ?_ | refine blk_alloc ?_ _)); exact BK179.out) hb); have n4_ := Aside0.mk (blk_below (g := gb194) (o := .cells #[.int .i64 a0_0, .string a0_1, .int .u64 a0_2, u195003, .int .u64 a0_4, .int .u64 a0_5, .string a0_6] 70 (0, 0)) (by (with_reducible repeat (first | refine blk_drewN ?_ _ | refine blk_drew ?_ | refine blk_alloc ?_ _)); exact BK194.out) hb); have n5_ := Aside0.mk (blk_below (g := gb204) (o := .cells #[.int .i64 t195, .string t196, .int .u64 t197, u205003, .int .u64 t201, .int .u64 t202, .string t203] 70 (0, 0)) (by (with_reducible repeat (first | refine blk_drewN ?_ _ | refine blk_drew ?_ | refine blk_alloc ?_ _)); exact BK204.out) hb); have n6_ := Aside0.mk (below_step (by repeat (first | (with_reducible first | exact HB.out | apply below_alloc | apply pw_below_drewN | apply below_drew1 | refine below_set ?_ GE178.out | refine below_set ?_ GE179.out | refine below_set ?_ GE194.out | refine below_set ?_ GE204.out) | exact HB.out)) hb); clear HO_195003; clear HO_205003; clear BK178; clear BK179; clear BK194; clear BK204; clear HB; have HO_195003 := n0_; have HO_205003 := n1_; have BK178 := n2_; have BK179 := n3_; have BK194 := n4_; have BK204 := n5_; have HB := n6_; clear n0_ n1_ n2_ n3_ n4_ n5_ n6_; (try clear hb); (try clear hb2); (try clear hk); (try clear hi); have hnb86 := NB204_178.out; have hnc86 := NB178_204.out; have hnb87 := NB204_179.out; have hnc87 := NB179_204.out; have hnb88 := NB204_194.out; have hnc88 := NB194_204.out; have hcz89_0 : w85.cell? ⟨gb204, 0, none⟩ = some (.int .i64 t195) := (blk_cell BK204.out 0).trans rfl; have hcz89_1 : w85.cell? ⟨gb204, 1, none⟩ = some (.string t196) := (blk_cell BK204.out 1).trans rfl; have hcz89_2 : w85.cell? ⟨gb204, 2, none⟩ = some (.int .u64 t197) := (blk_cell BK204.out 2).trans rfl; have hcz89_3 : w85.cell? ⟨gb204, 3, none⟩ = some (u205003) := (blk_cell BK204.out 3).trans rfl; have hcz89_4 : w85.cell? ⟨gb204, 4, none⟩ = some (.int .u64 t201) := (blk_cell BK204.out 4).trans rfl; have hcz89_5 : w85.cell? ⟨gb204, 5, none⟩ = some (.int .u64 t202) := (blk_cell BK204.out 5).trans rfl; have hcz89_6 : w85.cell? ⟨gb204, 6, none⟩ = some (.string t203) := (blk_cell BK204.out 6).trans rfl; have hfz89_0 := blk_frozen BK204.out 0; have hfz89_1 := blk_frozen BK204.out 1; have hfz89_2 := blk_frozen BK204.out 2; have hfz89_3 := blk_frozen BK204.out 3; have hfz89_4 := blk_frozen BK204.out 4; have hfz89_5 := blk_frozen BK204.out 5; have hfz89_6 := blk_frozen BK204.out 6; have hnb90 := NB178_179.out; have hnc90 := NB179_178.out; have hnb91 := NB178_194.out; have hnc91 := NB194_178.out; have hcz92_0 : w85.cell? ⟨gb178, 0, none⟩ = some (.int .i64 a0_0) := (blk_cell BK178.out 0).trans rfl; have hcz92_1 : w85.cell? ⟨gb178, 1, none⟩ = some (.string a0_1) := (blk_cell BK178.out 1).trans rfl; have hcz92_2 : w85.cell? ⟨gb178, 2, none⟩ = some (.int .u64 a0_2) := (blk_cell BK178.out 2).trans rfl; have hcz92_3 : w85.cell? ⟨gb178, 3, none⟩ = some (.slice A0_3 l0_3.length c0_3) := (blk_cell BK178.out 3).trans rfl; have hcz92_4 : w85.cell? ⟨gb178, 4, none⟩ = some (.int .u64 a0_4) := (blk_cell BK178.out 4).trans rfl; have hcz92_5 : w85.cell? ⟨gb178, 5, none⟩ = some (.int .u64 a0_5) := (blk_cell BK178.out 5).trans rfl; have hcz92_6 : w85.cell? ⟨gb178, 6, none⟩ = some (.string a0_6) := (blk_cell BK178.out 6).trans rfl; have hfz92_0 := blk_frozen BK178.out 0; have hfz92_1 := blk_frozen BK178.out 1; have hfz92_2 := blk_frozen BK178.out 2; have hfz92_3 := blk_frozen BK178.out 3; have hfz92_4 := blk_frozen BK178.out 4; have hfz92_5 := blk_frozen BK178.out 5; have hfz92_6 := blk_frozen BK178.out 6; obtain ⟨Ao93, co93, eo93⟩ := Kd.R_slice HO_205003.out; subst eo93) | (go_at_call 46; (with_reducible refine (tephraref08_Same.calls k3 t195 t196 t197 _ _ x205003_3 t201 t202 t203 a0_0 a0_1 a0_2 _ _ l0_3 a0_4 a0_5 a0_6 t208 _ ?side1 ?side2 ?side3 ?side4 A84.out).mono ?_); (case side1 => repeat (first | exact (Kd.R_reads' HO_205003.out).2.2 | (with_reducible refine Kd.C_alloc ?_ _) | (with_reducible refine Kd.C_drewN ?_ _) | (with_reducible refine Kd.C_drew ?_))); (case side2 => exact (Kd.R_reads' HO_205003.out).2.1); (case side3 => repeat (first | exact (Kd.C_below HR0_3.out HB.out) | (with_reducible refine Kd.C_alloc ?_ _) | (with_reducible refine Kd.C_drewN ?_ _) | (with_reducible refine Kd.C_drew ?_))); (case side4 => exact HC0_3.out); rintro e w94 ⟨rfl, hb⟩; have n0_ := Aside0.mk (Kd.R_below (by (with_reducible repeat (first | apply Kd.R_alloc | apply Kd.R_drewN | apply Kd.R_drew)); exact HO_195003.out) hb); have n1_ := Aside0.mk (Kd.R_below (by (with_reducible repeat (first | apply Kd.R_alloc | apply Kd.R_drewN | apply Kd.R_drew)); exact HO_205003.out) hb); have n2_ := Aside0.mk (blk_below (g := gb178) (o := .cells #[.int .i64 a0_0, .string a0_1, .int .u64 a0_2, .slice A0_3 l0_3.length c0_3, .int .u64 a0_4, .int .u64 a0_5, .string a0_6] 70 (0, 0)) (by (with_reducible repeat (first | refine blk_drewN ?_ _ | refine blk_drew ?_ | refine blk_alloc ?_ _)); exact BK178.out) hb); have n3_ := Aside0.mk (blk_below (g := gb179) (o := .cells #[.int .i64 a1_0, .string a1_1, .int .u64 a1_2, .slice A1_3 l1_3.length c1_3, .int .u64 a1_4, .int .u64 a1_5, .string a1_6] 70 (0, 0)) (by (with_reducible repeat (first | refine blk_drewN ?_ _ | refine blk_drew ?_ | refine blk_alloc ?_ _)); exact BK179.out) hb); have n4_ := Aside0.mk (blk_below (g := gb194) (o := .cells #[.int .i64 a0_0, .string a0_1, .int .u64 a0_2, u195003, .int .u64 a0_4, .int .u64 a0_5, .string a0_6] 70 (0, 0)) (by (with_reducible repeat (first | refine blk_drewN ?_ _ | refine blk_drew ?_ | refine blk_alloc ?_ _)); exact BK194.out) hb); have n5_ := Aside0.mk (blk_below (g := gb204) (o := .cells #[.int .i64 t195, .string t196, .int .u64 t197, .slice Ao93 x205003_3.length co93, .int .u64 t201, .int .u64 t202, .string t203] 70 (0, 0)) (by (with_reducible repeat (first | refine blk_drewN ?_ _ | refine blk_drew ?_ | refine blk_alloc ?_ _)); exact BK204.out) hb); have n6_ := Aside0.mk (below_step (by repeat (first | (with_reducible first | exact HB.out | apply below_alloc | apply pw_below_drewN | apply below_drew1 | refine below_set ?_ GE178.out | refine below_set ?_ GE179.out | refine below_set ?_ GE194.out | refine below_set ?_ GE204.out) | exact HB.out)) hb); clear HO_195003; clear HO_205003; clear BK178; clear BK179; clear BK194; clear BK204; clear HB; have HO_195003 := n0_; have HO_205003 := n1_; have BK178 := n2_; have BK179 := n3_; have BK194 := n4_; have BK204 := n5_; have HB := n6_; clear n0_ n1_ n2_ n3_ n4_ n5_ n6_; (try clear hb); (try clear hb2); (try clear hk); (try clear hi)))
                        go_ret
                        exact ⟨by first | rfl | (simp [errW_none, errW_some] <;> rfl) | (simp [*, errW_none, errW_some] <;> rfl), by repeat (first | (with_reducible first | exact HB.out | apply below_alloc | apply pw_below_drewN | apply below_drew1 | refine below_set ?_ GE178.out | refine below_set ?_ GE179.out | refine below_set ?_ GE194.out | refine below_set ?_ GE204.out) | exact HB.out)⟩
                      · replace c83 := Bool.eq_false_iff.mpr c83
                        subst c83
                        have H1 : (some false) = some r := by rw [if_neg (show ¬ (false = true) by decide)] at H; exact H
                        clear H
                        have H := H1
                        clear H1
                        obtain rfl := Option.some.inj H
                        go_wp2_with (first | ((with_reducible refine gate_callee (f := 43) rfl ?_); refine goesL_ (some 72) rfl rfl Try.func43 (by kernel_rfl) rfl #[] rfl (by (try simp only [List.map_toArray, List.map_cons, List.map_nil]); first | done | rfl | (simp only [List.length_drop, List.length_take]; rfl)) ?_; (with_reducible refine (tephralaw08_fixed.calls  false _ A82.out).mono ?_); rintro e w95 ⟨rfl, hb⟩; refine ⟨_, rfl, ?_⟩; have n0_ := Aside0.mk (Kd.R_below (by (with_reducible repeat (first | apply Kd.R_alloc | apply Kd.R_drewN | apply Kd.R_drew)); exact HO_195003.out) hb); have n1_ := Aside0.mk (Kd.R_below (by (with_reducible repeat (first | apply Kd.R_alloc | apply Kd.R_drewN | apply Kd.R_drew)); exact HO_205003.out) hb); have n2_ := Aside0.mk (blk_below (g := gb178) (o := .cells #[.int .i64 a0_0, .string a0_1, .int .u64 a0_2, .slice A0_3 l0_3.length c0_3, .int .u64 a0_4, .int .u64 a0_5, .string a0_6] 70 (0, 0)) (by (with_reducible repeat (first | refine blk_drewN ?_ _ | refine blk_drew ?_ | refine blk_alloc ?_ _)); exact BK178.out) hb); have n3_ := Aside0.mk (blk_below (g := gb179) (o := .cells #[.int .i64 a1_0, .string a1_1, .int .u64 a1_2, .slice A1_3 l1_3.length c1_3, .int .u64 a1_4, .int .u64 a1_5, .string a1_6] 70 (0, 0)) (by (with_reducible repeat (first | refine blk_drewN ?_ _ | refine blk_drew ?_ | refine blk_alloc ?_ _)); exact BK179.out) hb); have n4_ := Aside0.mk (blk_below (g := gb194) (o := .cells #[.int .i64 a0_0, .string a0_1, .int .u64 a0_2, u195003, .int .u64 a0_4, .int .u64 a0_5, .string a0_6] 70 (0, 0)) (by (with_reducible repeat (first | refine blk_drewN ?_ _ | refine blk_drew ?_ | refine blk_alloc ?_ _)); exact BK194.out) hb); have n5_ := Aside0.mk (blk_below (g := gb204) (o := .cells #[.int .i64 t195, .string t196, .int .u64 t197, u205003, .int .u64 t201, .int .u64 t202, .string t203] 70 (0, 0)) (by (with_reducible repeat (first | refine blk_drewN ?_ _ | refine blk_drew ?_ | refine blk_alloc ?_ _)); exact BK204.out) hb); have n6_ := Aside0.mk (below_step (by repeat (first | (with_reducible first | exact HB.out | apply below_alloc | apply pw_below_drewN | apply below_drew1 | refine below_set ?_ GE178.out | refine below_set ?_ GE179.out | refine below_set ?_ GE194.out | refine below_set ?_ GE204.out) | exact HB.out)) hb); clear HO_195003; clear HO_205003; clear BK178; clear BK179; clear BK194; clear BK204; clear HB; have HO_195003 := n0_; have HO_205003 := n1_; have BK178 := n2_; have BK179 := n3_; have BK194 := n4_; have BK204 := n5_; have HB := n6_; clear n0_ n1_ n2_ n3_ n4_ n5_ n6_; (try clear hb); (try clear hb2); (try clear hk); (try clear hi)))
                        go_ret
                        exact ⟨by first | rfl | (simp [errW_none, errW_some] <;> rfl) | (simp [*, errW_none, errW_some] <;> rfl), by repeat (first | (with_reducible first | exact HB.out | apply below_alloc | apply pw_below_drewN | apply below_drew1 | refine below_set ?_ GE178.out | refine below_set ?_ GE179.out | refine below_set ?_ GE194.out | refine below_set ?_ GE204.out) | exact HB.out)⟩
              · rw [if_neg c43] at H
                exact absurd H (by simp)

end Go.Proofs.Ythpbkhagjgggjaa.GRR
