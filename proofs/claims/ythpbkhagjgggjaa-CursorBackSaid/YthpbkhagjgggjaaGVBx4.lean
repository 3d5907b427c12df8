-- by a program of this session (gprint.py, over the kit's print): the machine's side of a law
import Derived.Test.YthpbkhagjgggjaaGVBx0
import Derived.Test.YthpbkhagjgggjaaGVBx3
namespace Go.Proofs.Ythpbkhagjgggjaa.GVB
open Go.RowKit Go.Proofs.YthpbkhagjgggjaaW.PrintWords Go.Proofs.YthpbkhagjgggjaaW.PrintLast Go.Proofs.YthpbkhagjgggjaaW.PrintMore
attribute [local go_sem] max2_int min2_int max_two min_two max_three min_three max_four min_four   -- for this text's walks alone
set_option linter.unusedVariables false
set_option linter.unusedSimpArgs false

/-! ### tephraref04_Cursor_Numbers: function 71 -/
def tephraref04_Cursor_Numbers.l0 : Nat → List Int → Int → Int → ByteArray → Int → Int → Option (List Int × ByteArray × Int × Int)
  | 0, _, _, _, _, _, _ => none
  | k + 1, x6, x7, x8, x166000, x166001, x166002 => if x8 < x7 then (if x166002 = 0 then ((tephraref04_Cursor_Number.f k x166000 x166001 x166002).bind fun bt174 => (if x6.length < 17592186044416 then (tephraref04_Cursor_Numbers.l0 k (x6 ++ [bt174.1]) x7 (wrap64 (x8 + 1)) bt174.2.1 bt174.2.2.1 bt174.2.2.2) else (none))) else (some ((([] : List Int)), x166000, x166001, x166002))) else (if x166002 = 0 then (some (x6, x166000, x166001, x166002)) else (some ((([] : List Int)), x166000, x166001, x166002)))
def tephraref04_Cursor_Numbers.f (k : Nat) (a0_0 : ByteArray) (a0_1 : Int) (a0_2 : Int) (a1 : Int) : Option (List Int × ByteArray × Int × Int) := (tephraref04_Cursor_count.f k a0_0 a0_1 a0_2 a1).bind fun bt170 => (tephraref04_Cursor_Numbers.l0 k (([] : List Int)) bt170.1 0 bt170.2.1 bt170.2.2.1 bt170.2.2.2)
theorem tephraref04_Cursor_Numbers.mono_l : ∀ k, (∀ y0 y1 y2 y3 y4 y5, LeO (tephraref04_Cursor_Numbers.l0 k y0 y1 y2 y3 y4 y5) (tephraref04_Cursor_Numbers.l0 (k + 1) y0 y1 y2 y3 y4 y5))
  | 0 => fun _ _ _ _ _ _ r h => by simp [tephraref04_Cursor_Numbers.l0] at h
  | k + 1 => by
    have ih0 := tephraref04_Cursor_Numbers.mono_l k
    · intro y0 y1 y2 y3 y4 y5
      unfold tephraref04_Cursor_Numbers.l0
      repeat' first
      | (with_reducible exact ih0 _ _ _ _ _ _)
      | (with_reducible exact tephraref04_Cursor_Number.mono _ _ _ _)
      | (with_reducible exact tephraref04_Cursor_count.mono _ _ _ _ _)
      | (with_reducible exact LeO.refl _)
      | (with_reducible exact LeO.none _)
      | (with_reducible refine LeO.ite ?_ ?_)
      | (with_reducible refine LeO.bind ?_ (fun _ => ?_))
      | exact ih0 _ _ _ _ _ _
      | exact tephraref04_Cursor_Number.mono _ _ _ _
      | exact tephraref04_Cursor_count.mono _ _ _ _ _
      | exact LeO.none _
      | refine LeO.ite ?_ ?_
      | refine LeO.bind ?_ (fun _ => ?_)
theorem tephraref04_Cursor_Numbers.mono : ∀ a0 a1 a2 a3 k, LeO (tephraref04_Cursor_Numbers.f k a0 a1 a2 a3) (tephraref04_Cursor_Numbers.f (k + 1) a0 a1 a2 a3) := by
  intro a0 a1 a2 a3 k
  have ih0 := tephraref04_Cursor_Numbers.mono_l k
  unfold tephraref04_Cursor_Numbers.f
  repeat' first
      | (with_reducible exact ih0 _ _ _ _ _ _)
      | (with_reducible exact tephraref04_Cursor_Number.mono _ _ _ _)
      | (with_reducible exact tephraref04_Cursor_count.mono _ _ _ _ _)
      | (with_reducible exact LeO.refl _)
      | (with_reducible exact LeO.none _)
      | (with_reducible refine LeO.ite ?_ ?_)
      | (with_reducible refine LeO.bind ?_ (fun _ => ?_))
      | exact ih0 _ _ _ _ _ _
      | exact tephraref04_Cursor_Number.mono _ _ _ _
      | exact tephraref04_Cursor_count.mono _ _ _ _ _
      | exact LeO.none _
      | refine LeO.ite ?_ ?_
      | refine LeO.bind ?_ (fun _ => ?_)
set_option maxHeartbeats 8000000 in
set_option maxRecDepth 100000 in
theorem tephraref04_Cursor_Numbers.calls (k : Nat) (a0_0 : ByteArray) (a0_1 : Int) (a0_2 : Int) (a1 : Int) (r1 : List Int) (r2 : ByteArray) (r3 : Int) (r4 : Int) (w : World) (h : tephraref04_Cursor_Numbers.f k a0_0 a0_1 a0_2 a1 = some (r1, r2, r3, r4)) :
    Calls Try.prog 71 #[.agg #[.string a0_0, .int .i64 a0_1, .int .i64 a0_2], .int .i64 a1] w fun e w' => ∃ v0_ : Value, e = .returned (.tuple #[v0_, .agg #[.string r2, .int .i64 r3, .int .i64 r4]]) ∧ Kd.R (Kd.int .u64) 48 w' w.heap.size (fun _ => True) v0_ r1 ∧ Below w.heap.size w w' := by
  have hu39 := Try.underlying39
  have HB := Aside0.mk (Below.refl w.heap.size w)
  have H : ((tephraref04_Cursor_count.f k a0_0 a0_1 a0_2 a1).bind fun bt170 => (tephraref04_Cursor_Numbers.l0 k (([] : List Int)) bt170.1 0 bt170.2.1 bt170.2.2.1 bt170.2.2.2)) = some (r1, r2, r3, r4) := h
  clear h
  obtain ⟨y167, hy167⟩ : ∃ y_ : List Int, y_ = (([] : List Int)) := ⟨_, rfl⟩
  replace H : ((tephraref04_Cursor_count.f k a0_0 a0_1 a0_2 a1).bind fun bt170 => (tephraref04_Cursor_Numbers.l0 k y167 bt170.1 0 bt170.2.1 bt170.2.2.1 bt170.2.2.2)) = some (r1, r2, r3, r4) := by first | (rw [hy167]; with_reducible exact H) | (have H2_ := (Option.bind_some _ _).symm.trans H; rw [hy167]; with_reducible exact H2_) | (have H2_ := (Option.bind_some _ _).symm.trans H; with_reducible exact H2_) | with_reducible exact H | (rw [hy167]; exact H) | exact H
  have Ny167 := Aside0.mk hy167
  clear hy167
  replace H := Option.bind_eq_some_iff.mp H
  obtain ⟨⟨t170, t171, t172, t173⟩, A30, H⟩ := H
  replace H : (tephraref04_Cursor_Numbers.l0 k y167 t170 0 t171 t172 t173) = some (r1, r2, r3, r4) := H
  have A3 := Aside0.mk A30
  clear A30
  have H' := Aside0.mk H
  clear H
  go_enter Try.func71, Try.ntmps71
  go_wp2_with (first | ((with_reducible refine gate_dst (N := 2) rfl ?_); refine box_event ?hg (N := 2) ?hd (cs := #[.string a0_0, .int .i64 a0_1, .int .i64 a0_2]) (t := 39) ?hr ?_; (case hd => rfl); (case hg => rfl); (case hr => first | (go_simp; done) | (go_simp; rfl)); intro gb165 hg w4 hbox hb; have n0_ := Aside0.mk (below_step (by repeat (first | (with_reducible first | exact HB.out | apply below_alloc | apply pw_below_drewN | apply below_drew1) | exact HB.out)) hb); have n1_ := Aside0.mk (hbox); have n2_ := Aside0.mk ((by rw [hg]; exact (below_size (by repeat (first | (with_reducible first | exact HB.out | apply below_alloc | apply pw_below_drewN | apply below_drew1) | exact HB.out))) : w.heap.size ≤ gb165)); have n3_ := Aside0.mk ((by rw [hg]; exact (below_size (by repeat (first | (with_reducible first | exact HB.out | apply below_alloc | apply pw_below_drewN | apply below_drew1) | exact HB.out))) : w.heap.size ≤ gb165)); clear HB; have HB := n0_; have BK165 := n1_; have GW165 := n2_; have GE165 := n3_; clear n0_ n1_ n2_ n3_; clear hb hbox hg) | ((with_reducible refine gate_dst (N := 5) rfl ?_); refine box_event ?hg (N := 5) ?hd (cs := #[.string (⟨#[]⟩ : ByteArray), .int .i64 0, .int .i64 0]) (t := 39) ?hr ?_; (case hd => rfl); (case hg => rfl); (case hr => first | (go_simp; done) | (go_simp; rfl)); intro gb166 hg w5 hbox hb; have n0_ := Aside0.mk (blk_below (g := gb165) (o := .cells #[.string a0_0, .int .i64 a0_1, .int .i64 a0_2] 39 (0, 0)) (by (with_reducible repeat (first | refine blk_drewN ?_ _ | refine blk_drew ?_ | refine blk_alloc ?_ _)); exact BK165.out) hb); have n1_ := Aside0.mk (below_step (by repeat (first | (with_reducible first | exact HB.out | apply below_alloc | apply pw_below_drewN | apply below_drew1 | refine below_set ?_ GE165.out) | exact HB.out)) hb); have n2_ := Aside0.mk (hbox); have n3_ := Aside0.mk ((by rw [hg]; exact (below_size (by repeat (first | (with_reducible first | exact HB.out | apply below_alloc | apply pw_below_drewN | apply below_drew1 | refine below_set ?_ GE165.out) | exact HB.out))) : w.heap.size ≤ gb166)); have n4_ := Aside0.mk ((by rw [hg]; exact (below_size (by repeat (first | (with_reducible first | exact HB.out | apply below_alloc | apply pw_below_drewN | apply below_drew1 | refine below_set ?_ GE165.out) | exact HB.out))) : w.heap.size ≤ gb166)); have n5_ := Aside0.mk ((by rw [hg]; exact Nat.ne_of_lt (blk_lt (g := gb165) (o := .cells #[.string a0_0, .int .i64 a0_1, .int .i64 a0_2] 39 (0, 0)) (by (with_reducible repeat (first | refine blk_drewN ?_ _ | refine blk_drew ?_ | refine blk_alloc ?_ _)); exact BK165.out)) : gb165 ≠ gb166)); have n6_ := Aside0.mk ((by rw [hg]; exact Nat.ne_of_gt (blk_lt (g := gb165) (o := .cells #[.string a0_0, .int .i64 a0_1, .int .i64 a0_2] 39 (0, 0)) (by (with_reducible repeat (first | refine blk_drewN ?_ _ | refine blk_drew ?_ | refine blk_alloc ?_ _)); exact BK165.out)) : gb166 ≠ gb165)); clear BK165; clear HB; have BK165 := n0_; have HB := n1_; have BK166 := n2_; have GW166 := n3_; have GE166 := n4_; have NB165_166 := n5_; have NB166_165 := n6_; clear n0_ n1_ n2_ n3_ n4_ n5_ n6_; clear hb hbox hg) | ((with_reducible refine gate_dst (N := 10) rfl ?_); refine Kd.R_lit (Kd.int .u64) _ 48 ?hg (N := 10) ?hd (xs := ([] : List Int)) (inner := []) (ok := fun _ => True) (okp := fun _ => True) ?hr ?hp (fun _ hk => hk) trivial (Below.refl _ _) (Nat.le_refl _) (by simp) ?_; (case hd => rfl); (case hg => rfl); (case hr => first | (go_simp; done) | (go_simp; rfl)); (case hp => exact (Reps.none _ _)); intro v168 w6 ho7 hb hg_ hnew_; clear hg_ hnew_; (first | rw [← Ny167.out] at ho7 | (simp only [Int.reduceToNat] at ho7; rw [← Ny167.out] at ho7)); have n0_ := Aside0.mk (Kd.R_lower ho7 (below_size (by repeat (first | (with_reducible first | exact HB.out | apply below_alloc | apply pw_below_drewN | apply below_drew1 | refine below_set ?_ GE165.out | refine below_set ?_ GE166.out) | exact HB.out)))); have n1_ := Aside0.mk (blk_below (g := gb165) (o := .cells #[.string a0_0, .int .i64 a0_1, .int .i64 a0_2] 39 (0, 0)) (by (with_reducible repeat (first | refine blk_drewN ?_ _ | refine blk_drew ?_ | refine blk_alloc ?_ _)); exact BK165.out) hb); have n2_ := Aside0.mk (blk_below (g := gb166) (o := .cells #[.string (⟨#[]⟩ : ByteArray), .int .i64 0, .int .i64 0] 39 (0, 0)) (by (with_reducible repeat (first | refine blk_drewN ?_ _ | refine blk_drew ?_ | refine blk_alloc ?_ _)); exact BK166.out) hb); have n3_ := Aside0.mk (below_step (by repeat (first | (with_reducible first | exact HB.out | apply below_alloc | apply pw_below_drewN | apply below_drew1 | refine below_set ?_ GE165.out | refine below_set ?_ GE166.out) | exact HB.out)) hb); clear BK165; clear BK166; clear HB; have HO169 := n0_; have BK165 := n1_; have BK166 := n2_; have HB := n3_; clear n0_ n1_ n2_ n3_; clear hb ho7; have hnb8 := NB165_166.out; have hnc8 := NB166_165.out; have hcz9_0 : w6.cell? ⟨gb165, 0, none⟩ = some (.string a0_0) := (blk_cell BK165.out 0).trans rfl; have hcz9_1 : w6.cell? ⟨gb165, 1, none⟩ = some (.int .i64 a0_1) := (blk_cell BK165.out 1).trans rfl; have hcz9_2 : w6.cell? ⟨gb165, 2, none⟩ = some (.int .i64 a0_2) := (blk_cell BK165.out 2).trans rfl; have hfz9_0 := blk_frozen BK165.out 0; have hfz9_1 := blk_frozen BK165.out 1; have hfz9_2 := blk_frozen BK165.out 2) | ((with_reducible refine gate_callee (f := 94) rfl ?_); refine goesL_ (some 14) rfl rfl Try.func94 (by kernel_rfl) rfl #[.agg #[.string a0_0, .int .i64 a0_1, .int .i64 a0_2], .int .i64 a1] rfl (by (try simp only [List.map_toArray, List.map_cons, List.map_nil]); first | done | rfl | (simp only [List.length_drop, List.length_take]; rfl)) ?_; (with_reducible refine (tephraref04_Cursor_count.calls k a0_0 a0_1 a0_2 a1 t170 t171 t172 t173 _ A3.out).mono ?_); rintro e w10 ⟨rfl, hb⟩; refine ⟨_, rfl, ?_⟩; have n0_ := Aside0.mk (Kd.R_below (by (with_reducible repeat (first | apply Kd.R_alloc | apply Kd.R_drewN | apply Kd.R_drew)); exact HO169.out) hb); have n1_ := Aside0.mk (blk_below (g := gb165) (o := .cells #[.string a0_0, .int .i64 a0_1, .int .i64 a0_2] 39 (0, 0)) (by (with_reducible repeat (first | refine blk_drewN ?_ _ | refine blk_drew ?_ | refine blk_alloc ?_ _)); exact BK165.out) hb); have n2_ := Aside0.mk (blk_below (g := gb166) (o := .cells #[.string (⟨#[]⟩ : ByteArray), .int .i64 0, .int .i64 0] 39 (0, 0)) (by (with_reducible repeat (first | refine blk_drewN ?_ _ | refine blk_drew ?_ | refine blk_alloc ?_ _)); exact BK166.out) hb); have n3_ := Aside0.mk (below_step (by repeat (first | (with_reducible first | exact HB.out | apply below_alloc | apply pw_below_drewN | apply below_drew1 | refine below_set ?_ GE165.out | refine below_set ?_ GE166.out) | exact HB.out)) hb); clear HO169; clear BK165; clear BK166; clear HB; have HO169 := n0_; have BK165 := n1_; have BK166 := n2_; have HB := n3_; clear n0_ n1_ n2_ n3_; (try clear hb); (try clear hb2); (try clear hk); (try clear hi); have hcz11_0 : w10.cell? ⟨gb165, 0, none⟩ = some (.string a0_0) := (blk_cell BK165.out 0).trans rfl; have hcz11_1 : w10.cell? ⟨gb165, 1, none⟩ = some (.int .i64 a0_1) := (blk_cell BK165.out 1).trans rfl; have hcz11_2 : w10.cell? ⟨gb165, 2, none⟩ = some (.int .i64 a0_2) := (blk_cell BK165.out 2).trans rfl; have hfz11_0 := blk_frozen BK165.out 0; have hfz11_1 := blk_frozen BK165.out 1; have hfz11_2 := blk_frozen BK165.out 2))
  go_loopg [6, 8] k (fun kq v6 v8 w' => ∃ (x6_1 : List Int) (x8_1 : Int) (x166000_1 : ByteArray) (x166001_1 : Int) (x166002_1 : Int), v8 = .int .i64 x8_1 ∧ Aside0 (tephraref04_Cursor_Numbers.l0 kq x6_1 t170 x8_1 x166000_1 x166001_1 x166002_1 = some (r1, r2, r3, r4)) ∧ Aside0 (kq ≤ k) ∧ Aside0 (Kd.R (Kd.int .u64) 48 w' w.heap.size (fun _ => True) v6 x6_1) ∧ Aside0 (w'.heap[gb165]? = some (.cells #[.string x166000_1, .int .i64 x166001_1, .int .i64 x166002_1] 39 (0, 0))) ∧ Aside0 (w'.heap[gb166]? = some (.cells #[.string (⟨#[]⟩ : ByteArray), .int .i64 0, .int .i64 0] 39 (0, 0))) ∧ Aside0 (Below w.heap.size w w'))
  case atStart => exact ⟨(y167), (0), (t171), (t172), (t173), (by first | rfl | (simp; done) | (simp [*]; done) | (simp; rw [Bool.eq_iff_iff]; simp; done)), H', ⟨Nat.le_refl _⟩, ⟨by (with_reducible repeat (first | apply Kd.R_alloc | apply Kd.R_drewN | apply Kd.R_drew)); exact Kd.R_mono (Kd.R_far (p := ⟨gb165, 2, none⟩) (Kd.R_far (p := ⟨gb165, 1, none⟩) (Kd.R_far (p := ⟨gb165, 0, none⟩) (Kd.R_types HO169.out BK165.out (by decide)) (fun _ hk => hk.2) (.string t171)) (fun _ hk => hk.2) (.int .i64 t172)) (fun _ hk => hk.2) (.int .i64 t173)) (fun _ hk => trivial)⟩, ⟨by (with_reducible repeat (first | refine blk_drewN ?_ _ | refine blk_drew ?_ | refine blk_alloc ?_ _)); refine blk_put (cs := #[.string t171, .int .i64 t172, .int .i64 a0_2]) ?_ 2 _ rfl; (with_reducible repeat (first | refine blk_drewN ?_ _ | refine blk_drew ?_ | refine blk_alloc ?_ _)); refine blk_put (cs := #[.string t171, .int .i64 a0_1, .int .i64 a0_2]) ?_ 1 _ rfl; (with_reducible repeat (first | refine blk_drewN ?_ _ | refine blk_drew ?_ | refine blk_alloc ?_ _)); refine blk_put (cs := #[.string a0_0, .int .i64 a0_1, .int .i64 a0_2]) ?_ 0 _ rfl; (with_reducible repeat (first | refine blk_drewN ?_ _ | refine blk_drew ?_ | refine blk_alloc ?_ _)); exact BK165.out⟩, ⟨by (with_reducible repeat (first | refine blk_drewN ?_ _ | refine blk_drew ?_ | refine blk_alloc ?_ _)); refine blk_far ?_ NB166_165.out _; (with_reducible repeat (first | refine blk_drewN ?_ _ | refine blk_drew ?_ | refine blk_alloc ?_ _)); refine blk_far ?_ NB166_165.out _; (with_reducible repeat (first | refine blk_drewN ?_ _ | refine blk_drew ?_ | refine blk_alloc ?_ _)); refine blk_far ?_ NB166_165.out _; (with_reducible repeat (first | refine blk_drewN ?_ _ | refine blk_drew ?_ | refine blk_alloc ?_ _)); exact BK166.out⟩, ⟨by repeat (first | (with_reducible first | exact HB.out | apply below_alloc | apply pw_below_drewN | apply below_drew1 | refine below_set ?_ GE165.out | refine below_set ?_ GE166.out) | exact HB.out)⟩⟩
  case round =>
    clear H'
    try clear p2
    try clear c7
    try clear c8
    try clear c9
    try clear hcz11_0
    try clear hcz11_1
    try clear hcz11_2
    try clear hcz9_0
    try clear hcz9_1
    try clear hcz9_2
    try clear hfz11_0
    try clear hfz11_1
    try clear hfz11_2
    try clear hfz9_0
    try clear hfz9_1
    try clear hfz9_2
    obtain ⟨x6_1, x8_1, x166000_1, x166001_1, x166002_1, rfl, HA, HK1, HO_6, BK165, BK166, HB⟩ := hrel
    cases gk with
    | zero => exact absurd HA.out (by simp [tephraref04_Cursor_Numbers.l0])
    | succ k1 =>
      have H := HA.out
      clear HA
      simp only [tephraref04_Cursor_Numbers.l0] at H
      by_cases c12 : x8_1 < t170
      · rw [if_pos c12] at H
        have c12b0 : decide (x8_1 < t170) = true := decide_eq_true c12
        clear c12
        by_cases c13 : x166002_1 = 0
        · rw [if_pos c13] at H
          have c13b0 : (x166002_1 == 0) = true := beq_iff_eq.mpr c13
          have c13b1 : (x166002_1 != 0) = false := bne_eq_false_iff_eq.mpr c13
          clear c13
          replace H := Option.bind_eq_some_iff.mp H
          obtain ⟨⟨t174, t175, t176, t177⟩, A140, H⟩ := H
          replace H : (if x6_1.length < 17592186044416 then (tephraref04_Cursor_Numbers.l0 k1 (x6_1 ++ [t174]) t170 (wrap64 (x8_1 + 1)) t175 t176 t177) else (none)) = some (r1, r2, r3, r4) := H
          have A14 := Aside0.mk A140
          clear A140
          by_cases c15 : x6_1.length < 17592186044416
          · rw [if_pos c15] at H
            have LMc15 := Aside0.mk c15
            clear c15
            obtain ⟨y178, hy178⟩ : ∃ y_ : List Int, y_ = (x6_1 ++ [t174]) := ⟨_, rfl⟩
            replace H : (tephraref04_Cursor_Numbers.l0 k1 y178 t170 (wrap64 (x8_1 + 1)) t175 t176 t177) = some (r1, r2, r3, r4) := by first | (rw [hy178]; with_reducible exact H) | (have H2_ := (Option.bind_some _ _).symm.trans H; rw [hy178]; with_reducible exact H2_) | (have H2_ := (Option.bind_some _ _).symm.trans H; with_reducible exact H2_) | with_reducible exact H | (rw [hy178]; exact H) | exact H
            have Ny178 := Aside0.mk hy178
            clear hy178
            have H' := Aside0.mk H
            clear H
            have hnb16 := NB165_166.out
            have hnc16 := NB166_165.out
            have hcz17_0 : wr.cell? ⟨gb165, 0, none⟩ = some (.string x166000_1) := (blk_cell BK165.out 0).trans rfl
            have hcz17_1 : wr.cell? ⟨gb165, 1, none⟩ = some (.int .i64 x166001_1) := (blk_cell BK165.out 1).trans rfl
            have hcz17_2 : wr.cell? ⟨gb165, 2, none⟩ = some (.int .i64 x166002_1) := (blk_cell BK165.out 2).trans rfl
            have hfz17_0 := blk_frozen BK165.out 0
            have hfz17_1 := blk_frozen BK165.out 1
            have hfz17_2 := blk_frozen BK165.out 2
            go_wp2_with (first | ((with_reducible refine gate_callee (f := 69) rfl ?_); refine goesL_ (some 29) rfl rfl Try.func69 (by kernel_rfl) rfl #[.agg #[.string x166000_1, .int .i64 x166001_1, .int .i64 x166002_1]] rfl (by (try simp only [List.map_toArray, List.map_cons, List.map_nil]); first | done | rfl | (simp only [List.length_drop, List.length_take]; rfl)) ?_; (with_reducible refine (tephraref04_Cursor_Number.calls k1 x166000_1 x166001_1 x166002_1 t174 t175 t176 t177 _ A14.out).mono ?_); rintro e w18 ⟨rfl, hb⟩; refine ⟨_, rfl, ?_⟩; have n0_ := Aside0.mk (Kd.R_below (by (with_reducible repeat (first | apply Kd.R_alloc | apply Kd.R_drewN | apply Kd.R_drew)); exact HO_6.out) hb); have n1_ := Aside0.mk (blk_below (g := gb165) (o := .cells #[.string x166000_1, .int .i64 x166001_1, .int .i64 x166002_1] 39 (0, 0)) (by (with_reducible repeat (first | refine blk_drewN ?_ _ | refine blk_drew ?_ | refine blk_alloc ?_ _)); exact BK165.out) hb); have n2_ := Aside0.mk (blk_below (g := gb166) (o := .cells #[.string (⟨#[]⟩ : ByteArray), .int .i64 0, .int .i64 0] 39 (0, 0)) (by (with_reducible repeat (first | refine blk_drewN ?_ _ | refine blk_drew ?_ | refine blk_alloc ?_ _)); exact BK166.out) hb); have n3_ := Aside0.mk (below_step (by repeat (first | (with_reducible first | exact HB.out | apply below_alloc | apply pw_below_drewN | apply below_drew1 | refine below_set ?_ GE165.out | refine below_set ?_ GE166.out) | exact HB.out)) hb); clear HO_6; clear BK165; clear BK166; clear HB; have HO_6 := n0_; have BK165 := n1_; have BK166 := n2_; have HB := n3_; clear n0_ n1_ n2_ n3_; (try clear hb); (try clear hb2); (try clear hk); (try clear hi); have hcz19_0 : w18.cell? ⟨gb165, 0, none⟩ = some (.string x166000_1) := (blk_cell BK165.out 0).trans rfl; have hcz19_1 : w18.cell? ⟨gb165, 1, none⟩ = some (.int .i64 x166001_1) := (blk_cell BK165.out 1).trans rfl; have hcz19_2 : w18.cell? ⟨gb165, 2, none⟩ = some (.int .i64 x166002_1) := (blk_cell BK165.out 2).trans rfl; have hfz19_0 := blk_frozen BK165.out 0; have hfz19_1 := blk_frozen BK165.out 1; have hfz19_2 := blk_frozen BK165.out 2) | ((with_reducible refine gate_builtin (b := .append) (xs := #[.tmp 32, .tmp 34]) rfl ?_); at_builtin; refine Kd.R_append (Kd.int .u64) (w0 := w) w.heap.size rfl (.tmp 32) (.tmp 34) 23 48 (.int .u64 0) 8 rfl Try.underlying23 info48 rfl (by decide) (by omega) u6 x6_1 t174 [.int .u64 t174] (fun _ => True) (fun _ => False) rfl (by first | (go_simp; done) | (go_simp; rfl)) ?aP (fun _ hk => hk.elim) ?aF ?aO ?aB ?aS ?aL ?_; (case aP => exact rfl); (case aB => exact (by repeat (first | (with_reducible first | exact HB.out | apply below_alloc | apply pw_below_drewN | apply below_drew1 | refine below_set ?_ GE165.out | refine below_set ?_ GE166.out) | exact HB.out))); (case aF => exact (fun _ _ => trivial)); (case aO => exact (by (with_reducible repeat (first | apply Kd.R_alloc | apply Kd.R_drewN | apply Kd.R_drew)); exact Kd.R_mono (Kd.R_far (p := ⟨gb165, 2, none⟩) (Kd.R_far (p := ⟨gb165, 1, none⟩) (Kd.R_far (p := ⟨gb165, 0, none⟩) (Kd.R_types HO_6.out BK165.out (by decide)) (fun _ hk => hk.2) (.string t175)) (fun _ hk => hk.2) (.int .i64 t176)) (fun _ hk => hk.2) (.int .i64 t177)) (fun _ hk => trivial))); (case aS => exact (below_size (by repeat (first | (with_reducible first | exact HB.out | apply below_alloc | apply pw_below_drewN | apply below_drew1 | refine below_set ?_ GE165.out | refine below_set ?_ GE166.out) | exact HB.out)))); (case aL => have := LMc15.out; omega); intro v179 w20 ho hb hg hat; rw [← Ny178.out] at ho; have n0_ := Aside0.mk (blk_grown (g := gb165) (o := .cells #[.string t175, .int .i64 t176, .int .i64 t177] 39 (0, 0)) (by (with_reducible repeat (first | refine blk_drewN ?_ _ | refine blk_drew ?_ | refine blk_alloc ?_ _)); refine blk_put (cs := #[.string t175, .int .i64 t176, .int .i64 x166002_1]) ?_ 2 _ rfl; (with_reducible repeat (first | refine blk_drewN ?_ _ | refine blk_drew ?_ | refine blk_alloc ?_ _)); refine blk_put (cs := #[.string t175, .int .i64 x166001_1, .int .i64 x166002_1]) ?_ 1 _ rfl; (with_reducible repeat (first | refine blk_drewN ?_ _ | refine blk_drew ?_ | refine blk_alloc ?_ _)); refine blk_put (cs := #[.string x166000_1, .int .i64 x166001_1, .int .i64 x166002_1]) ?_ 0 _ rfl; (with_reducible repeat (first | refine blk_drewN ?_ _ | refine blk_drew ?_ | refine blk_alloc ?_ _)); exact BK165.out) hg (Kd.R_ne HO_6.out BK165.out (by decide))); have n1_ := Aside0.mk (blk_grown (g := gb166) (o := .cells #[.string (⟨#[]⟩ : ByteArray), .int .i64 0, .int .i64 0] 39 (0, 0)) (by (with_reducible repeat (first | refine blk_drewN ?_ _ | refine blk_drew ?_ | refine blk_alloc ?_ _)); refine blk_far ?_ NB166_165.out _; (with_reducible repeat (first | refine blk_drewN ?_ _ | refine blk_drew ?_ | refine blk_alloc ?_ _)); refine blk_far ?_ NB166_165.out _; (with_reducible repeat (first | refine blk_drewN ?_ _ | refine blk_drew ?_ | refine blk_alloc ?_ _)); refine blk_far ?_ NB166_165.out _; (with_reducible repeat (first | refine blk_drewN ?_ _ | refine blk_drew ?_ | refine blk_alloc ?_ _)); exact BK166.out) hg (Kd.R_ne HO_6.out BK166.out (by decide))); have n2_ := Aside0.mk (hb); have n3_ := Aside0.mk (ho); clear BK165; clear BK166; clear HB; clear HO_6; have BK165 := n0_; have BK166 := n1_; have HB := n2_; have HO180 := n3_; clear n0_ n1_ n2_ n3_; clear ho hb hg hat))
            go_roundg k1
            case measure => have := HK1.out; omega
            case rel => exact ⟨(y178), (wrap64 (x8_1 + 1)), (t175), (t176), (t177), (by first | rfl | (simp; done) | (simp [*]; done) | (simp; rw [Bool.eq_iff_iff]; simp; done)), H', ⟨by have := HK1.out; omega⟩, ⟨by (with_reducible repeat (first | apply Kd.R_alloc | apply Kd.R_drewN | apply Kd.R_drew)); exact HO180.out⟩, ⟨by (with_reducible repeat (first | refine blk_drewN ?_ _ | refine blk_drew ?_ | refine blk_alloc ?_ _)); exact BK165.out⟩, ⟨by (with_reducible repeat (first | refine blk_drewN ?_ _ | refine blk_drew ?_ | refine blk_alloc ?_ _)); exact BK166.out⟩, ⟨by repeat (first | (with_reducible first | exact HB.out | apply below_alloc | apply pw_below_drewN | apply below_drew1 | refine below_set ?_ GE165.out | refine below_set ?_ GE166.out) | exact HB.out)⟩⟩
          · rw [if_neg c15] at H
            exact absurd H (by simp)
        · rw [if_neg c13] at H
          have c13b0 : (x166002_1 == 0) = false := beq_eq_false_iff_ne.mpr c13
          have c13b1 : (x166002_1 != 0) = true := bne_iff_ne.mpr c13
          obtain ⟨y181, hy181⟩ : ∃ y_ : List Int, y_ = (([] : List Int)) := ⟨_, rfl⟩
          replace H : (some (y181, x166000_1, x166001_1, x166002_1)) = some (r1, r2, r3, r4) := by first | (rw [hy181]; with_reducible exact H) | (have H2_ := (Option.bind_some _ _).symm.trans H; rw [hy181]; with_reducible exact H2_) | (have H2_ := (Option.bind_some _ _).symm.trans H; with_reducible exact H2_) | with_reducible exact H | (rw [hy181]; exact H) | exact H
          have Ny181 := Aside0.mk hy181
          clear hy181
          simp only [Option.some.injEq, Prod.mk.injEq] at H
          obtain ⟨rfl, rfl, rfl, rfl⟩ := H
          have hnb21 := NB165_166.out
          have hnc21 := NB166_165.out
          have hcz22_0 : wr.cell? ⟨gb165, 0, none⟩ = some (.string x166000_1) := (blk_cell BK165.out 0).trans rfl
          have hcz22_1 : wr.cell? ⟨gb165, 1, none⟩ = some (.int .i64 x166001_1) := (blk_cell BK165.out 1).trans rfl
          have hcz22_2 : wr.cell? ⟨gb165, 2, none⟩ = some (.int .i64 x166002_1) := (blk_cell BK165.out 2).trans rfl
          have hfz22_0 := blk_frozen BK165.out 0
          have hfz22_1 := blk_frozen BK165.out 1
          have hfz22_2 := blk_frozen BK165.out 2
          try go_wp2
          have n0_ := Aside0.mk (Kd.R_drew HO_6.out)
          have n1_ := Aside0.mk (blk_drew BK165.out)
          have n2_ := Aside0.mk (blk_drew BK166.out)
          have n3_ := Aside0.mk (below_drew1 HB.out)
          clear HO_6
          clear BK165
          clear BK166
          clear HB
          have HO_6 := n0_
          have BK165 := n1_
          have BK166 := n2_
          have HB := n3_
          clear n0_ n1_ n2_ n3_
          refine start_ (n := 4) (S := fun w' => w'.cell? ⟨gb165, 0, none⟩ = some (.string x166000_1) ∧ w'.cell? ⟨gb165, 1, none⟩ = some (.int .i64 x166001_1) ∧ w'.cell? ⟨gb165, 2, none⟩ = some (.int .i64 x166002_1)) (ds := []) #[false, false, false, false] (by kernel_rfl) rfl rfl ⟨(blk_cell BK165.out 0).trans rfl, (blk_cell BK165.out 1).trans rfl, (blk_cell BK165.out 2).trans rfl⟩ (fun hHeld => ?_)
          generalize wr.drew = w23 at HO_6 BK165 BK166 HB hHeld ⊢
          refine take_ (i := 1) (N := some 40) (v := ?_) (a' := ?_) #[false, true, false, false] rfl rfl (by kernel_rfl) (fun _ _ _ h => h) (Or.inl ⟨by rfl, ?_⟩) hHeld ?_ ?_
          rotate_left
          · rintro w' ⟨s0, s1, s2⟩
            go_simp
            with_reducible rfl
          rotate_left
          · simp only [Act.put, List.setIfInBounds_toArray, List.set_cons_zero, List.set_cons_succ, i64_w, i32_w]
            rfl
          refine one_ (i := 0) (N := some 39) #[true, true, false, false] rfl rfl (by kernel_rfl) (by decide) (fun K hK => ?_)
          refine Kd.R_lit_step (Kd.int .u64) _ 48 ?hg (N := 39) ?hd (xs := ([] : List Int)) (inner := []) (ok := fun _ => True) (okp := fun _ => True) ?hr ?hp (fun _ hk => hk) trivial (Below.refl _ _) (Nat.le_refl _) (by simp) ?_; (case hd => rfl); (case hg => rfl); (case hr => first | (go_simp; done) | (go_simp; rfl)); (case hp => exact (Reps.none _ _))
          intro v182 w24 ho25 hb hg_ hnew_
          clear hg_ hnew_
          (first | rw [← Ny181.out] at ho25 | (simp only [Int.reduceToNat] at ho25; rw [← Ny181.out] at ho25))
          have n0_ := Aside0.mk (Kd.R_elder' (by (with_reducible repeat (first | apply Kd.R_alloc | apply Kd.R_drewN | apply Kd.R_drew)); exact HO_6.out) (Kd.R_base ho25) hb)
          have n1_ := Aside0.mk (Kd.R_lower (Kd.R_new' ho25 (Kd.R_lt (by (with_reducible repeat (first | apply Kd.R_alloc | apply Kd.R_drewN | apply Kd.R_drew)); exact HO_6.out))) (below_size (by repeat (first | (with_reducible first | exact HB.out | apply below_alloc | apply pw_below_drewN | apply below_drew1 | refine below_set ?_ GE165.out | refine below_set ?_ GE166.out) | exact HB.out))))
          have n2_ := Aside0.mk (blk_below (g := gb165) (o := .cells #[.string x166000_1, .int .i64 x166001_1, .int .i64 x166002_1] 39 (0, 0)) (by (with_reducible repeat (first | refine blk_drewN ?_ _ | refine blk_drew ?_ | refine blk_alloc ?_ _)); exact BK165.out) hb)
          have n3_ := Aside0.mk (blk_below (g := gb166) (o := .cells #[.string (⟨#[]⟩ : ByteArray), .int .i64 0, .int .i64 0] 39 (0, 0)) (by (with_reducible repeat (first | refine blk_drewN ?_ _ | refine blk_drew ?_ | refine blk_alloc ?_ _)); exact BK166.out) hb)
          have n4_ := Aside0.mk (below_step (by repeat (first | (with_reducible first | exact HB.out | apply below_alloc | apply pw_below_drewN | apply below_drew1 | refine below_set ?_ GE165.out | refine below_set ?_ GE166.out) | exact HB.out)) hb)
          clear HO_6
          clear BK165
          clear BK166
          clear HB
          have HO_6 := n0_
          have HO183 := n1_
          have BK165 := n2_
          have BK166 := n3_
          have HB := n4_
          clear n0_ n1_ n2_ n3_ n4_
          clear hb ho25
          refine hK.out _ _ ⟨(blk_cell BK165.out 0).trans rfl, (blk_cell BK165.out 1).trans rfl, (blk_cell BK165.out 2).trans rfl⟩ (fun hHeld => ?_)
          clear hK K
          refine norm_ (a' := ?_) ?_ ?_
          rotate_left
          · show Act.put _ (some 39) _ = _
            simp only [Act.put, List.setIfInBounds_toArray, List.set_cons_zero, List.set_cons_succ, i64_w, i32_w]
            rfl
          refine pure_ (i := 2) (N := some 4) (v := ?_) (a' := ?_) #[true, true, true, false] rfl rfl (by kernel_rfl) (fun _ _ _ h => h) (Or.inl ⟨by rfl, ?_⟩) ?_ ?_
          rotate_left
          · intro w'
            go_simp
            with_reducible rfl
          rotate_left
          · simp only [Act.put, List.setIfInBounds_toArray, List.set_cons_zero, List.set_cons_succ, i64_w, i32_w]
            rfl
          refine one_ (i := 3) (N := none) #[true, true, true, true] rfl rfl (by kernel_rfl) (by decide) (fun K hK => ?_)
          have hs26 : w24.cell? ⟨gb166, 0, none⟩ = some (.string (⟨#[]⟩ : ByteArray)) := (blk_cell BK166.out 0).trans rfl
          have hfs26 := blk_frozen BK166.out 0
          have hns26_0 := NB165_166.out
          have hms26_0 := NB166_165.out
          have hs27 : w24.cell? ⟨gb166, 1, none⟩ = some (.int .i64 0) := (blk_cell BK166.out 1).trans rfl
          have hfs27 := blk_frozen BK166.out 1
          have hns27_0 := NB165_166.out
          have hms27_0 := NB166_165.out
          have hs28 : w24.cell? ⟨gb166, 2, none⟩ = some (.int .i64 0) := (blk_cell BK166.out 2).trans rfl
          have hfs28 := blk_frozen BK166.out 2
          have hns28_0 := NB165_166.out
          have hms28_0 := NB166_165.out
          refine skip_ (w1 := ?_) (by rfl) rfl ?_ ?_
          rotate_left
          · go_simp
            rfl
          refine hK.out _ _ ⟨((cell_far (p := ⟨gb166, _, none⟩) NB165_166.out _).trans (((cell_far (p := ⟨gb166, _, none⟩) NB165_166.out _).trans (((cell_far (p := ⟨gb166, _, none⟩) NB165_166.out _).trans (hHeld.1)))))), ((cell_far (p := ⟨gb166, _, none⟩) NB165_166.out _).trans (((cell_far (p := ⟨gb166, _, none⟩) NB165_166.out _).trans (((cell_far (p := ⟨gb166, _, none⟩) NB165_166.out _).trans (hHeld.2.1)))))), ((cell_far (p := ⟨gb166, _, none⟩) NB165_166.out _).trans (((cell_far (p := ⟨gb166, _, none⟩) NB165_166.out _).trans (((cell_far (p := ⟨gb166, _, none⟩) NB165_166.out _).trans (hHeld.2.2))))))⟩ (fun hHeld => ?_)
          clear hK K
          refine done_ (by kernel_rfl) ?_
          try go_wp2
          refine bodyPost_ret (results_tc rfl _ _ gb166 39 #[.string x166000_1, .int .i64 x166001_1, .int .i64 x166002_1] (0, 0) _ rfl (by (with_reducible repeat (first | refine blk_drewN ?_ _ | refine blk_drew ?_ | refine blk_alloc ?_ _)); refine blk_put (cs := #[.string x166000_1, .int .i64 x166001_1, .int .i64 0]) ?_ 2 _ rfl; (with_reducible repeat (first | refine blk_drewN ?_ _ | refine blk_drew ?_ | refine blk_alloc ?_ _)); refine blk_put (cs := #[.string x166000_1, .int .i64 0, .int .i64 0]) ?_ 1 _ rfl; (with_reducible repeat (first | refine blk_drewN ?_ _ | refine blk_drew ?_ | refine blk_alloc ?_ _)); refine blk_put (cs := #[.string (⟨#[]⟩ : ByteArray), .int .i64 0, .int .i64 0]) ?_ 0 _ rfl; (with_reducible repeat (first | refine blk_drewN ?_ _ | refine blk_drew ?_ | refine blk_alloc ?_ _)); exact BK166.out) Try.underlying39 rfl (by kernel_rfl)) rfl ?_
          exact ⟨_, by first | rfl | (simp [errW_none, errW_some] <;> rfl) | (simp [*, errW_none, errW_some] <;> rfl), by (with_reducible repeat (first | apply Kd.R_alloc | apply Kd.R_drewN | apply Kd.R_drew)); exact Kd.R_mono (Kd.R_far (p := ⟨gb166, 2, none⟩) (Kd.R_far (p := ⟨gb166, 1, none⟩) (Kd.R_far (p := ⟨gb166, 0, none⟩) (Kd.R_types HO183.out BK166.out (by decide)) (fun _ hk => hk.2) (.string x166000_1)) (fun _ hk => hk.2) (.int .i64 x166001_1)) (fun _ hk => hk.2) (.int .i64 x166002_1)) (fun _ hk => trivial), by repeat (first | (with_reducible first | exact HB.out | apply below_alloc | apply pw_below_drewN | apply below_drew1 | refine below_set ?_ GE165.out | refine below_set ?_ GE166.out) | exact HB.out)⟩
      · rw [if_neg c12] at H
        have c12b0 : decide (x8_1 < t170) = false := decide_eq_false c12
        clear c12
        by_cases c29 : x166002_1 = 0
        · rw [if_pos c29] at H
          have c29b0 : (x166002_1 == 0) = true := beq_iff_eq.mpr c29
          have c29b1 : (x166002_1 != 0) = false := bne_eq_false_iff_eq.mpr c29
          clear c29
          simp only [Option.some.injEq, Prod.mk.injEq] at H
          obtain ⟨rfl, rfl, rfl, rfl⟩ := H
          have hnb30 := NB165_166.out
          have hnc30 := NB166_165.out
          have hcz31_0 : wr.cell? ⟨gb165, 0, none⟩ = some (.string x166000_1) := (blk_cell BK165.out 0).trans rfl
          have hcz31_1 : wr.cell? ⟨gb165, 1, none⟩ = some (.int .i64 x166001_1) := (blk_cell BK165.out 1).trans rfl
          have hcz31_2 : wr.cell? ⟨gb165, 2, none⟩ = some (.int .i64 x166002_1) := (blk_cell BK165.out 2).trans rfl
          have hfz31_0 := blk_frozen BK165.out 0
          have hfz31_1 := blk_frozen BK165.out 1
          have hfz31_2 := blk_frozen BK165.out 2
          try go_wp2
          have n0_ := Aside0.mk (Kd.R_drew HO_6.out)
          have n1_ := Aside0.mk (blk_drew BK165.out)
          have n2_ := Aside0.mk (blk_drew BK166.out)
          have n3_ := Aside0.mk (below_drew1 HB.out)
          clear HO_6
          clear BK165
          clear BK166
          clear HB
          have HO_6 := n0_
          have BK165 := n1_
          have BK166 := n2_
          have HB := n3_
          clear n0_ n1_ n2_ n3_
          refine start_ (n := 4) (S := fun w' => w'.cell? ⟨gb165, 0, none⟩ = some (.string x166000_1) ∧ w'.cell? ⟨gb165, 1, none⟩ = some (.int .i64 x166001_1) ∧ w'.cell? ⟨gb165, 2, none⟩ = some (.int .i64 x166002_1)) (ds := []) #[false, false, false, false] (by kernel_rfl) rfl rfl ⟨(blk_cell BK165.out 0).trans rfl, (blk_cell BK165.out 1).trans rfl, (blk_cell BK165.out 2).trans rfl⟩ (fun hHeld => ?_)
          generalize wr.drew = w32 at HO_6 BK165 BK166 HB hHeld ⊢
          refine pure_ (i := 0) (N := some 41) (v := ?_) (a' := ?_) #[true, false, false, false] rfl rfl (by kernel_rfl) (fun _ _ _ h => h) (Or.inl ⟨by rfl, ?_⟩) ?_ ?_
          rotate_left
          · intro w'
            go_simp
            with_reducible rfl
          rotate_left
          · simp only [Act.put, List.setIfInBounds_toArray, List.set_cons_zero, List.set_cons_succ, i64_w, i32_w]
            rfl
          refine pure_ (i := 2) (N := some 4) (v := ?_) (a' := ?_) #[true, false, true, false] rfl rfl (by kernel_rfl) (fun _ _ _ h => h) (Or.inl ⟨by rfl, ?_⟩) ?_ ?_
          rotate_left
          · intro w'
            go_simp
            with_reducible rfl
          rotate_left
          · simp only [Act.put, List.setIfInBounds_toArray, List.set_cons_zero, List.set_cons_succ, i64_w, i32_w]
            rfl
          refine take_ (i := 1) (N := some 42) (v := ?_) (a' := ?_) #[true, true, true, false] rfl rfl (by kernel_rfl) (fun _ _ _ h => h) (Or.inl ⟨by rfl, ?_⟩) hHeld ?_ ?_
          rotate_left
          · rintro w' ⟨s0, s1, s2⟩
            go_simp
            with_reducible rfl
          rotate_left
          · simp only [Act.put, List.setIfInBounds_toArray, List.set_cons_zero, List.set_cons_succ, i64_w, i32_w]
            rfl
          refine one_ (i := 3) (N := none) #[true, true, true, true] rfl rfl (by kernel_rfl) (by decide) (fun K hK => ?_)
          have hs33 : w32.cell? ⟨gb166, 0, none⟩ = some (.string (⟨#[]⟩ : ByteArray)) := (blk_cell BK166.out 0).trans rfl
          have hfs33 := blk_frozen BK166.out 0
          have hns33_0 := NB165_166.out
          have hms33_0 := NB166_165.out
          have hs34 : w32.cell? ⟨gb166, 1, none⟩ = some (.int .i64 0) := (blk_cell BK166.out 1).trans rfl
          have hfs34 := blk_frozen BK166.out 1
          have hns34_0 := NB165_166.out
          have hms34_0 := NB166_165.out
          have hs35 : w32.cell? ⟨gb166, 2, none⟩ = some (.int .i64 0) := (blk_cell BK166.out 2).trans rfl
          have hfs35 := blk_frozen BK166.out 2
          have hns35_0 := NB165_166.out
          have hms35_0 := NB166_165.out
          refine skip_ (w1 := ?_) (by rfl) rfl ?_ ?_
          rotate_left
          · go_simp
            rfl
          refine hK.out _ _ ⟨((cell_far (p := ⟨gb166, _, none⟩) NB165_166.out _).trans (((cell_far (p := ⟨gb166, _, none⟩) NB165_166.out _).trans (((cell_far (p := ⟨gb166, _, none⟩) NB165_166.out _).trans (hHeld.1)))))), ((cell_far (p := ⟨gb166, _, none⟩) NB165_166.out _).trans (((cell_far (p := ⟨gb166, _, none⟩) NB165_166.out _).trans (((cell_far (p := ⟨gb166, _, none⟩) NB165_166.out _).trans (hHeld.2.1)))))), ((cell_far (p := ⟨gb166, _, none⟩) NB165_166.out _).trans (((cell_far (p := ⟨gb166, _, none⟩) NB165_166.out _).trans (((cell_far (p := ⟨gb166, _, none⟩) NB165_166.out _).trans (hHeld.2.2))))))⟩ (fun hHeld => ?_)
          clear hK K
          refine done_ (by kernel_rfl) ?_
          try go_wp2
          refine bodyPost_ret (results_tc rfl _ _ gb166 39 #[.string x166000_1, .int .i64 x166001_1, .int .i64 x166002_1] (0, 0) _ rfl (by (with_reducible repeat (first | refine blk_drewN ?_ _ | refine blk_drew ?_ | refine blk_alloc ?_ _)); refine blk_put (cs := #[.string x166000_1, .int .i64 x166001_1, .int .i64 0]) ?_ 2 _ rfl; (with_reducible repeat (first | refine blk_drewN ?_ _ | refine blk_drew ?_ | refine blk_alloc ?_ _)); refine blk_put (cs := #[.string x166000_1, .int .i64 0, .int .i64 0]) ?_ 1 _ rfl; (with_reducible repeat (first | refine blk_drewN ?_ _ | refine blk_drew ?_ | refine blk_alloc ?_ _)); refine blk_put (cs := #[.string (⟨#[]⟩ : ByteArray), .int .i64 0, .int .i64 0]) ?_ 0 _ rfl; (with_reducible repeat (first | refine blk_drewN ?_ _ | refine blk_drew ?_ | refine blk_alloc ?_ _)); exact BK166.out) Try.underlying39 rfl (by kernel_rfl)) rfl ?_
          exact ⟨_, by first | rfl | (simp [errW_none, errW_some] <;> rfl) | (simp [*, errW_none, errW_some] <;> rfl), by (with_reducible repeat (first | apply Kd.R_alloc | apply Kd.R_drewN | apply Kd.R_drew)); exact Kd.R_mono (Kd.R_far (p := ⟨gb166, 2, none⟩) (Kd.R_far (p := ⟨gb166, 1, none⟩) (Kd.R_far (p := ⟨gb166, 0, none⟩) (Kd.R_types HO_6.out BK166.out (by decide)) (fun _ hk => hk.2) (.string x166000_1)) (fun _ hk => hk.2) (.int .i64 x166001_1)) (fun _ hk => hk.2) (.int .i64 x166002_1)) (fun _ hk => trivial), by repeat (first | (with_reducible first | exact HB.out | apply below_alloc | apply pw_below_drewN | apply below_drew1 | refine below_set ?_ GE165.out | refine below_set ?_ GE166.out) | exact HB.out)⟩
        · rw [if_neg c29] at H
          have c29b0 : (x166002_1 == 0) = false := beq_eq_false_iff_ne.mpr c29
          have c29b1 : (x166002_1 != 0) = true := bne_iff_ne.mpr c29
          obtain ⟨y184, hy184⟩ : ∃ y_ : List Int, y_ = (([] : List Int)) := ⟨_, rfl⟩
          replace H : (some (y184, x166000_1, x166001_1, x166002_1)) = some (r1, r2, r3, r4) := by first | (rw [hy184]; with_reducible exact H) | (have H2_ := (Option.bind_some _ _).symm.trans H; rw [hy184]; with_reducible exact H2_) | (have H2_ := (Option.bind_some _ _).symm.trans H; with_reducible exact H2_) | with_reducible exact H | (rw [hy184]; exact H) | exact H
          have Ny184 := Aside0.mk hy184
          clear hy184
          simp only [Option.some.injEq, Prod.mk.injEq] at H
          obtain ⟨rfl, rfl, rfl, rfl⟩ := H
          have hnb36 := NB165_166.out
          have hnc36 := NB166_165.out
          have hcz37_0 : wr.cell? ⟨gb165, 0, none⟩ = some (.string x166000_1) := (blk_cell BK165.out 0).trans rfl
          have hcz37_1 : wr.cell? ⟨gb165, 1, none⟩ = some (.int .i64 x166001_1) := (blk_cell BK165.out 1).trans rfl
          have hcz37_2 : wr.cell? ⟨gb165, 2, none⟩ = some (.int .i64 x166002_1) := (blk_cell BK165.out 2).trans rfl
          have hfz37_0 := blk_frozen BK165.out 0
          have hfz37_1 := blk_frozen BK165.out 1
          have hfz37_2 := blk_frozen BK165.out 2
          try go_wp2
          have n0_ := Aside0.mk (Kd.R_drew HO_6.out)
          have n1_ := Aside0.mk (blk_drew BK165.out)
          have n2_ := Aside0.mk (blk_drew BK166.out)
          have n3_ := Aside0.mk (below_drew1 HB.out)
          clear HO_6
          clear BK165
          clear BK166
          clear HB
          have HO_6 := n0_
          have BK165 := n1_
          have BK166 := n2_
          have HB := n3_
          clear n0_ n1_ n2_ n3_
          refine start_ (n := 4) (S := fun w' => w'.cell? ⟨gb165, 0, none⟩ = some (.string x166000_1) ∧ w'.cell? ⟨gb165, 1, none⟩ = some (.int .i64 x166001_1) ∧ w'.cell? ⟨gb165, 2, none⟩ = some (.int .i64 x166002_1)) (ds := []) #[false, false, false, false] (by kernel_rfl) rfl rfl ⟨(blk_cell BK165.out 0).trans rfl, (blk_cell BK165.out 1).trans rfl, (blk_cell BK165.out 2).trans rfl⟩ (fun hHeld => ?_)
          generalize wr.drew = w38 at HO_6 BK165 BK166 HB hHeld ⊢
          refine take_ (i := 1) (N := some 40) (v := ?_) (a' := ?_) #[false, true, false, false] rfl rfl (by kernel_rfl) (fun _ _ _ h => h) (Or.inl ⟨by rfl, ?_⟩) hHeld ?_ ?_
          rotate_left
          · rintro w' ⟨s0, s1, s2⟩
            go_simp
            with_reducible rfl
          rotate_left
          · simp only [Act.put, List.setIfInBounds_toArray, List.set_cons_zero, List.set_cons_succ, i64_w, i32_w]
            rfl
          refine one_ (i := 0) (N := some 39) #[true, true, false, false] rfl rfl (by kernel_rfl) (by decide) (fun K hK => ?_)
          refine Kd.R_lit_step (Kd.int .u64) _ 48 ?hg (N := 39) ?hd (xs := ([] : List Int)) (inner := []) (ok := fun _ => True) (okp := fun _ => True) ?hr ?hp (fun _ hk => hk) trivial (Below.refl _ _) (Nat.le_refl _) (by simp) ?_; (case hd => rfl); (case hg => rfl); (case hr => first | (go_simp; done) | (go_simp; rfl)); (case hp => exact (Reps.none _ _))
          intro v185 w39 ho40 hb hg_ hnew_
          clear hg_ hnew_
          (first | rw [← Ny184.out] at ho40 | (simp only [Int.reduceToNat] at ho40; rw [← Ny184.out] at ho40))
          have n0_ := Aside0.mk (Kd.R_elder' (by (with_reducible repeat (first | apply Kd.R_alloc | apply Kd.R_drewN | apply Kd.R_drew)); exact HO_6.out) (Kd.R_base ho40) hb)
          have n1_ := Aside0.mk (Kd.R_lower (Kd.R_new' ho40 (Kd.R_lt (by (with_reducible repeat (first | apply Kd.R_alloc | apply Kd.R_drewN | apply Kd.R_drew)); exact HO_6.out))) (below_size (by repeat (first | (with_reducible first | exact HB.out | apply below_alloc | apply pw_below_drewN | apply below_drew1 | refine below_set ?_ GE165.out | refine below_set ?_ GE166.out) | exact HB.out))))
          have n2_ := Aside0.mk (blk_below (g := gb165) (o := .cells #[.string x166000_1, .int .i64 x166001_1, .int .i64 x166002_1] 39 (0, 0)) (by (with_reducible repeat (first | refine blk_drewN ?_ _ | refine blk_drew ?_ | refine blk_alloc ?_ _)); exact BK165.out) hb)
          have n3_ := Aside0.mk (blk_below (g := gb166) (o := .cells #[.string (⟨#[]⟩ : ByteArray), .int .i64 0, .int .i64 0] 39 (0, 0)) (by (with_reducible repeat (first | refine blk_drewN ?_ _ | refine blk_drew ?_ | refine blk_alloc ?_ _)); exact BK166.out) hb)
          have n4_ := Aside0.mk (below_step (by repeat (first | (with_reducible first | exact HB.out | apply below_alloc | apply pw_below_drewN | apply below_drew1 | refine below_set ?_ GE165.out | refine below_set ?_ GE166.out) | exact HB.out)) hb)
          clear HO_6
          clear BK165
          clear BK166
          clear HB
          have HO_6 := n0_
          have HO186 := n1_
          have BK165 := n2_
          have BK166 := n3_
          have HB := n4_
          clear n0_ n1_ n2_ n3_ n4_
          clear hb ho40
          refine hK.out _ _ ⟨(blk_cell BK165.out 0).trans rfl, (blk_cell BK165.out 1).trans rfl, (blk_cell BK165.out 2).trans rfl⟩ (fun hHeld => ?_)
          clear hK K
          refine norm_ (a' := ?_) ?_ ?_
          rotate_left
          · show Act.put _ (some 39) _ = _
            simp only [Act.put, List.setIfInBounds_toArray, List.set_cons_zero, List.set_cons_succ, i64_w, i32_w]
            rfl
          refine pure_ (i := 2) (N := some 4) (v := ?_) (a' := ?_) #[true, true, true, false] rfl rfl (by kernel_rfl) (fun _ _ _ h => h) (Or.inl ⟨by rfl, ?_⟩) ?_ ?_
          rotate_left
          · intro w'
            go_simp
            with_reducible rfl
          rotate_left
          · simp only [Act.put, List.setIfInBounds_toArray, List.set_cons_zero, List.set_cons_succ, i64_w, i32_w]
            rfl
          refine one_ (i := 3) (N := none) #[true, true, true, true] rfl rfl (by kernel_rfl) (by decide) (fun K hK => ?_)
          have hs41 : w39.cell? ⟨gb166, 0, none⟩ = some (.string (⟨#[]⟩ : ByteArray)) := (blk_cell BK166.out 0).trans rfl
          have hfs41 := blk_frozen BK166.out 0
          have hns41_0 := NB165_166.out
          have hms41_0 := NB166_165.out
          have hs42 : w39.cell? ⟨gb166, 1, none⟩ = some (.int .i64 0) := (blk_cell BK166.out 1).trans rfl
          have hfs42 := blk_frozen BK166.out 1
          have hns42_0 := NB165_166.out
          have hms42_0 := NB166_165.out
          have hs43 : w39.cell? ⟨gb166, 2, none⟩ = some (.int .i64 0) := (blk_cell BK166.out 2).trans rfl
          have hfs43 := blk_frozen BK166.out 2
          have hns43_0 := NB165_166.out
          have hms43_0 := NB166_165.out
          refine skip_ (w1 := ?_) (by rfl) rfl ?_ ?_
          rotate_left
          · go_simp
            rfl
          refine hK.out _ _ ⟨((cell_far (p := ⟨gb166, _, none⟩) NB165_166.out _).trans (((cell_far (p := ⟨gb166, _, none⟩) NB165_166.out _).trans (((cell_far (p := ⟨gb166, _, none⟩) NB165_166.out _).trans (hHeld.1)))))), ((cell_far (p := ⟨gb166, _, none⟩) NB165_166.out _).trans (((cell_far (p := ⟨gb166, _, none⟩) NB165_166.out _).trans (((cell_far (p := ⟨gb166, _, none⟩) NB165_166.out _).trans (hHeld.2.1)))))), ((cell_far (p := ⟨gb166, _, none⟩) NB165_166.out _).trans (((cell_far (p := ⟨gb166, _, none⟩) NB165_166.out _).trans (((cell_far (p := ⟨gb166, _, none⟩) NB165_166.out _).trans (hHeld.2.2))))))⟩ (fun hHeld => ?_)
          clear hK K
          refine done_ (by kernel_rfl) ?_
          try go_wp2
          refine bodyPost_ret (results_tc rfl _ _ gb166 39 #[.string x166000_1, .int .i64 x166001_1, .int .i64 x166002_1] (0, 0) _ rfl (by (with_reducible repeat (first | refine blk_drewN ?_ _ | refine blk_drew ?_ | refine blk_alloc ?_ _)); refine blk_put (cs := #[.string x166000_1, .int .i64 x166001_1, .int .i64 0]) ?_ 2 _ rfl; (with_reducible repeat (first | refine blk_drewN ?_ _ | refine blk_drew ?_ | refine blk_alloc ?_ _)); refine blk_put (cs := #[.string x166000_1, .int .i64 0, .int .i64 0]) ?_ 1 _ rfl; (with_reducible repeat (first | refine blk_drewN ?_ _ | refine blk_drew ?_ | refine blk_alloc ?_ _)); refine blk_put (cs := #[.string (⟨#[]⟩ : ByteArray), .int .i64 0, .int .i64 0]) ?_ 0 _ rfl; (with_reducible repeat (first | refine blk_drewN ?_ _ | refine blk_drew ?_ | refine blk_alloc ?_ _)); exact BK166.out) Try.underlying39 rfl (by kernel_rfl)) rfl ?_
          exact ⟨_, by first | rfl | (simp [errW_none, errW_some] <;> rfl) | (simp [*, errW_none, errW_some] <;> rfl), by (with_reducible repeat (first | apply Kd.R_alloc | apply Kd.R_drewN | apply Kd.R_drew)); exact Kd.R_mono (Kd.R_far (p := ⟨gb166, 2, none⟩) (Kd.R_far (p := ⟨gb166, 1, none⟩) (Kd.R_far (p := ⟨gb166, 0, none⟩) (Kd.R_types HO186.out BK166.out (by decide)) (fun _ hk => hk.2) (.string x166000_1)) (fun _ hk => hk.2) (.int .i64 x166001_1)) (fun _ hk => hk.2) (.int .i64 x166002_1)) (fun _ hk => trivial), by repeat (first | (with_reducible first | exact HB.out | apply below_alloc | apply pw_below_drewN | apply below_drew1 | refine below_set ?_ GE165.out | refine below_set ?_ GE166.out) | exact HB.out)⟩

/-! ### tephraref04_Cursor_Texts: function 72 -/
def tephraref04_Cursor_Texts.l0 : Nat → Int → List ByteArray → Int → Int → ByteArray → Int → Int → Option (List ByteArray × ByteArray × Int × Int)
  | 0, _, _, _, _, _, _, _ => none
  | k + 1, x2, x8, x9, x10, x188000, x188001, x188002 => if x10 < x9 then (if x188002 = 0 then ((tephraref04_Cursor_Text.f k x188000 x188001 x188002 x2).bind fun bt196 => (if x8.length < 8796093022208 then (tephraref04_Cursor_Texts.l0 k x2 (x8 ++ [bt196.1]) x9 (wrap64 (x10 + 1)) bt196.2.1 bt196.2.2.1 bt196.2.2.2) else (none))) else (some ((([] : List ByteArray)), x188000, x188001, x188002))) else (if x188002 = 0 then (some (x8, x188000, x188001, x188002)) else (some ((([] : List ByteArray)), x188000, x188001, x188002)))
def tephraref04_Cursor_Texts.f (k : Nat) (a0_0 : ByteArray) (a0_1 : Int) (a0_2 : Int) (a1 : Int) (a2 : Int) : Option (List ByteArray × ByteArray × Int × Int) := (tephraref04_Cursor_count.f k a0_0 a0_1 a0_2 a1).bind fun bt192 => (tephraref04_Cursor_Texts.l0 k a2 (([] : List ByteArray)) bt192.1 0 bt192.2.1 bt192.2.2.1 bt192.2.2.2)
theorem tephraref04_Cursor_Texts.mono_l : ∀ k, (∀ y0 y1 y2 y3 y4 y5 y6, LeO (tephraref04_Cursor_Texts.l0 k y0 y1 y2 y3 y4 y5 y6) (tephraref04_Cursor_Texts.l0 (k + 1) y0 y1 y2 y3 y4 y5 y6))
  | 0 => fun _ _ _ _ _ _ _ r h => by simp [tephraref04_Cursor_Texts.l0] at h
  | k + 1 => by
    have ih0 := tephraref04_Cursor_Texts.mono_l k
    · intro y0 y1 y2 y3 y4 y5 y6
      unfold tephraref04_Cursor_Texts.l0
      repeat' first
      | (with_reducible exact ih0 _ _ _ _ _ _ _)
      | (with_reducible exact tephraref04_Cursor_Text.mono _ _ _ _ _)
      | (with_reducible exact tephraref04_Cursor_count.mono _ _ _ _ _)
      | (with_reducible exact LeO.refl _)
      | (with_reducible exact LeO.none _)
      | (with_reducible refine LeO.ite ?_ ?_)
      | (with_reducible refine LeO.bind ?_ (fun _ => ?_))
      | exact ih0 _ _ _ _ _ _ _
      | exact tephraref04_Cursor_Text.mono _ _ _ _ _
      | exact tephraref04_Cursor_count.mono _ _ _ _ _
      | exact LeO.none _
      | refine LeO.ite ?_ ?_
      | refine LeO.bind ?_ (fun _ => ?_)
theorem tephraref04_Cursor_Texts.mono : ∀ a0 a1 a2 a3 a4 k, LeO (tephraref04_Cursor_Texts.f k a0 a1 a2 a3 a4) (tephraref04_Cursor_Texts.f (k + 1) a0 a1 a2 a3 a4) := by
  intro a0 a1 a2 a3 a4 k
  have ih0 := tephraref04_Cursor_Texts.mono_l k
  unfold tephraref04_Cursor_Texts.f
  repeat' first
      | (with_reducible exact ih0 _ _ _ _ _ _ _)
      | (with_reducible exact tephraref04_Cursor_Text.mono _ _ _ _ _)
      | (with_reducible exact tephraref04_Cursor_count.mono _ _ _ _ _)
      | (with_reducible exact LeO.refl _)
      | (with_reducible exact LeO.none _)
      | (with_reducible refine LeO.ite ?_ ?_)
      | (with_reducible refine LeO.bind ?_ (fun _ => ?_))
      | exact ih0 _ _ _ _ _ _ _
      | exact tephraref04_Cursor_Text.mono _ _ _ _ _
      | exact tephraref04_Cursor_count.mono _ _ _ _ _
      | exact LeO.none _
      | refine LeO.ite ?_ ?_
      | refine LeO.bind ?_ (fun _ => ?_)
set_option maxHeartbeats 8000000 in
set_option maxRecDepth 100000 in
theorem tephraref04_Cursor_Texts.calls (k : Nat) (a0_0 : ByteArray) (a0_1 : Int) (a0_2 : Int) (a1 : Int) (a2 : Int) (r1 : List ByteArray) (r2 : ByteArray) (r3 : Int) (r4 : Int) (w : World) (h : tephraref04_Cursor_Texts.f k a0_0 a0_1 a0_2 a1 a2 = some (r1, r2, r3, r4)) :
    Calls Try.prog 72 #[.agg #[.string a0_0, .int .i64 a0_1, .int .i64 a0_2], .int .i64 a1, .int .i64 a2] w fun e w' => ∃ v0_ : Value, e = .returned (.tuple #[v0_, .agg #[.string r2, .int .i64 r3, .int .i64 r4]]) ∧ Kd.R Kd.string 9 w' w.heap.size (fun _ => True) v0_ r1 ∧ Below w.heap.size w w' := by
  have hu39 := Try.underlying39
  have HB := Aside0.mk (Below.refl w.heap.size w)
  have H : ((tephraref04_Cursor_count.f k a0_0 a0_1 a0_2 a1).bind fun bt192 => (tephraref04_Cursor_Texts.l0 k a2 (([] : List ByteArray)) bt192.1 0 bt192.2.1 bt192.2.2.1 bt192.2.2.2)) = some (r1, r2, r3, r4) := h
  clear h
  obtain ⟨y189, hy189⟩ : ∃ y_ : List ByteArray, y_ = (([] : List ByteArray)) := ⟨_, rfl⟩
  replace H : ((tephraref04_Cursor_count.f k a0_0 a0_1 a0_2 a1).bind fun bt192 => (tephraref04_Cursor_Texts.l0 k a2 y189 bt192.1 0 bt192.2.1 bt192.2.2.1 bt192.2.2.2)) = some (r1, r2, r3, r4) := by first | (rw [hy189]; with_reducible exact H) | (have H2_ := (Option.bind_some _ _).symm.trans H; rw [hy189]; with_reducible exact H2_) | (have H2_ := (Option.bind_some _ _).symm.trans H; with_reducible exact H2_) | with_reducible exact H | (rw [hy189]; exact H) | exact H
  have Ny189 := Aside0.mk hy189
  clear hy189
  replace H := Option.bind_eq_some_iff.mp H
  obtain ⟨⟨t192, t193, t194, t195⟩, A40, H⟩ := H
  replace H : (tephraref04_Cursor_Texts.l0 k a2 y189 t192 0 t193 t194 t195) = some (r1, r2, r3, r4) := H
  have A4 := Aside0.mk A40
  clear A40
  have H' := Aside0.mk H
  clear H
  go_enter Try.func72, Try.ntmps72
  go_wp2_with (first | ((with_reducible refine gate_dst (N := 3) rfl ?_); refine box_event ?hg (N := 3) ?hd (cs := #[.string a0_0, .int .i64 a0_1, .int .i64 a0_2]) (t := 39) ?hr ?_; (case hd => rfl); (case hg => rfl); (case hr => first | (go_simp; done) | (go_simp; rfl)); intro gb187 hg w5 hbox hb; have n0_ := Aside0.mk (below_step (by repeat (first | (with_reducible first | exact HB.out | apply below_alloc | apply pw_below_drewN | apply below_drew1) | exact HB.out)) hb); have n1_ := Aside0.mk (hbox); have n2_ := Aside0.mk ((by rw [hg]; exact (below_size (by repeat (first | (with_reducible first | exact HB.out | apply below_alloc | apply pw_below_drewN | apply below_drew1) | exact HB.out))) : w.heap.size ≤ gb187)); have n3_ := Aside0.mk ((by rw [hg]; exact (below_size (by repeat (first | (with_reducible first | exact HB.out | apply below_alloc | apply pw_below_drewN | apply below_drew1) | exact HB.out))) : w.heap.size ≤ gb187)); clear HB; have HB := n0_; have BK187 := n1_; have GW187 := n2_; have GE187 := n3_; clear n0_ n1_ n2_ n3_; clear hb hbox hg) | ((with_reducible refine gate_dst (N := 7) rfl ?_); refine box_event ?hg (N := 7) ?hd (cs := #[.string (⟨#[]⟩ : ByteArray), .int .i64 0, .int .i64 0]) (t := 39) ?hr ?_; (case hd => rfl); (case hg => rfl); (case hr => first | (go_simp; done) | (go_simp; rfl)); intro gb188 hg w6 hbox hb; have n0_ := Aside0.mk (blk_below (g := gb187) (o := .cells #[.string a0_0, .int .i64 a0_1, .int .i64 a0_2] 39 (0, 0)) (by (with_reducible repeat (first | refine blk_drewN ?_ _ | refine blk_drew ?_ | refine blk_alloc ?_ _)); exact BK187.out) hb); have n1_ := Aside0.mk (below_step (by repeat (first | (with_reducible first | exact HB.out | apply below_alloc | apply pw_below_drewN | apply below_drew1 | refine below_set ?_ GE187.out) | exact HB.out)) hb); have n2_ := Aside0.mk (hbox); have n3_ := Aside0.mk ((by rw [hg]; exact (below_size (by repeat (first | (with_reducible first | exact HB.out | apply below_alloc | apply pw_below_drewN | apply below_drew1 | refine below_set ?_ GE187.out) | exact HB.out))) : w.heap.size ≤ gb188)); have n4_ := Aside0.mk ((by rw [hg]; exact (below_size (by repeat (first | (with_reducible first | exact HB.out | apply below_alloc | apply pw_below_drewN | apply below_drew1 | refine below_set ?_ GE187.out) | exact HB.out))) : w.heap.size ≤ gb188)); have n5_ := Aside0.mk ((by rw [hg]; exact Nat.ne_of_lt (blk_lt (g := gb187) (o := .cells #[.string a0_0, .int .i64 a0_1, .int .i64 a0_2] 39 (0, 0)) (by (with_reducible repeat (first | refine blk_drewN ?_ _ | refine blk_drew ?_ | refine blk_alloc ?_ _)); exact BK187.out)) : gb187 ≠ gb188)); have n6_ := Aside0.mk ((by rw [hg]; exact Nat.ne_of_gt (blk_lt (g := gb187) (o := .cells #[.string a0_0, .int .i64 a0_1, .int .i64 a0_2] 39 (0, 0)) (by (with_reducible repeat (first | refine blk_drewN ?_ _ | refine blk_drew ?_ | refine blk_alloc ?_ _)); exact BK187.out)) : gb188 ≠ gb187)); clear BK187; clear HB; have BK187 := n0_; have HB := n1_; have BK188 := n2_; have GW188 := n3_; have GE188 := n4_; have NB187_188 := n5_; have NB188_187 := n6_; clear n0_ n1_ n2_ n3_ n4_ n5_ n6_; clear hb hbox hg) | ((with_reducible refine gate_dst (N := 12) rfl ?_); refine Kd.R_lit Kd.string _ 9 ?hg (N := 12) ?hd (xs := ([] : List ByteArray)) (inner := []) (ok := fun _ => True) (okp := fun _ => True) ?hr ?hp (fun _ hk => hk) trivial (Below.refl _ _) (Nat.le_refl _) (by simp) ?_; (case hd => rfl); (case hg => rfl); (case hr => first | (go_simp; done) | (go_simp; rfl)); (case hp => exact (Reps.none _ _)); intro v190 w7 ho8 hb hg_ hnew_; clear hg_ hnew_; (first | rw [← Ny189.out] at ho8 | (simp only [Int.reduceToNat] at ho8; rw [← Ny189.out] at ho8)); have n0_ := Aside0.mk (Kd.R_lower ho8 (below_size (by repeat (first | (with_reducible first | exact HB.out | apply below_alloc | apply pw_below_drewN | apply below_drew1 | refine below_set ?_ GE187.out | refine below_set ?_ GE188.out) | exact HB.out)))); have n1_ := Aside0.mk (blk_below (g := gb187) (o := .cells #[.string a0_0, .int .i64 a0_1, .int .i64 a0_2] 39 (0, 0)) (by (with_reducible repeat (first | refine blk_drewN ?_ _ | refine blk_drew ?_ | refine blk_alloc ?_ _)); exact BK187.out) hb); have n2_ := Aside0.mk (blk_below (g := gb188) (o := .cells #[.string (⟨#[]⟩ : ByteArray), .int .i64 0, .int .i64 0] 39 (0, 0)) (by (with_reducible repeat (first | refine blk_drewN ?_ _ | refine blk_drew ?_ | refine blk_alloc ?_ _)); exact BK188.out) hb); have n3_ := Aside0.mk (below_step (by repeat (first | (with_reducible first | exact HB.out | apply below_alloc | apply pw_below_drewN | apply below_drew1 | refine below_set ?_ GE187.out | refine below_set ?_ GE188.out) | exact HB.out)) hb); clear BK187; clear BK188; clear HB; have HO191 := n0_; have BK187 := n1_; have BK188 := n2_; have HB := n3_; clear n0_ n1_ n2_ n3_; clear hb ho8; have hnb9 := NB187_188.out; have hnc9 := NB188_187.out; have hcz10_0 : w7.cell? ⟨gb187, 0, none⟩ = some (.string a0_0) := (blk_cell BK187.out 0).trans rfl; have hcz10_1 : w7.cell? ⟨gb187, 1, none⟩ = some (.int .i64 a0_1) := (blk_cell BK187.out 1).trans rfl; have hcz10_2 : w7.cell? ⟨gb187, 2, none⟩ = some (.int .i64 a0_2) := (blk_cell BK187.out 2).trans rfl; have hfz10_0 := blk_frozen BK187.out 0; have hfz10_1 := blk_frozen BK187.out 1; have hfz10_2 := blk_frozen BK187.out 2) | ((with_reducible refine gate_callee (f := 94) rfl ?_); refine goesL_ (some 16) rfl rfl Try.func94 (by kernel_rfl) rfl #[.agg #[.string a0_0, .int .i64 a0_1, .int .i64 a0_2], .int .i64 a1] rfl (by (try simp only [List.map_toArray, List.map_cons, List.map_nil]); first | done | rfl | (simp only [List.length_drop, List.length_take]; rfl)) ?_; (with_reducible refine (tephraref04_Cursor_count.calls k a0_0 a0_1 a0_2 a1 t192 t193 t194 t195 _ A4.out).mono ?_); rintro e w11 ⟨rfl, hb⟩; refine ⟨_, rfl, ?_⟩; have n0_ := Aside0.mk (Kd.R_below (by (with_reducible repeat (first | apply Kd.R_alloc | apply Kd.R_drewN | apply Kd.R_drew)); exact HO191.out) hb); have n1_ := Aside0.mk (blk_below (g := gb187) (o := .cells #[.string a0_0, .int .i64 a0_1, .int .i64 a0_2] 39 (0, 0)) (by (with_reducible repeat (first | refine blk_drewN ?_ _ | refine blk_drew ?_ | refine blk_alloc ?_ _)); exact BK187.out) hb); have n2_ := Aside0.mk (blk_below (g := gb188) (o := .cells #[.string (⟨#[]⟩ : ByteArray), .int .i64 0, .int .i64 0] 39 (0, 0)) (by (with_reducible repeat (first | refine blk_drewN ?_ _ | refine blk_drew ?_ | refine blk_alloc ?_ _)); exact BK188.out) hb); have n3_ := Aside0.mk (below_step (by repeat (first | (with_reducible first | exact HB.out | apply below_alloc | apply pw_below_drewN | apply below_drew1 | refine below_set ?_ GE187.out | refine below_set ?_ GE188.out) | exact HB.out)) hb); clear HO191; clear BK187; clear BK188; clear HB; have HO191 := n0_; have BK187 := n1_; have BK188 := n2_; have HB := n3_; clear n0_ n1_ n2_ n3_; (try clear hb); (try clear hb2); (try clear hk); (try clear hi); have hcz12_0 : w11.cell? ⟨gb187, 0, none⟩ = some (.string a0_0) := (blk_cell BK187.out 0).trans rfl; have hcz12_1 : w11.cell? ⟨gb187, 1, none⟩ = some (.int .i64 a0_1) := (blk_cell BK187.out 1).trans rfl; have hcz12_2 : w11.cell? ⟨gb187, 2, none⟩ = some (.int .i64 a0_2) := (blk_cell BK187.out 2).trans rfl; have hfz12_0 := blk_frozen BK187.out 0; have hfz12_1 := blk_frozen BK187.out 1; have hfz12_2 := blk_frozen BK187.out 2))
  go_loopg [8, 10] k (fun kq v8 v10 w' => ∃ (x8_1 : List ByteArray) (x10_1 : Int) (x188000_1 : ByteArray) (x188001_1 : Int) (x188002_1 : Int), v10 = .int .i64 x10_1 ∧ Aside0 (tephraref04_Cursor_Texts.l0 kq a2 x8_1 t192 x10_1 x188000_1 x188001_1 x188002_1 = some (r1, r2, r3, r4)) ∧ Aside0 (kq ≤ k) ∧ Aside0 (Kd.R Kd.string 9 w' w.heap.size (fun _ => True) v8 x8_1) ∧ Aside0 (w'.heap[gb187]? = some (.cells #[.string x188000_1, .int .i64 x188001_1, .int .i64 x188002_1] 39 (0, 0))) ∧ Aside0 (w'.heap[gb188]? = some (.cells #[.string (⟨#[]⟩ : ByteArray), .int .i64 0, .int .i64 0] 39 (0, 0))) ∧ Aside0 (Below w.heap.size w w'))
  case atStart => exact ⟨(y189), (0), (t193), (t194), (t195), (by first | rfl | (simp; done) | (simp [*]; done) | (simp; rw [Bool.eq_iff_iff]; simp; done)), H', ⟨Nat.le_refl _⟩, ⟨by (with_reducible repeat (first | apply Kd.R_alloc | apply Kd.R_drewN | apply Kd.R_drew)); exact Kd.R_mono (Kd.R_far (p := ⟨gb187, 2, none⟩) (Kd.R_far (p := ⟨gb187, 1, none⟩) (Kd.R_far (p := ⟨gb187, 0, none⟩) (Kd.R_types HO191.out BK187.out (by decide)) (fun _ hk => hk.2) (.string t193)) (fun _ hk => hk.2) (.int .i64 t194)) (fun _ hk => hk.2) (.int .i64 t195)) (fun _ hk => trivial)⟩, ⟨by (with_reducible repeat (first | refine blk_drewN ?_ _ | refine blk_drew ?_ | refine blk_alloc ?_ _)); refine blk_put (cs := #[.string t193, .int .i64 t194, .int .i64 a0_2]) ?_ 2 _ rfl; (with_reducible repeat (first | refine blk_drewN ?_ _ | refine blk_drew ?_ | refine blk_alloc ?_ _)); refine blk_put (cs := #[.string t193, .int .i64 a0_1, .int .i64 a0_2]) ?_ 1 _ rfl; (with_reducible repeat (first | refine blk_drewN ?_ _ | refine blk_drew ?_ | refine blk_alloc ?_ _)); refine blk_put (cs := #[.string a0_0, .int .i64 a0_1, .int .i64 a0_2]) ?_ 0 _ rfl; (with_reducible repeat (first | refine blk_drewN ?_ _ | refine blk_drew ?_ | refine blk_alloc ?_ _)); exact BK187.out⟩, ⟨by (with_reducible repeat (first | refine blk_drewN ?_ _ | refine blk_drew ?_ | refine blk_alloc ?_ _)); refine blk_far ?_ NB188_187.out _; (with_reducible repeat (first | refine blk_drewN ?_ _ | refine blk_drew ?_ | refine blk_alloc ?_ _)); refine blk_far ?_ NB188_187.out _; (with_reducible repeat (first | refine blk_drewN ?_ _ | refine blk_drew ?_ | refine blk_alloc ?_ _)); refine blk_far ?_ NB188_187.out _; (with_reducible repeat (first | refine blk_drewN ?_ _ | refine blk_drew ?_ | refine blk_alloc ?_ _)); exact BK188.out⟩, ⟨by repeat (first | (with_reducible first | exact HB.out | apply below_alloc | apply pw_below_drewN | apply below_drew1 | refine below_set ?_ GE187.out | refine below_set ?_ GE188.out) | exact HB.out)⟩⟩
  case round =>
    clear H'
    try clear p2
    try clear c7
    try clear c9
    try clear hcz10_0
    try clear hcz10_1
    try clear hcz10_2
    try clear hcz12_0
    try clear hcz12_1
    try clear hcz12_2
    try clear hfz10_0
    try clear hfz10_1
    try clear hfz10_2
    try clear hfz12_0
    try clear hfz12_1
    try clear hfz12_2
    obtain ⟨x8_1, x10_1, x188000_1, x188001_1, x188002_1, rfl, HA, HK1, HO_8, BK187, BK188, HB⟩ := hrel
    cases gk with
    | zero => exact absurd HA.out (by simp [tephraref04_Cursor_Texts.l0])
    | succ k1 =>
      have H := HA.out
      clear HA
      simp only [tephraref04_Cursor_Texts.l0] at H
      by_cases c13 : x10_1 < t192
      · rw [if_pos c13] at H
        have c13b0 : decide (x10_1 < t192) = true := decide_eq_true c13
        clear c13
        by_cases c14 : x188002_1 = 0
        · rw [if_pos c14] at H
          have c14b0 : (x188002_1 == 0) = true := beq_iff_eq.mpr c14
          have c14b1 : (x188002_1 != 0) = false := bne_eq_false_iff_eq.mpr c14
          clear c14
          replace H := Option.bind_eq_some_iff.mp H
          obtain ⟨⟨t196, t197, t198, t199⟩, A150, H⟩ := H
          replace H : (if x8_1.length < 8796093022208 then (tephraref04_Cursor_Texts.l0 k1 a2 (x8_1 ++ [t196]) t192 (wrap64 (x10_1 + 1)) t197 t198 t199) else (none)) = some (r1, r2, r3, r4) := H
          have A15 := Aside0.mk A150
          clear A150
          by_cases c16 : x8_1.length < 8796093022208
          · rw [if_pos c16] at H
            have LMc16 := Aside0.mk c16
            clear c16
            obtain ⟨y200, hy200⟩ : ∃ y_ : List ByteArray, y_ = (x8_1 ++ [t196]) := ⟨_, rfl⟩
            replace H : (tephraref04_Cursor_Texts.l0 k1 a2 y200 t192 (wrap64 (x10_1 + 1)) t197 t198 t199) = some (r1, r2, r3, r4) := by first | (rw [hy200]; with_reducible exact H) | (have H2_ := (Option.bind_some _ _).symm.trans H; rw [hy200]; with_reducible exact H2_) | (have H2_ := (Option.bind_some _ _).symm.trans H; with_reducible exact H2_) | with_reducible exact H | (rw [hy200]; exact H) | exact H
            have Ny200 := Aside0.mk hy200
            clear hy200
            have H' := Aside0.mk H
            clear H
            have hnb17 := NB187_188.out
            have hnc17 := NB188_187.out
            have hcz18_0 : wr.cell? ⟨gb187, 0, none⟩ = some (.string x188000_1) := (blk_cell BK187.out 0).trans rfl
            have hcz18_1 : wr.cell? ⟨gb187, 1, none⟩ = some (.int .i64 x188001_1) := (blk_cell BK187.out 1).trans rfl
            have hcz18_2 : wr.cell? ⟨gb187, 2, none⟩ = some (.int .i64 x188002_1) := (blk_cell BK187.out 2).trans rfl
            have hfz18_0 := blk_frozen BK187.out 0
            have hfz18_1 := blk_frozen BK187.out 1
            have hfz18_2 := blk_frozen BK187.out 2
            go_wp2_with (first | ((with_reducible refine gate_callee (f := 70) rfl ?_); refine goesL_ (some 32) rfl rfl Try.func70 (by kernel_rfl) rfl #[.agg #[.string x188000_1, .int .i64 x188001_1, .int .i64 x188002_1], .int .i64 a2] rfl (by (try simp only [List.map_toArray, List.map_cons, List.map_nil]); first | done | rfl | (simp only [List.length_drop, List.length_take]; rfl)) ?_; (with_reducible refine (tephraref04_Cursor_Text.calls k1 x188000_1 x188001_1 x188002_1 a2 t196 t197 t198 t199 _ A15.out).mono ?_); rintro e w19 ⟨rfl, hb⟩; refine ⟨_, rfl, ?_⟩; have n0_ := Aside0.mk (Kd.R_below (by (with_reducible repeat (first | apply Kd.R_alloc | apply Kd.R_drewN | apply Kd.R_drew)); exact HO_8.out) hb); have n1_ := Aside0.mk (blk_below (g := gb187) (o := .cells #[.string x188000_1, .int .i64 x188001_1, .int .i64 x188002_1] 39 (0, 0)) (by (with_reducible repeat (first | refine blk_drewN ?_ _ | refine blk_drew ?_ | refine blk_alloc ?_ _)); exact BK187.out) hb); have n2_ := Aside0.mk (blk_below (g := gb188) (o := .cells #[.string (⟨#[]⟩ : ByteArray), .int .i64 0, .int .i64 0] 39 (0, 0)) (by (with_reducible repeat (first | refine blk_drewN ?_ _ | refine blk_drew ?_ | refine blk_alloc ?_ _)); exact BK188.out) hb); have n3_ := Aside0.mk (below_step (by repeat (first | (with_reducible first | exact HB.out | apply below_alloc | apply pw_below_drewN | apply below_drew1 | refine below_set ?_ GE187.out | refine below_set ?_ GE188.out) | exact HB.out)) hb); clear HO_8; clear BK187; clear BK188; clear HB; have HO_8 := n0_; have BK187 := n1_; have BK188 := n2_; have HB := n3_; clear n0_ n1_ n2_ n3_; (try clear hb); (try clear hb2); (try clear hk); (try clear hi); have hcz20_0 : w19.cell? ⟨gb187, 0, none⟩ = some (.string x188000_1) := (blk_cell BK187.out 0).trans rfl; have hcz20_1 : w19.cell? ⟨gb187, 1, none⟩ = some (.int .i64 x188001_1) := (blk_cell BK187.out 1).trans rfl; have hcz20_2 : w19.cell? ⟨gb187, 2, none⟩ = some (.int .i64 x188002_1) := (blk_cell BK187.out 2).trans rfl; have hfz20_0 := blk_frozen BK187.out 0; have hfz20_1 := blk_frozen BK187.out 1; have hfz20_2 := blk_frozen BK187.out 2) | ((with_reducible refine gate_builtin (b := .append) (xs := #[.tmp 35, .tmp 37]) rfl ?_); at_builtin; refine Kd.R_append Kd.string (w0 := w) w.heap.size rfl (.tmp 35) (.tmp 37) 22 9 (.string ⟨#[]⟩) 16 rfl Try.underlying22 info9 rfl (by decide) (by omega) u8 x8_1 t196 [.string t196] (fun _ => True) (fun _ => False) rfl (by first | (go_simp; done) | (go_simp; rfl)) ?aP (fun _ hk => hk.elim) ?aF ?aO ?aB ?aS ?aL ?_; (case aP => exact rfl); (case aB => exact (by repeat (first | (with_reducible first | exact HB.out | apply below_alloc | apply pw_below_drewN | apply below_drew1 | refine below_set ?_ GE187.out | refine below_set ?_ GE188.out) | exact HB.out))); (case aF => exact (fun _ _ => trivial)); (case aO => exact (by (with_reducible repeat (first | apply Kd.R_alloc | apply Kd.R_drewN | apply Kd.R_drew)); exact Kd.R_mono (Kd.R_far (p := ⟨gb187, 2, none⟩) (Kd.R_far (p := ⟨gb187, 1, none⟩) (Kd.R_far (p := ⟨gb187, 0, none⟩) (Kd.R_types HO_8.out BK187.out (by decide)) (fun _ hk => hk.2) (.string t197)) (fun _ hk => hk.2) (.int .i64 t198)) (fun _ hk => hk.2) (.int .i64 t199)) (fun _ hk => trivial))); (case aS => exact (below_size (by repeat (first | (with_reducible first | exact HB.out | apply below_alloc | apply pw_below_drewN | apply below_drew1 | refine below_set ?_ GE187.out | refine below_set ?_ GE188.out) | exact HB.out)))); (case aL => have := LMc16.out; omega); intro v201 w21 ho hb hg hat; rw [← Ny200.out] at ho; have n0_ := Aside0.mk (blk_grown (g := gb187) (o := .cells #[.string t197, .int .i64 t198, .int .i64 t199] 39 (0, 0)) (by (with_reducible repeat (first | refine blk_drewN ?_ _ | refine blk_drew ?_ | refine blk_alloc ?_ _)); refine blk_put (cs := #[.string t197, .int .i64 t198, .int .i64 x188002_1]) ?_ 2 _ rfl; (with_reducible repeat (first | refine blk_drewN ?_ _ | refine blk_drew ?_ | refine blk_alloc ?_ _)); refine blk_put (cs := #[.string t197, .int .i64 x188001_1, .int .i64 x188002_1]) ?_ 1 _ rfl; (with_reducible repeat (first | refine blk_drewN ?_ _ | refine blk_drew ?_ | refine blk_alloc ?_ _)); refine blk_put (cs := #[.string x188000_1, .int .i64 x188001_1, .int .i64 x188002_1]) ?_ 0 _ rfl; (with_reducible repeat (first | refine blk_drewN ?_ _ | refine blk_drew ?_ | refine blk_alloc ?_ _)); exact BK187.out) hg (Kd.R_ne HO_8.out BK187.out (by decide))); have n1_ := Aside0.mk (blk_grown (g := gb188) (o := .cells #[.string (⟨#[]⟩ : ByteArray), .int .i64 0, .int .i64 0] 39 (0, 0)) (by (with_reducible repeat (first | refine blk_drewN ?_ _ | refine blk_drew ?_ | refine blk_alloc ?_ _)); refine blk_far ?_ NB188_187.out _; (with_reducible repeat (first | refine blk_drewN ?_ _ | refine blk_drew ?_ | refine blk_alloc ?_ _)); refine blk_far ?_ NB188_187.out _; (with_reducible repeat (first | refine blk_drewN ?_ _ | refine blk_drew ?_ | refine blk_alloc ?_ _)); refine blk_far ?_ NB188_187.out _; (with_reducible repeat (first | refine blk_drewN ?_ _ | refine blk_drew ?_ | refine blk_alloc ?_ _)); exact BK188.out) hg (Kd.R_ne HO_8.out BK188.out (by decide))); have n2_ := Aside0.mk (hb); have n3_ := Aside0.mk (ho); clear BK187; clear BK188; clear HB; clear HO_8; have BK187 := n0_; have BK188 := n1_; have HB := n2_; have HO202 := n3_; clear n0_ n1_ n2_ n3_; clear ho hb hg hat))
            go_roundg k1
            case measure => have := HK1.out; omega
            case rel => exact ⟨(y200), (wrap64 (x10_1 + 1)), (t197), (t198), (t199), (by first | rfl | (simp; done) | (simp [*]; done) | (simp; rw [Bool.eq_iff_iff]; simp; done)), H', ⟨by have := HK1.out; omega⟩, ⟨by (with_reducible repeat (first | apply Kd.R_alloc | apply Kd.R_drewN | apply Kd.R_drew)); exact HO202.out⟩, ⟨by (with_reducible repeat (first | refine blk_drewN ?_ _ | refine blk_drew ?_ | refine blk_alloc ?_ _)); exact BK187.out⟩, ⟨by (with_reducible repeat (first | refine blk_drewN ?_ _ | refine blk_drew ?_ | refine blk_alloc ?_ _)); exact BK188.out⟩, ⟨by repeat (first | (with_reducible first | exact HB.out | apply below_alloc | apply pw_below_drewN | apply below_drew1 | refine below_set ?_ GE187.out | refine below_set ?_ GE188.out) | exact HB.out)⟩⟩
          · rw [if_neg c16] at H
            exact absurd H (by simp)
        · rw [if_neg c14] at H
          have c14b0 : (x188002_1 == 0) = false := beq_eq_false_iff_ne.mpr c14
          have c14b1 : (x188002_1 != 0) = true := bne_iff_ne.mpr c14
          obtain ⟨y203, hy203⟩ : ∃ y_ : List ByteArray, y_ = (([] : List ByteArray)) := ⟨_, rfl⟩
          replace H : (some (y203, x188000_1, x188001_1, x188002_1)) = some (r1, r2, r3, r4) := by first | (rw [hy203]; with_reducible exact H) | (have H2_ := (Option.bind_some _ _).symm.trans H; rw [hy203]; with_reducible exact H2_) | (have H2_ := (Option.bind_some _ _).symm.trans H; with_reducible exact H2_) | with_reducible exact H | (rw [hy203]; exact H) | exact H
          have Ny203 := Aside0.mk hy203
          clear hy203
          simp only [Option.some.injEq, Prod.mk.injEq] at H
          obtain ⟨rfl, rfl, rfl, rfl⟩ := H
          have hnb22 := NB187_188.out
          have hnc22 := NB188_187.out
          have hcz23_0 : wr.cell? ⟨gb187, 0, none⟩ = some (.string x188000_1) := (blk_cell BK187.out 0).trans rfl
          have hcz23_1 : wr.cell? ⟨gb187, 1, none⟩ = some (.int .i64 x188001_1) := (blk_cell BK187.out 1).trans rfl
          have hcz23_2 : wr.cell? ⟨gb187, 2, none⟩ = some (.int .i64 x188002_1) := (blk_cell BK187.out 2).trans rfl
          have hfz23_0 := blk_frozen BK187.out 0
          have hfz23_1 := blk_frozen BK187.out 1
          have hfz23_2 := blk_frozen BK187.out 2
          try go_wp2
          have n0_ := Aside0.mk (Kd.R_drew HO_8.out)
          have n1_ := Aside0.mk (blk_drew BK187.out)
          have n2_ := Aside0.mk (blk_drew BK188.out)
          have n3_ := Aside0.mk (below_drew1 HB.out)
          clear HO_8
          clear BK187
          clear BK188
          clear HB
          have HO_8 := n0_
          have BK187 := n1_
          have BK188 := n2_
          have HB := n3_
          clear n0_ n1_ n2_ n3_
          refine start_ (n := 4) (S := fun w' => w'.cell? ⟨gb187, 0, none⟩ = some (.string x188000_1) ∧ w'.cell? ⟨gb187, 1, none⟩ = some (.int .i64 x188001_1) ∧ w'.cell? ⟨gb187, 2, none⟩ = some (.int .i64 x188002_1)) (ds := []) #[false, false, false, false] (by kernel_rfl) rfl rfl ⟨(blk_cell BK187.out 0).trans rfl, (blk_cell BK187.out 1).trans rfl, (blk_cell BK187.out 2).trans rfl⟩ (fun hHeld => ?_)
          generalize wr.drew = w24 at HO_8 BK187 BK188 HB hHeld ⊢
          refine take_ (i := 1) (N := some 43) (v := ?_) (a' := ?_) #[false, true, false, false] rfl rfl (by kernel_rfl) (fun _ _ _ h => h) (Or.inl ⟨by rfl, ?_⟩) hHeld ?_ ?_
          rotate_left
          · rintro w' ⟨s0, s1, s2⟩
            go_simp
            with_reducible rfl
          rotate_left
          · simp only [Act.put, List.setIfInBounds_toArray, List.set_cons_zero, List.set_cons_succ, i64_w, i32_w]
            rfl
          refine one_ (i := 0) (N := some 42) #[true, true, false, false] rfl rfl (by kernel_rfl) (by decide) (fun K hK => ?_)
          refine Kd.R_lit_step Kd.string _ 9 ?hg (N := 42) ?hd (xs := ([] : List ByteArray)) (inner := []) (ok := fun _ => True) (okp := fun _ => True) ?hr ?hp (fun _ hk => hk) trivial (Below.refl _ _) (Nat.le_refl _) (by simp) ?_; (case hd => rfl); (case hg => rfl); (case hr => first | (go_simp; done) | (go_simp; rfl)); (case hp => exact (Reps.none _ _))
          intro v204 w25 ho26 hb hg_ hnew_
          clear hg_ hnew_
          (first | rw [← Ny203.out] at ho26 | (simp only [Int.reduceToNat] at ho26; rw [← Ny203.out] at ho26))
          have n0_ := Aside0.mk (Kd.R_elder' (by (with_reducible repeat (first | apply Kd.R_alloc | apply Kd.R_drewN | apply Kd.R_drew)); exact HO_8.out) (Kd.R_base ho26) hb)
          have n1_ := Aside0.mk (Kd.R_lower (Kd.R_new' ho26 (Kd.R_lt (by (with_reducible repeat (first | apply Kd.R_alloc | apply Kd.R_drewN | apply Kd.R_drew)); exact HO_8.out))) (below_size (by repeat (first | (with_reducible first | exact HB.out | apply below_alloc | apply pw_below_drewN | apply below_drew1 | refine below_set ?_ GE187.out | refine below_set ?_ GE188.out) | exact HB.out))))
          have n2_ := Aside0.mk (blk_below (g := gb187) (o := .cells #[.string x188000_1, .int .i64 x188001_1, .int .i64 x188002_1] 39 (0, 0)) (by (with_reducible repeat (first | refine blk_drewN ?_ _ | refine blk_drew ?_ | refine blk_alloc ?_ _)); exact BK187.out) hb)
          have n3_ := Aside0.mk (blk_below (g := gb188) (o := .cells #[.string (⟨#[]⟩ : ByteArray), .int .i64 0, .int .i64 0] 39 (0, 0)) (by (with_reducible repeat (first | refine blk_drewN ?_ _ | refine blk_drew ?_ | refine blk_alloc ?_ _)); exact BK188.out) hb)
          have n4_ := Aside0.mk (below_step (by repeat (first | (with_reducible first | exact HB.out | apply below_alloc | apply pw_below_drewN | apply below_drew1 | refine below_set ?_ GE187.out | refine below_set ?_ GE188.out) | exact HB.out)) hb)
          clear HO_8
          clear BK187
          clear BK188
          clear HB
          have HO_8 := n0_
          have HO205 := n1_
          have BK187 := n2_
          have BK188 := n3_
          have HB := n4_
          clear n0_ n1_ n2_ n3_ n4_
          clear hb ho26
          refine hK.out _ _ ⟨(blk_cell BK187.out 0).trans rfl, (blk_cell BK187.out 1).trans rfl, (blk_cell BK187.out 2).trans rfl⟩ (fun hHeld => ?_)
          clear hK K
          refine norm_ (a' := ?_) ?_ ?_
          rotate_left
          · show Act.put _ (some 42) _ = _
            simp only [Act.put, List.setIfInBounds_toArray, List.set_cons_zero, List.set_cons_succ, i64_w, i32_w]
            rfl
          refine pure_ (i := 2) (N := some 6) (v := ?_) (a' := ?_) #[true, true, true, false] rfl rfl (by kernel_rfl) (fun _ _ _ h => h) (Or.inl ⟨by rfl, ?_⟩) ?_ ?_
          rotate_left
          · intro w'
            go_simp
            with_reducible rfl
          rotate_left
          · simp only [Act.put, List.setIfInBounds_toArray, List.set_cons_zero, List.set_cons_succ, i64_w, i32_w]
            rfl
          refine one_ (i := 3) (N := none) #[true, true, true, true] rfl rfl (by kernel_rfl) (by decide) (fun K hK => ?_)
          have hs27 : w25.cell? ⟨gb188, 0, none⟩ = some (.string (⟨#[]⟩ : ByteArray)) := (blk_cell BK188.out 0).trans rfl
          have hfs27 := blk_frozen BK188.out 0
          have hns27_0 := NB187_188.out
          have hms27_0 := NB188_187.out
          have hs28 : w25.cell? ⟨gb188, 1, none⟩ = some (.int .i64 0) := (blk_cell BK188.out 1).trans rfl
          have hfs28 := blk_frozen BK188.out 1
          have hns28_0 := NB187_188.out
          have hms28_0 := NB188_187.out
          have hs29 : w25.cell? ⟨gb188, 2, none⟩ = some (.int .i64 0) := (blk_cell BK188.out 2).trans rfl
          have hfs29 := blk_frozen BK188.out 2
          have hns29_0 := NB187_188.out
          have hms29_0 := NB188_187.out
          refine skip_ (w1 := ?_) (by rfl) rfl ?_ ?_
          rotate_left
          · go_simp
            rfl
          refine hK.out _ _ ⟨((cell_far (p := ⟨gb188, _, none⟩) NB187_188.out _).trans (((cell_far (p := ⟨gb188, _, none⟩) NB187_188.out _).trans (((cell_far (p := ⟨gb188, _, none⟩) NB187_188.out _).trans (hHeld.1)))))), ((cell_far (p := ⟨gb188, _, none⟩) NB187_188.out _).trans (((cell_far (p := ⟨gb188, _, none⟩) NB187_188.out _).trans (((cell_far (p := ⟨gb188, _, none⟩) NB187_188.out _).trans (hHeld.2.1)))))), ((cell_far (p := ⟨gb188, _, none⟩) NB187_188.out _).trans (((cell_far (p := ⟨gb188, _, none⟩) NB187_188.out _).trans (((cell_far (p := ⟨gb188, _, none⟩) NB187_188.out _).trans (hHeld.2.2))))))⟩ (fun hHeld => ?_)
          clear hK K
          refine done_ (by kernel_rfl) ?_
          try go_wp2
          refine bodyPost_ret (results_tc rfl _ _ gb188 39 #[.string x188000_1, .int .i64 x188001_1, .int .i64 x188002_1] (0, 0) _ rfl (by (with_reducible repeat (first | refine blk_drewN ?_ _ | refine blk_drew ?_ | refine blk_alloc ?_ _)); refine blk_put (cs := #[.string x188000_1, .int .i64 x188001_1, .int .i64 0]) ?_ 2 _ rfl; (with_reducible repeat (first | refine blk_drewN ?_ _ | refine blk_drew ?_ | refine blk_alloc ?_ _)); refine blk_put (cs := #[.string x188000_1, .int .i64 0, .int .i64 0]) ?_ 1 _ rfl; (with_reducible repeat (first | refine blk_drewN ?_ _ | refine blk_drew ?_ | refine blk_alloc ?_ _)); refine blk_put (cs := #[.string (⟨#[]⟩ : ByteArray), .int .i64 0, .int .i64 0]) ?_ 0 _ rfl; (with_reducible repeat (first | refine blk_drewN ?_ _ | refine blk_drew ?_ | refine blk_alloc ?_ _)); exact BK188.out) Try.underlying39 rfl (by kernel_rfl)) rfl ?_
          exact ⟨_, by first | rfl | (simp [errW_none, errW_some] <;> rfl) | (simp [*, errW_none, errW_some] <;> rfl), by (with_reducible repeat (first | apply Kd.R_alloc | apply Kd.R_drewN | apply Kd.R_drew)); exact Kd.R_mono (Kd.R_far (p := ⟨gb188, 2, none⟩) (Kd.R_far (p := ⟨gb188, 1, none⟩) (Kd.R_far (p := ⟨gb188, 0, none⟩) (Kd.R_types HO205.out BK188.out (by decide)) (fun _ hk => hk.2) (.string x188000_1)) (fun _ hk => hk.2) (.int .i64 x188001_1)) (fun _ hk => hk.2) (.int .i64 x188002_1)) (fun _ hk => trivial), by repeat (first | (with_reducible first | exact HB.out | apply below_alloc | apply pw_below_drewN | apply below_drew1 | refine below_set ?_ GE187.out | refine below_set ?_ GE188.out) | exact HB.out)⟩
      · rw [if_neg c13] at H
        have c13b0 : decide (x10_1 < t192) = false := decide_eq_false c13
        clear c13
        by_cases c30 : x188002_1 = 0
        · rw [if_pos c30] at H
          have c30b0 : (x188002_1 == 0) = true := beq_iff_eq.mpr c30
          have c30b1 : (x188002_1 != 0) = false := bne_eq_false_iff_eq.mpr c30
          clear c30
          simp only [Option.some.injEq, Prod.mk.injEq] at H
          obtain ⟨rfl, rfl, rfl, rfl⟩ := H
          have hnb31 := NB187_188.out
          have hnc31 := NB188_187.out
          have hcz32_0 : wr.cell? ⟨gb187, 0, none⟩ = some (.string x188000_1) := (blk_cell BK187.out 0).trans rfl
          have hcz32_1 : wr.cell? ⟨gb187, 1, none⟩ = some (.int .i64 x188001_1) := (blk_cell BK187.out 1).trans rfl
          have hcz32_2 : wr.cell? ⟨gb187, 2, none⟩ = some (.int .i64 x188002_1) := (blk_cell BK187.out 2).trans rfl
          have hfz32_0 := blk_frozen BK187.out 0
          have hfz32_1 := blk_frozen BK187.out 1
          have hfz32_2 := blk_frozen BK187.out 2
          try go_wp2
          have n0_ := Aside0.mk (Kd.R_drew HO_8.out)
          have n1_ := Aside0.mk (blk_drew BK187.out)
          have n2_ := Aside0.mk (blk_drew BK188.out)
          have n3_ := Aside0.mk (below_drew1 HB.out)
          clear HO_8
          clear BK187
          clear BK188
          clear HB
          have HO_8 := n0_
          have BK187 := n1_
          have BK188 := n2_
          have HB := n3_
          clear n0_ n1_ n2_ n3_
          refine start_ (n := 4) (S := fun w' => w'.cell? ⟨gb187, 0, none⟩ = some (.string x188000_1) ∧ w'.cell? ⟨gb187, 1, none⟩ = some (.int .i64 x188001_1) ∧ w'.cell? ⟨gb187, 2, none⟩ = some (.int .i64 x188002_1)) (ds := []) #[false, false, false, false] (by kernel_rfl) rfl rfl ⟨(blk_cell BK187.out 0).trans rfl, (blk_cell BK187.out 1).trans rfl, (blk_cell BK187.out 2).trans rfl⟩ (fun hHeld => ?_)
          generalize wr.drew = w33 at HO_8 BK187 BK188 HB hHeld ⊢
          refine pure_ (i := 0) (N := some 44) (v := ?_) (a' := ?_) #[true, false, false, false] rfl rfl (by kernel_rfl) (fun _ _ _ h => h) (Or.inl ⟨by rfl, ?_⟩) ?_ ?_
          rotate_left
          · intro w'
            go_simp
            with_reducible rfl
          rotate_left
          · simp only [Act.put, List.setIfInBounds_toArray, List.set_cons_zero, List.set_cons_succ, i64_w, i32_w]
            rfl
          refine pure_ (i := 2) (N := some 6) (v := ?_) (a' := ?_) #[true, false, true, false] rfl rfl (by kernel_rfl) (fun _ _ _ h => h) (Or.inl ⟨by rfl, ?_⟩) ?_ ?_
          rotate_left
          · intro w'
            go_simp
            with_reducible rfl
          rotate_left
          · simp only [Act.put, List.setIfInBounds_toArray, List.set_cons_zero, List.set_cons_succ, i64_w, i32_w]
            rfl
          refine take_ (i := 1) (N := some 45) (v := ?_) (a' := ?_) #[true, true, true, false] rfl rfl (by kernel_rfl) (fun _ _ _ h => h) (Or.inl ⟨by rfl, ?_⟩) hHeld ?_ ?_
          rotate_left
          · rintro w' ⟨s0, s1, s2⟩
            go_simp
            with_reducible rfl
          rotate_left
          · simp only [Act.put, List.setIfInBounds_toArray, List.set_cons_zero, List.set_cons_succ, i64_w, i32_w]
            rfl
          refine one_ (i := 3) (N := none) #[true, true, true, true] rfl rfl (by kernel_rfl) (by decide) (fun K hK => ?_)
          have hs34 : w33.cell? ⟨gb188, 0, none⟩ = some (.string (⟨#[]⟩ : ByteArray)) := (blk_cell BK188.out 0).trans rfl
          have hfs34 := blk_frozen BK188.out 0
          have hns34_0 := NB187_188.out
          have hms34_0 := NB188_187.out
          have hs35 : w33.cell? ⟨gb188, 1, none⟩ = some (.int .i64 0) := (blk_cell BK188.out 1).trans rfl
          have hfs35 := blk_frozen BK188.out 1
          have hns35_0 := NB187_188.out
          have hms35_0 := NB188_187.out
          have hs36 : w33.cell? ⟨gb188, 2, none⟩ = some (.int .i64 0) := (blk_cell BK188.out 2).trans rfl
          have hfs36 := blk_frozen BK188.out 2
          have hns36_0 := NB187_188.out
          have hms36_0 := NB188_187.out
          refine skip_ (w1 := ?_) (by rfl) rfl ?_ ?_
          rotate_left
          · go_simp
            rfl
          refine hK.out _ _ ⟨((cell_far (p := ⟨gb188, _, none⟩) NB187_188.out _).trans (((cell_far (p := ⟨gb188, _, none⟩) NB187_188.out _).trans (((cell_far (p := ⟨gb188, _, none⟩) NB187_188.out _).trans (hHeld.1)))))), ((cell_far (p := ⟨gb188, _, none⟩) NB187_188.out _).trans (((cell_far (p := ⟨gb188, _, none⟩) NB187_188.out _).trans (((cell_far (p := ⟨gb188, _, none⟩) NB187_188.out _).trans (hHeld.2.1)))))), ((cell_far (p := ⟨gb188, _, none⟩) NB187_188.out _).trans (((cell_far (p := ⟨gb188, _, none⟩) NB187_188.out _).trans (((cell_far (p := ⟨gb188, _, none⟩) NB187_188.out _).trans (hHeld.2.2))))))⟩ (fun hHeld => ?_)
          clear hK K
          refine done_ (by kernel_rfl) ?_
          try go_wp2
          refine bodyPost_ret (results_tc rfl _ _ gb188 39 #[.string x188000_1, .int .i64 x188001_1, .int .i64 x188002_1] (0, 0) _ rfl (by (with_reducible repeat (first | refine blk_drewN ?_ _ | refine blk_drew ?_ | refine blk_alloc ?_ _)); refine blk_put (cs := #[.string x188000_1, .int .i64 x188001_1, .int .i64 0]) ?_ 2 _ rfl; (with_reducible repeat (first | refine blk_drewN ?_ _ | refine blk_drew ?_ | refine blk_alloc ?_ _)); refine blk_put (cs := #[.string x188000_1, .int .i64 0, .int .i64 0]) ?_ 1 _ rfl; (with_reducible repeat (first | refine blk_drewN ?_ _ | refine blk_drew ?_ | refine blk_alloc ?_ _)); refine blk_put (cs := #[.string (⟨#[]⟩ : ByteArray), .int .i64 0, .int .i64 0]) ?_ 0 _ rfl; (with_reducible repeat (first | refine blk_drewN ?_ _ | refine blk_drew ?_ | refine blk_alloc ?_ _)); exact BK188.out) Try.underlying39 rfl (by kernel_rfl)) rfl ?_
          exact ⟨_, by first | rfl | (simp [errW_none, errW_some] <;> rfl) | (simp [*, errW_none, errW_some] <;> rfl), by (with_reducible repeat (first | apply Kd.R_alloc | apply Kd.R_drewN | apply Kd.R_drew)); exact Kd.R_mono (Kd.R_far (p := ⟨gb188, 2, none⟩) (Kd.R_far (p := ⟨gb188, 1, none⟩) (Kd.R_far (p := ⟨gb188, 0, none⟩) (Kd.R_types HO_8.out BK188.out (by decide)) (fun _ hk => hk.2) (.string x188000_1)) (fun _ hk => hk.2) (.int .i64 x188001_1)) (fun _ hk => hk.2) (.int .i64 x188002_1)) (fun _ hk => trivial), by repeat (first | (with_reducible first | exact HB.out | apply below_alloc | apply pw_below_drewN | apply below_drew1 | refine below_set ?_ GE187.out | refine below_set ?_ GE188.out) | exact HB.out)⟩
        · rw [if_neg c30] at H
          have c30b0 : (x188002_1 == 0) = false := beq_eq_false_iff_ne.mpr c30
          have c30b1 : (x188002_1 != 0) = true := bne_iff_ne.mpr c30
          obtain ⟨y206, hy206⟩ : ∃ y_ : List ByteArray, y_ = (([] : List ByteArray)) := ⟨_, rfl⟩
          replace H : (some (y206, x188000_1, x188001_1, x188002_1)) = some (r1, r2, r3, r4) := by first | (rw [hy206]; with_reducible exact H) | (have H2_ := (Option.bind_some _ _).symm.trans H; rw [hy206]; with_reducible exact H2_) | (have H2_ := (Option.bind_some _ _).symm.trans H; with_reducible exact H2_) | with_reducible exact H | (rw [hy206]; exact H) | exact H
          have Ny206 := Aside0.mk hy206
          clear hy206
          simp only [Option.some.injEq, Prod.mk.injEq] at H
          obtain ⟨rfl, rfl, rfl, rfl⟩ := H
          have hnb37 := NB187_188.out
          have hnc37 := NB188_187.out
          have hcz38_0 : wr.cell? ⟨gb187, 0, none⟩ = some (.string x188000_1) := (blk_cell BK187.out 0).trans rfl
          have hcz38_1 : wr.cell? ⟨gb187, 1, none⟩ = some (.int .i64 x188001_1) := (blk_cell BK187.out 1).trans rfl
          have hcz38_2 : wr.cell? ⟨gb187, 2, none⟩ = some (.int .i64 x188002_1) := (blk_cell BK187.out 2).trans rfl
          have hfz38_0 := blk_frozen BK187.out 0
          have hfz38_1 := blk_frozen BK187.out 1
          have hfz38_2 := blk_frozen BK187.out 2
          try go_wp2
          have n0_ := Aside0.mk (Kd.R_drew HO_8.out)
          have n1_ := Aside0.mk (blk_drew BK187.out)
          have n2_ := Aside0.mk (blk_drew BK188.out)
          have n3_ := Aside0.mk (below_drew1 HB.out)
          clear HO_8
          clear BK187
          clear BK188
          clear HB
          have HO_8 := n0_
          have BK187 := n1_
          have BK188 := n2_
          have HB := n3_
          clear n0_ n1_ n2_ n3_
          refine start_ (n := 4) (S := fun w' => w'.cell? ⟨gb187, 0, none⟩ = some (.string x188000_1) ∧ w'.cell? ⟨gb187, 1, none⟩ = some (.int .i64 x188001_1) ∧ w'.cell? ⟨gb187, 2, none⟩ = some (.int .i64 x188002_1)) (ds := []) #[false, false, false, false] (by kernel_rfl) rfl rfl ⟨(blk_cell BK187.out 0).trans rfl, (blk_cell BK187.out 1).trans rfl, (blk_cell BK187.out 2).trans rfl⟩ (fun hHeld => ?_)
          generalize wr.drew = w39 at HO_8 BK187 BK188 HB hHeld ⊢
          refine take_ (i := 1) (N := some 43) (v := ?_) (a' := ?_) #[false, true, false, false] rfl rfl (by kernel_rfl) (fun _ _ _ h => h) (Or.inl ⟨by rfl, ?_⟩) hHeld ?_ ?_
          rotate_left
          · rintro w' ⟨s0, s1, s2⟩
            go_simp
            with_reducible rfl
          rotate_left
          · simp only [Act.put, List.setIfInBounds_toArray, List.set_cons_zero, List.set_cons_succ, i64_w, i32_w]
            rfl
          refine one_ (i := 0) (N := some 42) #[true, true, false, false] rfl rfl (by kernel_rfl) (by decide) (fun K hK => ?_)
          refine Kd.R_lit_step Kd.string _ 9 ?hg (N := 42) ?hd (xs := ([] : List ByteArray)) (inner := []) (ok := fun _ => True) (okp := fun _ => True) ?hr ?hp (fun _ hk => hk) trivial (Below.refl _ _) (Nat.le_refl _) (by simp) ?_; (case hd => rfl); (case hg => rfl); (case hr => first | (go_simp; done) | (go_simp; rfl)); (case hp => exact (Reps.none _ _))
          intro v207 w40 ho41 hb hg_ hnew_
          clear hg_ hnew_
          (first | rw [← Ny206.out] at ho41 | (simp only [Int.reduceToNat] at ho41; rw [← Ny206.out] at ho41))
          have n0_ := Aside0.mk (Kd.R_elder' (by (with_reducible repeat (first | apply Kd.R_alloc | apply Kd.R_drewN | apply Kd.R_drew)); exact HO_8.out) (Kd.R_base ho41) hb)
          have n1_ := Aside0.mk (Kd.R_lower (Kd.R_new' ho41 (Kd.R_lt (by (with_reducible repeat (first | apply Kd.R_alloc | apply Kd.R_drewN | apply Kd.R_drew)); exact HO_8.out))) (below_size (by repeat (first | (with_reducible first | exact HB.out | apply below_alloc | apply pw_below_drewN | apply below_drew1 | refine below_set ?_ GE187.out | refine below_set ?_ GE188.out) | exact HB.out))))
          have n2_ := Aside0.mk (blk_below (g := gb187) (o := .cells #[.string x188000_1, .int .i64 x188001_1, .int .i64 x188002_1] 39 (0, 0)) (by (with_reducible repeat (first | refine blk_drewN ?_ _ | refine blk_drew ?_ | refine blk_alloc ?_ _)); exact BK187.out) hb)
          have n3_ := Aside0.mk (blk_below (g := gb188) (o := .cells #[.string (⟨#[]⟩ : ByteArray), .int .i64 0, .int .i64 0] 39 (0, 0)) (by (with_reducible repeat (first | refine blk_drewN ?_ _ | refine blk_drew ?_ | refine blk_alloc ?_ _)); exact BK188.out) hb)
          have n4_ := Aside0.mk (below_step (by repeat (first | (with_reducible first | exact HB.out | apply below_alloc | apply pw_below_drewN | apply below_drew1 | refine below_set ?_ GE187.out | refine below_set ?_ GE188.out) | exact HB.out)) hb)
          clear HO_8
          clear BK187
          clear BK188
          clear HB
          have HO_8 := n0_
          have HO208 := n1_
          have BK187 := n2_
          have BK188 := n3_
          have HB := n4_
          clear n0_ n1_ n2_ n3_ n4_
          clear hb ho41
          refine hK.out _ _ ⟨(blk_cell BK187.out 0).trans rfl, (blk_cell BK187.out 1).trans rfl, (blk_cell BK187.out 2).trans rfl⟩ (fun hHeld => ?_)
          clear hK K
          refine norm_ (a' := ?_) ?_ ?_
          rotate_left
          · show Act.put _ (some 42) _ = _
            simp only [Act.put, List.setIfInBounds_toArray, List.set_cons_zero, List.set_cons_succ, i64_w, i32_w]
            rfl
          refine pure_ (i := 2) (N := some 6) (v := ?_) (a' := ?_) #[true, true, true, false] rfl rfl (by kernel_rfl) (fun _ _ _ h => h) (Or.inl ⟨by rfl, ?_⟩) ?_ ?_
          rotate_left
          · intro w'
            go_simp
            with_reducible rfl
          rotate_left
          · simp only [Act.put, List.setIfInBounds_toArray, List.set_cons_zero, List.set_cons_succ, i64_w, i32_w]
            rfl
          refine one_ (i := 3) (N := none) #[true, true, true, true] rfl rfl (by kernel_rfl) (by decide) (fun K hK => ?_)
          have hs42 : w40.cell? ⟨gb188, 0, none⟩ = some (.string (⟨#[]⟩ : ByteArray)) := (blk_cell BK188.out 0).trans rfl
          have hfs42 := blk_frozen BK188.out 0
          have hns42_0 := NB187_188.out
          have hms42_0 := NB188_187.out
          have hs43 : w40.cell? ⟨gb188, 1, none⟩ = some (.int .i64 0) := (blk_cell BK188.out 1).trans rfl
          have hfs43 := blk_frozen BK188.out 1
          have hns43_0 := NB187_188.out
          have hms43_0 := NB188_187.out
          have hs44 : w40.cell? ⟨gb188, 2, none⟩ = some (.int .i64 0) := (blk_cell BK188.out 2).trans rfl
          have hfs44 := blk_frozen BK188.out 2
          have hns44_0 := NB187_188.out
          have hms44_0 := NB188_187.out
          refine skip_ (w1 := ?_) (by rfl) rfl ?_ ?_
          rotate_left
          · go_simp
            rfl
          refine hK.out _ _ ⟨((cell_far (p := ⟨gb188, _, none⟩) NB187_188.out _).trans (((cell_far (p := ⟨gb188, _, none⟩) NB187_188.out _).trans (((cell_far (p := ⟨gb188, _, none⟩) NB187_188.out _).trans (hHeld.1)))))), ((cell_far (p := ⟨gb188, _, none⟩) NB187_188.out _).trans (((cell_far (p := ⟨gb188, _, none⟩) NB187_188.out _).trans (((cell_far (p := ⟨gb188, _, none⟩) NB187_188.out _).trans (hHeld.2.1)))))), ((cell_far (p := ⟨gb188, _, none⟩) NB187_188.out _).trans (((cell_far (p := ⟨gb188, _, none⟩) NB187_188.out _).trans (((cell_far (p := ⟨gb188, _, none⟩) NB187_188.out _).trans (hHeld.2.2))))))⟩ (fun hHeld => ?_)
          clear hK K
          refine done_ (by kernel_rfl) ?_
          try go_wp2
          refine bodyPost_ret (results_tc rfl _ _ gb188 39 #[.string x188000_1, .int .i64 x188001_1, .int .i64 x188002_1] (0, 0) _ rfl (by (with_reducible repeat (first | refine blk_drewN ?_ _ | refine blk_drew ?_ | refine blk_alloc ?_ _)); refine blk_put (cs := #[.string x188000_1, .int .i64 x188001_1, .int .i64 0]) ?_ 2 _ rfl; (with_reducible repeat (first | refine blk_drewN ?_ _ | refine blk_drew ?_ | refine blk_alloc ?_ _)); refine blk_put (cs := #[.string x188000_1, .int .i64 0, .int .i64 0]) ?_ 1 _ rfl; (with_reducible repeat (first | refine blk_drewN ?_ _ | refine blk_drew ?_ | refine blk_alloc ?_ _)); refine blk_put (cs := #[.string (⟨#[]⟩ : ByteArray), .int .i64 0, .int .i64 0]) ?_ 0 _ rfl; (with_reducible repeat (first | refine blk_drewN ?_ _ | refine blk_drew ?_ | refine blk_alloc ?_ _)); exact BK188.out) Try.underlying39 rfl (by kernel_rfl)) rfl ?_
          exact ⟨_, by first | rfl | (simp [errW_none, errW_some] <;> rfl) | (simp [*, errW_none, errW_some] <;> rfl), by (with_reducible repeat (first | apply Kd.R_alloc | apply Kd.R_drewN | apply Kd.R_drew)); exact Kd.R_mono (Kd.R_far (p := ⟨gb188, 2, none⟩) (Kd.R_far (p := ⟨gb188, 1, none⟩) (Kd.R_far (p := ⟨gb188, 0, none⟩) (Kd.R_types HO208.out BK188.out (by decide)) (fun _ hk => hk.2) (.string x188000_1)) (fun _ hk => hk.2) (.int .i64 x188001_1)) (fun _ hk => hk.2) (.int .i64 x188002_1)) (fun _ hk => trivial), by repeat (first | (with_reducible first | exact HB.out | apply below_alloc | apply pw_below_drewN | apply below_drew1 | refine below_set ?_ GE187.out | refine below_set ?_ GE188.out) | exact HB.out)⟩

-- NOT PRINTED: function 25 (tephralaw04_both_step)

-- NOT PRINTED: function 4 (tephralaw04_CursorPlays)

-- NOT PRINTED: function 5 (tephralaw04_CursorNever)

end Go.Proofs.Ythpbkhagjgggjaa.GVB
