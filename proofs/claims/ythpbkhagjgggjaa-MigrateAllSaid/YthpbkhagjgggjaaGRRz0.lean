-- by a program of this session (gprint.py, over the kit's print): the machine's side of a law
import Derived.Test.YthpbkhagjgggjaaGRRx0
import Derived.Test.YthpbkhagjgggjaaGRRx3
namespace Go.Proofs.Ythpbkhagjgggjaa.GRR
open Go.RowKit Go.Proofs.YthpbkhagjgggjaaW.PrintWords Go.Proofs.YthpbkhagjgggjaaW.PrintLast Go.Proofs.YthpbkhagjgggjaaW.PrintMore
attribute [local go_sem] max2_int min2_int max_two min_two max_three min_three max_four min_four   -- for this text's walks alone
set_option linter.unusedVariables false
set_option linter.unusedSimpArgs false

/-! ### tephralaw10_Great: function 58 -/
def tephralaw10_Great.l0 : Nat → List (S70) → List (S70) → Int → Int → Option (Bool)
  | 0, _, _, _, _ => none
  | k + 1, x0, x5, x6, x7 => if x7 < x6 then (if 0 ≤ x7 then (if x7 < (x5.length : Int) then ((tephralaw08_Great.f k ((rd_T70 x5 x7).f0) ((rd_T70 x5 x7).f1) ((rd_T70 x5 x7).f2) ((rd_T70 x5 x7).f3) ((rd_T70 x5 x7).f4) ((rd_T70 x5 x7).f5) ((rd_T70 x5 x7).f6)).bind fun t293 => (if t293 = true then (some true) else (tephralaw10_Great.l0 k x0 x5 x6 (wrap64 (x7 + 1))))) else (none)) else (none)) else (some (decide ((x0.length : Int) > 30)))
def tephralaw10_Great.f (k : Nat) (l0 : List (S70)) : Option (Bool) := tephralaw10_Great.l0 k l0 l0 (l0.length : Int) 0
theorem tephralaw10_Great.mono_l : ∀ k, (∀ y0 y1 y2 y3, LeO (tephralaw10_Great.l0 k y0 y1 y2 y3) (tephralaw10_Great.l0 (k + 1) y0 y1 y2 y3))
  | 0 => fun _ _ _ _ r h => by simp [tephralaw10_Great.l0] at h
  | k + 1 => by
    have ih0 := tephralaw10_Great.mono_l k
    · intro y0 y1 y2 y3
      unfold tephralaw10_Great.l0
      repeat' first
      | (with_reducible exact ih0 _ _ _ _)
      | (with_reducible exact tephralaw08_Great.mono _ _ _ _ _ _ _ _)
      | (with_reducible exact LeO.refl _)
      | (with_reducible exact LeO.none _)
      | (with_reducible refine LeO.ite ?_ ?_)
      | (with_reducible refine LeO.bind ?_ (fun _ => ?_))
      | exact ih0 _ _ _ _
      | exact tephralaw08_Great.mono _ _ _ _ _ _ _ _
      | exact LeO.none _
      | refine LeO.ite ?_ ?_
      | refine LeO.bind ?_ (fun _ => ?_)
theorem tephralaw10_Great.mono : ∀ a0 k, LeO (tephralaw10_Great.f k a0) (tephralaw10_Great.f (k + 1) a0) := by
  intro a0 k
  have ih0 := tephralaw10_Great.mono_l k
  unfold tephralaw10_Great.f
  repeat' first
      | (with_reducible exact ih0 _ _ _ _)
      | (with_reducible exact tephralaw08_Great.mono _ _ _ _ _ _ _ _)
      | (with_reducible exact LeO.refl _)
      | (with_reducible exact LeO.none _)
      | (with_reducible refine LeO.ite ?_ ?_)
      | (with_reducible refine LeO.bind ?_ (fun _ => ?_))
      | exact ih0 _ _ _ _
      | exact tephralaw08_Great.mono _ _ _ _ _ _ _ _
      | exact LeO.none _
      | refine LeO.ite ?_ ?_
      | refine LeO.bind ?_ (fun _ => ?_)
set_option maxHeartbeats 8000000 in
set_option maxRecDepth 100000 in
theorem tephralaw10_Great.calls (k : Nat) (A0 : Option Addr) (c0 : Nat) (l0 : List (S70)) (r : Bool) (w : World) (hr0 : Kd.C k70 w A0 l0.length l0) (hc0 : l0.length ≤ c0) (h : tephralaw10_Great.f k l0 = some r) :
    Calls Try.prog 58 #[.slice A0 l0.length c0] w fun e w' => e = .returned (.bool r) ∧ Below w.heap.size w w' := by
  have hu70 := Try.underlying70
  have HR0 := Aside0.mk hr0
  have HC0 := Aside0.mk hc0
  clear hr0 hc0
  have HB := Aside0.mk (Below.refl w.heap.size w)
  have H : (tephralaw10_Great.l0 k l0 l0 (l0.length : Int) 0) = some r := h
  clear h
  have H' := Aside0.mk H
  clear H
  go_enter Try.func58, Try.ntmps58
  go_wp2
  go_loopg [7] k (fun kq v7 w' => ∃ (x7_1 : Int), v7 = .int .i64 x7_1 ∧ Aside0 (tephralaw10_Great.l0 kq l0 l0 (l0.length : Int) x7_1 = some r) ∧ Aside0 (kq ≤ k) ∧ Aside0 (Below w.heap.size w w'))
  case atStart => exact ⟨(0), (by first | rfl | (simp; done) | (simp [*]; done) | (simp; rw [Bool.eq_iff_iff]; simp; done)), H', ⟨Nat.le_refl _⟩, ⟨by repeat (first | (with_reducible first | exact HB.out | apply below_alloc | apply pw_below_drewN | apply below_drew1) | exact HB.out)⟩⟩
  case round =>
    clear H'
    obtain ⟨x7_1, rfl, HA, HK1, HB⟩ := hrel
    cases gk with
    | zero => exact absurd HA.out (by simp [tephralaw10_Great.l0])
    | succ k1 =>
      have H := HA.out
      clear HA
      simp only [tephralaw10_Great.l0] at H
      by_cases c2 : x7_1 < (l0.length : Int)
      · rw [if_pos c2] at H
        have c2b0 : decide (x7_1 < (l0.length : Int)) = true := decide_eq_true c2
        clear c2
        by_cases c3 : 0 ≤ x7_1
        · rw [if_pos c3] at H
          have c3b0 : decide (0 ≤ x7_1) = true := decide_eq_true c3
          clear c3
          by_cases c4 : x7_1 < (l0.length : Int)
          · rw [if_pos c4] at H
            have c4b0 : decide (x7_1 < (l0.length : Int)) = true := decide_eq_true c4
            clear c4
            replace H := Option.bind_eq_some_iff.mp H
            obtain ⟨t293, A50, H⟩ := H
            replace H : (if t293 = true then (some true) else (tephralaw10_Great.l0 k1 l0 l0 (l0.length : Int) (wrap64 (x7_1 + 1)))) = some r := H
            have A5 := Aside0.mk A50
            clear A50
            by_cases c6 : t293 = true
            · subst c6
              have H1 : (some true) = some r := by rw [if_pos rfl] at H; exact H
              clear H
              have H := H1
              clear H1
              obtain rfl := Option.some.inj H
              have p291 : 0 ≤ (x7_1 : Int) := of_decide_eq_true (by first | (with_reducible assumption) | assumption)
              have q291 : x7_1 < (l0.length : Int) := of_decide_eq_true (by first | (with_reducible assumption) | assumption)
              obtain ⟨ad291, A291_3, c291_3, e291, hx291_0, hx291_1, hx291_2, hx291_3, hx291_4, hx291_5, hx291_6, hl291_3, hi291_3⟩ := at_T70 HR0.out x7_1 p291 q291
              cases e291
              replace hx291_0 := (HB.out.cell (World.block_lt_of_cell? w _ hx291_0)).trans hx291_0
              replace hx291_1 := (HB.out.cell (World.block_lt_of_cell? w _ hx291_1)).trans hx291_1
              replace hx291_2 := (HB.out.cell (World.block_lt_of_cell? w _ hx291_2)).trans hx291_2
              replace hx291_3 := (HB.out.cell (World.block_lt_of_cell? w _ hx291_3)).trans hx291_3
              replace hx291_4 := (HB.out.cell (World.block_lt_of_cell? w _ hx291_4)).trans hx291_4
              replace hx291_5 := (HB.out.cell (World.block_lt_of_cell? w _ hx291_5)).trans hx291_5
              replace hx291_6 := (HB.out.cell (World.block_lt_of_cell? w _ hx291_6)).trans hx291_6
              have HR291_3 := Aside0.mk hi291_3
              have HC291_3 := Aside0.mk hl291_3
              clear hi291_3 hl291_3
              replace p291 := eq_true p291
              replace q291 := eq_true q291
              go_wp2_with (first | ((with_reducible refine gate_dst (N := 4) rfl ?_); refine box_event ?hg (N := 4) ?hd (cs := #[.int .i64 0, .string (⟨#[]⟩ : ByteArray), .int .u64 0, .slice none 0 0, .int .u64 0, .int .u64 0, .string (⟨#[]⟩ : ByteArray)]) (t := 70) ?hr ?_; (case hd => rfl); (case hg => rfl); (case hr => first | (go_simp; done) | (go_simp; rfl)); intro gb292 hg w7 hbox hb; have n0_ := Aside0.mk (below_step (by repeat (first | (with_reducible first | exact HB.out | apply below_alloc | apply pw_below_drewN | apply below_drew1) | exact HB.out)) hb); have n1_ := Aside0.mk (hbox); have n2_ := Aside0.mk ((by rw [hg]; exact (below_size (by repeat (first | (with_reducible first | exact HB.out | apply below_alloc | apply pw_below_drewN | apply below_drew1) | exact HB.out))) : w.heap.size ≤ gb292)); have n3_ := Aside0.mk ((by rw [hg]; exact (below_size (by repeat (first | (with_reducible first | exact HB.out | apply below_alloc | apply pw_below_drewN | apply below_drew1) | exact HB.out))) : w.heap.size ≤ gb292)); clear HB; have HB := n0_; have BK292 := n1_; have GW292 := n2_; have GE292 := n3_; clear n0_ n1_ n2_ n3_; clear hb hbox hg; have hcz8_0 : w7.cell? ⟨gb292, 0, none⟩ = some (.int .i64 0) := (blk_cell BK292.out 0).trans rfl; have hcz8_1 : w7.cell? ⟨gb292, 1, none⟩ = some (.string (⟨#[]⟩ : ByteArray)) := (blk_cell BK292.out 1).trans rfl; have hcz8_2 : w7.cell? ⟨gb292, 2, none⟩ = some (.int .u64 0) := (blk_cell BK292.out 2).trans rfl; have hcz8_3 : w7.cell? ⟨gb292, 3, none⟩ = some (.slice none 0 0) := (blk_cell BK292.out 3).trans rfl; have hcz8_4 : w7.cell? ⟨gb292, 4, none⟩ = some (.int .u64 0) := (blk_cell BK292.out 4).trans rfl; have hcz8_5 : w7.cell? ⟨gb292, 5, none⟩ = some (.int .u64 0) := (blk_cell BK292.out 5).trans rfl; have hcz8_6 : w7.cell? ⟨gb292, 6, none⟩ = some (.string (⟨#[]⟩ : ByteArray)) := (blk_cell BK292.out 6).trans rfl; have hfz8_0 := blk_frozen BK292.out 0; have hfz8_1 := blk_frozen BK292.out 1; have hfz8_2 := blk_frozen BK292.out 2; have hfz8_3 := blk_frozen BK292.out 3; have hfz8_4 := blk_frozen BK292.out 4; have hfz8_5 := blk_frozen BK292.out 5; have hfz8_6 := blk_frozen BK292.out 6) | ((with_reducible refine gate_callee (f := 42) rfl ?_); refine goesL_ (some 12) rfl rfl Try.func42 (by kernel_rfl) rfl #[.agg #[.int .i64 ((rd_T70 l0 x7_1).f0), .string ((rd_T70 l0 x7_1).f1), .int .u64 ((rd_T70 l0 x7_1).f2), .slice A291_3 ((rd_T70 l0 x7_1).f3).length c291_3, .int .u64 ((rd_T70 l0 x7_1).f4), .int .u64 ((rd_T70 l0 x7_1).f5), .string ((rd_T70 l0 x7_1).f6)]] rfl (by (try simp only [List.map_toArray, List.map_cons, List.map_nil]); first | done | rfl | (simp only [List.length_drop, List.length_take]; rfl)) ?_; (with_reducible refine (tephralaw08_Great.calls k1 ((rd_T70 l0 x7_1).f0) ((rd_T70 l0 x7_1).f1) ((rd_T70 l0 x7_1).f2) _ _ ((rd_T70 l0 x7_1).f3) ((rd_T70 l0 x7_1).f4) ((rd_T70 l0 x7_1).f5) ((rd_T70 l0 x7_1).f6) true _ ?side1 ?side2 A5.out).mono ?_); (case side1 => exact Kd.C_below HR291_3.out (by repeat (first | (with_reducible first | exact HB.out | apply below_alloc | apply pw_below_drewN | apply below_drew1 | refine below_set ?_ GE292.out) | exact HB.out))); (case side2 => exact HC291_3.out); rintro e w9 ⟨rfl, hb⟩; refine ⟨_, rfl, ?_⟩; have n0_ := Aside0.mk (blk_below (g := gb292) (o := .cells #[.int .i64 ((rd_T70 l0 x7_1).f0), .string ((rd_T70 l0 x7_1).f1), .int .u64 ((rd_T70 l0 x7_1).f2), .slice A291_3 ((rd_T70 l0 x7_1).f3).length c291_3, .int .u64 ((rd_T70 l0 x7_1).f4), .int .u64 ((rd_T70 l0 x7_1).f5), .string ((rd_T70 l0 x7_1).f6)] 70 (0, 0)) (by (with_reducible repeat (first | refine blk_drewN ?_ _ | refine blk_drew ?_ | refine blk_alloc ?_ _)); refine blk_put (cs := #[.int .i64 ((rd_T70 l0 x7_1).f0), .string ((rd_T70 l0 x7_1).f1), .int .u64 ((rd_T70 l0 x7_1).f2), .slice A291_3 ((rd_T70 l0 x7_1).f3).length c291_3, .int .u64 ((rd_T70 l0 x7_1).f4), .int .u64 ((rd_T70 l0 x7_1).f5), .string (⟨#[]⟩ : ByteArray)]) ?_ 6 _ rfl; (with_reducible repeat (first | refine blk_drewN ?_ _ | refine blk_drew ?_ | refine blk_alloc ?_ _)); refine blk_put (cs := #[.int .i64 ((rd_T70 l0 x7_1).f0), .string ((rd_T70 l0 x7_1).f1), .int .u64 ((rd_T70 l0 x7_1).f2), .slice A291_3 ((rd_T70 l0 x7_1).f3).length c291_3, .int .u64 ((rd_T70 l0 x7_1).f4), .int .u64 0, .string (⟨#[]⟩ : ByteArray)]) ?_ 5 _ rfl; (with_reducible repeat (first | refine blk_drewN ?_ _ | refine blk_drew ?_ | refine blk_alloc ?_ _)); refine blk_put (cs := #[.int .i64 ((rd_T70 l0 x7_1).f0), .string ((rd_T70 l0 x7_1).f1), .int .u64 ((rd_T70 l0 x7_1).f2), .slice A291_3 ((rd_T70 l0 x7_1).f3).length c291_3, .int .u64 0, .int .u64 0, .string (⟨#[]⟩ : ByteArray)]) ?_ 4 _ rfl; (with_reducible repeat (first | refine blk_drewN ?_ _ | refine blk_drew ?_ | refine blk_alloc ?_ _)); refine blk_put (cs := #[.int .i64 ((rd_T70 l0 x7_1).f0), .string ((rd_T70 l0 x7_1).f1), .int .u64 ((rd_T70 l0 x7_1).f2), .slice none 0 0, .int .u64 0, .int .u64 0, .string (⟨#[]⟩ : ByteArray)]) ?_ 3 _ rfl; (with_reducible repeat (first | refine blk_drewN ?_ _ | refine blk_drew ?_ | refine blk_alloc ?_ _)); refine blk_put (cs := #[.int .i64 ((rd_T70 l0 x7_1).f0), .string ((rd_T70 l0 x7_1).f1), .int .u64 0, .slice none 0 0, .int .u64 0, .int .u64 0, .string (⟨#[]⟩ : ByteArray)]) ?_ 2 _ rfl; (with_reducible repeat (first | refine blk_drewN ?_ _ | refine blk_drew ?_ | refine blk_alloc ?_ _)); refine blk_put (cs := #[.int .i64 ((rd_T70 l0 x7_1).f0), .string (⟨#[]⟩ : ByteArray), .int .u64 0, .slice none 0 0, .int .u64 0, .int .u64 0, .string (⟨#[]⟩ : ByteArray)]) ?_ 1 _ rfl; (with_reducible repeat (first | refine blk_drewN ?_ _ | refine blk_drew ?_ | refine blk_alloc ?_ _)); refine blk_put (cs := #[.int .i64 0, .string (⟨#[]⟩ : ByteArray), .int .u64 0, .slice none 0 0, .int .u64 0, .int .u64 0, .string (⟨#[]⟩ : ByteArray)]) ?_ 0 _ rfl; (with_reducible repeat (first | refine blk_drewN ?_ _ | refine blk_drew ?_ | refine blk_alloc ?_ _)); exact BK292.out) hb); have n1_ := Aside0.mk (below_step (by repeat (first | (with_reducible first | exact HB.out | apply below_alloc | apply pw_below_drewN | apply below_drew1 | refine below_set ?_ GE292.out) | exact HB.out)) hb); clear BK292; clear HB; have BK292 := n0_; have HB := n1_; clear n0_ n1_; (try clear hb); (try clear hb2); (try clear hk); (try clear hi)))
              go_ret
              exact ⟨by first | rfl | (simp [errW_none, errW_some] <;> rfl) | (simp [*, errW_none, errW_some] <;> rfl), by repeat (first | (with_reducible first | exact HB.out | apply below_alloc | apply pw_below_drewN | apply below_drew1 | refine below_set ?_ GE292.out) | exact HB.out)⟩
            · replace c6 := Bool.eq_false_iff.mpr c6
              subst c6
              have H1 : (tephralaw10_Great.l0 k1 l0 l0 (l0.length : Int) (wrap64 (x7_1 + 1))) = some r := by rw [if_neg (show ¬ (false = true) by decide)] at H; exact H
              clear H
              have H := H1
              clear H1
              have H' := Aside0.mk H
              clear H
              have p291 : 0 ≤ (x7_1 : Int) := of_decide_eq_true (by first | (with_reducible assumption) | assumption)
              have q291 : x7_1 < (l0.length : Int) := of_decide_eq_true (by first | (with_reducible assumption) | assumption)
              obtain ⟨ad291, A291_3, c291_3, e291, hx291_0, hx291_1, hx291_2, hx291_3, hx291_4, hx291_5, hx291_6, hl291_3, hi291_3⟩ := at_T70 HR0.out x7_1 p291 q291
              cases e291
              replace hx291_0 := (HB.out.cell (World.block_lt_of_cell? w _ hx291_0)).trans hx291_0
              replace hx291_1 := (HB.out.cell (World.block_lt_of_cell? w _ hx291_1)).trans hx291_1
              replace hx291_2 := (HB.out.cell (World.block_lt_of_cell? w _ hx291_2)).trans hx291_2
              replace hx291_3 := (HB.out.cell (World.block_lt_of_cell? w _ hx291_3)).trans hx291_3
              replace hx291_4 := (HB.out.cell (World.block_lt_of_cell? w _ hx291_4)).trans hx291_4
              replace hx291_5 := (HB.out.cell (World.block_lt_of_cell? w _ hx291_5)).trans hx291_5
              replace hx291_6 := (HB.out.cell (World.block_lt_of_cell? w _ hx291_6)).trans hx291_6
              have HR291_3 := Aside0.mk hi291_3
              have HC291_3 := Aside0.mk hl291_3
              clear hi291_3 hl291_3
              replace p291 := eq_true p291
              replace q291 := eq_true q291
              go_wp2_with (first | ((with_reducible refine gate_dst (N := 4) rfl ?_); refine box_event ?hg (N := 4) ?hd (cs := #[.int .i64 0, .string (⟨#[]⟩ : ByteArray), .int .u64 0, .slice none 0 0, .int .u64 0, .int .u64 0, .string (⟨#[]⟩ : ByteArray)]) (t := 70) ?hr ?_; (case hd => rfl); (case hg => rfl); (case hr => first | (go_simp; done) | (go_simp; rfl)); intro gb292 hg w10 hbox hb; have n0_ := Aside0.mk (below_step (by repeat (first | (with_reducible first | exact HB.out | apply below_alloc | apply pw_below_drewN | apply below_drew1) | exact HB.out)) hb); have n1_ := Aside0.mk (hbox); have n2_ := Aside0.mk ((by rw [hg]; exact (below_size (by repeat (first | (with_reducible first | exact HB.out | apply below_alloc | apply pw_below_drewN | apply below_drew1) | exact HB.out))) : w.heap.size ≤ gb292)); have n3_ := Aside0.mk ((by rw [hg]; exact (below_size (by repeat (first | (with_reducible first | exact HB.out | apply below_alloc | apply pw_below_drewN | apply below_drew1) | exact HB.out))) : w.heap.size ≤ gb292)); clear HB; have HB := n0_; have BK292 := n1_; have GW292 := n2_; have GE292 := n3_; clear n0_ n1_ n2_ n3_; clear hb hbox hg; have hcz11_0 : w10.cell? ⟨gb292, 0, none⟩ = some (.int .i64 0) := (blk_cell BK292.out 0).trans rfl; have hcz11_1 : w10.cell? ⟨gb292, 1, none⟩ = some (.string (⟨#[]⟩ : ByteArray)) := (blk_cell BK292.out 1).trans rfl; have hcz11_2 : w10.cell? ⟨gb292, 2, none⟩ = some (.int .u64 0) := (blk_cell BK292.out 2).trans rfl; have hcz11_3 : w10.cell? ⟨gb292, 3, none⟩ = some (.slice none 0 0) := (blk_cell BK292.out 3).trans rfl; have hcz11_4 : w10.cell? ⟨gb292, 4, none⟩ = some (.int .u64 0) := (blk_cell BK292.out 4).trans rfl; have hcz11_5 : w10.cell? ⟨gb292, 5, none⟩ = some (.int .u64 0) := (blk_cell BK292.out 5).trans rfl; have hcz11_6 : w10.cell? ⟨gb292, 6, none⟩ = some (.string (⟨#[]⟩ : ByteArray)) := (blk_cell BK292.out 6).trans rfl; have hfz11_0 := blk_frozen BK292.out 0; have hfz11_1 := blk_frozen BK292.out 1; have hfz11_2 := blk_frozen BK292.out 2; have hfz11_3 := blk_frozen BK292.out 3; have hfz11_4 := blk_frozen BK292.out 4; have hfz11_5 := blk_frozen BK292.out 5; have hfz11_6 := blk_frozen BK292.out 6) | ((with_reducible refine gate_callee (f := 42) rfl ?_); refine goesL_ (some 12) rfl rfl Try.func42 (by kernel_rfl) rfl #[.agg #[.int .i64 ((rd_T70 l0 x7_1).f0), .string ((rd_T70 l0 x7_1).f1), .int .u64 ((rd_T70 l0 x7_1).f2), .slice A291_3 ((rd_T70 l0 x7_1).f3).length c291_3, .int .u64 ((rd_T70 l0 x7_1).f4), .int .u64 ((rd_T70 l0 x7_1).f5), .string ((rd_T70 l0 x7_1).f6)]] rfl (by (try simp only [List.map_toArray, List.map_cons, List.map_nil]); first | done | rfl | (simp only [List.length_drop, List.length_take]; rfl)) ?_; (with_reducible refine (tephralaw08_Great.calls k1 ((rd_T70 l0 x7_1).f0) ((rd_T70 l0 x7_1).f1) ((rd_T70 l0 x7_1).f2) _ _ ((rd_T70 l0 x7_1).f3) ((rd_T70 l0 x7_1).f4) ((rd_T70 l0 x7_1).f5) ((rd_T70 l0 x7_1).f6) false _ ?side1 ?side2 A5.out).mono ?_); (case side1 => exact Kd.C_below HR291_3.out (by repeat (first | (with_reducible first | exact HB.out | apply below_alloc | apply pw_below_drewN | apply below_drew1 | refine below_set ?_ GE292.out) | exact HB.out))); (case side2 => exact HC291_3.out); rintro e w12 ⟨rfl, hb⟩; refine ⟨_, rfl, ?_⟩; have n0_ := Aside0.mk (blk_below (g := gb292) (o := .cells #[.int .i64 ((rd_T70 l0 x7_1).f0), .string ((rd_T70 l0 x7_1).f1), .int .u64 ((rd_T70 l0 x7_1).f2), .slice A291_3 ((rd_T70 l0 x7_1).f3).length c291_3, .int .u64 ((rd_T70 l0 x7_1).f4), .int .u64 ((rd_T70 l0 x7_1).f5), .string ((rd_T70 l0 x7_1).f6)] 70 (0, 0)) (by (with_reducible repeat (first | refine blk_drewN ?_ _ | refine blk_drew ?_ | refine blk_alloc ?_ _)); refine blk_put (cs := #[.int .i64 ((rd_T70 l0 x7_1).f0), .string ((rd_T70 l0 x7_1).f1), .int .u64 ((rd_T70 l0 x7_1).f2), .slice A291_3 ((rd_T70 l0 x7_1).f3).length c291_3, .int .u64 ((rd_T70 l0 x7_1).f4), .int .u64 ((rd_T70 l0 x7_1).f5), .string (⟨#[]⟩ : ByteArray)]) ?_ 6 _ rfl; (with_reducible repeat (first | refine blk_drewN ?_ _ | refine blk_drew ?_ | refine blk_alloc ?_ _)); refine blk_put (cs := #[.int .i64 ((rd_T70 l0 x7_1).f0), .string ((rd_T70 l0 x7_1).f1), .int .u64 ((rd_T70 l0 x7_1).f2), .slice A291_3 ((rd_T70 l0 x7_1).f3).length c291_3, .int .u64 ((rd_T70 l0 x7_1).f4), .int .u64 0, .string (⟨#[]⟩ : ByteArray)]) ?_ 5 _ rfl; (with_reducible repeat (first | refine blk_drewN ?_ _ | refine blk_drew ?_ | refine blk_alloc ?_ _)); refine blk_put (cs := #[.int .i64 ((rd_T70 l0 x7_1).f0), .string ((rd_T70 l0 x7_1).f1), .int .u64 ((rd_T70 l0 x7_1).f2), .slice A291_3 ((rd_T70 l0 x7_1).f3).length c291_3, .int .u64 0, .int .u64 0, .string (⟨#[]⟩ : ByteArray)]) ?_ 4 _ rfl; (with_reducible repeat (first | refine blk_drewN ?_ _ | refine blk_drew ?_ | refine blk_alloc ?_ _)); refine blk_put (cs := #[.int .i64 ((rd_T70 l0 x7_1).f0), .string ((rd_T70 l0 x7_1).f1), .int .u64 ((rd_T70 l0 x7_1).f2), .slice none 0 0, .int .u64 0, .int .u64 0, .string (⟨#[]⟩ : ByteArray)]) ?_ 3 _ rfl; (with_reducible repeat (first | refine blk_drewN ?_ _ | refine blk_drew ?_ | refine blk_alloc ?_ _)); refine blk_put (cs := #[.int .i64 ((rd_T70 l0 x7_1).f0), .string ((rd_T70 l0 x7_1).f1), .int .u64 0, .slice none 0 0, .int .u64 0, .int .u64 0, .string (⟨#[]⟩ : ByteArray)]) ?_ 2 _ rfl; (with_reducible repeat (first | refine blk_drewN ?_ _ | refine blk_drew ?_ | refine blk_alloc ?_ _)); refine blk_put (cs := #[.int .i64 ((rd_T70 l0 x7_1).f0), .string (⟨#[]⟩ : ByteArray), .int .u64 0, .slice none 0 0, .int .u64 0, .int .u64 0, .string (⟨#[]⟩ : ByteArray)]) ?_ 1 _ rfl; (with_reducible repeat (first | refine blk_drewN ?_ _ | refine blk_drew ?_ | refine blk_alloc ?_ _)); refine blk_put (cs := #[.int .i64 0, .string (⟨#[]⟩ : ByteArray), .int .u64 0, .slice none 0 0, .int .u64 0, .int .u64 0, .string (⟨#[]⟩ : ByteArray)]) ?_ 0 _ rfl; (with_reducible repeat (first | refine blk_drewN ?_ _ | refine blk_drew ?_ | refine blk_alloc ?_ _)); exact BK292.out) hb); have n1_ := Aside0.mk (below_step (by repeat (first | (with_reducible first | exact HB.out | apply below_alloc | apply pw_below_drewN | apply below_drew1 | refine below_set ?_ GE292.out) | exact HB.out)) hb); clear BK292; clear HB; have BK292 := n0_; have HB := n1_; clear n0_ n1_; (try clear hb); (try clear hb2); (try clear hk); (try clear hi)))
              go_roundg k1
              case measure => have := HK1.out; omega
              case rel => exact ⟨(wrap64 (x7_1 + 1)), (by first | rfl | (simp; done) | (simp [*]; done) | (simp; rw [Bool.eq_iff_iff]; simp; done)), H', ⟨by have := HK1.out; omega⟩, ⟨by repeat (first | (with_reducible first | exact HB.out | apply below_alloc | apply pw_below_drewN | apply below_drew1 | refine below_set ?_ GE292.out) | exact HB.out)⟩⟩
          · rw [if_neg c4] at H
            exact absurd H (by simp)
        · rw [if_neg c3] at H
          exact absurd H (by simp)
      · rw [if_neg c2] at H
        have c2b0 : decide (x7_1 < (l0.length : Int)) = false := decide_eq_false c2
        clear c2
        obtain rfl := Option.some.inj H
        go_wp2
        go_ret
        exact ⟨by first | rfl | (simp [errW_none, errW_some] <;> rfl) | (simp [*, errW_none, errW_some] <;> rfl), by repeat (first | (with_reducible first | exact HB.out | apply below_alloc | apply pw_below_drewN | apply below_drew1) | exact HB.out)⟩

-- NOT PRINTED: function 59 (migrate_All)

-- NOT PRINTED: function 60 (tephraref11_All)

end Go.Proofs.Ythpbkhagjgggjaa.GRR
