-- by a program of this session (gprint.py, over the kit's print): the machine's side of a law
import Derived.Test.YthojcapdbjmneaaGVBx0
import Derived.Test.YthojcapdbjmneaaGVBx1
import Derived.Test.YthojcapdbjmneaaGVBx3
namespace Go.Proofs.Ythojcapdbjmneaa.GVB
open Go.RowKit Go.Proofs.YthojcapdbjmneaaW.PrintWords Go.Proofs.YthojcapdbjmneaaW.PrintLast Go.Proofs.YthojcapdbjmneaaW.PrintMore
attribute [local go_sem] max2_int min2_int max_two min_two max_three min_three max_four min_four   -- for this text's walks alone
set_option linter.unusedVariables false
set_option linter.unusedSimpArgs false

/-! ### tephralaw01_VarintCuts: function 6 -/
mutual
def tephralaw01_VarintCuts.l0 : Nat → List Int → Int → List Int → List Int → Int → Int → Option (Bool)
  | 0, _, _, _, _, _, _ => none
  | k + 1, x0, x1, x5, x19, x20, x21 => if x21 < x20 then (if 0 ≤ x21 then (if x21 < (x19.length : Int) then ((varint_Put.f x5 (rd x19 x21)).bind fun t145 => (tephralaw01_VarintCuts.l0 k x0 x1 t145 x19 x20 (wrap64 (x21 + 1)))) else (none)) else (none)) else (tephralaw01_VarintCuts.l1 k x5 (mn (wrap64 (x1)) (x5.length : Int)) 0 x0 (x0.length : Int) 0)
def tephralaw01_VarintCuts.l1 : Nat → List Int → Int → Int → List Int → Int → Int → Option (Bool)
  | 0, _, _, _, _, _, _ => none
  | k + 1, x5, x8, x9, x34, x35, x36 => if x36 < x35 then (if 0 ≤ x36 then (if x36 < (x34.length : Int) then (if 0 ≤ x8 then (if x8 ≤ (x5.length : Int) then ((varint_Get.f k (x5.take (x8 : Int).toNat) x9).bind fun bt154 => ((varint_Size.f (rd x34 x36)).bind fun t157 => (if (wrap64 (x9 + t157)) > x8 then ((tephralaw01_fixed.f k).bind fun t158 => (if t158 = true then (if bt154.2.2 = 2 then (if bt154.1 = 0 then (some (bt154.2.1 == 0)) else (some false)) else (some false)) else (some false))) else (if bt154.2.2 = 0 then (if bt154.1 = (rd x34 x36) then ((varint_Size.f (rd x34 x36)).bind fun t159 => (if bt154.2.1 = (wrap64 (x9 + t159)) then (tephralaw01_VarintCuts.l1 k x5 x8 bt154.2.1 x34 x35 (wrap64 (x36 + 1))) else (some false))) else (some false)) else (some false))))) else (none)) else (none)) else (none)) else (none)) else ((tephralaw01_fixed.f k).bind fun t148 => (if t148 = true then (some (x9 == (x5.length : Int))) else (some false)))
end
def tephralaw01_VarintCuts.f (k : Nat) (l0 : List Int) (a1 : Int) : Option (Bool) := if (l0.length : Int) > 40 then ((tephralaw01_fixed.f k).bind fun t143 => (some t143)) else (tephralaw01_VarintCuts.l0 k l0 a1 ([] : List Int) l0 (l0.length : Int) 0)
theorem tephralaw01_VarintCuts.mono_l : ∀ k, (∀ y0 y1 y2 y3 y4 y5, LeO (tephralaw01_VarintCuts.l0 k y0 y1 y2 y3 y4 y5) (tephralaw01_VarintCuts.l0 (k + 1) y0 y1 y2 y3 y4 y5)) ∧ (∀ y0 y1 y2 y3 y4 y5, LeO (tephralaw01_VarintCuts.l1 k y0 y1 y2 y3 y4 y5) (tephralaw01_VarintCuts.l1 (k + 1) y0 y1 y2 y3 y4 y5))
  | 0 => ⟨fun _ _ _ _ _ _ r h => by simp [tephralaw01_VarintCuts.l0] at h, fun _ _ _ _ _ _ r h => by simp [tephralaw01_VarintCuts.l1] at h⟩
  | k + 1 => by
    obtain ⟨ih0, ih1⟩ := tephralaw01_VarintCuts.mono_l k
    refine ⟨?_, ?_⟩
    · intro y0 y1 y2 y3 y4 y5
      unfold tephralaw01_VarintCuts.l0
      repeat' first
      | (with_reducible exact ih0 _ _ _ _ _ _)
      | (with_reducible exact ih1 _ _ _ _ _ _)
      | (with_reducible exact tephralaw01_fixed.mono _)
      | (with_reducible exact varint_Get.mono _ _ _)
      | (with_reducible exact LeO.refl _)
      | (with_reducible exact LeO.none _)
      | (with_reducible refine LeO.ite ?_ ?_)
      | (with_reducible refine LeO.bind ?_ (fun _ => ?_))
      | exact ih0 _ _ _ _ _ _
      | exact ih1 _ _ _ _ _ _
      | exact tephralaw01_fixed.mono _
      | exact varint_Get.mono _ _ _
      | exact LeO.none _
      | refine LeO.ite ?_ ?_
      | refine LeO.bind ?_ (fun _ => ?_)
    · intro y0 y1 y2 y3 y4 y5
      unfold tephralaw01_VarintCuts.l1
      repeat' first
      | (with_reducible exact ih0 _ _ _ _ _ _)
      | (with_reducible exact ih1 _ _ _ _ _ _)
      | (with_reducible exact tephralaw01_fixed.mono _)
      | (with_reducible exact varint_Get.mono _ _ _)
      | (with_reducible exact LeO.refl _)
      | (with_reducible exact LeO.none _)
      | (with_reducible refine LeO.ite ?_ ?_)
      | (with_reducible refine LeO.bind ?_ (fun _ => ?_))
      | exact ih0 _ _ _ _ _ _
      | exact ih1 _ _ _ _ _ _
      | exact tephralaw01_fixed.mono _
      | exact varint_Get.mono _ _ _
      | exact LeO.none _
      | refine LeO.ite ?_ ?_
      | refine LeO.bind ?_ (fun _ => ?_)
theorem tephralaw01_VarintCuts.mono : ∀ a0 a1 k, LeO (tephralaw01_VarintCuts.f k a0 a1) (tephralaw01_VarintCuts.f (k + 1) a0 a1) := by
  intro a0 a1 k
  obtain ⟨ih0, ih1⟩ := tephralaw01_VarintCuts.mono_l k
  unfold tephralaw01_VarintCuts.f
  repeat' first
      | (with_reducible exact ih0 _ _ _ _ _ _)
      | (with_reducible exact ih1 _ _ _ _ _ _)
      | (with_reducible exact tephralaw01_fixed.mono _)
      | (with_reducible exact varint_Get.mono _ _ _)
      | (with_reducible exact LeO.refl _)
      | (with_reducible exact LeO.none _)
      | (with_reducible refine LeO.ite ?_ ?_)
      | (with_reducible refine LeO.bind ?_ (fun _ => ?_))
      | exact ih0 _ _ _ _ _ _
      | exact ih1 _ _ _ _ _ _
      | exact tephralaw01_fixed.mono _
      | exact varint_Get.mono _ _ _
      | exact LeO.none _
      | refine LeO.ite ?_ ?_
      | refine LeO.bind ?_ (fun _ => ?_)
set_option maxHeartbeats 8000000 in
set_option maxRecDepth 100000 in
theorem tephralaw01_VarintCuts.calls (k : Nat) (A0 : Option Addr) (c0 : Nat) (l0 : List Int) (a1 : Int) (r : Bool) (w : World) (hr0 : Kd.C (Kd.int .u64) w A0 l0.length l0) (hc0 : l0.length ≤ c0) (h : tephralaw01_VarintCuts.f k l0 a1 = some r) :
    Calls Try.prog 6 #[.slice A0 l0.length c0, .int .u16 a1] w fun e w' => e = .returned (.bool r) ∧ Below w.heap.size w w' := by
  have HR0 := Aside0.mk hr0
  have HC0 := Aside0.mk hc0
  clear hr0 hc0
  have HB := Aside0.mk (Below.refl w.heap.size w)
  have H : (if (l0.length : Int) > 40 then ((tephralaw01_fixed.f k).bind fun t143 => (some t143)) else (tephralaw01_VarintCuts.l0 k l0 a1 ([] : List Int) l0 (l0.length : Int) 0)) = some r := h
  clear h
  by_cases c3 : (l0.length : Int) > 40
  · rw [if_pos c3] at H
    have c3b0 : decide (40 < (l0.length : Int)) = true := decide_eq_true c3
    have c3b1 : decide (40 < l0.length) = true := decide_eq_true (by omega)
    clear c3
    replace H := Option.bind_eq_some_iff.mp H
    obtain ⟨t143, A40, H⟩ := H
    replace H : (some t143) = some r := H
    have A4 := Aside0.mk A40
    clear A40
    obtain rfl := Option.some.inj H
    go_enter Try.func6, Try.ntmps6
    go_wp2_with (first | ((with_reducible refine gate_callee (f := 15) rfl ?_); refine goesL_ (some 18) rfl rfl Try.func15 (by kernel_rfl) rfl #[] rfl (by (try simp only [List.map_toArray, List.map_cons, List.map_nil]); first | done | rfl | (simp only [List.length_drop, List.length_take]; rfl)) ?_; (with_reducible refine (tephralaw01_fixed.calls k  t143 _ A4.out).mono ?_); rintro e w5 ⟨rfl, hb⟩; refine ⟨_, rfl, ?_⟩; have n0_ := Aside0.mk (below_step (by repeat (first | (with_reducible first | exact HB.out | apply below_alloc | apply pw_below_drewN | apply below_drew1) | exact HB.out)) hb); clear HB; have HB := n0_; clear n0_; (try clear hb); (try clear hb2); (try clear hk); (try clear hi)))
    go_ret
    exact ⟨by first | rfl | (simp [errW_none, errW_some] <;> rfl) | (simp [*, errW_none, errW_some] <;> rfl), by repeat (first | (with_reducible first | exact HB.out | apply below_alloc | apply pw_below_drewN | apply below_drew1) | exact HB.out)⟩
  · rw [if_neg c3] at H
    have c3b0 : decide (40 < (l0.length : Int)) = false := decide_eq_false c3
    have c3b1 : decide (40 < l0.length) = false := decide_eq_false (by omega)
    clear c3
    have H' := Aside0.mk H
    clear H
    go_enter Try.func6, Try.ntmps6
    go_wp2
    go_loopg [5, 21] k (fun kq v5 v21 w' => ∃ (x5_1 : List Int) (x21_1 : Int), v21 = .int .i64 x21_1 ∧ Aside0 (tephralaw01_VarintCuts.l0 kq l0 a1 x5_1 l0 (l0.length : Int) x21_1 = some r) ∧ Aside0 (kq ≤ k) ∧ Aside0 (Kd.R (Kd.int .u8) 5 w' w.heap.size (fun _ => True) v5 x5_1) ∧ Aside0 (Below w.heap.size w w'))
    case atStart => exact ⟨(([] : List Int)), (0), (by first | rfl | (simp; done) | (simp [*]; done)), H', ⟨Nat.le_refl _⟩, ⟨by first | exact Kd.R_nil _ _ _ _ _ | exact Kd.N_nil _ _ _ _ _ | exact Kd.V_nil _ _ _ _ _ | exact Kd.Q_nil _ _ _ _ _ | exact Kd.S_nil _ _ _ _ _⟩, ⟨by repeat (first | (with_reducible first | exact HB.out | apply below_alloc | apply pw_below_drewN | apply below_drew1) | exact HB.out)⟩⟩
    case round =>
      clear H'
      try clear c1
      try clear p2
      try clear c3
      try clear c3b0
      try clear c3b1
      obtain ⟨x5_1, x21_1, rfl, HA, HK1, HO_5, HB⟩ := hrel
      cases gk with
      | zero => exact absurd HA.out (by simp [tephralaw01_VarintCuts.l0])
      | succ k1 =>
        have H := HA.out
        clear HA
        simp only [tephralaw01_VarintCuts.l0] at H
        by_cases c6 : x21_1 < (l0.length : Int)
        · rw [if_pos c6] at H
          have c6b0 : decide (x21_1 < (l0.length : Int)) = true := decide_eq_true c6
          clear c6
          by_cases c7 : 0 ≤ x21_1
          · rw [if_pos c7] at H
            have c7b0 : decide (0 ≤ x21_1) = true := decide_eq_true c7
            clear c7
            by_cases c8 : x21_1 < (l0.length : Int)
            · rw [if_pos c8] at H
              have c8b0 : decide (x21_1 < (l0.length : Int)) = true := decide_eq_true c8
              clear c8
              replace H := Option.bind_eq_some_iff.mp H
              obtain ⟨t145, A90, H⟩ := H
              replace H : (tephralaw01_VarintCuts.l0 k1 l0 a1 t145 l0 (l0.length : Int) (wrap64 (x21_1 + 1))) = some r := H
              have A9 := Aside0.mk A90
              clear A90
              have H' := Aside0.mk H
              clear H
              have p144 : 0 ≤ (x21_1 : Int) := of_decide_eq_true (by first | (with_reducible assumption) | assumption)
              have q144 : x21_1 < (l0.length : Int) := of_decide_eq_true (by first | (with_reducible assumption) | assumption)
              obtain ⟨ad144, e144, hx144_0⟩ := Kd.at_int HR0.out x21_1 p144 q144
              cases e144
              replace hx144_0 := (HB.out.cell (World.block_lt_of_cell? w _ hx144_0)).trans hx144_0
              replace p144 := eq_true p144
              replace q144 := eq_true q144
              obtain ⟨Ao10, co10, eo10⟩ := Kd.R_slice HO_5.out
              subst eo10
              go_wp2_with (first | ((with_reducible refine gate_callee (f := 18) rfl ?_); refine goesL_ (some 27) rfl rfl Try.func18 (by kernel_rfl) rfl #[.slice Ao10 x5_1.length co10, .int .u64 (rd l0 x21_1)] rfl (by (try simp only [List.map_toArray, List.map_cons, List.map_nil]); first | done | rfl | (simp only [List.length_drop, List.length_take]; rfl)) ?_; (with_reducible refine (varint_Put.calls _ _ x5_1 (rd l0 x21_1) t145 _ ?side1 ?side2 A9.out).mono ?_); (case side1 => repeat (first | exact (Kd.R_reads' HO_5.out).2.2 | (with_reducible refine Kd.C_alloc ?_ _) | (with_reducible refine Kd.C_drewN ?_ _) | (with_reducible refine Kd.C_drew ?_))); (case side2 => exact (Kd.R_reads' HO_5.out).2.1); rintro e w11 ⟨v146, rfl, ho0, hb⟩; refine ⟨_, rfl, ?_⟩; have n0_ := Aside0.mk (Kd.R_elder' (by (with_reducible repeat (first | apply Kd.R_alloc | apply Kd.R_drewN | apply Kd.R_drew)); exact HO_5.out) (Kd.R_base ho0) hb); have n1_ := Aside0.mk (Kd.R_lower (Kd.R_new' ho0 (Kd.R_lt (by (with_reducible repeat (first | apply Kd.R_alloc | apply Kd.R_drewN | apply Kd.R_drew)); exact HO_5.out))) (below_size (by repeat (first | (with_reducible first | exact HB.out | apply below_alloc | apply pw_below_drewN | apply below_drew1) | exact HB.out)))); have n2_ := Aside0.mk (below_step (by repeat (first | (with_reducible first | exact HB.out | apply below_alloc | apply pw_below_drewN | apply below_drew1) | exact HB.out)) hb); clear HO_5; clear HB; have HO_5 := n0_; have HO147 := n1_; have HB := n2_; clear n0_ n1_ n2_; (try clear hb); (try clear hb2); (try clear hk); (try clear hi); (try clear ho0)))
              go_roundg k1
              case measure => have := HK1.out; omega
              case rel => exact ⟨(t145), (wrap64 (x21_1 + 1)), (by first | rfl | (simp; done) | (simp [*]; done)), H', ⟨by have := HK1.out; omega⟩, ⟨by (with_reducible repeat (first | apply Kd.R_alloc | apply Kd.R_drewN | apply Kd.R_drew)); exact Kd.R_mono HO147.out (fun _ hk => trivial)⟩, ⟨by repeat (first | (with_reducible first | exact HB.out | apply below_alloc | apply pw_below_drewN | apply below_drew1) | exact HB.out)⟩⟩
            · rw [if_neg c8] at H
              exact absurd H (by simp)
          · rw [if_neg c7] at H
            exact absurd H (by simp)
        · rw [if_neg c6] at H
          have c6b0 : decide (x21_1 < (l0.length : Int)) = false := decide_eq_false c6
          clear c6
          obtain ⟨ji12, hji12⟩ : ∃ j_ : Int, (mn (wrap64 (a1)) (x5_1.length : Int)) = j_ := ⟨_, rfl⟩
          replace H : (tephralaw01_VarintCuts.l1 k1 x5_1 ji12 0 l0 (l0.length : Int) 0) = some r := by first | (rw [hji12] at H; exact H) | (simp only [hji12] at H ⊢; exact H)
          have hji12_ : (if (x5_1.length : Int) < (wrap64 (a1)) then (x5_1.length : Int) else (wrap64 (a1))) = ji12 := hji12
          have H' := Aside0.mk H
          clear H
          obtain ⟨Ao13, co13, eo13⟩ := Kd.R_slice HO_5.out
          subst eo13
          go_wp2
          go_loopg [9, 36] k1 (fun kq v9 v36 w' => ∃ (x9_2 : Int) (x36_2 : Int), v9 = .int .i64 x9_2 ∧ v36 = .int .i64 x36_2 ∧ Aside0 (tephralaw01_VarintCuts.l1 kq x5_1 ji12 x9_2 l0 (l0.length : Int) x36_2 = some r) ∧ Aside0 (kq ≤ k1) ∧ Aside0 (Kd.R (Kd.int .u8) 5 w' w.heap.size (fun _ => True) (.slice Ao13 x5_1.length co13) x5_1) ∧ Aside0 (Below w.heap.size w w'))
          case atStart => exact ⟨(0), (0), (by first | rfl | (simp; done) | (simp [*]; done)), (by first | rfl | (simp; done) | (simp [*]; done)), H', ⟨Nat.le_refl _⟩, ⟨by (with_reducible repeat (first | apply Kd.R_alloc | apply Kd.R_drewN | apply Kd.R_drew)); exact HO_5.out⟩, ⟨by repeat (first | (with_reducible first | exact HB.out | apply below_alloc | apply pw_below_drewN | apply below_drew1) | exact HB.out)⟩⟩
          case round =>
            clear H'
            try clear c1
            try clear p1
            try clear q1
            try clear hx1
            try clear p2
            try clear c3
            try clear c3b0
            try clear c3b1
            try clear c6
            try clear c6b0
            try clear p6
            try clear c7
            try clear c7b0
            try clear c8
            try clear c8b0
            try clear hx144_0
            try clear p144
            try clear p2
            try clear q144
            obtain ⟨x9_2, x36_2, rfl, rfl, HA, HK2, HO_5, HB⟩ := hrel
            cases gk with
            | zero => exact absurd HA.out (by simp [tephralaw01_VarintCuts.l1])
            | succ k2 =>
              have H := HA.out
              clear HA
              simp only [tephralaw01_VarintCuts.l1] at H
              by_cases c14 : x36_2 < (l0.length : Int)
              · rw [if_pos c14] at H
                have c14b0 : decide (x36_2 < (l0.length : Int)) = true := decide_eq_true c14
                clear c14
                by_cases c15 : 0 ≤ x36_2
                · rw [if_pos c15] at H
                  have c15b0 : decide (0 ≤ x36_2) = true := decide_eq_true c15
                  clear c15
                  by_cases c16 : x36_2 < (l0.length : Int)
                  · rw [if_pos c16] at H
                    have c16b0 : decide (x36_2 < (l0.length : Int)) = true := decide_eq_true c16
                    clear c16
                    by_cases c17 : 0 ≤ ji12
                    · rw [if_pos c17] at H
                      have c17b0 := eq_true c17
                      have c17b1 : decide (0 ≤ ji12) = true := decide_eq_true c17
                      clear c17
                      by_cases c18 : ji12 ≤ (x5_1.length : Int)
                      · rw [if_pos c18] at H
                        have c18b0 := eq_true c18
                        have c18b1 : decide (ji12 ≤ (x5_1.length : Int)) = true := decide_eq_true c18
                        clear c18
                        obtain ⟨y150, hy150⟩ : ∃ y_ : List Int, y_ = (x5_1.take (ji12 : Int).toNat) := ⟨_, rfl⟩
                        replace H : ((varint_Get.f k2 y150 x9_2).bind fun bt154 => ((varint_Size.f (rd l0 x36_2)).bind fun t157 => (if (wrap64 (x9_2 + t157)) > ji12 then ((tephralaw01_fixed.f k2).bind fun t158 => (if t158 = true then (if bt154.2.2 = 2 then (if bt154.1 = 0 then (some (bt154.2.1 == 0)) else (some false)) else (some false)) else (some false))) else (if bt154.2.2 = 0 then (if bt154.1 = (rd l0 x36_2) then ((varint_Size.f (rd l0 x36_2)).bind fun t159 => (if bt154.2.1 = (wrap64 (x9_2 + t159)) then (tephralaw01_VarintCuts.l1 k2 x5_1 ji12 bt154.2.1 l0 (l0.length : Int) (wrap64 (x36_2 + 1))) else (some false))) else (some false)) else (some false))))) = some r := by first | (rw [hy150]; with_reducible exact H) | (have H2_ := (Option.bind_some _ _).symm.trans H; rw [hy150]; with_reducible exact H2_) | (have H2_ := (Option.bind_some _ _).symm.trans H; with_reducible exact H2_) | with_reducible exact H | (rw [hy150]; exact H) | exact H
                        have Ny150 := Aside0.mk hy150
                        clear hy150
                        replace H := Option.bind_eq_some_iff.mp H
                        obtain ⟨⟨t154, t155, t156⟩, A190, H⟩ := H
                        replace H : ((varint_Size.f (rd l0 x36_2)).bind fun t157 => (if (wrap64 (x9_2 + t157)) > ji12 then ((tephralaw01_fixed.f k2).bind fun t158 => (if t158 = true then (if t156 = 2 then (if t154 = 0 then (some (t155 == 0)) else (some false)) else (some false)) else (some false))) else (if t156 = 0 then (if t154 = (rd l0 x36_2) then ((varint_Size.f (rd l0 x36_2)).bind fun t159 => (if t155 = (wrap64 (x9_2 + t159)) then (tephralaw01_VarintCuts.l1 k2 x5_1 ji12 t155 l0 (l0.length : Int) (wrap64 (x36_2 + 1))) else (some false))) else (some false)) else (some false)))) = some r := H
                        have A19 := Aside0.mk A190
                        clear A190
                        replace H := Option.bind_eq_some_iff.mp H
                        obtain ⟨t157, A200, H⟩ := H
                        replace H : (if (wrap64 (x9_2 + t157)) > ji12 then ((tephralaw01_fixed.f k2).bind fun t158 => (if t158 = true then (if t156 = 2 then (if t154 = 0 then (some (t155 == 0)) else (some false)) else (some false)) else (some false))) else (if t156 = 0 then (if t154 = (rd l0 x36_2) then ((varint_Size.f (rd l0 x36_2)).bind fun t159 => (if t155 = (wrap64 (x9_2 + t159)) then (tephralaw01_VarintCuts.l1 k2 x5_1 ji12 t155 l0 (l0.length : Int) (wrap64 (x36_2 + 1))) else (some false))) else (some false)) else (some false))) = some r := H
                        have A20 := Aside0.mk A200
                        clear A200
                        by_cases c21 : (wrap64 (x9_2 + t157)) > ji12
                        · rw [if_pos c21] at H
                          have c21b0 : decide (ji12 < (wrap64 (x9_2 + t157))) = true := decide_eq_true c21
                          clear c21
                          replace H := Option.bind_eq_some_iff.mp H
                          obtain ⟨t158, A220, H⟩ := H
                          replace H : (if t158 = true then (if t156 = 2 then (if t154 = 0 then (some (t155 == 0)) else (some false)) else (some false)) else (some false)) = some r := H
                          have A22 := Aside0.mk A220
                          clear A220
                          by_cases c23 : t158 = true
                          · subst c23
                            have H1 : (if t156 = 2 then (if t154 = 0 then (some (t155 == 0)) else (some false)) else (some false)) = some r := by rw [if_pos rfl] at H; exact H
                            clear H
                            have H := H1
                            clear H1
                            by_cases c24 : t156 = 2
                            · rw [if_pos c24] at H
                              have c24b0 : (t156 == 2) = true := beq_iff_eq.mpr c24
                              have c24b1 : (t156 != 2) = false := bne_eq_false_iff_eq.mpr c24
                              clear c24
                              by_cases c25 : t154 = 0
                              · rw [if_pos c25] at H
                                have c25b0 : (t154 == 0) = true := beq_iff_eq.mpr c25
                                have c25b1 : (t154 != 0) = false := bne_eq_false_iff_eq.mpr c25
                                clear c25
                                obtain rfl := Option.some.inj H
                                have p149 : 0 ≤ (x36_2 : Int) := of_decide_eq_true (by first | (with_reducible assumption) | assumption)
                                have q149 : x36_2 < (l0.length : Int) := of_decide_eq_true (by first | (with_reducible assumption) | assumption)
                                obtain ⟨ad149, e149, hx149_0⟩ := Kd.at_int HR0.out x36_2 p149 q149
                                cases e149
                                replace hx149_0 := (HB.out.cell (World.block_lt_of_cell? w _ hx149_0)).trans hx149_0
                                replace p149 := eq_true p149
                                replace q149 := eq_true q149
                                have q26 : (ji12 : Int) ≤ ((x5_1.length : Int) : Int) := of_decide_eq_true (by first | (with_reducible assumption) | assumption)
                                obtain ⟨i026, hi026, _, hsz26, _⟩ := info_parts info5
                                have hroom26 : x5_1.length ≤ co13 := (Kd.R_reads' HO_5.out).2.1
                                have hC26 : Kd.C (Kd.int .u8) _ Ao13 x5_1.length x5_1 := (Kd.R_reads' HO_5.out).2.2
                                have hcut26 := cut_to (P := Try.prog) 22 5 .i64 Try.underlying22 hi026 Ao13 x5_1.length co13 ji12 (of_decide_eq_true (by first | (with_reducible assumption) | assumption)) q26 hroom26
                                have hr26 := Kd.C_take (m := (ji12 : Int).toNat) hC26 (by omega)
                                have hy26 : y150.length = (ji12 : Int).toNat := (by rw [Ny150.out, List.length_take]; omega)
                                rw [← Ny150.out] at hr26
                                rw [← hy26] at hcut26
                                have HR153 := Aside0.mk hr26
                                have HC153 := Aside0.mk (show y150.length ≤ co13 from by omega)
                                clear hr26 hC26 hroom26 hi026 hsz26
                                have KY26 := Aside0.mk hy26
                                clear hy26
                                have KL26 := Aside0.mk (show (ji12 : Int).toNat ≤ x5_1.length from by omega)
                                replace q26 := eq_true q26
                                go_wp2_with (first | ((with_reducible refine gate_callee (f := 16) rfl ?_); refine goesL_ (some 45) rfl rfl Try.func16 (by kernel_rfl) rfl #[.slice Ao13 y150.length co13, .int .i64 x9_2] rfl (by (try simp only [List.map_toArray, List.map_cons, List.map_nil]); first | done | rfl | (simp only [List.length_drop, List.length_take]; rfl)) ?_; (with_reducible refine (varint_Get.calls k2 _ _ y150 x9_2 t154 t155 t156 _ ?side1 ?side2 A19.out).mono ?_); (case side1 => repeat (first | exact (by repeat (first | (with_reducible exact HR153.out) | (with_reducible refine Kd.C_alloc ?_ _) | (with_reducible refine Kd.C_drewN ?_ _) | (with_reducible refine Kd.C_drew ?_) | exact HR153.out)) | (with_reducible refine Kd.C_alloc ?_ _) | (with_reducible refine Kd.C_drewN ?_ _) | (with_reducible refine Kd.C_drew ?_))); (case side2 => exact HC153.out); rintro e w' ⟨rfl, ⟨nd, rfl⟩⟩; refine ⟨_, rfl, ?_⟩) | ((with_reducible refine gate_callee (f := 20) rfl ?_); refine goesL_ (some 51) rfl rfl Try.func20 (by kernel_rfl) rfl #[.int .u64 (rd l0 x36_2)] rfl (by (try simp only [List.map_toArray, List.map_cons, List.map_nil]); first | done | rfl | (simp only [List.length_drop, List.length_take]; rfl)) ?_; (with_reducible refine (varint_Size.calls (rd l0 x36_2) t157 _ A20.out).mono ?_); rintro e w27 ⟨rfl, hb⟩; refine ⟨_, rfl, ?_⟩; have n0_ := Aside0.mk (Kd.R_below (by (with_reducible repeat (first | apply Kd.R_alloc | apply Kd.R_drewN | apply Kd.R_drew)); exact HO_5.out) hb); have n1_ := Aside0.mk (Kd.C_below (by repeat (first | (with_reducible exact HR153.out) | (with_reducible refine Kd.C_alloc ?_ _) | (with_reducible refine Kd.C_drewN ?_ _) | (with_reducible refine Kd.C_drew ?_) | exact HR153.out)) hb); have n2_ := Aside0.mk (below_step (by repeat (first | (with_reducible first | exact HB.out | apply below_alloc | apply pw_below_drewN | apply below_drew1) | exact HB.out)) hb); clear HO_5; clear HR153; clear HB; have HO_5 := n0_; have HR153 := n1_; have HB := n2_; clear n0_ n1_ n2_; (try clear hb); (try clear hb2); (try clear hk); (try clear hi)) | ((with_reducible refine gate_callee (f := 15) rfl ?_); refine goesL_ (some 55) rfl rfl Try.func15 (by kernel_rfl) rfl #[] rfl (by (try simp only [List.map_toArray, List.map_cons, List.map_nil]); first | done | rfl | (simp only [List.length_drop, List.length_take]; rfl)) ?_; (with_reducible refine (tephralaw01_fixed.calls k2  true _ A22.out).mono ?_); rintro e w28 ⟨rfl, hb⟩; refine ⟨_, rfl, ?_⟩; have n0_ := Aside0.mk (Kd.R_below (by (with_reducible repeat (first | apply Kd.R_alloc | apply Kd.R_drewN | apply Kd.R_drew)); exact HO_5.out) hb); have n1_ := Aside0.mk (Kd.C_below (by repeat (first | (with_reducible exact HR153.out) | (with_reducible refine Kd.C_alloc ?_ _) | (with_reducible refine Kd.C_drewN ?_ _) | (with_reducible refine Kd.C_drew ?_) | exact HR153.out)) hb); have n2_ := Aside0.mk (below_step (by repeat (first | (with_reducible first | exact HB.out | apply below_alloc | apply pw_below_drewN | apply below_drew1) | exact HB.out)) hb); clear HO_5; clear HR153; clear HB; have HO_5 := n0_; have HR153 := n1_; have HB := n2_; clear n0_ n1_ n2_; (try clear hb); (try clear hb2); (try clear hk); (try clear hi)))
                                go_ret
                                exact ⟨by first | rfl | (simp [errW_none, errW_some] <;> rfl) | (simp only [← hji12]; first | rfl | (simp [errW_none, errW_some] <;> rfl)) | (simp [*, errW_none, errW_some] <;> rfl), by repeat (first | (with_reducible first | exact HB.out | apply below_alloc | apply pw_below_drewN | apply below_drew1) | exact HB.out)⟩
                              · rw [if_neg c25] at H
                                have c25b0 : (t154 == 0) = false := beq_eq_false_iff_ne.mpr c25
                                have c25b1 : (t154 != 0) = true := bne_iff_ne.mpr c25
                                obtain rfl := Option.some.inj H
                                have p149 : 0 ≤ (x36_2 : Int) := of_decide_eq_true (by first | (with_reducible assumption) | assumption)
                                have q149 : x36_2 < (l0.length : Int) := of_decide_eq_true (by first | (with_reducible assumption) | assumption)
                                obtain ⟨ad149, e149, hx149_0⟩ := Kd.at_int HR0.out x36_2 p149 q149
                                cases e149
                                replace hx149_0 := (HB.out.cell (World.block_lt_of_cell? w _ hx149_0)).trans hx149_0
                                replace p149 := eq_true p149
                                replace q149 := eq_true q149
                                have q29 : (ji12 : Int) ≤ ((x5_1.length : Int) : Int) := of_decide_eq_true (by first | (with_reducible assumption) | assumption)
                                obtain ⟨i029, hi029, _, hsz29, _⟩ := info_parts info5
                                have hroom29 : x5_1.length ≤ co13 := (Kd.R_reads' HO_5.out).2.1
                                have hC29 : Kd.C (Kd.int .u8) _ Ao13 x5_1.length x5_1 := (Kd.R_reads' HO_5.out).2.2
                                have hcut29 := cut_to (P := Try.prog) 22 5 .i64 Try.underlying22 hi029 Ao13 x5_1.length co13 ji12 (of_decide_eq_true (by first | (with_reducible assumption) | assumption)) q29 hroom29
                                have hr29 := Kd.C_take (m := (ji12 : Int).toNat) hC29 (by omega)
                                have hy29 : y150.length = (ji12 : Int).toNat := (by rw [Ny150.out, List.length_take]; omega)
                                rw [← Ny150.out] at hr29
                                rw [← hy29] at hcut29
                                have HR153 := Aside0.mk hr29
                                have HC153 := Aside0.mk (show y150.length ≤ co13 from by omega)
                                clear hr29 hC29 hroom29 hi029 hsz29
                                have KY29 := Aside0.mk hy29
                                clear hy29
                                have KL29 := Aside0.mk (show (ji12 : Int).toNat ≤ x5_1.length from by omega)
                                replace q29 := eq_true q29
                                go_wp2_with (first | ((with_reducible refine gate_callee (f := 16) rfl ?_); refine goesL_ (some 45) rfl rfl Try.func16 (by kernel_rfl) rfl #[.slice Ao13 y150.length co13, .int .i64 x9_2] rfl (by (try simp only [List.map_toArray, List.map_cons, List.map_nil]); first | done | rfl | (simp only [List.length_drop, List.length_take]; rfl)) ?_; (with_reducible refine (varint_Get.calls k2 _ _ y150 x9_2 t154 t155 t156 _ ?side1 ?side2 A19.out).mono ?_); (case side1 => repeat (first | exact (by repeat (first | (with_reducible exact HR153.out) | (with_reducible refine Kd.C_alloc ?_ _) | (with_reducible refine Kd.C_drewN ?_ _) | (with_reducible refine Kd.C_drew ?_) | exact HR153.out)) | (with_reducible refine Kd.C_alloc ?_ _) | (with_reducible refine Kd.C_drewN ?_ _) | (with_reducible refine Kd.C_drew ?_))); (case side2 => exact HC153.out); rintro e w' ⟨rfl, ⟨nd, rfl⟩⟩; refine ⟨_, rfl, ?_⟩) | ((with_reducible refine gate_callee (f := 20) rfl ?_); refine goesL_ (some 51) rfl rfl Try.func20 (by kernel_rfl) rfl #[.int .u64 (rd l0 x36_2)] rfl (by (try simp only [List.map_toArray, List.map_cons, List.map_nil]); first | done | rfl | (simp only [List.length_drop, List.length_take]; rfl)) ?_; (with_reducible refine (varint_Size.calls (rd l0 x36_2) t157 _ A20.out).mono ?_); rintro e w30 ⟨rfl, hb⟩; refine ⟨_, rfl, ?_⟩; have n0_ := Aside0.mk (Kd.R_below (by (with_reducible repeat (first | apply Kd.R_alloc | apply Kd.R_drewN | apply Kd.R_drew)); exact HO_5.out) hb); have n1_ := Aside0.mk (Kd.C_below (by repeat (first | (with_reducible exact HR153.out) | (with_reducible refine Kd.C_alloc ?_ _) | (with_reducible refine Kd.C_drewN ?_ _) | (with_reducible refine Kd.C_drew ?_) | exact HR153.out)) hb); have n2_ := Aside0.mk (below_step (by repeat (first | (with_reducible first | exact HB.out | apply below_alloc | apply pw_below_drewN | apply below_drew1) | exact HB.out)) hb); clear HO_5; clear HR153; clear HB; have HO_5 := n0_; have HR153 := n1_; have HB := n2_; clear n0_ n1_ n2_; (try clear hb); (try clear hb2); (try clear hk); (try clear hi)) | ((with_reducible refine gate_callee (f := 15) rfl ?_); refine goesL_ (some 55) rfl rfl Try.func15 (by kernel_rfl) rfl #[] rfl (by (try simp only [List.map_toArray, List.map_cons, List.map_nil]); first | done | rfl | (simp only [List.length_drop, List.length_take]; rfl)) ?_; (with_reducible refine (tephralaw01_fixed.calls k2  true _ A22.out).mono ?_); rintro e w31 ⟨rfl, hb⟩; refine ⟨_, rfl, ?_⟩; have n0_ := Aside0.mk (Kd.R_below (by (with_reducible repeat (first | apply Kd.R_alloc | apply Kd.R_drewN | apply Kd.R_drew)); exact HO_5.out) hb); have n1_ := Aside0.mk (Kd.C_below (by repeat (first | (with_reducible exact HR153.out) | (with_reducible refine Kd.C_alloc ?_ _) | (with_reducible refine Kd.C_drewN ?_ _) | (with_reducible refine Kd.C_drew ?_) | exact HR153.out)) hb); have n2_ := Aside0.mk (below_step (by repeat (first | (with_reducible first | exact HB.out | apply below_alloc | apply pw_below_drewN | apply below_drew1) | exact HB.out)) hb); clear HO_5; clear HR153; clear HB; have HO_5 := n0_; have HR153 := n1_; have HB := n2_; clear n0_ n1_ n2_; (try clear hb); (try clear hb2); (try clear hk); (try clear hi)))
                                go_ret
                                exact ⟨by first | rfl | (simp [errW_none, errW_some] <;> rfl) | (simp only [← hji12]; first | rfl | (simp [errW_none, errW_some] <;> rfl)) | (simp [*, errW_none, errW_some] <;> rfl), by repeat (first | (with_reducible first | exact HB.out | apply below_alloc | apply pw_below_drewN | apply below_drew1) | exact HB.out)⟩
                            · rw [if_neg c24] at H
                              have c24b0 : (t156 == 2) = false := beq_eq_false_iff_ne.mpr c24
                              have c24b1 : (t156 != 2) = true := bne_iff_ne.mpr c24
                              obtain rfl := Option.some.inj H
                              have p149 : 0 ≤ (x36_2 : Int) := of_decide_eq_true (by first | (with_reducible assumption) | assumption)
                              have q149 : x36_2 < (l0.length : Int) := of_decide_eq_true (by first | (with_reducible assumption) | assumption)
                              obtain ⟨ad149, e149, hx149_0⟩ := Kd.at_int HR0.out x36_2 p149 q149
                              cases e149
                              replace hx149_0 := (HB.out.cell (World.block_lt_of_cell? w _ hx149_0)).trans hx149_0
                              replace p149 := eq_true p149
                              replace q149 := eq_true q149
                              have q32 : (ji12 : Int) ≤ ((x5_1.length : Int) : Int) := of_decide_eq_true (by first | (with_reducible assumption) | assumption)
                              obtain ⟨i032, hi032, _, hsz32, _⟩ := info_parts info5
                              have hroom32 : x5_1.length ≤ co13 := (Kd.R_reads' HO_5.out).2.1
                              have hC32 : Kd.C (Kd.int .u8) _ Ao13 x5_1.length x5_1 := (Kd.R_reads' HO_5.out).2.2
                              have hcut32 := cut_to (P := Try.prog) 22 5 .i64 Try.underlying22 hi032 Ao13 x5_1.length co13 ji12 (of_decide_eq_true (by first | (with_reducible assumption) | assumption)) q32 hroom32
                              have hr32 := Kd.C_take (m := (ji12 : Int).toNat) hC32 (by omega)
                              have hy32 : y150.length = (ji12 : Int).toNat := (by rw [Ny150.out, List.length_take]; omega)
                              rw [← Ny150.out] at hr32
                              rw [← hy32] at hcut32
                              have HR153 := Aside0.mk hr32
                              have HC153 := Aside0.mk (show y150.length ≤ co13 from by omega)
                              clear hr32 hC32 hroom32 hi032 hsz32
                              have KY32 := Aside0.mk hy32
                              clear hy32
                              have KL32 := Aside0.mk (show (ji12 : Int).toNat ≤ x5_1.length from by omega)
                              replace q32 := eq_true q32
                              go_wp2_with (first | ((with_reducible refine gate_callee (f := 16) rfl ?_); refine goesL_ (some 45) rfl rfl Try.func16 (by kernel_rfl) rfl #[.slice Ao13 y150.length co13, .int .i64 x9_2] rfl (by (try simp only [List.map_toArray, List.map_cons, List.map_nil]); first | done | rfl | (simp only [List.length_drop, List.length_take]; rfl)) ?_; (with_reducible refine (varint_Get.calls k2 _ _ y150 x9_2 t154 t155 t156 _ ?side1 ?side2 A19.out).mono ?_); (case side1 => repeat (first | exact (by repeat (first | (with_reducible exact HR153.out) | (with_reducible refine Kd.C_alloc ?_ _) | (with_reducible refine Kd.C_drewN ?_ _) | (with_reducible refine Kd.C_drew ?_) | exact HR153.out)) | (with_reducible refine Kd.C_alloc ?_ _) | (with_reducible refine Kd.C_drewN ?_ _) | (with_reducible refine Kd.C_drew ?_))); (case side2 => exact HC153.out); rintro e w' ⟨rfl, ⟨nd, rfl⟩⟩; refine ⟨_, rfl, ?_⟩) | ((with_reducible refine gate_callee (f := 20) rfl ?_); refine goesL_ (some 51) rfl rfl Try.func20 (by kernel_rfl) rfl #[.int .u64 (rd l0 x36_2)] rfl (by (try simp only [List.map_toArray, List.map_cons, List.map_nil]); first | done | rfl | (simp only [List.length_drop, List.length_take]; rfl)) ?_; (with_reducible refine (varint_Size.calls (rd l0 x36_2) t157 _ A20.out).mono ?_); rintro e w33 ⟨rfl, hb⟩; refine ⟨_, rfl, ?_⟩; have n0_ := Aside0.mk (Kd.R_below (by (with_reducible repeat (first | apply Kd.R_alloc | apply Kd.R_drewN | apply Kd.R_drew)); exact HO_5.out) hb); have n1_ := Aside0.mk (Kd.C_below (by repeat (first | (with_reducible exact HR153.out) | (with_reducible refine Kd.C_alloc ?_ _) | (with_reducible refine Kd.C_drewN ?_ _) | (with_reducible refine Kd.C_drew ?_) | exact HR153.out)) hb); have n2_ := Aside0.mk (below_step (by repeat (first | (with_reducible first | exact HB.out | apply below_alloc | apply pw_below_drewN | apply below_drew1) | exact HB.out)) hb); clear HO_5; clear HR153; clear HB; have HO_5 := n0_; have HR153 := n1_; have HB := n2_; clear n0_ n1_ n2_; (try clear hb); (try clear hb2); (try clear hk); (try clear hi)) | ((with_reducible refine gate_callee (f := 15) rfl ?_); refine goesL_ (some 55) rfl rfl Try.func15 (by kernel_rfl) rfl #[] rfl (by (try simp only [List.map_toArray, List.map_cons, List.map_nil]); first | done | rfl | (simp only [List.length_drop, List.length_take]; rfl)) ?_; (with_reducible refine (tephralaw01_fixed.calls k2  true _ A22.out).mono ?_); rintro e w34 ⟨rfl, hb⟩; refine ⟨_, rfl, ?_⟩; have n0_ := Aside0.mk (Kd.R_below (by (with_reducible repeat (first | apply Kd.R_alloc | apply Kd.R_drewN | apply Kd.R_drew)); exact HO_5.out) hb); have n1_ := Aside0.mk (Kd.C_below (by repeat (first | (with_reducible exact HR153.out) | (with_reducible refine Kd.C_alloc ?_ _) | (with_reducible refine Kd.C_drewN ?_ _) | (with_reducible refine Kd.C_drew ?_) | exact HR153.out)) hb); have n2_ := Aside0.mk (below_step (by repeat (first | (with_reducible first | exact HB.out | apply below_alloc | apply pw_below_drewN | apply below_drew1) | exact HB.out)) hb); clear HO_5; clear HR153; clear HB; have HO_5 := n0_; have HR153 := n1_; have HB := n2_; clear n0_ n1_ n2_; (try clear hb); (try clear hb2); (try clear hk); (try clear hi)))
                              go_ret
                              exact ⟨by first | rfl | (simp [errW_none, errW_some] <;> rfl) | (simp only [← hji12]; first | rfl | (simp [errW_none, errW_some] <;> rfl)) | (simp [*, errW_none, errW_some] <;> rfl), by repeat (first | (with_reducible first | exact HB.out | apply below_alloc | apply pw_below_drewN | apply below_drew1) | exact HB.out)⟩
                          · replace c23 := Bool.eq_false_iff.mpr c23
                            subst c23
                            have H1 : (some false) = some r := by rw [if_neg (show ¬ (false = true) by decide)] at H; exact H
                            clear H
                            have H := H1
                            clear H1
                            obtain rfl := Option.some.inj H
                            have p149 : 0 ≤ (x36_2 : Int) := of_decide_eq_true (by first | (with_reducible assumption) | assumption)
                            have q149 : x36_2 < (l0.length : Int) := of_decide_eq_true (by first | (with_reducible assumption) | assumption)
                            obtain ⟨ad149, e149, hx149_0⟩ := Kd.at_int HR0.out x36_2 p149 q149
                            cases e149
                            replace hx149_0 := (HB.out.cell (World.block_lt_of_cell? w _ hx149_0)).trans hx149_0
                            replace p149 := eq_true p149
                            replace q149 := eq_true q149
                            have q35 : (ji12 : Int) ≤ ((x5_1.length : Int) : Int) := of_decide_eq_true (by first | (with_reducible assumption) | assumption)
                            obtain ⟨i035, hi035, _, hsz35, _⟩ := info_parts info5
                            have hroom35 : x5_1.length ≤ co13 := (Kd.R_reads' HO_5.out).2.1
                            have hC35 : Kd.C (Kd.int .u8) _ Ao13 x5_1.length x5_1 := (Kd.R_reads' HO_5.out).2.2
                            have hcut35 := cut_to (P := Try.prog) 22 5 .i64 Try.underlying22 hi035 Ao13 x5_1.length co13 ji12 (of_decide_eq_true (by first | (with_reducible assumption) | assumption)) q35 hroom35
                            have hr35 := Kd.C_take (m := (ji12 : Int).toNat) hC35 (by omega)
                            have hy35 : y150.length = (ji12 : Int).toNat := (by rw [Ny150.out, List.length_take]; omega)
                            rw [← Ny150.out] at hr35
                            rw [← hy35] at hcut35
                            have HR153 := Aside0.mk hr35
                            have HC153 := Aside0.mk (show y150.length ≤ co13 from by omega)
                            clear hr35 hC35 hroom35 hi035 hsz35
                            have KY35 := Aside0.mk hy35
                            clear hy35
                            have KL35 := Aside0.mk (show (ji12 : Int).toNat ≤ x5_1.length from by omega)
                            replace q35 := eq_true q35
                            go_wp2_with (first | ((with_reducible refine gate_callee (f := 16) rfl ?_); refine goesL_ (some 45) rfl rfl Try.func16 (by kernel_rfl) rfl #[.slice Ao13 y150.length co13, .int .i64 x9_2] rfl (by (try simp only [List.map_toArray, List.map_cons, List.map_nil]); first | done | rfl | (simp only [List.length_drop, List.length_take]; rfl)) ?_; (with_reducible refine (varint_Get.calls k2 _ _ y150 x9_2 t154 t155 t156 _ ?side1 ?side2 A19.out).mono ?_); (case side1 => repeat (first | exact (by repeat (first | (with_reducible exact HR153.out) | (with_reducible refine Kd.C_alloc ?_ _) | (with_reducible refine Kd.C_drewN ?_ _) | (with_reducible refine Kd.C_drew ?_) | exact HR153.out)) | (with_reducible refine Kd.C_alloc ?_ _) | (with_reducible refine Kd.C_drewN ?_ _) | (with_reducible refine Kd.C_drew ?_))); (case side2 => exact HC153.out); rintro e w' ⟨rfl, ⟨nd, rfl⟩⟩; refine ⟨_, rfl, ?_⟩) | ((with_reducible refine gate_callee (f := 20) rfl ?_); refine goesL_ (some 51) rfl rfl Try.func20 (by kernel_rfl) rfl #[.int .u64 (rd l0 x36_2)] rfl (by (try simp only [List.map_toArray, List.map_cons, List.map_nil]); first | done | rfl | (simp only [List.length_drop, List.length_take]; rfl)) ?_; (with_reducible refine (varint_Size.calls (rd l0 x36_2) t157 _ A20.out).mono ?_); rintro e w36 ⟨rfl, hb⟩; refine ⟨_, rfl, ?_⟩; have n0_ := Aside0.mk (Kd.R_below (by (with_reducible repeat (first | apply Kd.R_alloc | apply Kd.R_drewN | apply Kd.R_drew)); exact HO_5.out) hb); have n1_ := Aside0.mk (Kd.C_below (by repeat (first | (with_reducible exact HR153.out) | (with_reducible refine Kd.C_alloc ?_ _) | (with_reducible refine Kd.C_drewN ?_ _) | (with_reducible refine Kd.C_drew ?_) | exact HR153.out)) hb); have n2_ := Aside0.mk (below_step (by repeat (first | (with_reducible first | exact HB.out | apply below_alloc | apply pw_below_drewN | apply below_drew1) | exact HB.out)) hb); clear HO_5; clear HR153; clear HB; have HO_5 := n0_; have HR153 := n1_; have HB := n2_; clear n0_ n1_ n2_; (try clear hb); (try clear hb2); (try clear hk); (try clear hi)) | ((with_reducible refine gate_callee (f := 15) rfl ?_); refine goesL_ (some 55) rfl rfl Try.func15 (by kernel_rfl) rfl #[] rfl (by (try simp only [List.map_toArray, List.map_cons, List.map_nil]); first | done | rfl | (simp only [List.length_drop, List.length_take]; rfl)) ?_; (with_reducible refine (tephralaw01_fixed.calls k2  false _ A22.out).mono ?_); rintro e w37 ⟨rfl, hb⟩; refine ⟨_, rfl, ?_⟩; have n0_ := Aside0.mk (Kd.R_below (by (with_reducible repeat (first | apply Kd.R_alloc | apply Kd.R_drewN | apply Kd.R_drew)); exact HO_5.out) hb); have n1_ := Aside0.mk (Kd.C_below (by repeat (first | (with_reducible exact HR153.out) | (with_reducible refine Kd.C_alloc ?_ _) | (with_reducible refine Kd.C_drewN ?_ _) | (with_reducible refine Kd.C_drew ?_) | exact HR153.out)) hb); have n2_ := Aside0.mk (below_step (by repeat (first | (with_reducible first | exact HB.out | apply below_alloc | apply pw_below_drewN | apply below_drew1) | exact HB.out)) hb); clear HO_5; clear HR153; clear HB; have HO_5 := n0_; have HR153 := n1_; have HB := n2_; clear n0_ n1_ n2_; (try clear hb); (try clear hb2); (try clear hk); (try clear hi)))
                            go_ret
                            exact ⟨by first | rfl | (simp [errW_none, errW_some] <;> rfl) | (simp only [← hji12]; first | rfl | (simp [errW_none, errW_some] <;> rfl)) | (simp [*, errW_none, errW_some] <;> rfl), by repeat (first | (with_reducible first | exact HB.out | apply below_alloc | apply pw_below_drewN | apply below_drew1) | exact HB.out)⟩
                        · rw [if_neg c21] at H
                          have c21b0 : decide (ji12 < (wrap64 (x9_2 + t157))) = false := decide_eq_false c21
                          clear c21
                          by_cases c38 : t156 = 0
                          · rw [if_pos c38] at H
                            have c38b0 : (t156 == 0) = true := beq_iff_eq.mpr c38
                            have c38b1 : (t156 != 0) = false := bne_eq_false_iff_eq.mpr c38
                            clear c38
                            by_cases c39 : t154 = (rd l0 x36_2)
                            · rw [if_pos c39] at H
                              have c39b0 : (t154 == (rd l0 x36_2)) = true := beq_iff_eq.mpr c39
                              have c39b1 : (t154 != (rd l0 x36_2)) = false := bne_eq_false_iff_eq.mpr c39
                              clear c39
                              replace H := Option.bind_eq_some_iff.mp H
                              obtain ⟨t159, A400, H⟩ := H
                              replace H : (if t155 = (wrap64 (x9_2 + t159)) then (tephralaw01_VarintCuts.l1 k2 x5_1 ji12 t155 l0 (l0.length : Int) (wrap64 (x36_2 + 1))) else (some false)) = some r := H
                              have A40 := Aside0.mk A400
                              clear A400
                              by_cases c41 : t155 = (wrap64 (x9_2 + t159))
                              · rw [if_pos c41] at H
                                have c41b0 : (t155 == (wrap64 (x9_2 + t159))) = true := beq_iff_eq.mpr c41
                                have c41b1 : (t155 != (wrap64 (x9_2 + t159))) = false := bne_eq_false_iff_eq.mpr c41
                                clear c41
                                have H' := Aside0.mk H
                                clear H
                                have p149 : 0 ≤ (x36_2 : Int) := of_decide_eq_true (by first | (with_reducible assumption) | assumption)
                                have q149 : x36_2 < (l0.length : Int) := of_decide_eq_true (by first | (with_reducible assumption) | assumption)
                                obtain ⟨ad149, e149, hx149_0⟩ := Kd.at_int HR0.out x36_2 p149 q149
                                cases e149
                                replace hx149_0 := (HB.out.cell (World.block_lt_of_cell? w _ hx149_0)).trans hx149_0
                                replace p149 := eq_true p149
                                replace q149 := eq_true q149
                                have q42 : (ji12 : Int) ≤ ((x5_1.length : Int) : Int) := of_decide_eq_true (by first | (with_reducible assumption) | assumption)
                                obtain ⟨i042, hi042, _, hsz42, _⟩ := info_parts info5
                                have hroom42 : x5_1.length ≤ co13 := (Kd.R_reads' HO_5.out).2.1
                                have hC42 : Kd.C (Kd.int .u8) _ Ao13 x5_1.length x5_1 := (Kd.R_reads' HO_5.out).2.2
                                have hcut42 := cut_to (P := Try.prog) 22 5 .i64 Try.underlying22 hi042 Ao13 x5_1.length co13 ji12 (of_decide_eq_true (by first | (with_reducible assumption) | assumption)) q42 hroom42
                                have hr42 := Kd.C_take (m := (ji12 : Int).toNat) hC42 (by omega)
                                have hy42 : y150.length = (ji12 : Int).toNat := (by rw [Ny150.out, List.length_take]; omega)
                                rw [← Ny150.out] at hr42
                                rw [← hy42] at hcut42
                                have HR153 := Aside0.mk hr42
                                have HC153 := Aside0.mk (show y150.length ≤ co13 from by omega)
                                clear hr42 hC42 hroom42 hi042 hsz42
                                have KY42 := Aside0.mk hy42
                                clear hy42
                                have KL42 := Aside0.mk (show (ji12 : Int).toNat ≤ x5_1.length from by omega)
                                replace q42 := eq_true q42
                                go_wp2_with (first | ((with_reducible refine gate_callee (f := 16) rfl ?_); refine goesL_ (some 45) rfl rfl Try.func16 (by kernel_rfl) rfl #[.slice Ao13 y150.length co13, .int .i64 x9_2] rfl (by (try simp only [List.map_toArray, List.map_cons, List.map_nil]); first | done | rfl | (simp only [List.length_drop, List.length_take]; rfl)) ?_; (with_reducible refine (varint_Get.calls k2 _ _ y150 x9_2 t154 t155 t156 _ ?side1 ?side2 A19.out).mono ?_); (case side1 => repeat (first | exact (by repeat (first | (with_reducible exact HR153.out) | (with_reducible refine Kd.C_alloc ?_ _) | (with_reducible refine Kd.C_drewN ?_ _) | (with_reducible refine Kd.C_drew ?_) | exact HR153.out)) | (with_reducible refine Kd.C_alloc ?_ _) | (with_reducible refine Kd.C_drewN ?_ _) | (with_reducible refine Kd.C_drew ?_))); (case side2 => exact HC153.out); rintro e w' ⟨rfl, ⟨nd, rfl⟩⟩; refine ⟨_, rfl, ?_⟩) | ((with_reducible refine gate_callee (f := 20) rfl ?_); refine goesL_ (some 51) rfl rfl Try.func20 (by kernel_rfl) rfl #[.int .u64 (rd l0 x36_2)] rfl (by (try simp only [List.map_toArray, List.map_cons, List.map_nil]); first | done | rfl | (simp only [List.length_drop, List.length_take]; rfl)) ?_; (with_reducible refine (varint_Size.calls (rd l0 x36_2) t157 _ A20.out).mono ?_); rintro e w43 ⟨rfl, hb⟩; refine ⟨_, rfl, ?_⟩; have n0_ := Aside0.mk (Kd.R_below (by (with_reducible repeat (first | apply Kd.R_alloc | apply Kd.R_drewN | apply Kd.R_drew)); exact HO_5.out) hb); have n1_ := Aside0.mk (Kd.C_below (by repeat (first | (with_reducible exact HR153.out) | (with_reducible refine Kd.C_alloc ?_ _) | (with_reducible refine Kd.C_drewN ?_ _) | (with_reducible refine Kd.C_drew ?_) | exact HR153.out)) hb); have n2_ := Aside0.mk (below_step (by repeat (first | (with_reducible first | exact HB.out | apply below_alloc | apply pw_below_drewN | apply below_drew1) | exact HB.out)) hb); clear HO_5; clear HR153; clear HB; have HO_5 := n0_; have HR153 := n1_; have HB := n2_; clear n0_ n1_ n2_; (try clear hb); (try clear hb2); (try clear hk); (try clear hi)) | (go_at_call 20; (with_reducible refine (varint_Size.calls (rd l0 x36_2) t159 _ A40.out).mono ?_); rintro e w44 ⟨rfl, hb⟩; have n0_ := Aside0.mk (Kd.R_below (by (with_reducible repeat (first | apply Kd.R_alloc | apply Kd.R_drewN | apply Kd.R_drew)); exact HO_5.out) hb); have n1_ := Aside0.mk (Kd.C_below (by repeat (first | (with_reducible exact HR153.out) | (with_reducible refine Kd.C_alloc ?_ _) | (with_reducible refine Kd.C_drewN ?_ _) | (with_reducible refine Kd.C_drew ?_) | exact HR153.out)) hb); have n2_ := Aside0.mk (below_step (by repeat (first | (with_reducible first | exact HB.out | apply below_alloc | apply pw_below_drewN | apply below_drew1) | exact HB.out)) hb); clear HO_5; clear HR153; clear HB; have HO_5 := n0_; have HR153 := n1_; have HB := n2_; clear n0_ n1_ n2_; (try clear hb); (try clear hb2); (try clear hk); (try clear hi)))
                                go_roundg k2
                                case measure => have := HK1.out; have := HK2.out; omega
                                case rel => exact ⟨(t155), (wrap64 (x36_2 + 1)), (by first | rfl | (simp; done) | (simp [*]; done)), (by first | rfl | (simp; done) | (simp [*]; done)), H', ⟨by have := HK1.out; have := HK2.out; omega⟩, ⟨by (with_reducible repeat (first | apply Kd.R_alloc | apply Kd.R_drewN | apply Kd.R_drew)); exact HO_5.out⟩, ⟨by repeat (first | (with_reducible first | exact HB.out | apply below_alloc | apply pw_below_drewN | apply below_drew1) | exact HB.out)⟩⟩
                              · rw [if_neg c41] at H
                                have c41b0 : (t155 == (wrap64 (x9_2 + t159))) = false := beq_eq_false_iff_ne.mpr c41
                                have c41b1 : (t155 != (wrap64 (x9_2 + t159))) = true := bne_iff_ne.mpr c41
                                obtain rfl := Option.some.inj H
                                have p149 : 0 ≤ (x36_2 : Int) := of_decide_eq_true (by first | (with_reducible assumption) | assumption)
                                have q149 : x36_2 < (l0.length : Int) := of_decide_eq_true (by first | (with_reducible assumption) | assumption)
                                obtain ⟨ad149, e149, hx149_0⟩ := Kd.at_int HR0.out x36_2 p149 q149
                                cases e149
                                replace hx149_0 := (HB.out.cell (World.block_lt_of_cell? w _ hx149_0)).trans hx149_0
                                replace p149 := eq_true p149
                                replace q149 := eq_true q149
                                have q45 : (ji12 : Int) ≤ ((x5_1.length : Int) : Int) := of_decide_eq_true (by first | (with_reducible assumption) | assumption)
                                obtain ⟨i045, hi045, _, hsz45, _⟩ := info_parts info5
                                have hroom45 : x5_1.length ≤ co13 := (Kd.R_reads' HO_5.out).2.1
                                have hC45 : Kd.C (Kd.int .u8) _ Ao13 x5_1.length x5_1 := (Kd.R_reads' HO_5.out).2.2
                                have hcut45 := cut_to (P := Try.prog) 22 5 .i64 Try.underlying22 hi045 Ao13 x5_1.length co13 ji12 (of_decide_eq_true (by first | (with_reducible assumption) | assumption)) q45 hroom45
                                have hr45 := Kd.C_take (m := (ji12 : Int).toNat) hC45 (by omega)
                                have hy45 : y150.length = (ji12 : Int).toNat := (by rw [Ny150.out, List.length_take]; omega)
                                rw [← Ny150.out] at hr45
                                rw [← hy45] at hcut45
                                have HR153 := Aside0.mk hr45
                                have HC153 := Aside0.mk (show y150.length ≤ co13 from by omega)
                                clear hr45 hC45 hroom45 hi045 hsz45
                                have KY45 := Aside0.mk hy45
                                clear hy45
                                have KL45 := Aside0.mk (show (ji12 : Int).toNat ≤ x5_1.length from by omega)
                                replace q45 := eq_true q45
                                go_wp2_with (first | ((with_reducible refine gate_callee (f := 16) rfl ?_); refine goesL_ (some 45) rfl rfl Try.func16 (by kernel_rfl) rfl #[.slice Ao13 y150.length co13, .int .i64 x9_2] rfl (by (try simp only [List.map_toArray, List.map_cons, List.map_nil]); first | done | rfl | (simp only [List.length_drop, List.length_take]; rfl)) ?_; (with_reducible refine (varint_Get.calls k2 _ _ y150 x9_2 t154 t155 t156 _ ?side1 ?side2 A19.out).mono ?_); (case side1 => repeat (first | exact (by repeat (first | (with_reducible exact HR153.out) | (with_reducible refine Kd.C_alloc ?_ _) | (with_reducible refine Kd.C_drewN ?_ _) | (with_reducible refine Kd.C_drew ?_) | exact HR153.out)) | (with_reducible refine Kd.C_alloc ?_ _) | (with_reducible refine Kd.C_drewN ?_ _) | (with_reducible refine Kd.C_drew ?_))); (case side2 => exact HC153.out); rintro e w' ⟨rfl, ⟨nd, rfl⟩⟩; refine ⟨_, rfl, ?_⟩) | ((with_reducible refine gate_callee (f := 20) rfl ?_); refine goesL_ (some 51) rfl rfl Try.func20 (by kernel_rfl) rfl #[.int .u64 (rd l0 x36_2)] rfl (by (try simp only [List.map_toArray, List.map_cons, List.map_nil]); first | done | rfl | (simp only [List.length_drop, List.length_take]; rfl)) ?_; (with_reducible refine (varint_Size.calls (rd l0 x36_2) t157 _ A20.out).mono ?_); rintro e w46 ⟨rfl, hb⟩; refine ⟨_, rfl, ?_⟩; have n0_ := Aside0.mk (Kd.R_below (by (with_reducible repeat (first | apply Kd.R_alloc | apply Kd.R_drewN | apply Kd.R_drew)); exact HO_5.out) hb); have n1_ := Aside0.mk (Kd.C_below (by repeat (first | (with_reducible exact HR153.out) | (with_reducible refine Kd.C_alloc ?_ _) | (with_reducible refine Kd.C_drewN ?_ _) | (with_reducible refine Kd.C_drew ?_) | exact HR153.out)) hb); have n2_ := Aside0.mk (below_step (by repeat (first | (with_reducible first | exact HB.out | apply below_alloc | apply pw_below_drewN | apply below_drew1) | exact HB.out)) hb); clear HO_5; clear HR153; clear HB; have HO_5 := n0_; have HR153 := n1_; have HB := n2_; clear n0_ n1_ n2_; (try clear hb); (try clear hb2); (try clear hk); (try clear hi)) | (go_at_call 20; (with_reducible refine (varint_Size.calls (rd l0 x36_2) t159 _ A40.out).mono ?_); rintro e w47 ⟨rfl, hb⟩; have n0_ := Aside0.mk (Kd.R_below (by (with_reducible repeat (first | apply Kd.R_alloc | apply Kd.R_drewN | apply Kd.R_drew)); exact HO_5.out) hb); have n1_ := Aside0.mk (Kd.C_below (by repeat (first | (with_reducible exact HR153.out) | (with_reducible refine Kd.C_alloc ?_ _) | (with_reducible refine Kd.C_drewN ?_ _) | (with_reducible refine Kd.C_drew ?_) | exact HR153.out)) hb); have n2_ := Aside0.mk (below_step (by repeat (first | (with_reducible first | exact HB.out | apply below_alloc | apply pw_below_drewN | apply below_drew1) | exact HB.out)) hb); clear HO_5; clear HR153; clear HB; have HO_5 := n0_; have HR153 := n1_; have HB := n2_; clear n0_ n1_ n2_; (try clear hb); (try clear hb2); (try clear hk); (try clear hi)))
                                go_ret
                                exact ⟨by first | rfl | (simp [errW_none, errW_some] <;> rfl) | (simp only [← hji12]; first | rfl | (simp [errW_none, errW_some] <;> rfl)) | (simp [*, errW_none, errW_some] <;> rfl), by repeat (first | (with_reducible first | exact HB.out | apply below_alloc | apply pw_below_drewN | apply below_drew1) | exact HB.out)⟩
                            · rw [if_neg c39] at H
                              have c39b0 : (t154 == (rd l0 x36_2)) = false := beq_eq_false_iff_ne.mpr c39
                              have c39b1 : (t154 != (rd l0 x36_2)) = true := bne_iff_ne.mpr c39
                              obtain rfl := Option.some.inj H
                              have p149 : 0 ≤ (x36_2 : Int) := of_decide_eq_true (by first | (with_reducible assumption) | assumption)
                              have q149 : x36_2 < (l0.length : Int) := of_decide_eq_true (by first | (with_reducible assumption) | assumption)
                              obtain ⟨ad149, e149, hx149_0⟩ := Kd.at_int HR0.out x36_2 p149 q149
                              cases e149
                              replace hx149_0 := (HB.out.cell (World.block_lt_of_cell? w _ hx149_0)).trans hx149_0
                              replace p149 := eq_true p149
                              replace q149 := eq_true q149
                              have q48 : (ji12 : Int) ≤ ((x5_1.length : Int) : Int) := of_decide_eq_true (by first | (with_reducible assumption) | assumption)
                              obtain ⟨i048, hi048, _, hsz48, _⟩ := info_parts info5
                              have hroom48 : x5_1.length ≤ co13 := (Kd.R_reads' HO_5.out).2.1
                              have hC48 : Kd.C (Kd.int .u8) _ Ao13 x5_1.length x5_1 := (Kd.R_reads' HO_5.out).2.2
                              have hcut48 := cut_to (P := Try.prog) 22 5 .i64 Try.underlying22 hi048 Ao13 x5_1.length co13 ji12 (of_decide_eq_true (by first | (with_reducible assumption) | assumption)) q48 hroom48
                              have hr48 := Kd.C_take (m := (ji12 : Int).toNat) hC48 (by omega)
                              have hy48 : y150.length = (ji12 : Int).toNat := (by rw [Ny150.out, List.length_take]; omega)
                              rw [← Ny150.out] at hr48
                              rw [← hy48] at hcut48
                              have HR153 := Aside0.mk hr48
                              have HC153 := Aside0.mk (show y150.length ≤ co13 from by omega)
                              clear hr48 hC48 hroom48 hi048 hsz48
                              have KY48 := Aside0.mk hy48
                              clear hy48
                              have KL48 := Aside0.mk (show (ji12 : Int).toNat ≤ x5_1.length from by omega)
                              replace q48 := eq_true q48
                              go_wp2_with (first | ((with_reducible refine gate_callee (f := 16) rfl ?_); refine goesL_ (some 45) rfl rfl Try.func16 (by kernel_rfl) rfl #[.slice Ao13 y150.length co13, .int .i64 x9_2] rfl (by (try simp only [List.map_toArray, List.map_cons, List.map_nil]); first | done | rfl | (simp only [List.length_drop, List.length_take]; rfl)) ?_; (with_reducible refine (varint_Get.calls k2 _ _ y150 x9_2 t154 t155 t156 _ ?side1 ?side2 A19.out).mono ?_); (case side1 => repeat (first | exact (by repeat (first | (with_reducible exact HR153.out) | (with_reducible refine Kd.C_alloc ?_ _) | (with_reducible refine Kd.C_drewN ?_ _) | (with_reducible refine Kd.C_drew ?_) | exact HR153.out)) | (with_reducible refine Kd.C_alloc ?_ _) | (with_reducible refine Kd.C_drewN ?_ _) | (with_reducible refine Kd.C_drew ?_))); (case side2 => exact HC153.out); rintro e w' ⟨rfl, ⟨nd, rfl⟩⟩; refine ⟨_, rfl, ?_⟩) | ((with_reducible refine gate_callee (f := 20) rfl ?_); refine goesL_ (some 51) rfl rfl Try.func20 (by kernel_rfl) rfl #[.int .u64 (rd l0 x36_2)] rfl (by (try simp only [List.map_toArray, List.map_cons, List.map_nil]); first | done | rfl | (simp only [List.length_drop, List.length_take]; rfl)) ?_; (with_reducible refine (varint_Size.calls (rd l0 x36_2) t157 _ A20.out).mono ?_); rintro e w49 ⟨rfl, hb⟩; refine ⟨_, rfl, ?_⟩; have n0_ := Aside0.mk (Kd.R_below (by (with_reducible repeat (first | apply Kd.R_alloc | apply Kd.R_drewN | apply Kd.R_drew)); exact HO_5.out) hb); have n1_ := Aside0.mk (Kd.C_below (by repeat (first | (with_reducible exact HR153.out) | (with_reducible refine Kd.C_alloc ?_ _) | (with_reducible refine Kd.C_drewN ?_ _) | (with_reducible refine Kd.C_drew ?_) | exact HR153.out)) hb); have n2_ := Aside0.mk (below_step (by repeat (first | (with_reducible first | exact HB.out | apply below_alloc | apply pw_below_drewN | apply below_drew1) | exact HB.out)) hb); clear HO_5; clear HR153; clear HB; have HO_5 := n0_; have HR153 := n1_; have HB := n2_; clear n0_ n1_ n2_; (try clear hb); (try clear hb2); (try clear hk); (try clear hi)))
                              go_ret
                              exact ⟨by first | rfl | (simp [errW_none, errW_some] <;> rfl) | (simp only [← hji12]; first | rfl | (simp [errW_none, errW_some] <;> rfl)) | (simp [*, errW_none, errW_some] <;> rfl), by repeat (first | (with_reducible first | exact HB.out | apply below_alloc | apply pw_below_drewN | apply below_drew1) | exact HB.out)⟩
                          · rw [if_neg c38] at H
                            have c38b0 : (t156 == 0) = false := beq_eq_false_iff_ne.mpr c38
                            have c38b1 : (t156 != 0) = true := bne_iff_ne.mpr c38
                            obtain rfl := Option.some.inj H
                            have p149 : 0 ≤ (x36_2 : Int) := of_decide_eq_true (by first | (with_reducible assumption) | assumption)
                            have q149 : x36_2 < (l0.length : Int) := of_decide_eq_true (by first | (with_reducible assumption) | assumption)
                            obtain ⟨ad149, e149, hx149_0⟩ := Kd.at_int HR0.out x36_2 p149 q149
                            cases e149
                            replace hx149_0 := (HB.out.cell (World.block_lt_of_cell? w _ hx149_0)).trans hx149_0
                            replace p149 := eq_true p149
                            replace q149 := eq_true q149
                            have q50 : (ji12 : Int) ≤ ((x5_1.length : Int) : Int) := of_decide_eq_true (by first | (with_reducible assumption) | assumption)
                            obtain ⟨i050, hi050, _, hsz50, _⟩ := info_parts info5
                            have hroom50 : x5_1.length ≤ co13 := (Kd.R_reads' HO_5.out).2.1
                            have hC50 : Kd.C (Kd.int .u8) _ Ao13 x5_1.length x5_1 := (Kd.R_reads' HO_5.out).2.2
                            have hcut50 := cut_to (P := Try.prog) 22 5 .i64 Try.underlying22 hi050 Ao13 x5_1.length co13 ji12 (of_decide_eq_true (by first | (with_reducible assumption) | assumption)) q50 hroom50
                            have hr50 := Kd.C_take (m := (ji12 : Int).toNat) hC50 (by omega)
                            have hy50 : y150.length = (ji12 : Int).toNat := (by rw [Ny150.out, List.length_take]; omega)
                            rw [← Ny150.out] at hr50
                            rw [← hy50] at hcut50
                            have HR153 := Aside0.mk hr50
                            have HC153 := Aside0.mk (show y150.length ≤ co13 from by omega)
                            clear hr50 hC50 hroom50 hi050 hsz50
                            have KY50 := Aside0.mk hy50
                            clear hy50
                            have KL50 := Aside0.mk (show (ji12 : Int).toNat ≤ x5_1.length from by omega)
                            replace q50 := eq_true q50
                            go_wp2_with (first | ((with_reducible refine gate_callee (f := 16) rfl ?_); refine goesL_ (some 45) rfl rfl Try.func16 (by kernel_rfl) rfl #[.slice Ao13 y150.length co13, .int .i64 x9_2] rfl (by (try simp only [List.map_toArray, List.map_cons, List.map_nil]); first | done | rfl | (simp only [List.length_drop, List.length_take]; rfl)) ?_; (with_reducible refine (varint_Get.calls k2 _ _ y150 x9_2 t154 t155 t156 _ ?side1 ?side2 A19.out).mono ?_); (case side1 => repeat (first | exact (by repeat (first | (with_reducible exact HR153.out) | (with_reducible refine Kd.C_alloc ?_ _) | (with_reducible refine Kd.C_drewN ?_ _) | (with_reducible refine Kd.C_drew ?_) | exact HR153.out)) | (with_reducible refine Kd.C_alloc ?_ _) | (with_reducible refine Kd.C_drewN ?_ _) | (with_reducible refine Kd.C_drew ?_))); (case side2 => exact HC153.out); rintro e w' ⟨rfl, ⟨nd, rfl⟩⟩; refine ⟨_, rfl, ?_⟩) | ((with_reducible refine gate_callee (f := 20) rfl ?_); refine goesL_ (some 51) rfl rfl Try.func20 (by kernel_rfl) rfl #[.int .u64 (rd l0 x36_2)] rfl (by (try simp only [List.map_toArray, List.map_cons, List.map_nil]); first | done | rfl | (simp only [List.length_drop, List.length_take]; rfl)) ?_; (with_reducible refine (varint_Size.calls (rd l0 x36_2) t157 _ A20.out).mono ?_); rintro e w51 ⟨rfl, hb⟩; refine ⟨_, rfl, ?_⟩; have n0_ := Aside0.mk (Kd.R_below (by (with_reducible repeat (first | apply Kd.R_alloc | apply Kd.R_drewN | apply Kd.R_drew)); exact HO_5.out) hb); have n1_ := Aside0.mk (Kd.C_below (by repeat (first | (with_reducible exact HR153.out) | (with_reducible refine Kd.C_alloc ?_ _) | (with_reducible refine Kd.C_drewN ?_ _) | (with_reducible refine Kd.C_drew ?_) | exact HR153.out)) hb); have n2_ := Aside0.mk (below_step (by repeat (first | (with_reducible first | exact HB.out | apply below_alloc | apply pw_below_drewN | apply below_drew1) | exact HB.out)) hb); clear HO_5; clear HR153; clear HB; have HO_5 := n0_; have HR153 := n1_; have HB := n2_; clear n0_ n1_ n2_; (try clear hb); (try clear hb2); (try clear hk); (try clear hi)))
                            go_ret
                            exact ⟨by first | rfl | (simp [errW_none, errW_some] <;> rfl) | (simp only [← hji12]; first | rfl | (simp [errW_none, errW_some] <;> rfl)) | (simp [*, errW_none, errW_some] <;> rfl), by repeat (first | (with_reducible first | exact HB.out | apply below_alloc | apply pw_below_drewN | apply below_drew1) | exact HB.out)⟩
                      · rw [if_neg c18] at H
                        exact absurd H (by simp)
                    · rw [if_neg c17] at H
                      exact absurd H (by simp)
                  · rw [if_neg c16] at H
                    exact absurd H (by simp)
                · rw [if_neg c15] at H
                  exact absurd H (by simp)
              · rw [if_neg c14] at H
                have c14b0 : decide (x36_2 < (l0.length : Int)) = false := decide_eq_false c14
                clear c14
                replace H := Option.bind_eq_some_iff.mp H
                obtain ⟨t148, A520, H⟩ := H
                replace H : (if t148 = true then (some (x9_2 == (x5_1.length : Int))) else (some false)) = some r := H
                have A52 := Aside0.mk A520
                clear A520
                by_cases c53 : t148 = true
                · subst c53
                  have H1 : (some (x9_2 == (x5_1.length : Int))) = some r := by rw [if_pos rfl] at H; exact H
                  clear H
                  have H := H1
                  clear H1
                  obtain rfl := Option.some.inj H
                  go_wp2_with (first | ((with_reducible refine gate_callee (f := 15) rfl ?_); refine goesL_ (some 85) rfl rfl Try.func15 (by kernel_rfl) rfl #[] rfl (by (try simp only [List.map_toArray, List.map_cons, List.map_nil]); first | done | rfl | (simp only [List.length_drop, List.length_take]; rfl)) ?_; (with_reducible refine (tephralaw01_fixed.calls k2  true _ A52.out).mono ?_); rintro e w54 ⟨rfl, hb⟩; refine ⟨_, rfl, ?_⟩; have n0_ := Aside0.mk (Kd.R_below (by (with_reducible repeat (first | apply Kd.R_alloc | apply Kd.R_drewN | apply Kd.R_drew)); exact HO_5.out) hb); have n1_ := Aside0.mk (below_step (by repeat (first | (with_reducible first | exact HB.out | apply below_alloc | apply pw_below_drewN | apply below_drew1) | exact HB.out)) hb); clear HO_5; clear HB; have HO_5 := n0_; have HB := n1_; clear n0_ n1_; (try clear hb); (try clear hb2); (try clear hk); (try clear hi)))
                  go_ret
                  exact ⟨by first | rfl | (simp [errW_none, errW_some] <;> rfl) | (simp only [← hji12]; first | rfl | (simp [errW_none, errW_some] <;> rfl)) | (simp [*, errW_none, errW_some] <;> rfl), by repeat (first | (with_reducible first | exact HB.out | apply below_alloc | apply pw_below_drewN | apply below_drew1) | exact HB.out)⟩
                · replace c53 := Bool.eq_false_iff.mpr c53
                  subst c53
                  have H1 : (some false) = some r := by rw [if_neg (show ¬ (false = true) by decide)] at H; exact H
                  clear H
                  have H := H1
                  clear H1
                  obtain rfl := Option.some.inj H
                  go_wp2_with (first | ((with_reducible refine gate_callee (f := 15) rfl ?_); refine goesL_ (some 85) rfl rfl Try.func15 (by kernel_rfl) rfl #[] rfl (by (try simp only [List.map_toArray, List.map_cons, List.map_nil]); first | done | rfl | (simp only [List.length_drop, List.length_take]; rfl)) ?_; (with_reducible refine (tephralaw01_fixed.calls k2  false _ A52.out).mono ?_); rintro e w55 ⟨rfl, hb⟩; refine ⟨_, rfl, ?_⟩; have n0_ := Aside0.mk (Kd.R_below (by (with_reducible repeat (first | apply Kd.R_alloc | apply Kd.R_drewN | apply Kd.R_drew)); exact HO_5.out) hb); have n1_ := Aside0.mk (below_step (by repeat (first | (with_reducible first | exact HB.out | apply below_alloc | apply pw_below_drewN | apply below_drew1) | exact HB.out)) hb); clear HO_5; clear HB; have HO_5 := n0_; have HB := n1_; clear n0_ n1_; (try clear hb); (try clear hb2); (try clear hk); (try clear hi)))
                  go_ret
                  exact ⟨by first | rfl | (simp [errW_none, errW_some] <;> rfl) | (simp only [← hji12]; first | rfl | (simp [errW_none, errW_some] <;> rfl)) | (simp [*, errW_none, errW_some] <;> rfl), by repeat (first | (with_reducible first | exact HB.out | apply below_alloc | apply pw_below_drewN | apply below_drew1) | exact HB.out)⟩

/-- THE ONE PURE STATEMENT of tephralaw01_VarintCuts: yours. -/
def tephralaw01_VarintCuts.Pure : Prop := ∀ (l0 : List Int) (a1 : Int), l0.length ≤ maxLen → l0.length * 8 ≤ 140737488351232 → (∀ x ∈ l0, (Lit.int .u64 x).wf = true) → (Lit.int .u16 a1).wf = true → ∃ k, tephralaw01_VarintCuts.f k l0 a1 = some true
theorem tephralaw01_VarintCuts.walk (P : tephralaw01_VarintCuts.Pure) (a0 : Option Addr) (len0 cap0 : Nat) (z0 : List Int) (a1 : Int) (w : World) (w0 : (a0 = none ∧ len0 = 0 ∧ cap0 = 0 ∧ z0 = []) ∨ ∃ x, a0 = some x ∧ len0 ≤ cap0 ∧ cap0 ≤ maxLen ∧ z0.length = cap0 ∧ (∀ i, i < z0.length → w.cell? (x.add i) = some (.int .u64 (z0.getD i 0))) ∧ ∀ n ∈ z0, (Lit.int .u64 n).wf = true) (y0 : len0 * 8 ≤ 140737488351232) (w1 : (Lit.int .u16 a1).wf = true) :
    Calls Try.prog 6 #[.slice a0 len0 cap0, .int .u16 a1] w fun e w' => e = .returned (.bool true) ∧ Below w.heap.size w w' := by
  obtain ⟨l0, rfl, hr0, hm0, hw0, hc0⟩ := ReadsInt.ofRowC w0
  obtain ⟨k, h⟩ := P l0 a1 hm0 y0 hw0 w1
  refine (tephralaw01_VarintCuts.calls k _ _ l0 a1 true w (Kd.C_of_reads (d := (0 : Int)) (h1 := fun _ => rfl) hr0) hc0 h).mono ?_
  rintro e w' ⟨rfl, hd⟩
  exact ⟨rfl, hd⟩

end Go.Proofs.Ythojcapdbjmneaa.GVB
