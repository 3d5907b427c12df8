-- by a program of this session (gprint.py, over the kit's print): the machine's side of a law
import Derived.Test.YthojcapdbjmneaaGVBx0
import Derived.Test.YthojcapdbjmneaaGVBx1
namespace Go.Proofs.Ythojcapdbjmneaa.GVB
open Go.RowKit Go.Proofs.YthojcapdbjmneaaW.PrintWords Go.Proofs.YthojcapdbjmneaaW.PrintLast Go.Proofs.YthojcapdbjmneaaW.PrintMore
attribute [local go_sem] max2_int min2_int max_two min_two max_three min_three max_four min_four   -- for this text's walks alone
set_option linter.unusedVariables false
set_option linter.unusedSimpArgs false

/-! ### tephralaw01_VarintOrder: function 4 -/
mutual
def tephralaw01_VarintOrder.j0 : Nat → Int → Int → List Int → List Int → Bool → Option (Bool)
  | 0, _, _, _, _, _ => none
  | k + 1, x0, x1, x5, x6, x31 => if x31 = true then (some false) else (tephralaw01_VarintOrder.l0 k x0 x1 x5 x6 x6 (x6.length : Int) 0)
def tephralaw01_VarintOrder.l0 : Nat → Int → Int → List Int → List Int → List Int → Int → Int → Option (Bool)
  | 0, _, _, _, _, _, _, _ => none
  | k + 1, x0, x1, x5, x6, x32, x33, x34 => if x34 < x33 then (if 0 ≤ x34 then (if x34 < (x32.length : Int) then (if ((decide ((rd x32 x34) ≥ 128)) != (decide (x34 < (wrap64 ((x6.length : Int) - 1))))) = true then (some false) else (tephralaw01_VarintOrder.l0 k x0 x1 x5 x6 x32 x33 (wrap64 (x34 + 1)))) else (none)) else (none)) else ((tephralaw01_fixed.f k).bind fun t130 => (if t130 = true then (some (((strOfNums x5).toList == (strOfNums x6).toList) == (x0 == x1))) else (some false)))
end
def tephralaw01_VarintOrder.f (k : Nat) (a0 : Int) (a1 : Int) : Option (Bool) := (varint_Put.f ([] : List Int) (mn a0 a1)).bind fun t123 => ((varint_Put.f ([] : List Int) (mx a0 a1)).bind fun t126 => (if (t123.length : Int) > (t126.length : Int) then (tephralaw01_VarintOrder.j0 k a0 a1 t123 t126 true) else (if (t123.length : Int) < 1 then (tephralaw01_VarintOrder.j0 k a0 a1 t123 t126 true) else (tephralaw01_VarintOrder.j0 k a0 a1 t123 t126 (decide ((t126.length : Int) > 10))))))
theorem tephralaw01_VarintOrder.mono_l : ∀ k, (∀ y0 y1 y2 y3 y4, LeO (tephralaw01_VarintOrder.j0 k y0 y1 y2 y3 y4) (tephralaw01_VarintOrder.j0 (k + 1) y0 y1 y2 y3 y4)) ∧ (∀ y0 y1 y2 y3 y4 y5 y6, LeO (tephralaw01_VarintOrder.l0 k y0 y1 y2 y3 y4 y5 y6) (tephralaw01_VarintOrder.l0 (k + 1) y0 y1 y2 y3 y4 y5 y6))
  | 0 => ⟨fun _ _ _ _ _ r h => by simp [tephralaw01_VarintOrder.j0] at h, fun _ _ _ _ _ _ _ r h => by simp [tephralaw01_VarintOrder.l0] at h⟩
  | k + 1 => by
    obtain ⟨ih0, ih1⟩ := tephralaw01_VarintOrder.mono_l k
    refine ⟨?_, ?_⟩
    · intro y0 y1 y2 y3 y4
      unfold tephralaw01_VarintOrder.j0
      repeat' first
      | (with_reducible exact ih0 _ _ _ _ _)
      | (with_reducible exact ih1 _ _ _ _ _ _ _)
      | (with_reducible exact tephralaw01_fixed.mono _)
      | (with_reducible exact LeO.refl _)
      | (with_reducible exact LeO.none _)
      | (with_reducible refine LeO.ite ?_ ?_)
      | (with_reducible refine LeO.bind ?_ (fun _ => ?_))
      | exact ih0 _ _ _ _ _
      | exact ih1 _ _ _ _ _ _ _
      | exact tephralaw01_fixed.mono _
      | exact LeO.none _
      | refine LeO.ite ?_ ?_
      | refine LeO.bind ?_ (fun _ => ?_)
    · intro y0 y1 y2 y3 y4 y5 y6
      unfold tephralaw01_VarintOrder.l0
      repeat' first
      | (with_reducible exact ih0 _ _ _ _ _)
      | (with_reducible exact ih1 _ _ _ _ _ _ _)
      | (with_reducible exact tephralaw01_fixed.mono _)
      | (with_reducible exact LeO.refl _)
      | (with_reducible exact LeO.none _)
      | (with_reducible refine LeO.ite ?_ ?_)
      | (with_reducible refine LeO.bind ?_ (fun _ => ?_))
      | exact ih0 _ _ _ _ _
      | exact ih1 _ _ _ _ _ _ _
      | exact tephralaw01_fixed.mono _
      | exact LeO.none _
      | refine LeO.ite ?_ ?_
      | refine LeO.bind ?_ (fun _ => ?_)
theorem tephralaw01_VarintOrder.mono : ∀ a0 a1 k, LeO (tephralaw01_VarintOrder.f k a0 a1) (tephralaw01_VarintOrder.f (k + 1) a0 a1) := by
  intro a0 a1 k
  obtain ⟨ih0, ih1⟩ := tephralaw01_VarintOrder.mono_l k
  unfold tephralaw01_VarintOrder.f
  repeat' first
      | (with_reducible exact ih0 _ _ _ _ _)
      | (with_reducible exact ih1 _ _ _ _ _ _ _)
      | (with_reducible exact tephralaw01_fixed.mono _)
      | (with_reducible exact LeO.refl _)
      | (with_reducible exact LeO.none _)
      | (with_reducible refine LeO.ite ?_ ?_)
      | (with_reducible refine LeO.bind ?_ (fun _ => ?_))
      | exact ih0 _ _ _ _ _
      | exact ih1 _ _ _ _ _ _ _
      | exact tephralaw01_fixed.mono _
      | exact LeO.none _
      | refine LeO.ite ?_ ?_
      | refine LeO.bind ?_ (fun _ => ?_)
set_option maxHeartbeats 8000000 in
set_option maxRecDepth 100000 in
theorem tephralaw01_VarintOrder.calls (k : Nat) (a0 : Int) (a1 : Int) (r : Bool) (w : World) (h : tephralaw01_VarintOrder.f k a0 a1 = some r) :
    Calls Try.prog 4 #[.int .u64 a0, .int .u64 a1] w fun e w' => e = .returned (.bool r) ∧ Below w.heap.size w w' := by
  have HB := Aside0.mk (Below.refl w.heap.size w)
  have H : ((varint_Put.f ([] : List Int) (mn a0 a1)).bind fun t123 => ((varint_Put.f ([] : List Int) (mx a0 a1)).bind fun t126 => (if (t123.length : Int) > (t126.length : Int) then (tephralaw01_VarintOrder.j0 k a0 a1 t123 t126 true) else (if (t123.length : Int) < 1 then (tephralaw01_VarintOrder.j0 k a0 a1 t123 t126 true) else (tephralaw01_VarintOrder.j0 k a0 a1 t123 t126 (decide ((t126.length : Int) > 10))))))) = some r := h
  clear h
  obtain ⟨ji3, hji3⟩ : ∃ j_ : Int, (mn a0 a1) = j_ := ⟨_, rfl⟩
  replace H : ((varint_Put.f ([] : List Int) (ji3)).bind fun t123 => ((varint_Put.f ([] : List Int) (mx a0 a1)).bind fun t126 => (if (t123.length : Int) > (t126.length : Int) then (tephralaw01_VarintOrder.j0 k a0 a1 t123 t126 true) else (if (t123.length : Int) < 1 then (tephralaw01_VarintOrder.j0 k a0 a1 t123 t126 true) else (tephralaw01_VarintOrder.j0 k a0 a1 t123 t126 (decide ((t126.length : Int) > 10))))))) = some r := by first | (rw [hji3] at H; exact H) | (simp only [hji3] at H ⊢; exact H)
  have hji3_ : (if a1 < a0 then a1 else a0) = ji3 := hji3
  replace H := Option.bind_eq_some_iff.mp H
  obtain ⟨t123, A40, H⟩ := H
  replace H : ((varint_Put.f ([] : List Int) (mx a0 a1)).bind fun t126 => (if (t123.length : Int) > (t126.length : Int) then (tephralaw01_VarintOrder.j0 k a0 a1 t123 t126 true) else (if (t123.length : Int) < 1 then (tephralaw01_VarintOrder.j0 k a0 a1 t123 t126 true) else (tephralaw01_VarintOrder.j0 k a0 a1 t123 t126 (decide ((t126.length : Int) > 10)))))) = some r := H
  have A4 := Aside0.mk A40
  clear A40
  obtain ⟨ji5, hji5⟩ : ∃ j_ : Int, (mx a0 a1) = j_ := ⟨_, rfl⟩
  replace H : ((varint_Put.f ([] : List Int) (ji5)).bind fun t126 => (if (t123.length : Int) > (t126.length : Int) then (tephralaw01_VarintOrder.j0 k a0 a1 t123 t126 true) else (if (t123.length : Int) < 1 then (tephralaw01_VarintOrder.j0 k a0 a1 t123 t126 true) else (tephralaw01_VarintOrder.j0 k a0 a1 t123 t126 (decide ((t126.length : Int) > 10)))))) = some r := by first | (rw [hji5] at H; exact H) | (simp only [hji5] at H ⊢; exact H)
  (try rw [hji5] at A4)
  have hji5_ : (if a0 < a1 then a1 else a0) = ji5 := hji5
  replace H := Option.bind_eq_some_iff.mp H
  obtain ⟨t126, A60, H⟩ := H
  replace H : (if (t123.length : Int) > (t126.length : Int) then (tephralaw01_VarintOrder.j0 k a0 a1 t123 t126 true) else (if (t123.length : Int) < 1 then (tephralaw01_VarintOrder.j0 k a0 a1 t123 t126 true) else (tephralaw01_VarintOrder.j0 k a0 a1 t123 t126 (decide ((t126.length : Int) > 10))))) = some r := H
  have A6 := Aside0.mk A60
  clear A60
  have HC7 := Aside0.mk H
  clear H
  go_enter Try.func4, Try.ntmps4
  go_upto_region 2 with (first | ((with_reducible refine gate_callee (f := 18) rfl ?_); refine goesL_ (some 12) rfl rfl Try.func18 (by kernel_rfl) rfl #[.slice none 0 0, .int .u64 ji3] rfl (by (try simp only [List.map_toArray, List.map_cons, List.map_nil]); first | done | (simp only [hji3]; rfl) | rfl | (simp only [List.length_drop, List.length_take]; rfl)) ?_; (refine (varint_Put.calls _ _ ([] : List Int) ji3 t123 _ ?side1 ?side2 A4.out).mono ?_); (case side1 => exact Kd.C_nil _ _); (case side2 => exact Nat.le_refl _); rintro e w8 ⟨v124, rfl, ho0, hb⟩; refine ⟨_, rfl, ?_⟩; have n0_ := Aside0.mk (Kd.R_lower ho0 (below_size (by repeat (first | (with_reducible first | exact HB.out | apply below_alloc | apply pw_below_drewN | apply below_drew1) | exact HB.out)))); have n1_ := Aside0.mk (below_step (by repeat (first | (with_reducible first | exact HB.out | apply below_alloc | apply pw_below_drewN | apply below_drew1) | exact HB.out)) hb); clear HB; have HO125 := n0_; have HB := n1_; clear n0_ n1_; (try clear hb); (try clear hb2); (try clear hk); (try clear hi); (try clear ho0)) | ((with_reducible refine gate_callee (f := 18) rfl ?_); refine goesL_ (some 16) rfl rfl Try.func18 (by kernel_rfl) rfl #[.slice none 0 0, .int .u64 ji5] rfl (by (try simp only [List.map_toArray, List.map_cons, List.map_nil]); first | done | (simp only [hji5]; rfl) | rfl | (simp only [List.length_drop, List.length_take]; rfl)) ?_; (refine (varint_Put.calls _ _ ([] : List Int) ji5 t126 _ ?side1 ?side2 A6.out).mono ?_); (case side1 => exact Kd.C_nil _ _); (case side2 => exact Nat.le_refl _); rintro e w9 ⟨v127, rfl, ho0, hb⟩; refine ⟨_, rfl, ?_⟩; have n0_ := Aside0.mk (Kd.R_elder' (by (with_reducible repeat (first | apply Kd.R_alloc | apply Kd.R_drewN | apply Kd.R_drew)); exact HO125.out) (Kd.R_base ho0) hb); have n1_ := Aside0.mk (Kd.R_lower (Kd.R_new' ho0 (Kd.R_lt (by (with_reducible repeat (first | apply Kd.R_alloc | apply Kd.R_drewN | apply Kd.R_drew)); exact HO125.out))) (below_size (by repeat (first | (with_reducible first | exact HB.out | apply below_alloc | apply pw_below_drewN | apply below_drew1) | exact HB.out)))); have n2_ := Aside0.mk (below_step (by repeat (first | (with_reducible first | exact HB.out | apply below_alloc | apply pw_below_drewN | apply below_drew1) | exact HB.out)) hb); clear HO125; clear HB; have HO125 := n0_; have HO128 := n1_; have HB := n2_; clear n0_ n1_ n2_; (try clear hb); (try clear hb2); (try clear hk); (try clear hi); (try clear ho0)))
  (try simp only [Act.put, List.setIfInBounds_toArray, List.set_cons_zero, List.set_cons_succ])
  go_cut [31] (fun v31 wc => ∃ (kq : Nat) (x31_6 : Bool), v31 = .bool x31_6 ∧ Aside0 (tephralaw01_VarintOrder.j0 kq a0 a1 t123 t126 x31_6 = some r) ∧ Aside0 (kq ≤ k) ∧ Aside0 (Kd.R (Kd.int .u8) 5 wc w.heap.size (fun k_ => some k_ ≠ (v127 : Value).ownBlock) v124 t123) ∧ Aside0 (Kd.R (Kd.int .u8) 5 wc w.heap.size (fun k_ => some k_ ≠ (v124 : Value).ownBlock) v127 t126) ∧ Aside0 (Below w.heap.size w wc))
  case first =>
    have H := HC7.out
    clear HC7
    by_cases c10 : (t123.length : Int) > (t126.length : Int)
    · rw [if_pos c10] at H
      have c10b0 : decide ((t126.length : Int) < (t123.length : Int)) = true := decide_eq_true c10
      have c10b1 : decide (t126.length < t123.length) = true := decide_eq_true (Int.ofNat_lt.mp c10)
      clear c10
      (first | rw [c10b0] | (simp only [i64_w, i32_w]; rw [c10b0]) | skip)
      have H' := Aside0.mk H
      clear H
      obtain ⟨Ao11, co11, eo11⟩ := Kd.R_slice HO125.out
      subst eo11
      obtain ⟨Ao12, co12, eo12⟩ := Kd.R_slice HO128.out
      subst eo12
      go_wp2
      go_meet
      case rel => exact ⟨_, (true), (by first | rfl | (simp; done) | (simp [*]; done)), H', ⟨by first | omega | exact Nat.le_refl _⟩, ⟨by (with_reducible repeat (first | apply Kd.R_alloc | apply Kd.R_drewN | apply Kd.R_drew)); exact Kd.R_mono HO125.out (fun _ hk => hk.2)⟩, ⟨by (with_reducible repeat (first | apply Kd.R_alloc | apply Kd.R_drewN | apply Kd.R_drew)); exact Kd.R_mono HO128.out (fun _ hk => hk.2)⟩, ⟨by repeat (first | (with_reducible first | exact HB.out | apply below_alloc | apply pw_below_drewN | apply below_drew1) | exact HB.out)⟩⟩
    · rw [if_neg c10] at H
      have c10b0 : decide ((t126.length : Int) < (t123.length : Int)) = false := decide_eq_false c10
      have c10b1 : decide (t126.length < t123.length) = false := decide_eq_false (fun h => c10 (Int.ofNat_lt.mpr h))
      clear c10
      (first | rw [c10b0] | (simp only [i64_w, i32_w]; rw [c10b0]) | skip)
      by_cases c13 : (t123.length : Int) < 1
      · rw [if_pos c13] at H
        have c13b0 : decide ((t123.length : Int) < 1) = true := decide_eq_true c13
        have c13b1 : decide (t123.length < 1) = true := decide_eq_true (by omega)
        clear c13
        have H' := Aside0.mk H
        clear H
        obtain ⟨Ao14, co14, eo14⟩ := Kd.R_slice HO125.out
        subst eo14
        obtain ⟨Ao15, co15, eo15⟩ := Kd.R_slice HO128.out
        subst eo15
        go_wp2
        go_meet
        case rel => exact ⟨_, (true), (by first | rfl | (simp; done) | (simp [*]; done)), H', ⟨by first | omega | exact Nat.le_refl _⟩, ⟨by (with_reducible repeat (first | apply Kd.R_alloc | apply Kd.R_drewN | apply Kd.R_drew)); exact Kd.R_mono HO125.out (fun _ hk => hk.2)⟩, ⟨by (with_reducible repeat (first | apply Kd.R_alloc | apply Kd.R_drewN | apply Kd.R_drew)); exact Kd.R_mono HO128.out (fun _ hk => hk.2)⟩, ⟨by repeat (first | (with_reducible first | exact HB.out | apply below_alloc | apply pw_below_drewN | apply below_drew1) | exact HB.out)⟩⟩
      · rw [if_neg c13] at H
        have c13b0 : decide ((t123.length : Int) < 1) = false := decide_eq_false c13
        have c13b1 : decide (t123.length < 1) = false := decide_eq_false (by omega)
        clear c13
        have H' := Aside0.mk H
        clear H
        obtain ⟨Ao16, co16, eo16⟩ := Kd.R_slice HO125.out
        subst eo16
        obtain ⟨Ao17, co17, eo17⟩ := Kd.R_slice HO128.out
        subst eo17
        go_wp2
        go_meet
        case rel => exact ⟨_, (decide ((t126.length : Int) > 10)), (by first | rfl | (simp; done) | (simp [*]; done)), H', ⟨by first | omega | exact Nat.le_refl _⟩, ⟨by (with_reducible repeat (first | apply Kd.R_alloc | apply Kd.R_drewN | apply Kd.R_drew)); exact Kd.R_mono HO125.out (fun _ hk => hk.2)⟩, ⟨by (with_reducible repeat (first | apply Kd.R_alloc | apply Kd.R_drewN | apply Kd.R_drew)); exact Kd.R_mono HO128.out (fun _ hk => hk.2)⟩, ⟨by repeat (first | (with_reducible first | exact HB.out | apply below_alloc | apply pw_below_drewN | apply below_drew1) | exact HB.out)⟩⟩
  case rest =>
    clear HC7
    try clear c1
    try clear p2
    try clear c4
    try clear c10
    try clear c10b0
    try clear c10b1
    try clear c13
    try clear c13b0
    try clear c13b1
    obtain ⟨kq, x31_6, rfl, HA, HJ6, HO_5, HO_6, HB⟩ := hcut
    cases kq with
    | zero => exact absurd HA.out (by simp [tephralaw01_VarintOrder.j0])
    | succ kj6 =>
      have H := HA.out
      clear HA
      simp only [tephralaw01_VarintOrder.j0] at H
      by_cases c18 : x31_6 = true
      · subst c18
        have H1 : (some false) = some r := by rw [if_pos rfl] at H; exact H
        clear H
        have H := H1
        clear H1
        obtain rfl := Option.some.inj H
        go_wp2
        go_ret
        exact ⟨by first | rfl | (simp [errW_none, errW_some] <;> rfl) | (simp only [← hji3, ← hji5]; first | rfl | (simp [errW_none, errW_some] <;> rfl)) | (simp [*, errW_none, errW_some] <;> rfl), by repeat (first | (with_reducible first | exact HB.out | apply below_alloc | apply pw_below_drewN | apply below_drew1) | exact HB.out)⟩
      · replace c18 := Bool.eq_false_iff.mpr c18
        subst c18
        have H1 : (tephralaw01_VarintOrder.l0 kj6 a0 a1 t123 t126 t126 (t126.length : Int) 0) = some r := by rw [if_neg (show ¬ (false = true) by decide)] at H; exact H
        clear H
        have H := H1
        clear H1
        have H' := Aside0.mk H
        clear H
        obtain ⟨Ao19, co19, eo19⟩ := Kd.R_slice HO_6.out
        subst eo19
        go_wp2
        go_loopg [34] kj6 (fun kq v34 w' => ∃ (x34_2 : Int), v34 = .int .i64 x34_2 ∧ Aside0 (tephralaw01_VarintOrder.l0 kq a0 a1 t123 t126 t126 (t126.length : Int) x34_2 = some r) ∧ Aside0 (kq ≤ kj6) ∧ Aside0 (Kd.R (Kd.int .u8) 5 w' w.heap.size (fun k_ => some k_ ≠ ((.slice Ao19 t126.length co19) : Value).ownBlock ∧ some k_ ≠ ((.slice Ao19 t126.length co19) : Value).ownBlock) v124 t123) ∧ Aside0 (Kd.R (Kd.int .u8) 5 w' w.heap.size (fun k_ => some k_ ≠ (v124 : Value).ownBlock) (.slice Ao19 t126.length co19) t126) ∧ Aside0 (Kd.R (Kd.int .u8) 5 w' w.heap.size (fun k_ => some k_ ≠ (v124 : Value).ownBlock) (.slice Ao19 t126.length co19) t126) ∧ Aside0 (Below w.heap.size w w'))
        case atStart => exact ⟨(0), (by first | rfl | (simp; done) | (simp [*]; done)), H', ⟨Nat.le_refl _⟩, ⟨by (with_reducible repeat (first | apply Kd.R_alloc | apply Kd.R_drewN | apply Kd.R_drew)); exact Kd.R_mono HO_5.out (fun _ hk => ⟨hk, hk⟩)⟩, ⟨by (with_reducible repeat (first | apply Kd.R_alloc | apply Kd.R_drewN | apply Kd.R_drew)); exact HO_6.out⟩, ⟨by (with_reducible repeat (first | apply Kd.R_alloc | apply Kd.R_drewN | apply Kd.R_drew)); exact HO_6.out⟩, ⟨by repeat (first | (with_reducible first | exact HB.out | apply below_alloc | apply pw_below_drewN | apply below_drew1) | exact HB.out)⟩⟩
        case round =>
          clear H'
          try clear c1
          try clear p2
          try clear c4
          try clear c10
          try clear c10b0
          try clear c10b1
          try clear c13
          try clear c13b0
          try clear c13b1
          try clear c18
          try clear p2
          obtain ⟨x34_2, rfl, HA, HK2, HO_5, HO_6, HO_32, HB⟩ := hrel
          cases gk with
          | zero => exact absurd HA.out (by simp [tephralaw01_VarintOrder.l0])
          | succ k2 =>
            have H := HA.out
            clear HA
            simp only [tephralaw01_VarintOrder.l0] at H
            by_cases c20 : x34_2 < (t126.length : Int)
            · rw [if_pos c20] at H
              have c20b0 : decide (x34_2 < (t126.length : Int)) = true := decide_eq_true c20
              clear c20
              by_cases c21 : 0 ≤ x34_2
              · rw [if_pos c21] at H
                have c21b0 : decide (0 ≤ x34_2) = true := decide_eq_true c21
                clear c21
                by_cases c22 : x34_2 < (t126.length : Int)
                · rw [if_pos c22] at H
                  have c22b0 : decide (x34_2 < (t126.length : Int)) = true := decide_eq_true c22
                  clear c22
                  by_cases c23 : ((decide ((rd t126 x34_2) ≥ 128)) != (decide (x34_2 < (wrap64 ((t126.length : Int) - 1))))) = true
                  · rw [if_pos c23] at H
                    have c23b0 : ((decide ((rd t126 x34_2) ≥ 128)) != (decide (x34_2 < (wrap64 ((t126.length : Int) - 1))))) = true := c23
                    (try (have c23b1 : decide ((decide ((rd t126 x34_2) ≥ 128)) = (decide (x34_2 < (wrap64 ((t126.length : Int) - 1))))) = false := by simpa using c23))
                    (try (have c23b2 : ((decide ((rd t126 x34_2) ≥ 128)) == (decide (x34_2 < (wrap64 ((t126.length : Int) - 1))))) = false := by simpa using c23))
                    (try (have c23b3 : ¬ ((decide ((rd t126 x34_2) ≥ 128)) = (decide (x34_2 < (wrap64 ((t126.length : Int) - 1))))) := by simpa using c23))
                    clear c23
                    obtain rfl := Option.some.inj H
                    have p129 : 0 ≤ (x34_2 : Int) := of_decide_eq_true (by first | (with_reducible assumption) | assumption)
                    have q129 : x34_2 < (t126.length : Int) := of_decide_eq_true (by first | (with_reducible assumption) | assumption)
                    obtain ⟨ad129, e129, hx129_0⟩ := Kd.at_int (Kd.R_reads' HO_32.out).2.2 x34_2 p129 q129
                    cases e129
                    replace p129 := eq_true p129
                    replace q129 := eq_true q129
                    go_wp2
                    go_ret
                    exact ⟨by first | rfl | (simp [errW_none, errW_some] <;> rfl) | (simp only [← hji3, ← hji5]; first | rfl | (simp [errW_none, errW_some] <;> rfl)) | (simp [*, errW_none, errW_some] <;> rfl), by repeat (first | (with_reducible first | exact HB.out | apply below_alloc | apply pw_below_drewN | apply below_drew1) | exact HB.out)⟩
                  · rw [if_neg c23] at H
                    have c23b0 : ((decide ((rd t126 x34_2) ≥ 128)) != (decide (x34_2 < (wrap64 ((t126.length : Int) - 1))))) = false := by simpa using c23
                    (try (have c23b1 : decide ((decide ((rd t126 x34_2) ≥ 128)) = (decide (x34_2 < (wrap64 ((t126.length : Int) - 1))))) = true := by simpa using c23))
                    (try (have c23b2 : ((decide ((rd t126 x34_2) ≥ 128)) == (decide (x34_2 < (wrap64 ((t126.length : Int) - 1))))) = true := by simpa using c23))
                    clear c23
                    have H' := Aside0.mk H
                    clear H
                    have p129 : 0 ≤ (x34_2 : Int) := of_decide_eq_true (by first | (with_reducible assumption) | assumption)
                    have q129 : x34_2 < (t126.length : Int) := of_decide_eq_true (by first | (with_reducible assumption) | assumption)
                    obtain ⟨ad129, e129, hx129_0⟩ := Kd.at_int (Kd.R_reads' HO_32.out).2.2 x34_2 p129 q129
                    cases e129
                    replace p129 := eq_true p129
                    replace q129 := eq_true q129
                    go_wp2
                    go_roundg k2
                    case measure => have := HJ6.out; have := HK2.out; omega
                    case rel => exact ⟨(wrap64 (x34_2 + 1)), (by first | rfl | (simp; done) | (simp [*]; done)), H', ⟨by have := HJ6.out; have := HK2.out; omega⟩, ⟨by (with_reducible repeat (first | apply Kd.R_alloc | apply Kd.R_drewN | apply Kd.R_drew)); exact HO_5.out⟩, ⟨by (with_reducible repeat (first | apply Kd.R_alloc | apply Kd.R_drewN | apply Kd.R_drew)); exact HO_6.out⟩, ⟨by (with_reducible repeat (first | apply Kd.R_alloc | apply Kd.R_drewN | apply Kd.R_drew)); exact HO_32.out⟩, ⟨by repeat (first | (with_reducible first | exact HB.out | apply below_alloc | apply pw_below_drewN | apply below_drew1) | exact HB.out)⟩⟩
                · rw [if_neg c22] at H
                  exact absurd H (by simp)
              · rw [if_neg c21] at H
                exact absurd H (by simp)
            · rw [if_neg c20] at H
              have c20b0 : decide (x34_2 < (t126.length : Int)) = false := decide_eq_false c20
              clear c20
              replace H := Option.bind_eq_some_iff.mp H
              obtain ⟨t130, A240, H⟩ := H
              replace H : (if t130 = true then (some (((strOfNums t123).toList == (strOfNums t126).toList) == (a0 == a1))) else (some false)) = some r := H
              have A24 := Aside0.mk A240
              clear A240
              by_cases c25 : t130 = true
              · subst c25
                have H1 : (some (((strOfNums t123).toList == (strOfNums t126).toList) == (a0 == a1))) = some r := by rw [if_pos rfl] at H; exact H
                clear H
                have H := H1
                clear H1
                obtain rfl := Option.some.inj H
                go_wp2_with (first | ((with_reducible refine gate_callee (f := 15) rfl ?_); refine goesL_ (some 48) rfl rfl Try.func15 (by kernel_rfl) rfl #[] rfl (by (try simp only [List.map_toArray, List.map_cons, List.map_nil]); first | done | rfl | (simp only [List.length_drop, List.length_take]; rfl)) ?_; (with_reducible refine (tephralaw01_fixed.calls k2  true _ A24.out).mono ?_); rintro e w26 ⟨rfl, hb⟩; refine ⟨_, rfl, ?_⟩; have n0_ := Aside0.mk (Kd.R_below (by (with_reducible repeat (first | apply Kd.R_alloc | apply Kd.R_drewN | apply Kd.R_drew)); exact HO_5.out) hb); have n1_ := Aside0.mk (Kd.R_below (by (with_reducible repeat (first | apply Kd.R_alloc | apply Kd.R_drewN | apply Kd.R_drew)); exact HO_6.out) hb); have n2_ := Aside0.mk (Kd.R_below (by (with_reducible repeat (first | apply Kd.R_alloc | apply Kd.R_drewN | apply Kd.R_drew)); exact HO_32.out) hb); have n3_ := Aside0.mk (below_step (by repeat (first | (with_reducible first | exact HB.out | apply below_alloc | apply pw_below_drewN | apply below_drew1) | exact HB.out)) hb); clear HO_5; clear HO_6; clear HO_32; clear HB; have HO_5 := n0_; have HO_6 := n1_; have HO_32 := n2_; have HB := n3_; clear n0_ n1_ n2_ n3_; (try clear hb); (try clear hb2); (try clear hk); (try clear hi); have hcv27 := own_string (P := Try.prog) Try.underlying22 Try.underlying5 Try.underlying9 (Kd.own_of_R HO_5.out); have hcv28 := own_string (P := Try.prog) Try.underlying22 Try.underlying5 Try.underlying9 (Kd.own_of_R HO_6.out)))
                go_ret
                exact ⟨by first | rfl | (simp [errW_none, errW_some] <;> rfl) | (simp only [← hji3, ← hji5]; first | rfl | (simp [errW_none, errW_some] <;> rfl)) | (simp [*, errW_none, errW_some] <;> rfl), by repeat (first | (with_reducible first | exact HB.out | apply below_alloc | apply pw_below_drewN | apply below_drew1) | exact HB.out)⟩
              · replace c25 := Bool.eq_false_iff.mpr c25
                subst c25
                have H1 : (some false) = some r := by rw [if_neg (show ¬ (false = true) by decide)] at H; exact H
                clear H
                have H := H1
                clear H1
                obtain rfl := Option.some.inj H
                go_wp2_with (first | ((with_reducible refine gate_callee (f := 15) rfl ?_); refine goesL_ (some 48) rfl rfl Try.func15 (by kernel_rfl) rfl #[] rfl (by (try simp only [List.map_toArray, List.map_cons, List.map_nil]); first | done | rfl | (simp only [List.length_drop, List.length_take]; rfl)) ?_; (with_reducible refine (tephralaw01_fixed.calls k2  false _ A24.out).mono ?_); rintro e w29 ⟨rfl, hb⟩; refine ⟨_, rfl, ?_⟩; have n0_ := Aside0.mk (Kd.R_below (by (with_reducible repeat (first | apply Kd.R_alloc | apply Kd.R_drewN | apply Kd.R_drew)); exact HO_5.out) hb); have n1_ := Aside0.mk (Kd.R_below (by (with_reducible repeat (first | apply Kd.R_alloc | apply Kd.R_drewN | apply Kd.R_drew)); exact HO_6.out) hb); have n2_ := Aside0.mk (Kd.R_below (by (with_reducible repeat (first | apply Kd.R_alloc | apply Kd.R_drewN | apply Kd.R_drew)); exact HO_32.out) hb); have n3_ := Aside0.mk (below_step (by repeat (first | (with_reducible first | exact HB.out | apply below_alloc | apply pw_below_drewN | apply below_drew1) | exact HB.out)) hb); clear HO_5; clear HO_6; clear HO_32; clear HB; have HO_5 := n0_; have HO_6 := n1_; have HO_32 := n2_; have HB := n3_; clear n0_ n1_ n2_ n3_; (try clear hb); (try clear hb2); (try clear hk); (try clear hi)))
                go_ret
                exact ⟨by first | rfl | (simp [errW_none, errW_some] <;> rfl) | (simp only [← hji3, ← hji5]; first | rfl | (simp [errW_none, errW_some] <;> rfl)) | (simp [*, errW_none, errW_some] <;> rfl), by repeat (first | (with_reducible first | exact HB.out | apply below_alloc | apply pw_below_drewN | apply below_drew1) | exact HB.out)⟩

/-- THE ONE PURE STATEMENT of tephralaw01_VarintOrder: yours. -/
def tephralaw01_VarintOrder.Pure : Prop := ∀ (a0 : Int) (a1 : Int), (Lit.int .u64 a0).wf = true → (Lit.int .u64 a1).wf = true → ∃ k, tephralaw01_VarintOrder.f k a0 a1 = some true
theorem tephralaw01_VarintOrder.walk (P : tephralaw01_VarintOrder.Pure) (a0 : Int) (a1 : Int) (w : World) (w0 : (Lit.int .u64 a0).wf = true) (w1 : (Lit.int .u64 a1).wf = true) :
    Calls Try.prog 4 #[.int .u64 a0, .int .u64 a1] w fun e w' => e = .returned (.bool true) ∧ Below w.heap.size w w' := by
  obtain ⟨k, h⟩ := P a0 a1 w0 w1
  refine (tephralaw01_VarintOrder.calls k a0 a1 true w h).mono ?_
  rintro e w' ⟨rfl, hd⟩
  exact ⟨rfl, hd⟩

-- GIVEN: function 19 (tephraref01_Put)

-- GIVEN: function 37 (bits_Len64)

/-! ### varint_Size: function 20 -/
def varint_Size.f (a0 : Int) : Option (Int) := (bits_Len64.f a0).bind fun t131 => (some (mx (wrap64 (Int.tdiv (wrap64 (t131 + 6)) 7)) 1))
set_option maxHeartbeats 8000000 in
set_option maxRecDepth 100000 in
theorem varint_Size.calls (a0 : Int) (r : Int) (w : World) (h : varint_Size.f a0 = some r) :
    Calls Try.prog 20 #[.int .u64 a0] w fun e w' => e = .returned (.int .i64 r) ∧ Below w.heap.size w w' := by
  have HB := Aside0.mk (Below.refl w.heap.size w)
  have H : ((bits_Len64.f a0).bind fun t131 => (some (mx (wrap64 (Int.tdiv (wrap64 (t131 + 6)) 7)) 1))) = some r := h
  clear h
  replace H := Option.bind_eq_some_iff.mp H
  obtain ⟨t131, A20, H⟩ := H
  replace H : (some (mx (wrap64 (Int.tdiv (wrap64 (t131 + 6)) 7)) 1)) = some r := H
  have A2 := Aside0.mk A20
  clear A20
  obtain ⟨ji3, hji3⟩ : ∃ j_ : Int, (mx (wrap64 (Int.tdiv (wrap64 (t131 + 6)) 7)) 1) = j_ := ⟨_, rfl⟩
  replace H : (some ji3) = some r := by first | (rw [hji3] at H; exact H) | (simp only [hji3] at H ⊢; exact H)
  (try rw [hji3] at A2)
  (try (have hji3l : 1 ≤ ji3 := by (rw [← hji3]; unfold mx; (repeat' split) <;> omega)))
  (try (have hji3m : 0 ≤ ji3 := by omega))
  have hji3_ : (if (wrap64 (Int.tdiv (wrap64 (t131 + 6)) 7)) < 1 then 1 else (wrap64 (Int.tdiv (wrap64 (t131 + 6)) 7))) = ji3 := hji3
  obtain rfl := Option.some.inj H
  go_enter Try.func20, Try.ntmps20
  go_wp2_with (first | ((with_reducible refine gate_callee (f := 37) rfl ?_); refine goesL_ (some 4) rfl rfl Try.func37 (by kernel_rfl) rfl #[.int .u64 a0] rfl (by (try simp only [List.map_toArray, List.map_cons, List.map_nil]); first | done | rfl | (simp only [List.length_drop, List.length_take]; rfl)) ?_; (with_reducible refine (bits_Len64.calls a0 t131 _ A2.out).mono ?_); rintro e w' ⟨rfl, ⟨nd, rfl⟩⟩; refine ⟨_, rfl, ?_⟩))
  go_ret
  exact ⟨by first | rfl | (simp [errW_none, errW_some] <;> rfl) | (simp only [← hji3]; first | rfl | (simp [errW_none, errW_some] <;> rfl)) | (simp [*, errW_none, errW_some] <;> rfl), by repeat (first | (with_reducible first | exact HB.out | apply below_alloc | apply pw_below_drewN | apply below_drew1) | exact HB.out)⟩

end Go.Proofs.Ythojcapdbjmneaa.GVB
