/- Texts laid as one by shake.py, cut to what the claim needs: GVBx0, GVBx3, GRRx0, GRRx3, GRRx4, GRRx1, GRRx2, GRRz2, GRRx6, GVBx1, GVBx2, GVBx4. (Names that begin with W and the print's groups (G..x, G..z): laid by the kit's print, cut.) -/
import Derived.Test.YtmeocdkiecknkaaProg
import Derived.Below
import Derived.Deep.Draws
import Derived.Deep.AppendLies
import Derived.Maps.AppendAt
import Derived.OwnWalk
import Derived.Laws.BytesArg
import Derived.Laws.MakeOwn
import Derived.Laws.OwnMore
import Derived.Deep.OwnRows
import Derived.Tactics
import Derived.Lib.ConvBytes
import Derived.Laws.Slices
import Derived.WalkKit
import Derived.KernelRfl
import Derived.RowKit3
import Derived.Deep.LoopGhost
import Derived.Deep.QuietTactic
import Derived.BigQuiet
import Derived.WideLaws
import Derived.Deep.DeepCutAuto
import Derived.Deep.CutBlock
import Derived.Deep.RegionHeld3
import Derived.Laws.Rows
import Derived.Lib.AppendStr
import Derived.ArgAppend
import Derived.Laws.IdiomCopy
import Derived.OrdersHeld
import Derived.Laws.BitsLemmas
import Derived.RowKit
import Derived.Test.YtmeocdkiecknkaaZTa
import Derived.Test.YtmeocdkiecknkaaZTb
import Derived.Test.YtmeocdkiecknkaaZTc
import Derived.Test.YtmeocdkiecknkaaZTf
set_option linter.unusedVariables false
set_option linter.unusedSimpArgs false
-- by a program of this session (gprint.py, over the kit's print): the machine's side of a law
namespace Go.Proofs.Ytmeocdkiecknkaa.GVB
open Go.RowKit Go.Proofs.YtmeocdkiecknkaaW.PrintWords Go.Proofs.YtmeocdkiecknkaaW.PrintLast Go.Proofs.YtmeocdkiecknkaaW.PrintMore
attribute [local go_sem] max2_int min2_int max_two min_two max_three min_three max_four min_four   -- for this text's walks alone
def errW : Option Int → Value
 | none => .nilIface
 | some c => .iface 0 (.int .i64 c)
theorem errW_none : errW none = .nilIface := rfl
theorem errW_some (c : Int) : errW (some c) = .iface 0 (.int .i64 c) := rfl
-- the values' own types
end Go.Proofs.Ytmeocdkiecknkaa.GVB
-- by a program of this session (gprint.py, over the kit's print): the machine's side of a law
namespace Go.Proofs.Ytmeocdkiecknkaa.GVB
open Go.RowKit Go.Proofs.YtmeocdkiecknkaaW.PrintWords Go.Proofs.YtmeocdkiecknkaaW.PrintLast Go.Proofs.YtmeocdkiecknkaaW.PrintMore
attribute [local go_sem] max2_int min2_int max_two min_two max_three min_three max_four min_four   -- for this text's walks alone
mutual
def varint_Get.j0 : Nat → List Int → Int → Int → Bool → Option (Int × Int × Int)
 | 0, _, _, _, _ => none
 | k + 1, x0, x1, x4, x16 => if x16 = true then (some (0, 0, 1)) else (varint_Get.l0 k x0 x1 x4 0)
def varint_Get.l0 : Nat → List Int → Int → Int → Int → Option (Int × Int × Int)
 | 0, _, _, _, _ => none
 | k + 1, x0, x1, x4, x17 => if x17 < 10 then (if (wrap64 (x1 + x17)) ≥ (x0.length : Int) then (some (0, 0, 2)) else (if 0 ≤ (wrap64 (x1 + x17)) then (if (wrap64 (x1 + x17)) < (x0.length : Int) then (if x17 = 9 then (if (rd x0 (wrap64 (x1 + x17))) > 1 then (varint_Get.j2 k x0 x1 x4 x17 (rd x0 (wrap64 (x1 + x17))) x17 true) else (if x17 > 0 then (varint_Get.j2 k x0 x1 x4 x17 (rd x0 (wrap64 (x1 + x17))) x17 ((rd x0 (wrap64 (x1 + x17))) == 0)) else (varint_Get.j2 k x0 x1 x4 x17 (rd x0 (wrap64 (x1 + x17))) x17 false))) else (if x17 > 0 then (varint_Get.j2 k x0 x1 x4 x17 (rd x0 (wrap64 (x1 + x17))) x17 ((rd x0 (wrap64 (x1 + x17))) == 0)) else (varint_Get.j2 k x0 x1 x4 x17 (rd x0 (wrap64 (x1 + x17))) x17 false))) else (none)) else (none))) else (some (0, 0, 3))
def varint_Get.j2 : Nat → List Int → Int → Int → Int → Int → Int → Bool → Option (Int × Int × Int)
 | 0, _, _, _, _, _, _, _ => none
 | k + 1, x0, x1, x4, x7, x8, x17, x45 => if x45 = true then (some (0, 0, 3)) else (if 0 ≤ (wrap64 (7 * x7)) then (if x8 < 128 then (some (Go.bits .or .u64 x4 (shl .u64 (IntKind.u64.wrap (Go.bits .andNot .u8 x8 128)) (wrap64 (7 * x7))), wrap64 ((wrap64 (x1 + x7)) + 1), 0)) else (varint_Get.l0 k x0 x1 (Go.bits .or .u64 x4 (shl .u64 (IntKind.u64.wrap (Go.bits .andNot .u8 x8 128)) (wrap64 (7 * x7)))) (wrap64 (x17 + 1)))) else (none))
end
def varint_Get.f (k : Nat) (l0 : List Int) (a1 : Int) : Option (Int × Int × Int) := if a1 < 0 then (varint_Get.j0 k l0 a1 0 true) else (varint_Get.j0 k l0 a1 0 (decide (a1 > (l0.length : Int))))
set_option maxHeartbeats 8000000 in
set_option maxRecDepth 100000 in
theorem varint_Get.calls (k : Nat) (A0 : Option Addr) (c0 : Nat) (l0 : List Int) (a1 : Int) (r1 : Int) (r2 : Int) (r3 : Int) (w : World) (hr0 : Kd.C (Kd.int .u8) w A0 l0.length l0) (hc0 : l0.length ≤ c0) (h : varint_Get.f k l0 a1 = some (r1, r2, r3)) :
  Calls Try.prog 83 #[.slice A0 l0.length c0, .int .i64 a1] w fun e w' => e = .returned (.tuple #[.int .u64 r1, .int .i64 r2, .int .i64 r3]) ∧ Drawn0 w w' := by
 have HR0 := Aside0.mk hr0
 have HC0 := Aside0.mk hc0
 clear hr0 hc0
 have H : (if a1 < 0 then (varint_Get.j0 k l0 a1 0 true) else (varint_Get.j0 k l0 a1 0 (decide (a1 > (l0.length : Int))))) = some (r1, r2, r3) := h
 clear h
 have HC3 := Aside0.mk H
 clear H
 go_enter Try.func83, Try.ntmps83
 go_upto_region 1 with (fail)
 go_cut [16] (fun v16 wc => ∃ (kq : Nat) (x16_2 : Bool), v16 = .bool x16_2 ∧ Aside0 (varint_Get.j0 kq l0 a1 0 x16_2 = some (r1, r2, r3)) ∧ Aside0 (kq ≤ k) ∧ Drawn0 w wc)
 case first =>
  have H := HC3.out
  clear HC3
  by_cases c4 : a1 < 0
  ·rw [if_pos c4] at H
   have c4b0 : decide (a1 < 0) = true := decide_eq_true c4
   clear c4
   (first | rw [c4b0] | (simp only [i64_w, i32_w]; rw [c4b0]) | skip)
   have H' := Aside0.mk H
   clear H
   go_wp2
   go_meet
   case rel => exact ⟨_, (true), (by first | rfl | (simp; done) | (simp [*]; done) | (simp; rw [Bool.eq_iff_iff]; simp; done)), H', ⟨by first | omega | exact Nat.le_refl _⟩, by repeat (first | exact Drawn0.refl _ | apply Drawn0.step)⟩
  ·rw [if_neg c4] at H
   have c4b0 : decide (a1 < 0) = false := decide_eq_false c4
   clear c4
   (first | rw [c4b0] | (simp only [i64_w, i32_w]; rw [c4b0]) | skip)
   have H' := Aside0.mk H
   clear H
   go_wp2
   go_meet
   case rel => exact ⟨_, (decide (a1 > (l0.length : Int))), (by first | rfl | (simp; done) | (simp [*]; done) | (simp; rw [Bool.eq_iff_iff]; simp; done)), H', ⟨by first | omega | exact Nat.le_refl _⟩, by repeat (first | exact Drawn0.refl _ | apply Drawn0.step)⟩
 case rest =>
  clear HC3
  try clear p2
  try clear c4
  try clear c4b0
  obtain ⟨kq, x16_2, rfl, HA, HJ2, ⟨mc2, rfl⟩⟩ := hcut
  cases kq with
  | zero => exact absurd HA.out (by simp [varint_Get.j0])
  | succ kj2 =>
   have H := HA.out
   clear HA
   simp only [varint_Get.j0] at H
   by_cases c5 : x16_2 = true
   ·subst c5
    have H1 : (some (0, 0, 1)) = some (r1, r2, r3) := by rw [if_pos rfl] at H; exact H
    clear H
    have H := H1
    clear H1
    simp only [Option.some.injEq, Prod.mk.injEq] at H
    obtain ⟨rfl, rfl, rfl⟩ := H
    go_wp2
    go_ret3
    exact ⟨by first | rfl | (simp; done) | (simp [*]; done), by repeat (first | exact Drawn0.refl _ | apply Drawn0.step)⟩
   ·replace c5 := Bool.eq_false_iff.mpr c5
    subst c5
    have H1 : (varint_Get.l0 kj2 l0 a1 0 0) = some (r1, r2, r3) := by rw [if_neg (show ¬ (false = true) by decide)] at H; exact H
    clear H
    have H := H1
    clear H1
    have H' := Aside0.mk H
    clear H
    go_wp2
    go_loopg [4, 17] kj2 (fun kq v4 v17 w' => ∃ (x4_2 : Int) (x17_2 : Int), v4 = .int .u64 x4_2 ∧ v17 = .int .i64 x17_2 ∧ Aside0 (varint_Get.l0 kq l0 a1 x4_2 x17_2 = some (r1, r2, r3)) ∧ Aside0 (kq ≤ kj2) ∧ Drawn0 w w')
    case atStart => exact ⟨(0), (0), (by first | rfl | (simp; done) | (simp [*]; done) | (simp; rw [Bool.eq_iff_iff]; simp; done)), (by first | rfl | (simp; done) | (simp [*]; done) | (simp; rw [Bool.eq_iff_iff]; simp; done)), H', ⟨Nat.le_refl _⟩, by repeat (first | exact Drawn0.refl _ | apply Drawn0.step)⟩
    case round =>
     clear H'
     try clear c2
     try clear p2
     try clear c4
     try clear c4b0
     try clear c5
     try clear p2
     obtain ⟨x4_2, x17_2, rfl, rfl, HA, HK2, ⟨m2, rfl⟩⟩ := hrel
     cases gk with
     | zero => exact absurd HA.out (by simp [varint_Get.l0])
     | succ k2 =>
      have H := HA.out
      clear HA
      simp only [varint_Get.l0] at H
      by_cases c6 : x17_2 < 10
      ·rw [if_pos c6] at H
       have c6b0 : decide (x17_2 < 10) = true := decide_eq_true c6
       clear c6
       by_cases c7 : (wrap64 (a1 + x17_2)) ≥ (l0.length : Int)
       ·rw [if_pos c7] at H
        have c7b0 : decide ((l0.length : Int) ≤ (wrap64 (a1 + x17_2))) = true := decide_eq_true c7
        clear c7
        simp only [Option.some.injEq, Prod.mk.injEq] at H
        obtain ⟨rfl, rfl, rfl⟩ := H
        go_wp2
        go_ret3
        exact ⟨by first | rfl | (simp; done) | (simp [*]; done), by repeat (first | exact Drawn0.refl _ | apply Drawn0.step)⟩
       ·rw [if_neg c7] at H
        have c7b0 : decide ((l0.length : Int) ≤ (wrap64 (a1 + x17_2))) = false := decide_eq_false c7
        clear c7
        obtain ⟨ji8, hji8⟩ : ∃ j_ : Int, (wrap64 (a1 + x17_2)) = j_ := ⟨_, rfl⟩
        replace H : (if 0 ≤ (ji8) then (if (ji8) < (l0.length : Int) then (if x17_2 = 9 then (if (rd l0 (ji8)) > 1 then (varint_Get.j2 k2 l0 a1 x4_2 x17_2 (rd l0 (ji8)) x17_2 true) else (if x17_2 > 0 then (varint_Get.j2 k2 l0 a1 x4_2 x17_2 (rd l0 (ji8)) x17_2 ((rd l0 (ji8)) == 0)) else (varint_Get.j2 k2 l0 a1 x4_2 x17_2 (rd l0 (ji8)) x17_2 false))) else (if x17_2 > 0 then (varint_Get.j2 k2 l0 a1 x4_2 x17_2 (rd l0 (ji8)) x17_2 ((rd l0 (ji8)) == 0)) else (varint_Get.j2 k2 l0 a1 x4_2 x17_2 (rd l0 (ji8)) x17_2 false))) else (none)) else (none)) = some (r1, r2, r3) := by first | (rw [hji8] at H; exact H) | (simp only [hji8] at H ⊢; exact H)
        (try rw [hji8] at c7b0)
        have hji8w : (IntKind.i64.wrap (a1 + x17_2)) = ji8 := (i64_w _).trans hji8
        by_cases c9 : 0 ≤ (ji8)
        ·rw [if_pos c9] at H
         have c9b0 : decide (0 ≤ (ji8)) = true := decide_eq_true c9
         clear c9
         by_cases c10 : (ji8) < (l0.length : Int)
         ·rw [if_pos c10] at H
          have c10b0 : decide ((ji8) < (l0.length : Int)) = true := decide_eq_true c10
          clear c10
          have HC11 := Aside0.mk H
          clear H
          have p169 : 0 ≤ ((ji8) : Int) := of_decide_eq_true (by first | (with_reducible assumption) | assumption)
          have q169 : (ji8) < (l0.length : Int) := of_decide_eq_true (by first | (with_reducible assumption) | assumption)
          obtain ⟨ad169, e169, hx169_0⟩ := Kd.at_int HR0.out (ji8) p169 q169
          cases e169
          replace p169 := eq_true p169
          replace q169 := eq_true q169
          go_upto_region 9 with (fail)
          go_cut [45] (fun v45 wc => ∃ (kq : Nat) (x45_10 : Bool), v45 = .bool x45_10 ∧ Aside0 (varint_Get.j2 kq l0 a1 x4_2 x17_2 (rd l0 (ji8)) x17_2 x45_10 = some (r1, r2, r3)) ∧ Aside0 (kq ≤ k2) ∧ Drawn0 w wc)
          case first =>
           have H := HC11.out
           clear HC11
           by_cases c12 : x17_2 = 9
           ·rw [if_pos c12] at H
            have c12b0 : (x17_2 == 9) = true := beq_iff_eq.mpr c12
            have c12b1 : (x17_2 != 9) = false := bne_eq_false_iff_eq.mpr c12
            clear c12
            (first | rw [c12b0] | (simp only [i64_w, i32_w]; rw [c12b0]) | skip)
            by_cases c13 : (rd l0 (ji8)) > 1
            ·rw [if_pos c13] at H
             have c13b0 : decide (1 < (rd l0 (ji8))) = true := decide_eq_true c13
             clear c13
             have H' := Aside0.mk H
             clear H
             go_wp2
             go_meet
             case rel => exact ⟨_, (true), (by first | rfl | (simp; done) | (simp [*]; done) | (simp; rw [Bool.eq_iff_iff]; simp; done)), H', ⟨by have := HJ2.out; have := HK2.out; first | omega | exact Nat.le_refl _⟩, by repeat (first | exact Drawn0.refl _ | apply Drawn0.step)⟩
            ·rw [if_neg c13] at H
             have c13b0 : decide (1 < (rd l0 (ji8))) = false := decide_eq_false c13
             clear c13
             by_cases c14 : x17_2 > 0
             ·rw [if_pos c14] at H
              have c14b0 : decide (0 < x17_2) = true := decide_eq_true c14
              clear c14
              have H' := Aside0.mk H
              clear H
              go_wp2
              go_meet
              case rel => exact ⟨_, (((rd l0 (ji8)) == 0)), (by first | rfl | (simp; done) | (simp only [← hji8] <;> (first | rfl | simp)) | (simp [*]; done)), H', ⟨by have := HJ2.out; have := HK2.out; first | omega | exact Nat.le_refl _⟩, by repeat (first | exact Drawn0.refl _ | apply Drawn0.step)⟩
             ·rw [if_neg c14] at H
              have c14b0 : decide (0 < x17_2) = false := decide_eq_false c14
              clear c14
              have H' := Aside0.mk H
              clear H
              go_wp2
              go_meet
              case rel => exact ⟨_, (false), (by first | rfl | (simp; done) | (simp [*]; done) | (simp; rw [Bool.eq_iff_iff]; simp; done)), H', ⟨by have := HJ2.out; have := HK2.out; first | omega | exact Nat.le_refl _⟩, by repeat (first | exact Drawn0.refl _ | apply Drawn0.step)⟩
           ·rw [if_neg c12] at H
            have c12b0 : (x17_2 == 9) = false := beq_eq_false_iff_ne.mpr c12
            have c12b1 : (x17_2 != 9) = true := bne_iff_ne.mpr c12
            (first | rw [c12b0] | (simp only [i64_w, i32_w]; rw [c12b0]) | skip)
            by_cases c15 : x17_2 > 0
            ·rw [if_pos c15] at H
             have c15b0 : decide (0 < x17_2) = true := decide_eq_true c15
             clear c15
             have H' := Aside0.mk H
             clear H
             go_wp2
             go_meet
             case rel => exact ⟨_, (((rd l0 (ji8)) == 0)), (by first | rfl | (simp; done) | (simp only [← hji8] <;> (first | rfl | simp)) | (simp [*]; done)), H', ⟨by have := HJ2.out; have := HK2.out; first | omega | exact Nat.le_refl _⟩, by repeat (first | exact Drawn0.refl _ | apply Drawn0.step)⟩
            ·rw [if_neg c15] at H
             have c15b0 : decide (0 < x17_2) = false := decide_eq_false c15
             clear c15
             have H' := Aside0.mk H
             clear H
             go_wp2
             go_meet
             case rel => exact ⟨_, (false), (by first | rfl | (simp; done) | (simp [*]; done) | (simp; rw [Bool.eq_iff_iff]; simp; done)), H', ⟨by have := HJ2.out; have := HK2.out; first | omega | exact Nat.le_refl _⟩, by repeat (first | exact Drawn0.refl _ | apply Drawn0.step)⟩
          case rest =>
           clear HC11
           try clear c1
           try clear p1
           try clear q1
           try clear hx1
           try clear c2
           try clear p2
           try clear c4
           try clear c4b0
           try clear c5
           try clear c6
           try clear c6b0
           try clear p6
           try clear c7
           try clear c7b0
           try clear c8
           try clear c9
           try clear c9b0
           try clear c10
           try clear c10b0
           try clear c12
           try clear c12b0
           try clear c12b1
           try clear c13
           try clear c13b0
           try clear c14
           try clear c14b0
           try clear c15
           try clear c15b0
           try clear hx169_0
           try clear p169
           try clear p2
           try clear q169
           obtain ⟨kq, x45_10, rfl, HA, HJ10, ⟨mc10, rfl⟩⟩ := hcut
           cases kq with
           | zero => exact absurd HA.out (by simp [varint_Get.j2])
           | succ kj10 =>
            have H := HA.out
            clear HA
            simp only [varint_Get.j2] at H
            by_cases c16 : x45_10 = true
            ·subst c16
             have H1 : (some (0, 0, 3)) = some (r1, r2, r3) := by rw [if_pos rfl] at H; exact H
             clear H
             have H := H1
             clear H1
             simp only [Option.some.injEq, Prod.mk.injEq] at H
             obtain ⟨rfl, rfl, rfl⟩ := H
             go_wp2
             go_ret3
             exact ⟨by first | rfl | (simp; done) | (simp only [← hji8] <;> (first | rfl | simp)) | (simp [*]; done), by repeat (first | exact Drawn0.refl _ | apply Drawn0.step)⟩
            ·replace c16 := Bool.eq_false_iff.mpr c16
             subst c16
             have H1 : (if 0 ≤ (wrap64 (7 * x17_2)) then (if (rd l0 (ji8)) < 128 then (some (Go.bits .or .u64 x4_2 (shl .u64 (IntKind.u64.wrap (Go.bits .andNot .u8 (rd l0 (ji8)) 128)) (wrap64 (7 * x17_2))), wrap64 ((wrap64 (a1 + x17_2)) + 1), 0)) else (varint_Get.l0 kj10 l0 a1 (Go.bits .or .u64 x4_2 (shl .u64 (IntKind.u64.wrap (Go.bits .andNot .u8 (rd l0 (ji8)) 128)) (wrap64 (7 * x17_2)))) (wrap64 (x17_2 + 1)))) else (none)) = some (r1, r2, r3) := by rw [if_neg (show ¬ (false = true) by decide)] at H; exact H
             clear H
             have H := H1
             clear H1
             obtain ⟨ji17, hji17⟩ : ∃ j_ : Int, (wrap64 (7 * x17_2)) = j_ := ⟨_, rfl⟩
             replace H : (if 0 ≤ (ji17) then (if (rd l0 (ji8)) < 128 then (some (Go.bits .or .u64 x4_2 (shl .u64 (IntKind.u64.wrap (Go.bits .andNot .u8 (rd l0 (ji8)) 128)) (ji17)), wrap64 ((wrap64 (a1 + x17_2)) + 1), 0)) else (varint_Get.l0 kj10 l0 a1 (Go.bits .or .u64 x4_2 (shl .u64 (IntKind.u64.wrap (Go.bits .andNot .u8 (rd l0 (ji8)) 128)) (ji17))) (wrap64 (x17_2 + 1)))) else (none)) = some (r1, r2, r3) := by first | (rw [hji17] at H; exact H) | (simp only [hji17] at H ⊢; exact H)
             have hji17w : (IntKind.i64.wrap (7 * x17_2)) = ji17 := (i64_w _).trans hji17
             by_cases c18 : 0 ≤ (ji17)
             ·rw [if_pos c18] at H
              have c18b0 := eq_true c18
              have c18b1 : decide (0 ≤ (ji17)) = true := decide_eq_true c18
              clear c18
              obtain ⟨ji19, hji19⟩ : ∃ j_ : Int, (shl .u64 (IntKind.u64.wrap (Go.bits .andNot .u8 (rd l0 (ji8)) 128)) (ji17)) = j_ := ⟨_, rfl⟩
              replace H : (if (rd l0 (ji8)) < 128 then (some (Go.bits .or .u64 x4_2 (ji19), wrap64 ((wrap64 (a1 + x17_2)) + 1), 0)) else (varint_Get.l0 kj10 l0 a1 (Go.bits .or .u64 x4_2 (ji19)) (wrap64 (x17_2 + 1)))) = some (r1, r2, r3) := by first | (rw [hji19] at H; exact H) | (simp only [hji19] at H ⊢; exact H)
              have hji19_ : (IntKind.u64.wrap ((IntKind.u64.wrap (Go.bits .andNot .u8 (rd l0 (ji8)) 128)) * 2 ^ min (ji17).toNat 64)) = ji19 := hji19
              have hji19z : (ji17) ≤ 64 → (IntKind.u64.wrap ((IntKind.u64.wrap (Go.bits .andNot .u8 (rd l0 (ji8)) 128)) * 2 ^ (ji17).toNat)) = ji19 := shl_small hji19
              by_cases c20 : (rd l0 (ji8)) < 128
              ·rw [if_pos c20] at H
               have c20b0 : decide ((rd l0 (ji8)) < 128) = true := decide_eq_true c20
               clear c20
               simp only [Option.some.injEq, Prod.mk.injEq] at H
               obtain ⟨rfl, rfl, rfl⟩ := H
               go_wp2
               go_ret3
               exact ⟨by first | rfl | (simp; done) | (simp only [← hji8, ← hji17, ← hji19] <;> (first | rfl | simp)) | (simp [*]; done), by repeat (first | exact Drawn0.refl _ | apply Drawn0.step)⟩
              ·rw [if_neg c20] at H
               have c20b0 : decide ((rd l0 (ji8)) < 128) = false := decide_eq_false c20
               clear c20
               have H' := Aside0.mk H
               clear H
               go_wp2
               go_roundg kj10
               case measure => have := HJ2.out; have := HK2.out; have := HJ10.out; omega
               case rel => exact ⟨(Go.bits .or .u64 x4_2 (ji19)), (wrap64 (x17_2 + 1)), (by first | rfl | (simp; done) | (simp only [← hji19] <;> (first | rfl | simp)) | (simp [*]; done)), (by first | rfl | (simp; done) | (simp [*]; done) | (simp; rw [Bool.eq_iff_iff]; simp; done)), H', ⟨by have := HJ2.out; have := HK2.out; have := HJ10.out; omega⟩, by repeat (first | exact Drawn0.refl _ | apply Drawn0.step)⟩
             ·rw [if_neg c18] at H
              exact absurd H (by simp)
         ·rw [if_neg c10] at H
          exact absurd H (by simp)
        ·rw [if_neg c9] at H
         exact absurd H (by simp)
      ·rw [if_neg c6] at H
       have c6b0 : decide (x17_2 < 10) = false := decide_eq_false c6
       clear c6
       simp only [Option.some.injEq, Prod.mk.injEq] at H
       obtain ⟨rfl, rfl, rfl⟩ := H
       go_wp2
       go_ret3
       exact ⟨by first | rfl | (simp; done) | (simp [*]; done), by repeat (first | exact Drawn0.refl _ | apply Drawn0.step)⟩
end Go.Proofs.Ytmeocdkiecknkaa.GVB
-- by a program of this session (gprint.py, over the kit's print): the machine's side of a law
namespace Go.Proofs.Ytmeocdkiecknkaa.GRR
open Go.RowKit Go.Proofs.YtmeocdkiecknkaaW.PrintWords Go.Proofs.YtmeocdkiecknkaaW.PrintLast Go.Proofs.YtmeocdkiecknkaaW.PrintMore
attribute [local go_sem] max2_int min2_int max_two min_two max_three min_three max_four min_four   -- for this text's walks alone
def errW : Option Int → Value
 | none => .nilIface
 | some c => .iface 0 (.int .i64 c)
theorem errW_none : errW none = .nilIface := rfl
theorem errW_some (c : Int) : errW (some c) = .iface 0 (.int .i64 c) := rfl
-- the values' own types
structure S109 where
 f0 : ByteArray
 f1 : Int
 f2 : Bool
def z109 : S109 := ⟨(⟨#[]⟩ : ByteArray), (0 : Int), false⟩
def k109 : Kd S109 := Kd.iso (Kd.pair Kd.string (Kd.pair (Kd.int .u64) Kd.bool)) (fun x : S109 => (x.f0, x.f1, x.f2))
theorem k109_open {w : World} {x : S109} {cs : List Value} (h : k109.K w x cs) : cs = [.string x.f0, .int .u64 x.f1, .bool x.f2] := by
 obtain ⟨_, _, rfl, rfl, ⟨_, _, rfl, rfl, rfl⟩⟩ := h
 exact rfl
theorem k109_mkM (w : World) (base : Nat) (ok : Nat → Prop) (x : S109)  : k109.M w base ok x [.string x.f0, .int .u64 x.f1, .bool x.f2] := ⟨[.string x.f0], [.int .u64 x.f1, .bool x.f2], rfl, rfl, ⟨[.int .u64 x.f1], [.bool x.f2], rfl, rfl, rfl⟩⟩
def rd_T109 (xs : List S109) (i : Int) : S109 := xs.getD i.toNat z109
theorem at_T109 {w : World} {A : Option Addr} {n : Nat} {xs : List S109} (h : Kd.C k109 w A n xs) (i : Int) (h0 : 0 ≤ i) (h1 : i < n) : ∃ ad , A = some ad ∧ w.cell? (ad.add (i.toNat * 3)) = some (.string (rd_T109 xs i).f0) ∧ w.cell? ⟨(ad.add (i.toNat * 3)).block, (ad.add (i.toNat * 3)).off + 1, none⟩ = some (.int .u64 (rd_T109 xs i).f1) ∧ w.cell? ⟨(ad.add (i.toNat * 3)).block, (ad.add (i.toNat * 3)).off + 2, none⟩ = some (.bool (rd_T109 xs i).f2) := by
 obtain ⟨ad, c, e, _, hK, hc0⟩ := Kd.C_get h z109 i h0 h1
 have hc : ∀ j u, c[j]? = some u → w.cell? (ad.add (i.toNat * 3 + j)) = some u := hc0
 obtain rfl := k109_open hK
 exact ⟨ad, e, hc 0 _ rfl, by rw [← add_field _ _ 1 (by omega)]; exact hc 1 _ rfl, by rw [← add_field _ _ 2 (by omega)]; exact hc 2 _ rfl⟩
def rd_L5 (xs : List (List Int)) (i : Int) : (List Int) := xs.getD i.toNat ([] : List Int)
theorem at_L5 {w : World} {A : Option Addr} {n : Nat} {xs : List (List Int)} (h : Kd.C (Kd.slice 5 (Kd.int .u8)) w A n xs) (i : Int) (h0 : 0 ≤ i) (h1 : i < n) : ∃ ad A0 c0, A = some ad ∧ w.cell? (ad.add i.toNat) = some (.slice A0 (rd_L5 xs i).length c0) ∧ (rd_L5 xs i).length ≤ c0 ∧ (Kd.int .u8).C w A0 (rd_L5 xs i).length (rd_L5 xs i) := by
 obtain ⟨ad, c, e, _, hK, hc0⟩ := Kd.C_get h ([] : List Int) i h0 h1
 have hc : ∀ j u, c[j]? = some u → w.cell? (ad.add (i.toNat * 1 + j)) = some u := hc0
 obtain ⟨A0, c0, rfl, l0, g0⟩ := hK
 exact ⟨ad, A0, c0, e, by have hq := hc 0 _ rfl; rwa [Nat.mul_one, Nat.add_zero] at hq, l0, g0⟩
end Go.Proofs.Ytmeocdkiecknkaa.GRR
-- by a program of this session (gprint.py, over the kit's print): the machine's side of a law
namespace Go.Proofs.Ytmeocdkiecknkaa.GRR
open Go.RowKit Go.Proofs.YtmeocdkiecknkaaW.PrintWords Go.Proofs.YtmeocdkiecknkaaW.PrintLast Go.Proofs.YtmeocdkiecknkaaW.PrintMore
attribute [local go_sem] max2_int min2_int max_two min_two max_three min_three max_four min_four   -- for this text's walks alone
end Go.Proofs.Ytmeocdkiecknkaa.GRR
-- by a program of this session (gprint.py, over the kit's print): the machine's side of a law
namespace Go.Proofs.Ytmeocdkiecknkaa.GRR
open Go.RowKit Go.Proofs.YtmeocdkiecknkaaW.PrintWords Go.Proofs.YtmeocdkiecknkaaW.PrintLast Go.Proofs.YtmeocdkiecknkaaW.PrintMore
attribute [local go_sem] max2_int min2_int max_two min_two max_three min_three max_four min_four   -- for this text's walks alone
end Go.Proofs.Ytmeocdkiecknkaa.GRR
-- by a program of this session (gprint.py, over the kit's print): the machine's side of a law
namespace Go.Proofs.Ytmeocdkiecknkaa.GRR
open Go.RowKit Go.Proofs.YtmeocdkiecknkaaW.PrintWords Go.Proofs.YtmeocdkiecknkaaW.PrintLast Go.Proofs.YtmeocdkiecknkaaW.PrintMore
attribute [local go_sem] max2_int min2_int max_two min_two max_three min_three max_four min_four   -- for this text's walks alone
theorem eqA109 (d : Nat) (w : World) (x0 y0 : ByteArray) (x1 y1 : Int) (x2 y2 : Bool) :
  (Op.equalIn (d + 2) 109 (.agg #[.string x0, .int .u64 x1, .bool x2]) (.agg #[.string y0, .int .u64 y1, .bool y2])).run Try.prog w = .ok (x0.toList == y0.toList && (x1 == y1 && (x2 == y2))) w := by
 refine eqA_of Try.underlying109 (by kernel_rfl) ?_
 refine eqf_cons (by rfl) (by go_simp; rfl) (by go_simp; rfl) (by go_simp) ?_
 refine eqf_cons (by rfl) (by go_simp; rfl) (by go_simp; rfl) (by go_simp) ?_
 exact eqf_last (by rfl) (by go_simp; rfl) (by go_simp; rfl) (by go_simp)
end Go.Proofs.Ytmeocdkiecknkaa.GRR
-- by a program of this session (gprint.py, over the kit's print): the machine's side of a law
namespace Go.Proofs.Ytmeocdkiecknkaa.GRR
open Go.RowKit Go.Proofs.YtmeocdkiecknkaaW.PrintWords Go.Proofs.YtmeocdkiecknkaaW.PrintLast Go.Proofs.YtmeocdkiecknkaaW.PrintMore
attribute [local go_sem] max2_int min2_int max_two min_two max_three min_three max_four min_four   -- for this text's walks alone
theorem eqA180 (d : Nat) (w : World) (x0 y0 : Int) (x1 y1 : ByteArray) (x2 y2 : ByteArray) (x3 y3 : Int) (x4 y4 : Int) (x5 y5 : Int) :
  (Op.equalIn (d + 2) 180 (.agg #[.int .i64 x0, .string x1, .string x2, .int .u64 x3, .int .u64 x4, .int .u64 x5]) (.agg #[.int .i64 y0, .string y1, .string y2, .int .u64 y3, .int .u64 y4, .int .u64 y5])).run Try.prog w = .ok (x0 == y0 && (x1.toList == y1.toList && (x2.toList == y2.toList && (x3 == y3 && (x4 == y4 && (x5 == y5)))))) w := by
 refine eqA_of Try.underlying180 (by kernel_rfl) ?_
 refine eqf_cons (by rfl) (by go_simp; rfl) (by go_simp; rfl) (by go_simp) ?_
 refine eqf_cons (by rfl) (by go_simp; rfl) (by go_simp; rfl) (by go_simp) ?_
 refine eqf_cons (by rfl) (by go_simp; rfl) (by go_simp; rfl) (by go_simp) ?_
 refine eqf_cons (by rfl) (by go_simp; rfl) (by go_simp; rfl) (by go_simp) ?_
 refine eqf_cons (by rfl) (by go_simp; rfl) (by go_simp; rfl) (by go_simp) ?_
 exact eqf_last (by rfl) (by go_simp; rfl) (by go_simp; rfl) (by go_simp)
end Go.Proofs.Ytmeocdkiecknkaa.GRR
-- by a program of this session (gprint.py, over the kit's print): the machine's side of a law
namespace Go.Proofs.Ytmeocdkiecknkaa.GRR
open Go.RowKit Go.Proofs.YtmeocdkiecknkaaW.PrintWords Go.Proofs.YtmeocdkiecknkaaW.PrintLast Go.Proofs.YtmeocdkiecknkaaW.PrintMore
attribute [local go_sem] max2_int min2_int max_two min_two max_three min_three max_four min_four   -- for this text's walks alone
attribute [local go_sem high] eqA109 eqA180
def record_of.f (a0_0 : Int) (a0_1 : ByteArray) (a0_2 : Int) (l0_3 : List (S109)) (a0_4 : Int) (a0_5 : Int) (a0_6 : ByteArray) : Option (Int × ByteArray × ByteArray × Int × Int × Int) := some (a0_0, a0_1, a0_6, a0_2, a0_4, a0_5)
set_option maxHeartbeats 8000000 in
set_option maxRecDepth 100000 in
theorem record_of.calls (a0_0 : Int) (a0_1 : ByteArray) (a0_2 : Int) (A0_3 : Option Addr) (c0_3 : Nat) (l0_3 : List (S109)) (a0_4 : Int) (a0_5 : Int) (a0_6 : ByteArray) (r1 : Int) (r2 : ByteArray) (r3 : ByteArray) (r4 : Int) (r5 : Int) (r6 : Int) (w : World) (hr0_3 : Kd.C k109 w A0_3 l0_3.length l0_3) (hc0_3 : l0_3.length ≤ c0_3) (h : record_of.f a0_0 a0_1 a0_2 l0_3 a0_4 a0_5 a0_6 = some (r1, r2, r3, r4, r5, r6)) :
  Calls Try.prog 110 #[.agg #[.int .i64 a0_0, .string a0_1, .int .u64 a0_2, .slice A0_3 l0_3.length c0_3, .int .u64 a0_4, .int .u64 a0_5, .string a0_6]] w fun e w' => e = .returned (.agg #[.int .i64 r1, .string r2, .string r3, .int .u64 r4, .int .u64 r5, .int .u64 r6]) ∧ Below w.heap.size w w' := by
 have hu62 := Try.underlying62
 have hu180 := Try.underlying180
 have HR0_3 := Aside0.mk hr0_3
 have HC0_3 := Aside0.mk hc0_3
 clear hr0_3 hc0_3
 have HB := Aside0.mk (Below.refl w.heap.size w)
 have H : (some (a0_0, a0_1, a0_6, a0_2, a0_4, a0_5)) = some (r1, r2, r3, r4, r5, r6) := h
 clear h
 simp only [Option.some.injEq, Prod.mk.injEq] at H
 obtain ⟨rfl, rfl, rfl, rfl, rfl, rfl⟩ := H
 go_enter Try.func110, Try.ntmps110
 go_wp2_with (first | ((with_reducible refine gate_dst (N := 1) rfl ?_); refine box_event ?hg (N := 1) ?hd (cs := #[.int .i64 a0_0, .string a0_1, .int .u64 a0_2, .slice A0_3 l0_3.length c0_3, .int .u64 a0_4, .int .u64 a0_5, .string a0_6]) (t := 62) ?hr ?_; (case hd => rfl); (case hg => rfl); (case hr => first | (go_simp; done) | (go_simp; rfl)); intro gb365 hg w2 hbox hb; have n0_ := Aside0.mk (below_step (by repeat (first | (with_reducible first | exact HB.out | apply below_alloc | apply pw_below_drewN | apply below_drew1) | exact HB.out)) hb); have n1_ := Aside0.mk (hbox); have n2_ := Aside0.mk ((by rw [hg]; exact (below_size (by repeat (first | (with_reducible first | exact HB.out | apply below_alloc | apply pw_below_drewN | apply below_drew1) | exact HB.out))) : w.heap.size ≤ gb365)); have n3_ := Aside0.mk ((by rw [hg]; exact (below_size (by repeat (first | (with_reducible first | exact HB.out | apply below_alloc | apply pw_below_drewN | apply below_drew1) | exact HB.out))) : w.heap.size ≤ gb365)); clear HB; have HB := n0_; have BK365 := n1_; have GW365 := n2_; have GE365 := n3_; clear n0_ n1_ n2_ n3_; clear hb hbox hg) | ((with_reducible refine gate_dst (N := 2) rfl ?_); refine box_event ?hg (N := 2) ?hd (cs := #[.int .i64 0, .string (⟨#[]⟩ : ByteArray), .string (⟨#[]⟩ : ByteArray), .int .u64 0, .int .u64 0, .int .u64 0]) (t := 180) ?hr ?_; (case hd => rfl); (case hg => rfl); (case hr => first | (go_simp; done) | (go_simp; rfl)); intro gb366 hg w3 hbox hb; have n0_ := Aside0.mk (blk_below (g := gb365) (o := .cells #[.int .i64 a0_0, .string a0_1, .int .u64 a0_2, .slice A0_3 l0_3.length c0_3, .int .u64 a0_4, .int .u64 a0_5, .string a0_6] 62 (0, 0)) (by (with_reducible repeat (first | refine blk_drewN ?_ _ | refine blk_drew ?_ | refine blk_alloc ?_ _)); exact BK365.out) hb); have n1_ := Aside0.mk (below_step (by repeat (first | (with_reducible first | exact HB.out | apply below_alloc | apply pw_below_drewN | apply below_drew1 | refine below_set ?_ GE365.out) | exact HB.out)) hb); have n2_ := Aside0.mk (hbox); have n3_ := Aside0.mk ((by rw [hg]; exact (below_size (by repeat (first | (with_reducible first | exact HB.out | apply below_alloc | apply pw_below_drewN | apply below_drew1 | refine below_set ?_ GE365.out) | exact HB.out))) : w.heap.size ≤ gb366)); have n4_ := Aside0.mk ((by rw [hg]; exact (below_size (by repeat (first | (with_reducible first | exact HB.out | apply below_alloc | apply pw_below_drewN | apply below_drew1 | refine below_set ?_ GE365.out) | exact HB.out))) : w.heap.size ≤ gb366)); have n5_ := Aside0.mk ((by rw [hg]; exact Nat.ne_of_lt (blk_lt (g := gb365) (o := .cells #[.int .i64 a0_0, .string a0_1, .int .u64 a0_2, .slice A0_3 l0_3.length c0_3, .int .u64 a0_4, .int .u64 a0_5, .string a0_6] 62 (0, 0)) (by (with_reducible repeat (first | refine blk_drewN ?_ _ | refine blk_drew ?_ | refine blk_alloc ?_ _)); exact BK365.out)) : gb365 ≠ gb366)); have n6_ := Aside0.mk ((by rw [hg]; exact Nat.ne_of_gt (blk_lt (g := gb365) (o := .cells #[.int .i64 a0_0, .string a0_1, .int .u64 a0_2, .slice A0_3 l0_3.length c0_3, .int .u64 a0_4, .int .u64 a0_5, .string a0_6] 62 (0, 0)) (by (with_reducible repeat (first | refine blk_drewN ?_ _ | refine blk_drew ?_ | refine blk_alloc ?_ _)); exact BK365.out)) : gb366 ≠ gb365)); clear BK365; clear HB; have BK365 := n0_; have HB := n1_; have BK366 := n2_; have GW366 := n3_; have GE366 := n4_; have NB365_366 := n5_; have NB366_365 := n6_; clear n0_ n1_ n2_ n3_ n4_ n5_ n6_; clear hb hbox hg; have hnb4 := NB365_366.out; have hnc4 := NB366_365.out; have hcz5_0 : w3.cell? ⟨gb365, 0, none⟩ = some (.int .i64 a0_0) := (blk_cell BK365.out 0).trans rfl; have hcz5_1 : w3.cell? ⟨gb365, 1, none⟩ = some (.string a0_1) := (blk_cell BK365.out 1).trans rfl; have hcz5_2 : w3.cell? ⟨gb365, 2, none⟩ = some (.int .u64 a0_2) := (blk_cell BK365.out 2).trans rfl; have hcz5_3 : w3.cell? ⟨gb365, 3, none⟩ = some (.slice A0_3 l0_3.length c0_3) := (blk_cell BK365.out 3).trans rfl; have hcz5_4 : w3.cell? ⟨gb365, 4, none⟩ = some (.int .u64 a0_4) := (blk_cell BK365.out 4).trans rfl; have hcz5_5 : w3.cell? ⟨gb365, 5, none⟩ = some (.int .u64 a0_5) := (blk_cell BK365.out 5).trans rfl; have hcz5_6 : w3.cell? ⟨gb365, 6, none⟩ = some (.string a0_6) := (blk_cell BK365.out 6).trans rfl; have hfz5_0 := blk_frozen BK365.out 0; have hfz5_1 := blk_frozen BK365.out 1; have hfz5_2 := blk_frozen BK365.out 2; have hfz5_3 := blk_frozen BK365.out 3; have hfz5_4 := blk_frozen BK365.out 4; have hfz5_5 := blk_frozen BK365.out 5; have hfz5_6 := blk_frozen BK365.out 6; have hcz6_0 : w3.cell? ⟨gb366, 0, none⟩ = some (.int .i64 0) := (blk_cell BK366.out 0).trans rfl; have hcz6_1 : w3.cell? ⟨gb366, 1, none⟩ = some (.string (⟨#[]⟩ : ByteArray)) := (blk_cell BK366.out 1).trans rfl; have hcz6_2 : w3.cell? ⟨gb366, 2, none⟩ = some (.string (⟨#[]⟩ : ByteArray)) := (blk_cell BK366.out 2).trans rfl; have hcz6_3 : w3.cell? ⟨gb366, 3, none⟩ = some (.int .u64 0) := (blk_cell BK366.out 3).trans rfl; have hcz6_4 : w3.cell? ⟨gb366, 4, none⟩ = some (.int .u64 0) := (blk_cell BK366.out 4).trans rfl; have hcz6_5 : w3.cell? ⟨gb366, 5, none⟩ = some (.int .u64 0) := (blk_cell BK366.out 5).trans rfl; have hfz6_0 := blk_frozen BK366.out 0; have hfz6_1 := blk_frozen BK366.out 1; have hfz6_2 := blk_frozen BK366.out 2; have hfz6_3 := blk_frozen BK366.out 3; have hfz6_4 := blk_frozen BK366.out 4; have hfz6_5 := blk_frozen BK366.out 5))
 refine bodyPost_ret (results_cell_row rfl _ _ gb366 180 #[.int .i64 a0_0, .string a0_1, .string a0_6, .int .u64 a0_2, .int .u64 a0_4, .int .u64 a0_5] (0, 0) _ rfl (by (with_reducible repeat (first | refine blk_drewN ?_ _ | refine blk_drew ?_ | refine blk_alloc ?_ _)); refine blk_put (cs := #[.int .i64 a0_0, .string a0_1, .string a0_6, .int .u64 a0_2, .int .u64 a0_4, .int .u64 0]) ?_ 5 _ rfl; (with_reducible repeat (first | refine blk_drewN ?_ _ | refine blk_drew ?_ | refine blk_alloc ?_ _)); refine blk_put (cs := #[.int .i64 a0_0, .string a0_1, .string a0_6, .int .u64 a0_2, .int .u64 0, .int .u64 0]) ?_ 4 _ rfl; (with_reducible repeat (first | refine blk_drewN ?_ _ | refine blk_drew ?_ | refine blk_alloc ?_ _)); refine blk_put (cs := #[.int .i64 a0_0, .string a0_1, .string a0_6, .int .u64 0, .int .u64 0, .int .u64 0]) ?_ 3 _ rfl; (with_reducible repeat (first | refine blk_drewN ?_ _ | refine blk_drew ?_ | refine blk_alloc ?_ _)); refine blk_put (cs := #[.int .i64 a0_0, .string a0_1, .string (⟨#[]⟩ : ByteArray), .int .u64 0, .int .u64 0, .int .u64 0]) ?_ 2 _ rfl; (with_reducible repeat (first | refine blk_drewN ?_ _ | refine blk_drew ?_ | refine blk_alloc ?_ _)); refine blk_put (cs := #[.int .i64 a0_0, .string (⟨#[]⟩ : ByteArray), .string (⟨#[]⟩ : ByteArray), .int .u64 0, .int .u64 0, .int .u64 0]) ?_ 1 _ rfl; (with_reducible repeat (first | refine blk_drewN ?_ _ | refine blk_drew ?_ | refine blk_alloc ?_ _)); refine blk_put (cs := #[.int .i64 0, .string (⟨#[]⟩ : ByteArray), .string (⟨#[]⟩ : ByteArray), .int .u64 0, .int .u64 0, .int .u64 0]) ?_ 0 _ rfl; (with_reducible repeat (first | refine blk_drewN ?_ _ | refine blk_drew ?_ | refine blk_alloc ?_ _)); exact BK366.out) Try.underlying180 rfl (by kernel_rfl)) rfl ?_
 exact ⟨by first | rfl | (simp [errW_none, errW_some] <;> rfl) | (simp [*, errW_none, errW_some] <;> rfl), by repeat (first | (with_reducible first | exact HB.out | apply below_alloc | apply pw_below_drewN | apply below_drew1 | refine below_set ?_ GE365.out | refine below_set ?_ GE366.out) | exact HB.out)⟩
def api_Dep_111.l0 : Nat → List (S109) → List (S109) → Int → Int → Option (Bool)
 | 0, _, _, _, _ => none
 | k + 1, x0, x1, x12, x13 => if x13 < x12 then (if 0 ≤ x13 then (if x13 < (x0.length : Int) then (if x13 < (x1.length : Int) then (if (!((((rd_T109 x0 x13).f0).toList) == (((rd_T109 x1 x13).f0).toList)) || (!(((rd_T109 x0 x13).f1) == ((rd_T109 x1 x13).f1)) || (!(((rd_T109 x0 x13).f2) == ((rd_T109 x1 x13).f2))))) = true then (some false) else (api_Dep_111.l0 k x0 x1 x12 (wrap64 (x13 + 1)))) else (none)) else (none)) else (none)) else (some true)
def api_Dep_111.f (k : Nat) (l0 : List (S109)) (l1 : List (S109)) : Option (Bool) := if (l0.length : Int) = (l1.length : Int) then (api_Dep_111.l0 k l0 l1 (l0.length : Int) 0) else (some false)
set_option maxHeartbeats 8000000 in
set_option maxRecDepth 100000 in
theorem api_Dep_111.calls (k : Nat) (A0 : Option Addr) (c0 : Nat) (l0 : List (S109)) (A1 : Option Addr) (c1 : Nat) (l1 : List (S109)) (r : Bool) (w : World) (hr0 : Kd.C k109 w A0 l0.length l0) (hc0 : l0.length ≤ c0) (hr1 : Kd.C k109 w A1 l1.length l1) (hc1 : l1.length ≤ c1) (h : api_Dep_111.f k l0 l1 = some r) :
  Calls Try.prog 111 #[.slice A0 l0.length c0, .slice A1 l1.length c1] w fun e w' => e = .returned (.bool r) ∧ Drawn0 w w' := by
 have hu109 := Try.underlying109
 have HR0 := Aside0.mk hr0
 have HC0 := Aside0.mk hc0
 clear hr0 hc0
 have HR1 := Aside0.mk hr1
 have HC1 := Aside0.mk hc1
 clear hr1 hc1
 have H : (if (l0.length : Int) = (l1.length : Int) then (api_Dep_111.l0 k l0 l1 (l0.length : Int) 0) else (some false)) = some r := h
 clear h
 by_cases c3 : (l0.length : Int) = (l1.length : Int)
 ·rw [if_pos c3] at H
  have c3b0 : ((l0.length : Int) == (l1.length : Int)) = true := beq_iff_eq.mpr c3
  have c3b1 : ((l0.length : Int) != (l1.length : Int)) = false := bne_eq_false_iff_eq.mpr c3
  have c3b2 : (l0.length == l1.length) = true := by first | simpa using c3 | (simp at c3 ⊢; omega)
  clear c3
  have H' := Aside0.mk H
  clear H
  go_enter Try.func111, Try.ntmps111
  go_wp2
  repeat (go_quiet (fail); try go_wp2)
  go_loopg [13] k (fun kq v13 w' => ∃ (x13_1 : Int), v13 = .int .i64 x13_1 ∧ Aside0 (api_Dep_111.l0 kq l0 l1 (l0.length : Int) x13_1 = some r) ∧ Aside0 (kq ≤ k) ∧ Drawn0 w w')
  case atStart => exact ⟨(0), (by first | rfl | (simp; done) | (simp [*]; done) | (simp; rw [Bool.eq_iff_iff]; simp; done)), H', ⟨Nat.le_refl _⟩, by repeat (first | exact Drawn0.refl _ | apply Drawn0.step)⟩
  case round =>
   clear H'
   try clear c1
   try clear p2
   try clear c3
   try clear c3b0
   try clear c3b1
   try clear c3b2
   obtain ⟨x13_1, rfl, HA, HK1, ⟨m1, rfl⟩⟩ := hrel
   cases gk with
   | zero => exact absurd HA.out (by simp [api_Dep_111.l0])
   | succ k1 =>
    have H := HA.out
    clear HA
    simp only [api_Dep_111.l0] at H
    by_cases c4 : x13_1 < (l0.length : Int)
    ·rw [if_pos c4] at H
     have c4b0 : decide (x13_1 < (l0.length : Int)) = true := decide_eq_true c4
     clear c4
     by_cases c5 : 0 ≤ x13_1
     ·rw [if_pos c5] at H
      have c5b0 : decide (0 ≤ x13_1) = true := decide_eq_true c5
      clear c5
      by_cases c6 : x13_1 < (l0.length : Int)
      ·rw [if_pos c6] at H
       have c6b0 : decide (x13_1 < (l0.length : Int)) = true := decide_eq_true c6
       clear c6
       by_cases c7 : x13_1 < (l1.length : Int)
       ·rw [if_pos c7] at H
        have c7b0 : decide (x13_1 < (l1.length : Int)) = true := decide_eq_true c7
        clear c7
        by_cases c8 : (!((((rd_T109 l0 x13_1).f0).toList) == (((rd_T109 l1 x13_1).f0).toList)) || (!(((rd_T109 l0 x13_1).f1) == ((rd_T109 l1 x13_1).f1)) || (!(((rd_T109 l0 x13_1).f2) == ((rd_T109 l1 x13_1).f2))))) = true
        ·rw [if_pos c8] at H
         have c8b0 : (!((((rd_T109 l0 x13_1).f0).toList) == (((rd_T109 l1 x13_1).f0).toList)) || (!(((rd_T109 l0 x13_1).f1) == ((rd_T109 l1 x13_1).f1)) || (!(((rd_T109 l0 x13_1).f2) == ((rd_T109 l1 x13_1).f2))))) = true := c8
         clear c8
         obtain rfl := Option.some.inj H
         have p367 : 0 ≤ (x13_1 : Int) := of_decide_eq_true (by first | (with_reducible assumption) | assumption)
         have q367 : x13_1 < (l0.length : Int) := of_decide_eq_true (by first | (with_reducible assumption) | assumption)
         obtain ⟨ad367, e367, hx367_0, hx367_1, hx367_2⟩ := at_T109 HR0.out x13_1 p367 q367
         cases e367
         replace p367 := eq_true p367
         replace q367 := eq_true q367
         have p368 : 0 ≤ (x13_1 : Int) := of_decide_eq_true (by first | (with_reducible assumption) | assumption)
         have q368 : x13_1 < (l1.length : Int) := of_decide_eq_true (by first | (with_reducible assumption) | assumption)
         obtain ⟨ad368, e368, hx368_0, hx368_1, hx368_2⟩ := at_T109 HR1.out x13_1 p368 q368
         cases e368
         replace p368 := eq_true p368
         replace q368 := eq_true q368
         go_wp2
         repeat (go_quiet (fail); try go_wp2)
         go_ret
         exact ⟨by first | rfl | (simp; done) | (simp [*]; done), by repeat (first | exact Drawn0.refl _ | apply Drawn0.step)⟩
        ·rw [if_neg c8] at H
         have c8b0 : (!((((rd_T109 l0 x13_1).f0).toList) == (((rd_T109 l1 x13_1).f0).toList)) || (!(((rd_T109 l0 x13_1).f1) == ((rd_T109 l1 x13_1).f1)) || (!(((rd_T109 l0 x13_1).f2) == ((rd_T109 l1 x13_1).f2))))) = false := by simpa using c8
         clear c8
         have H' := Aside0.mk H
         clear H
         have p367 : 0 ≤ (x13_1 : Int) := of_decide_eq_true (by first | (with_reducible assumption) | assumption)
         have q367 : x13_1 < (l0.length : Int) := of_decide_eq_true (by first | (with_reducible assumption) | assumption)
         obtain ⟨ad367, e367, hx367_0, hx367_1, hx367_2⟩ := at_T109 HR0.out x13_1 p367 q367
         cases e367
         replace p367 := eq_true p367
         replace q367 := eq_true q367
         have p368 : 0 ≤ (x13_1 : Int) := of_decide_eq_true (by first | (with_reducible assumption) | assumption)
         have q368 : x13_1 < (l1.length : Int) := of_decide_eq_true (by first | (with_reducible assumption) | assumption)
         obtain ⟨ad368, e368, hx368_0, hx368_1, hx368_2⟩ := at_T109 HR1.out x13_1 p368 q368
         cases e368
         replace p368 := eq_true p368
         replace q368 := eq_true q368
         go_wp2
         repeat (go_quiet (fail); try go_wp2)
         go_roundg k1
         case measure => have := HK1.out; omega
         case rel => exact ⟨(wrap64 (x13_1 + 1)), (by first | rfl | (simp; done) | (simp [*]; done) | (simp; rw [Bool.eq_iff_iff]; simp; done)), H', ⟨by have := HK1.out; omega⟩, by repeat (first | exact Drawn0.refl _ | apply Drawn0.step)⟩
       ·rw [if_neg c7] at H
        exact absurd H (by simp)
      ·rw [if_neg c6] at H
       exact absurd H (by simp)
     ·rw [if_neg c5] at H
      exact absurd H (by simp)
    ·rw [if_neg c4] at H
     have c4b0 : decide (x13_1 < (l0.length : Int)) = false := decide_eq_false c4
     clear c4
     obtain rfl := Option.some.inj H
     go_wp2
     repeat (go_quiet (fail); try go_wp2)
     go_ret
     exact ⟨by first | rfl | (simp; done) | (simp [*]; done), by repeat (first | exact Drawn0.refl _ | apply Drawn0.step)⟩
 ·rw [if_neg c3] at H
  have c3b0 : ((l0.length : Int) == (l1.length : Int)) = false := beq_eq_false_iff_ne.mpr c3
  have c3b1 : ((l0.length : Int) != (l1.length : Int)) = true := bne_iff_ne.mpr c3
  have c3b2 : (l0.length == l1.length) = false := by first | simpa using c3 | (simp at c3 ⊢; omega)
  obtain rfl := Option.some.inj H
  go_enter Try.func111, Try.ntmps111
  go_wp2
  repeat (go_quiet (fail); try go_wp2)
  go_ret
  exact ⟨by first | rfl | (simp; done) | (simp [*]; done), by repeat (first | exact Drawn0.refl _ | apply Drawn0.step)⟩
def record_Same.f (k : Nat) (a0_0 : Int) (a0_1 : ByteArray) (a0_2 : Int) (l0_3 : List (S109)) (a0_4 : Int) (a0_5 : Int) (a0_6 : ByteArray) (a1_0 : Int) (a1_1 : ByteArray) (a1_2 : Int) (l1_3 : List (S109)) (a1_4 : Int) (a1_5 : Int) (a1_6 : ByteArray) : Option (Bool) := (record_of.f a0_0 a0_1 a0_2 l0_3 a0_4 a0_5 a0_6).bind fun bt371 => ((record_of.f a1_0 a1_1 a1_2 l1_3 a1_4 a1_5 a1_6).bind fun bt377 => (if (bt371.1 == bt377.1 && (bt371.2.1.toList == bt377.2.1.toList && (bt371.2.2.1.toList == bt377.2.2.1.toList && (bt371.2.2.2.1 == bt377.2.2.2.1 && (bt371.2.2.2.2.1 == bt377.2.2.2.2.1 && (bt371.2.2.2.2.2 == bt377.2.2.2.2.2)))))) = true then ((api_Dep_111.f k l0_3 l1_3).bind fun t383 => (some t383)) else (some false)))
def record_Same.T1 : Bool × List (List Nat × List Nat) := (true, [([], []), ([0], [0]), ([], []), ([2, 1], [2]), ([1, 3], [1, 3]), ([4, 3], [4]), ([5], [5]), ([6, 5], [5, 6]), ([5], [5]), ([8, 5], [5, 8]), ([7, 9, 5, 5], [5, 7, 9]), ([5, 10], [5, 10]), ([11, 10, 0, 1, 2, 3, 4, 5, 6, 7, 8, 9, 10, 11], [11])])
def record_Same.B1 : List Nat := [0, 1, 0, 7, 15, 31, 63, 127, 63, 319, 1023, 2047, 4095]
theorem record_Same.tab1 : rtab .any (opsOf Try.f88 1) = record_Same.T1 := by kernel_rfl
theorem record_Same.bits1 : waitsOk record_Same.T1.2 record_Same.B1 = true := by kernel_rfl
set_option maxHeartbeats 8000000 in
set_option maxRecDepth 100000 in
theorem record_Same.calls (k : Nat) (a0_0 : Int) (a0_1 : ByteArray) (a0_2 : Int) (A0_3 : Option Addr) (c0_3 : Nat) (l0_3 : List (S109)) (a0_4 : Int) (a0_5 : Int) (a0_6 : ByteArray) (a1_0 : Int) (a1_1 : ByteArray) (a1_2 : Int) (A1_3 : Option Addr) (c1_3 : Nat) (l1_3 : List (S109)) (a1_4 : Int) (a1_5 : Int) (a1_6 : ByteArray) (r : Bool) (w : World) (hr0_3 : Kd.C k109 w A0_3 l0_3.length l0_3) (hc0_3 : l0_3.length ≤ c0_3) (hr1_3 : Kd.C k109 w A1_3 l1_3.length l1_3) (hc1_3 : l1_3.length ≤ c1_3) (h : record_Same.f k a0_0 a0_1 a0_2 l0_3 a0_4 a0_5 a0_6 a1_0 a1_1 a1_2 l1_3 a1_4 a1_5 a1_6 = some r) :
  Calls Try.prog 88 #[.agg #[.int .i64 a0_0, .string a0_1, .int .u64 a0_2, .slice A0_3 l0_3.length c0_3, .int .u64 a0_4, .int .u64 a0_5, .string a0_6], .agg #[.int .i64 a1_0, .string a1_1, .int .u64 a1_2, .slice A1_3 l1_3.length c1_3, .int .u64 a1_4, .int .u64 a1_5, .string a1_6]] w fun e w' => e = .returned (.bool r) ∧ Below w.heap.size w w' := by
 have hu62 := Try.underlying62
 have HR0_3 := Aside0.mk hr0_3
 have HC0_3 := Aside0.mk hc0_3
 clear hr0_3 hc0_3
 have HR1_3 := Aside0.mk hr1_3
 have HC1_3 := Aside0.mk hc1_3
 clear hr1_3 hc1_3
 have HB := Aside0.mk (Below.refl w.heap.size w)
 have H : ((record_of.f a0_0 a0_1 a0_2 l0_3 a0_4 a0_5 a0_6).bind fun bt371 => ((record_of.f a1_0 a1_1 a1_2 l1_3 a1_4 a1_5 a1_6).bind fun bt377 => (if (bt371.1 == bt377.1 && (bt371.2.1.toList == bt377.2.1.toList && (bt371.2.2.1.toList == bt377.2.2.1.toList && (bt371.2.2.2.1 == bt377.2.2.2.1 && (bt371.2.2.2.2.1 == bt377.2.2.2.2.1 && (bt371.2.2.2.2.2 == bt377.2.2.2.2.2)))))) = true then ((api_Dep_111.f k l0_3 l1_3).bind fun t383 => (some t383)) else (some false)))) = some r := h
 clear h
 replace H := Option.bind_eq_some_iff.mp H
 obtain ⟨⟨t371, t372, t373, t374, t375, t376⟩, A30, H⟩ := H
 replace H : ((record_of.f a1_0 a1_1 a1_2 l1_3 a1_4 a1_5 a1_6).bind fun bt377 => (if (t371 == bt377.1 && (t372.toList == bt377.2.1.toList && (t373.toList == bt377.2.2.1.toList && (t374 == bt377.2.2.2.1 && (t375 == bt377.2.2.2.2.1 && (t376 == bt377.2.2.2.2.2)))))) = true then ((api_Dep_111.f k l0_3 l1_3).bind fun t383 => (some t383)) else (some false))) = some r := H
 have A3 := Aside0.mk A30
 clear A30
 replace H := Option.bind_eq_some_iff.mp H
 obtain ⟨⟨t377, t378, t379, t380, t381, t382⟩, A40, H⟩ := H
 replace H : (if (t371 == t377 && (t372.toList == t378.toList && (t373.toList == t379.toList && (t374 == t380 && (t375 == t381 && (t376 == t382)))))) = true then ((api_Dep_111.f k l0_3 l1_3).bind fun t383 => (some t383)) else (some false)) = some r := H
 have A4 := Aside0.mk A40
 clear A40
 by_cases c5 : (t371 == t377 && (t372.toList == t378.toList && (t373.toList == t379.toList && (t374 == t380 && (t375 == t381 && (t376 == t382)))))) = true
 ·rw [if_pos c5] at H
  have c5b0 : (t371 == t377 && (t372.toList == t378.toList && (t373.toList == t379.toList && (t374 == t380 && (t375 == t381 && (t376 == t382)))))) = true := c5
  (try (have c5b1 : decide (t371 = t377 && (t372.toList == t378.toList && (t373.toList == t379.toList && (t374 == t380 && (t375 == t381 && (t376 == t382)))))) = true := by simpa using c5))
  (try (have c5b2 : (t371 == t377 && (t372.toList == t378.toList && (t373.toList == t379.toList && (t374 == t380 && (t375 == t381 && (t376 == t382)))))) = true := by simpa using c5))
  clear c5
  replace H := Option.bind_eq_some_iff.mp H
  obtain ⟨t383, A60, H⟩ := H
  replace H : (some t383) = some r := H
  have A6 := Aside0.mk A60
  clear A60
  obtain rfl := Option.some.inj H
  go_enter Try.func88, Try.ntmps88
  try go_wp2_with (first | ((with_reducible refine gate_dst (N := 2) rfl ?_); refine box_event ?hg (N := 2) ?hd (cs := #[.int .i64 a0_0, .string a0_1, .int .u64 a0_2, .slice A0_3 l0_3.length c0_3, .int .u64 a0_4, .int .u64 a0_5, .string a0_6]) (t := 62) ?hr ?_; (case hd => rfl); (case hg => rfl); (case hr => first | (go_simp; done) | (go_simp; rfl)); intro gb369 hg w7 hbox hb; have n0_ := Aside0.mk (below_step (by repeat (first | (with_reducible first | exact HB.out | apply below_alloc | apply pw_below_drewN | apply below_drew1) | exact HB.out)) hb); have n1_ := Aside0.mk (hbox); have n2_ := Aside0.mk ((by rw [hg]; exact (below_size (by repeat (first | (with_reducible first | exact HB.out | apply below_alloc | apply pw_below_drewN | apply below_drew1) | exact HB.out))) : w.heap.size ≤ gb369)); have n3_ := Aside0.mk ((by rw [hg]; exact (below_size (by repeat (first | (with_reducible first | exact HB.out | apply below_alloc | apply pw_below_drewN | apply below_drew1) | exact HB.out))) : w.heap.size ≤ gb369)); clear HB; have HB := n0_; have BK369 := n1_; have GW369 := n2_; have GE369 := n3_; clear n0_ n1_ n2_ n3_; clear hb hbox hg) | ((with_reducible refine gate_dst (N := 3) rfl ?_); refine box_event ?hg (N := 3) ?hd (cs := #[.int .i64 a1_0, .string a1_1, .int .u64 a1_2, .slice A1_3 l1_3.length c1_3, .int .u64 a1_4, .int .u64 a1_5, .string a1_6]) (t := 62) ?hr ?_; (case hd => rfl); (case hg => rfl); (case hr => first | (go_simp; done) | (go_simp; rfl)); intro gb370 hg w8 hbox hb; have n0_ := Aside0.mk (blk_below (g := gb369) (o := .cells #[.int .i64 a0_0, .string a0_1, .int .u64 a0_2, .slice A0_3 l0_3.length c0_3, .int .u64 a0_4, .int .u64 a0_5, .string a0_6] 62 (0, 0)) (by (with_reducible repeat (first | refine blk_drewN ?_ _ | refine blk_drew ?_ | refine blk_alloc ?_ _)); exact BK369.out) hb); have n1_ := Aside0.mk (below_step (by repeat (first | (with_reducible first | exact HB.out | apply below_alloc | apply pw_below_drewN | apply below_drew1 | refine below_set ?_ GE369.out) | exact HB.out)) hb); have n2_ := Aside0.mk (hbox); have n3_ := Aside0.mk ((by rw [hg]; exact (below_size (by repeat (first | (with_reducible first | exact HB.out | apply below_alloc | apply pw_below_drewN | apply below_drew1 | refine below_set ?_ GE369.out) | exact HB.out))) : w.heap.size ≤ gb370)); have n4_ := Aside0.mk ((by rw [hg]; exact (below_size (by repeat (first | (with_reducible first | exact HB.out | apply below_alloc | apply pw_below_drewN | apply below_drew1 | refine below_set ?_ GE369.out) | exact HB.out))) : w.heap.size ≤ gb370)); have n5_ := Aside0.mk ((by rw [hg]; exact Nat.ne_of_lt (blk_lt (g := gb369) (o := .cells #[.int .i64 a0_0, .string a0_1, .int .u64 a0_2, .slice A0_3 l0_3.length c0_3, .int .u64 a0_4, .int .u64 a0_5, .string a0_6] 62 (0, 0)) (by (with_reducible repeat (first | refine blk_drewN ?_ _ | refine blk_drew ?_ | refine blk_alloc ?_ _)); exact BK369.out)) : gb369 ≠ gb370)); have n6_ := Aside0.mk ((by rw [hg]; exact Nat.ne_of_gt (blk_lt (g := gb369) (o := .cells #[.int .i64 a0_0, .string a0_1, .int .u64 a0_2, .slice A0_3 l0_3.length c0_3, .int .u64 a0_4, .int .u64 a0_5, .string a0_6] 62 (0, 0)) (by (with_reducible repeat (first | refine blk_drewN ?_ _ | refine blk_drew ?_ | refine blk_alloc ?_ _)); exact BK369.out)) : gb370 ≠ gb369)); clear BK369; clear HB; have BK369 := n0_; have HB := n1_; have BK370 := n2_; have GW370 := n3_; have GE370 := n4_; have NB369_370 := n5_; have NB370_369 := n6_; clear n0_ n1_ n2_ n3_ n4_ n5_ n6_; clear hb hbox hg))
  have n0_ := Aside0.mk (blk_drew BK369.out)
  have n1_ := Aside0.mk (blk_drew BK370.out)
  have n2_ := Aside0.mk (below_drew1 HB.out)
  clear BK369
  clear BK370
  clear HB
  have BK369 := n0_
  have BK370 := n1_
  have HB := n2_
  clear n0_ n1_ n2_
  refine start_ (n := 13) (S := fun w' => w'.cell? ⟨gb369, 0, none⟩ = some (.int .i64 a0_0) ∧ w'.cell? ⟨gb369, 1, none⟩ = some (.string a0_1) ∧ w'.cell? ⟨gb369, 2, none⟩ = some (.int .u64 a0_2) ∧ w'.cell? ⟨gb369, 3, none⟩ = some (.slice A0_3 l0_3.length c0_3) ∧ w'.cell? ⟨gb369, 4, none⟩ = some (.int .u64 a0_4) ∧ w'.cell? ⟨gb369, 5, none⟩ = some (.int .u64 a0_5) ∧ w'.cell? ⟨gb369, 6, none⟩ = some (.string a0_6) ∧ w'.cell? ⟨gb370, 0, none⟩ = some (.int .i64 a1_0) ∧ w'.cell? ⟨gb370, 1, none⟩ = some (.string a1_1) ∧ w'.cell? ⟨gb370, 2, none⟩ = some (.int .u64 a1_2) ∧ w'.cell? ⟨gb370, 3, none⟩ = some (.slice A1_3 l1_3.length c1_3) ∧ w'.cell? ⟨gb370, 4, none⟩ = some (.int .u64 a1_4) ∧ w'.cell? ⟨gb370, 5, none⟩ = some (.int .u64 a1_5) ∧ w'.cell? ⟨gb370, 6, none⟩ = some (.string a1_6)) (ds := []) #[false, false, false, false, false, false, false, false, false, false, false, false, false] (by kernel_rfl) rfl rfl ⟨(blk_cell BK369.out 0).trans rfl, (blk_cell BK369.out 1).trans rfl, (blk_cell BK369.out 2).trans rfl, (blk_cell BK369.out 3).trans rfl, (blk_cell BK369.out 4).trans rfl, (blk_cell BK369.out 5).trans rfl, (blk_cell BK369.out 6).trans rfl, (blk_cell BK370.out 0).trans rfl, (blk_cell BK370.out 1).trans rfl, (blk_cell BK370.out 2).trans rfl, (blk_cell BK370.out 3).trans rfl, (blk_cell BK370.out 4).trans rfl, (blk_cell BK370.out 5).trans rfl, (blk_cell BK370.out 6).trans rfl⟩ (fun hHeld => ?_); refine with_tabW record_Same.tab1 record_Same.bits1 (fun HT_ HW_ => ?_)
  generalize w8.drew = w9 at BK369 BK370 HB hHeld ⊢
  refine take_ (i := 0) (N := some 5) (v := ?_) (a' := ?_) #[true, false, false, false, false, false, false, false, false, false, false, false, false] rfl rfl (take_ofW HT_.out HW_.out (by kernel_rfl)) (fun _ _ _ h => h) (Or.inl ⟨by rfl, ?_⟩) hHeld ?_ ?_
  rotate_left
  ·rintro w' ⟨s0, s1, s2, s3, s4, s5, s6, s7, s8, s9, s10, s11, s12, s13⟩
   go_simp
   with_reducible rfl
  rotate_left
  ·simp only [Act.put, List.setIfInBounds_toArray, List.set_cons_zero, List.set_cons_succ, i64_w, i32_w]
   rfl
  refine take_ (i := 2) (N := some 7) (v := ?_) (a' := ?_) #[true, false, true, false, false, false, false, false, false, false, false, false, false] rfl rfl (take_ofW HT_.out HW_.out (by kernel_rfl)) (fun _ _ _ h => h) (Or.inl ⟨by rfl, ?_⟩) hHeld ?_ ?_
  rotate_left
  ·rintro w' ⟨s0, s1, s2, s3, s4, s5, s6, s7, s8, s9, s10, s11, s12, s13⟩
   go_simp
   with_reducible rfl
  rotate_left
  ·simp only [Act.put, List.setIfInBounds_toArray, List.set_cons_zero, List.set_cons_succ, i64_w, i32_w]
   rfl
  refine one_ (i := 1) (N := some 6) #[true, true, true, false, false, false, false, false, false, false, false, false, false] rfl rfl (one_of HT_.out (by kernel_rfl)) (by decide) (fun K hK => ?_)
  refine goes_ Try.func110 (by kernel_rfl) rfl #[.agg #[.int .i64 a0_0, .string a0_1, .int .u64 a0_2, .slice A0_3 l0_3.length c0_3, .int .u64 a0_4, .int .u64 a0_5, .string a0_6]] (by rfl) rfl rfl (by (try simp only [List.map_toArray, List.map_cons, List.map_nil]); first | done | rfl | (simp only [List.length_drop, List.length_take]; rfl)) ?_
  with_reducible refine (record_of.calls a0_0 a0_1 a0_2 _ _ l0_3 a0_4 a0_5 a0_6 t371 t372 t373 t374 t375 t376 _ ?side1 ?side2 A3.out).mono ?_
  (case side1 => repeat (first | exact (Kd.C_below HR0_3.out HB.out) | (with_reducible refine Kd.C_alloc ?_ _) | (with_reducible refine Kd.C_drewN ?_ _) | (with_reducible refine Kd.C_drew ?_)))
  (case side2 => exact HC0_3.out)
  rintro e w10 ⟨rfl, hb⟩
  refine ⟨_, rfl, ?_⟩
  have n0_ := Aside0.mk (blk_below (g := gb369) (o := .cells #[.int .i64 a0_0, .string a0_1, .int .u64 a0_2, .slice A0_3 l0_3.length c0_3, .int .u64 a0_4, .int .u64 a0_5, .string a0_6] 62 (0, 0)) (by (with_reducible repeat (first | refine blk_drewN ?_ _ | refine blk_drew ?_ | refine blk_alloc ?_ _)); exact BK369.out) hb)
  have n1_ := Aside0.mk (blk_below (g := gb370) (o := .cells #[.int .i64 a1_0, .string a1_1, .int .u64 a1_2, .slice A1_3 l1_3.length c1_3, .int .u64 a1_4, .int .u64 a1_5, .string a1_6] 62 (0, 0)) (by (with_reducible repeat (first | refine blk_drewN ?_ _ | refine blk_drew ?_ | refine blk_alloc ?_ _)); exact BK370.out) hb)
  have n2_ := Aside0.mk (below_step (by repeat (first | (with_reducible first | exact HB.out | apply below_alloc | apply pw_below_drewN | apply below_drew1 | refine below_set ?_ GE369.out | refine below_set ?_ GE370.out) | exact HB.out)) hb)
  clear BK369
  clear BK370
  clear HB
  have BK369 := n0_
  have BK370 := n1_
  have HB := n2_
  clear n0_ n1_ n2_
  (try clear hb)
  (try clear hb2)
  (try clear hk)
  (try clear hi)
  refine hK.out _ _ ⟨(blk_cell BK369.out 0).trans rfl, (blk_cell BK369.out 1).trans rfl, (blk_cell BK369.out 2).trans rfl, (blk_cell BK369.out 3).trans rfl, (blk_cell BK369.out 4).trans rfl, (blk_cell BK369.out 5).trans rfl, (blk_cell BK369.out 6).trans rfl, (blk_cell BK370.out 0).trans rfl, (blk_cell BK370.out 1).trans rfl, (blk_cell BK370.out 2).trans rfl, (blk_cell BK370.out 3).trans rfl, (blk_cell BK370.out 4).trans rfl, (blk_cell BK370.out 5).trans rfl, (blk_cell BK370.out 6).trans rfl⟩ (fun hHeld => ?_)
  clear hK K
  refine norm_ (a' := ?_) ?_ ?_
  rotate_left
  ·show Act.put _ (some 6) _ = _
   simp only [Act.put, List.setIfInBounds_toArray, List.set_cons_zero, List.set_cons_succ, i64_w, i32_w]
   rfl
  refine one_ (i := 3) (N := some 8) #[true, true, true, true, false, false, false, false, false, false, false, false, false] rfl rfl (one_of HT_.out (by kernel_rfl)) (by decide) (fun K hK => ?_)
  refine goes_ Try.func110 (by kernel_rfl) rfl #[.agg #[.int .i64 a1_0, .string a1_1, .int .u64 a1_2, .slice A1_3 l1_3.length c1_3, .int .u64 a1_4, .int .u64 a1_5, .string a1_6]] (by rfl) rfl rfl (by (try simp only [List.map_toArray, List.map_cons, List.map_nil]); first | done | rfl | (simp only [List.length_drop, List.length_take]; rfl)) ?_
  with_reducible refine (record_of.calls a1_0 a1_1 a1_2 _ _ l1_3 a1_4 a1_5 a1_6 t377 t378 t379 t380 t381 t382 _ ?side1 ?side2 A4.out).mono ?_
  (case side1 => repeat (first | exact (Kd.C_below HR1_3.out HB.out) | (with_reducible refine Kd.C_alloc ?_ _) | (with_reducible refine Kd.C_drewN ?_ _) | (with_reducible refine Kd.C_drew ?_)))
  (case side2 => exact HC1_3.out)
  rintro e w11 ⟨rfl, hb⟩
  refine ⟨_, rfl, ?_⟩
  have n0_ := Aside0.mk (blk_below (g := gb369) (o := .cells #[.int .i64 a0_0, .string a0_1, .int .u64 a0_2, .slice A0_3 l0_3.length c0_3, .int .u64 a0_4, .int .u64 a0_5, .string a0_6] 62 (0, 0)) (by (with_reducible repeat (first | refine blk_drewN ?_ _ | refine blk_drew ?_ | refine blk_alloc ?_ _)); exact BK369.out) hb)
  have n1_ := Aside0.mk (blk_below (g := gb370) (o := .cells #[.int .i64 a1_0, .string a1_1, .int .u64 a1_2, .slice A1_3 l1_3.length c1_3, .int .u64 a1_4, .int .u64 a1_5, .string a1_6] 62 (0, 0)) (by (with_reducible repeat (first | refine blk_drewN ?_ _ | refine blk_drew ?_ | refine blk_alloc ?_ _)); exact BK370.out) hb)
  have n2_ := Aside0.mk (below_step (by repeat (first | (with_reducible first | exact HB.out | apply below_alloc | apply pw_below_drewN | apply below_drew1 | refine below_set ?_ GE369.out | refine below_set ?_ GE370.out) | exact HB.out)) hb)
  clear BK369
  clear BK370
  clear HB
  have BK369 := n0_
  have BK370 := n1_
  have HB := n2_
  clear n0_ n1_ n2_
  (try clear hb)
  (try clear hb2)
  (try clear hk)
  (try clear hi)
  refine hK.out _ _ ⟨(blk_cell BK369.out 0).trans rfl, (blk_cell BK369.out 1).trans rfl, (blk_cell BK369.out 2).trans rfl, (blk_cell BK369.out 3).trans rfl, (blk_cell BK369.out 4).trans rfl, (blk_cell BK369.out 5).trans rfl, (blk_cell BK369.out 6).trans rfl, (blk_cell BK370.out 0).trans rfl, (blk_cell BK370.out 1).trans rfl, (blk_cell BK370.out 2).trans rfl, (blk_cell BK370.out 3).trans rfl, (blk_cell BK370.out 4).trans rfl, (blk_cell BK370.out 5).trans rfl, (blk_cell BK370.out 6).trans rfl⟩ (fun hHeld => ?_)
  clear hK K
  refine norm_ (a' := ?_) ?_ ?_
  rotate_left
  ·show Act.put _ (some 8) _ = _
   simp only [Act.put, List.setIfInBounds_toArray, List.set_cons_zero, List.set_cons_succ, i64_w, i32_w]
   rfl
  refine pure_ (i := 4) (N := some 9) (v := ?_) (a' := ?_) #[true, true, true, true, true, false, false, false, false, false, false, false, false] rfl rfl (any_of HT_.out (by kernel_rfl)) (fun _ _ _ h => h) (Or.inl ⟨by rfl, ?_⟩) ?_ ?_
  rotate_left
  ·intro w'
   go_simp
   with_reducible rfl
  rotate_left
  ·simp only [Act.put, List.setIfInBounds_toArray, List.set_cons_zero, List.set_cons_succ, i64_w, i32_w]
   rfl
  refine pure_ (i := 5) (N := some 10) (v := ?_) (a' := ?_) #[true, true, true, true, true, true, false, false, false, false, false, false, false] rfl rfl (any_of HT_.out (by kernel_rfl)) (fun _ _ _ h => h) (Or.inl ⟨by rfl, ?_⟩) ?_ ?_
  rotate_left
  ·intro w'
   go_simp
   with_reducible rfl
  rotate_left
  ·simp only [Act.put, List.setIfInBounds_toArray, List.set_cons_zero, List.set_cons_succ, i64_w, i32_w]
   rfl
  refine pure_ (i := 6) (N := some 11) (v := ?_) (a' := ?_) #[true, true, true, true, true, true, true, false, false, false, false, false, false] rfl rfl (any_of HT_.out (by kernel_rfl)) (fun _ _ _ h => h) (Or.inl ⟨by rfl, ?_⟩) ?_ ?_
  rotate_left
  ·intro w'
   go_simp
   with_reducible rfl
  rotate_left
  ·simp only [Act.put, List.setIfInBounds_toArray, List.set_cons_zero, List.set_cons_succ, i64_w, i32_w]
   rfl
  refine pure_ (i := 8) (N := some 13) (v := ?_) (a' := ?_) #[true, true, true, true, true, true, true, false, true, false, false, false, false] rfl rfl (any_of HT_.out (by kernel_rfl)) (fun _ _ _ h => h) (Or.inl ⟨by rfl, ?_⟩) ?_ ?_
  rotate_left
  ·intro w'
   go_simp
   with_reducible rfl
  rotate_left
  ·simp only [Act.put, List.setIfInBounds_toArray, List.set_cons_zero, List.set_cons_succ, i64_w, i32_w]
   rfl
  refine take_ (i := 7) (N := some 12) (v := ?_) (a' := ?_) #[true, true, true, true, true, true, true, true, true, false, false, false, false] rfl rfl (take_ofW HT_.out HW_.out (by kernel_rfl)) (fun _ _ _ h => h) (Or.inl ⟨by rfl, ?_⟩) hHeld ?_ ?_
  rotate_left
  ·rintro w' ⟨s0, s1, s2, s3, s4, s5, s6, s7, s8, s9, s10, s11, s12, s13⟩
   go_simp
   with_reducible rfl
  rotate_left
  ·simp only [Act.put, List.setIfInBounds_toArray, List.set_cons_zero, List.set_cons_succ, i64_w, i32_w]
   rfl
  refine take_ (i := 9) (N := some 14) (v := ?_) (a' := ?_) #[true, true, true, true, true, true, true, true, true, true, false, false, false] rfl rfl (take_ofW HT_.out HW_.out (by kernel_rfl)) (fun _ _ _ h => h) (Or.inl ⟨by rfl, ?_⟩) hHeld ?_ ?_
  rotate_left
  ·rintro w' ⟨s0, s1, s2, s3, s4, s5, s6, s7, s8, s9, s10, s11, s12, s13⟩
   go_simp
   with_reducible rfl
  rotate_left
  ·simp only [Act.put, List.setIfInBounds_toArray, List.set_cons_zero, List.set_cons_succ, i64_w, i32_w]
   rfl
  refine one_ (i := 10) (N := some 15) #[true, true, true, true, true, true, true, true, true, true, true, false, false] rfl rfl (one_of HT_.out (by kernel_rfl)) (by decide) (fun K hK => ?_)
  refine goes_ Try.func111 (by kernel_rfl) rfl #[.slice A0_3 l0_3.length c0_3, .slice A1_3 l1_3.length c1_3] (by rfl) rfl rfl (by (try simp only [List.map_toArray, List.map_cons, List.map_nil]); first | done | rfl | (simp only [List.length_drop, List.length_take]; rfl)) ?_
  with_reducible refine (api_Dep_111.calls k _ _ l0_3 _ _ l1_3 t383 _ ?side1 ?side2 ?side3 ?side4 A6.out).mono ?_
  (case side1 => repeat (first | exact (Kd.C_below HR0_3.out HB.out) | (with_reducible refine Kd.C_alloc ?_ _) | (with_reducible refine Kd.C_drewN ?_ _) | (with_reducible refine Kd.C_drew ?_)))
  (case side2 => exact HC0_3.out)
  (case side3 => repeat (first | exact (Kd.C_below HR1_3.out HB.out) | (with_reducible refine Kd.C_alloc ?_ _) | (with_reducible refine Kd.C_drewN ?_ _) | (with_reducible refine Kd.C_drew ?_)))
  (case side4 => exact HC1_3.out)
  rintro e w' ⟨rfl, ⟨nd, rfl⟩⟩
  refine ⟨_, rfl, ?_⟩
  refine hK.out _ _ ⟨(blk_cell BK369.out 0).trans rfl, (blk_cell BK369.out 1).trans rfl, (blk_cell BK369.out 2).trans rfl, (blk_cell BK369.out 3).trans rfl, (blk_cell BK369.out 4).trans rfl, (blk_cell BK369.out 5).trans rfl, (blk_cell BK369.out 6).trans rfl, (blk_cell BK370.out 0).trans rfl, (blk_cell BK370.out 1).trans rfl, (blk_cell BK370.out 2).trans rfl, (blk_cell BK370.out 3).trans rfl, (blk_cell BK370.out 4).trans rfl, (blk_cell BK370.out 5).trans rfl, (blk_cell BK370.out 6).trans rfl⟩ (fun hHeld => ?_)
  clear hK K
  refine norm_ (a' := ?_) ?_ ?_
  rotate_left
  ·show Act.put _ (some 15) _ = _
   simp only [Act.put, List.setIfInBounds_toArray, List.set_cons_zero, List.set_cons_succ, i64_w, i32_w]
   rfl
  refine pure_ (i := 11) (N := some 16) (v := ?_) (a' := ?_) #[true, true, true, true, true, true, true, true, true, true, true, true, false] rfl rfl (any_of HT_.out (by kernel_rfl)) (fun _ _ _ h => h) (Or.inl ⟨by rfl, ?_⟩) ?_ ?_
  rotate_left
  ·intro w'
   go_simp
   with_reducible rfl
  rotate_left
  ·simp only [Act.put, List.setIfInBounds_toArray, List.set_cons_zero, List.set_cons_succ, i64_w, i32_w]
   rfl
  refine pure_ (i := 12) (N := some 4) (v := ?_) (a' := ?_) #[true, true, true, true, true, true, true, true, true, true, true, true, true] rfl rfl (any_of HT_.out (by kernel_rfl)) (fun _ _ _ h => h) (Or.inl ⟨by rfl, ?_⟩) ?_ ?_
  rotate_left
  ·intro w'
   go_simp
   with_reducible rfl
  rotate_left
  ·simp only [Act.put, List.setIfInBounds_toArray, List.set_cons_zero, List.set_cons_succ, i64_w, i32_w]
   rfl
  refine done_ (done_of HT_.out (by kernel_rfl)) ?_
  try go_wp2
  go_ret
  exact ⟨by first | rfl | (simp [errW_none, errW_some] <;> rfl) | (simp [*, errW_none, errW_some] <;> rfl), by repeat (first | (with_reducible first | exact HB.out | apply below_alloc | apply pw_below_drewN | apply below_drew1 | refine below_set ?_ GE369.out | refine below_set ?_ GE370.out) | exact HB.out)⟩
 ·rw [if_neg c5] at H
  have c5b0 : (t371 == t377 && (t372.toList == t378.toList && (t373.toList == t379.toList && (t374 == t380 && (t375 == t381 && (t376 == t382)))))) = false := by simpa using c5
  (try (have c5b1 : decide (t371 = t377 && (t372.toList == t378.toList && (t373.toList == t379.toList && (t374 == t380 && (t375 == t381 && (t376 == t382)))))) = false := by simpa using c5))
  (try (have c5b2 : (t371 == t377 && (t372.toList == t378.toList && (t373.toList == t379.toList && (t374 == t380 && (t375 == t381 && (t376 == t382)))))) = false := by simpa using c5))
  (try (have c5b3 : ¬ (t371 = t377 && (t372.toList == t378.toList && (t373.toList == t379.toList && (t374 == t380 && (t375 == t381 && (t376 == t382)))))) := by simpa using c5))
  clear c5
  obtain rfl := Option.some.inj H
  go_enter Try.func88, Try.ntmps88
  try go_wp2_with (first | ((with_reducible refine gate_dst (N := 2) rfl ?_); refine box_event ?hg (N := 2) ?hd (cs := #[.int .i64 a0_0, .string a0_1, .int .u64 a0_2, .slice A0_3 l0_3.length c0_3, .int .u64 a0_4, .int .u64 a0_5, .string a0_6]) (t := 62) ?hr ?_; (case hd => rfl); (case hg => rfl); (case hr => first | (go_simp; done) | (go_simp; rfl)); intro gb369 hg w12 hbox hb; have n0_ := Aside0.mk (below_step (by repeat (first | (with_reducible first | exact HB.out | apply below_alloc | apply pw_below_drewN | apply below_drew1) | exact HB.out)) hb); have n1_ := Aside0.mk (hbox); have n2_ := Aside0.mk ((by rw [hg]; exact (below_size (by repeat (first | (with_reducible first | exact HB.out | apply below_alloc | apply pw_below_drewN | apply below_drew1) | exact HB.out))) : w.heap.size ≤ gb369)); have n3_ := Aside0.mk ((by rw [hg]; exact (below_size (by repeat (first | (with_reducible first | exact HB.out | apply below_alloc | apply pw_below_drewN | apply below_drew1) | exact HB.out))) : w.heap.size ≤ gb369)); clear HB; have HB := n0_; have BK369 := n1_; have GW369 := n2_; have GE369 := n3_; clear n0_ n1_ n2_ n3_; clear hb hbox hg) | ((with_reducible refine gate_dst (N := 3) rfl ?_); refine box_event ?hg (N := 3) ?hd (cs := #[.int .i64 a1_0, .string a1_1, .int .u64 a1_2, .slice A1_3 l1_3.length c1_3, .int .u64 a1_4, .int .u64 a1_5, .string a1_6]) (t := 62) ?hr ?_; (case hd => rfl); (case hg => rfl); (case hr => first | (go_simp; done) | (go_simp; rfl)); intro gb370 hg w13 hbox hb; have n0_ := Aside0.mk (blk_below (g := gb369) (o := .cells #[.int .i64 a0_0, .string a0_1, .int .u64 a0_2, .slice A0_3 l0_3.length c0_3, .int .u64 a0_4, .int .u64 a0_5, .string a0_6] 62 (0, 0)) (by (with_reducible repeat (first | refine blk_drewN ?_ _ | refine blk_drew ?_ | refine blk_alloc ?_ _)); exact BK369.out) hb); have n1_ := Aside0.mk (below_step (by repeat (first | (with_reducible first | exact HB.out | apply below_alloc | apply pw_below_drewN | apply below_drew1 | refine below_set ?_ GE369.out) | exact HB.out)) hb); have n2_ := Aside0.mk (hbox); have n3_ := Aside0.mk ((by rw [hg]; exact (below_size (by repeat (first | (with_reducible first | exact HB.out | apply below_alloc | apply pw_below_drewN | apply below_drew1 | refine below_set ?_ GE369.out) | exact HB.out))) : w.heap.size ≤ gb370)); have n4_ := Aside0.mk ((by rw [hg]; exact (below_size (by repeat (first | (with_reducible first | exact HB.out | apply below_alloc | apply pw_below_drewN | apply below_drew1 | refine below_set ?_ GE369.out) | exact HB.out))) : w.heap.size ≤ gb370)); have n5_ := Aside0.mk ((by rw [hg]; exact Nat.ne_of_lt (blk_lt (g := gb369) (o := .cells #[.int .i64 a0_0, .string a0_1, .int .u64 a0_2, .slice A0_3 l0_3.length c0_3, .int .u64 a0_4, .int .u64 a0_5, .string a0_6] 62 (0, 0)) (by (with_reducible repeat (first | refine blk_drewN ?_ _ | refine blk_drew ?_ | refine blk_alloc ?_ _)); exact BK369.out)) : gb369 ≠ gb370)); have n6_ := Aside0.mk ((by rw [hg]; exact Nat.ne_of_gt (blk_lt (g := gb369) (o := .cells #[.int .i64 a0_0, .string a0_1, .int .u64 a0_2, .slice A0_3 l0_3.length c0_3, .int .u64 a0_4, .int .u64 a0_5, .string a0_6] 62 (0, 0)) (by (with_reducible repeat (first | refine blk_drewN ?_ _ | refine blk_drew ?_ | refine blk_alloc ?_ _)); exact BK369.out)) : gb370 ≠ gb369)); clear BK369; clear HB; have BK369 := n0_; have HB := n1_; have BK370 := n2_; have GW370 := n3_; have GE370 := n4_; have NB369_370 := n5_; have NB370_369 := n6_; clear n0_ n1_ n2_ n3_ n4_ n5_ n6_; clear hb hbox hg))
  have n0_ := Aside0.mk (blk_drew BK369.out)
  have n1_ := Aside0.mk (blk_drew BK370.out)
  have n2_ := Aside0.mk (below_drew1 HB.out)
  clear BK369
  clear BK370
  clear HB
  have BK369 := n0_
  have BK370 := n1_
  have HB := n2_
  clear n0_ n1_ n2_
  refine start_ (n := 13) (S := fun w' => w'.cell? ⟨gb369, 0, none⟩ = some (.int .i64 a0_0) ∧ w'.cell? ⟨gb369, 1, none⟩ = some (.string a0_1) ∧ w'.cell? ⟨gb369, 2, none⟩ = some (.int .u64 a0_2) ∧ w'.cell? ⟨gb369, 3, none⟩ = some (.slice A0_3 l0_3.length c0_3) ∧ w'.cell? ⟨gb369, 4, none⟩ = some (.int .u64 a0_4) ∧ w'.cell? ⟨gb369, 5, none⟩ = some (.int .u64 a0_5) ∧ w'.cell? ⟨gb369, 6, none⟩ = some (.string a0_6) ∧ w'.cell? ⟨gb370, 0, none⟩ = some (.int .i64 a1_0) ∧ w'.cell? ⟨gb370, 1, none⟩ = some (.string a1_1) ∧ w'.cell? ⟨gb370, 2, none⟩ = some (.int .u64 a1_2) ∧ w'.cell? ⟨gb370, 3, none⟩ = some (.slice A1_3 l1_3.length c1_3) ∧ w'.cell? ⟨gb370, 4, none⟩ = some (.int .u64 a1_4) ∧ w'.cell? ⟨gb370, 5, none⟩ = some (.int .u64 a1_5) ∧ w'.cell? ⟨gb370, 6, none⟩ = some (.string a1_6)) (ds := []) #[false, false, false, false, false, false, false, false, false, false, false, false, false] (by kernel_rfl) rfl rfl ⟨(blk_cell BK369.out 0).trans rfl, (blk_cell BK369.out 1).trans rfl, (blk_cell BK369.out 2).trans rfl, (blk_cell BK369.out 3).trans rfl, (blk_cell BK369.out 4).trans rfl, (blk_cell BK369.out 5).trans rfl, (blk_cell BK369.out 6).trans rfl, (blk_cell BK370.out 0).trans rfl, (blk_cell BK370.out 1).trans rfl, (blk_cell BK370.out 2).trans rfl, (blk_cell BK370.out 3).trans rfl, (blk_cell BK370.out 4).trans rfl, (blk_cell BK370.out 5).trans rfl, (blk_cell BK370.out 6).trans rfl⟩ (fun hHeld => ?_); refine with_tabW record_Same.tab1 record_Same.bits1 (fun HT_ HW_ => ?_)
  generalize w13.drew = w14 at BK369 BK370 HB hHeld ⊢
  refine take_ (i := 0) (N := some 5) (v := ?_) (a' := ?_) #[true, false, false, false, false, false, false, false, false, false, false, false, false] rfl rfl (take_ofW HT_.out HW_.out (by kernel_rfl)) (fun _ _ _ h => h) (Or.inl ⟨by rfl, ?_⟩) hHeld ?_ ?_
  rotate_left
  ·rintro w' ⟨s0, s1, s2, s3, s4, s5, s6, s7, s8, s9, s10, s11, s12, s13⟩
   go_simp
   with_reducible rfl
  rotate_left
  ·simp only [Act.put, List.setIfInBounds_toArray, List.set_cons_zero, List.set_cons_succ, i64_w, i32_w]
   rfl
  refine take_ (i := 2) (N := some 7) (v := ?_) (a' := ?_) #[true, false, true, false, false, false, false, false, false, false, false, false, false] rfl rfl (take_ofW HT_.out HW_.out (by kernel_rfl)) (fun _ _ _ h => h) (Or.inl ⟨by rfl, ?_⟩) hHeld ?_ ?_
  rotate_left
  ·rintro w' ⟨s0, s1, s2, s3, s4, s5, s6, s7, s8, s9, s10, s11, s12, s13⟩
   go_simp
   with_reducible rfl
  rotate_left
  ·simp only [Act.put, List.setIfInBounds_toArray, List.set_cons_zero, List.set_cons_succ, i64_w, i32_w]
   rfl
  refine one_ (i := 1) (N := some 6) #[true, true, true, false, false, false, false, false, false, false, false, false, false] rfl rfl (one_of HT_.out (by kernel_rfl)) (by decide) (fun K hK => ?_)
  refine goes_ Try.func110 (by kernel_rfl) rfl #[.agg #[.int .i64 a0_0, .string a0_1, .int .u64 a0_2, .slice A0_3 l0_3.length c0_3, .int .u64 a0_4, .int .u64 a0_5, .string a0_6]] (by rfl) rfl rfl (by (try simp only [List.map_toArray, List.map_cons, List.map_nil]); first | done | rfl | (simp only [List.length_drop, List.length_take]; rfl)) ?_
  with_reducible refine (record_of.calls a0_0 a0_1 a0_2 _ _ l0_3 a0_4 a0_5 a0_6 t371 t372 t373 t374 t375 t376 _ ?side1 ?side2 A3.out).mono ?_
  (case side1 => repeat (first | exact (Kd.C_below HR0_3.out HB.out) | (with_reducible refine Kd.C_alloc ?_ _) | (with_reducible refine Kd.C_drewN ?_ _) | (with_reducible refine Kd.C_drew ?_)))
  (case side2 => exact HC0_3.out)
  rintro e w15 ⟨rfl, hb⟩
  refine ⟨_, rfl, ?_⟩
  have n0_ := Aside0.mk (blk_below (g := gb369) (o := .cells #[.int .i64 a0_0, .string a0_1, .int .u64 a0_2, .slice A0_3 l0_3.length c0_3, .int .u64 a0_4, .int .u64 a0_5, .string a0_6] 62 (0, 0)) (by (with_reducible repeat (first | refine blk_drewN ?_ _ | refine blk_drew ?_ | refine blk_alloc ?_ _)); exact BK369.out) hb)
  have n1_ := Aside0.mk (blk_below (g := gb370) (o := .cells #[.int .i64 a1_0, .string a1_1, .int .u64 a1_2, .slice A1_3 l1_3.length c1_3, .int .u64 a1_4, .int .u64 a1_5, .string a1_6] 62 (0, 0)) (by (with_reducible repeat (first | refine blk_drewN ?_ _ | refine blk_drew ?_ | refine blk_alloc ?_ _)); exact BK370.out) hb)
  have n2_ := Aside0.mk (below_step (by repeat (first | (with_reducible first | exact HB.out | apply below_alloc | apply pw_below_drewN | apply below_drew1 | refine below_set ?_ GE369.out | refine below_set ?_ GE370.out) | exact HB.out)) hb)
  clear BK369
  clear BK370
  clear HB
  have BK369 := n0_
  have BK370 := n1_
  have HB := n2_
  clear n0_ n1_ n2_
  (try clear hb)
  (try clear hb2)
  (try clear hk)
  (try clear hi)
  refine hK.out _ _ ⟨(blk_cell BK369.out 0).trans rfl, (blk_cell BK369.out 1).trans rfl, (blk_cell BK369.out 2).trans rfl, (blk_cell BK369.out 3).trans rfl, (blk_cell BK369.out 4).trans rfl, (blk_cell BK369.out 5).trans rfl, (blk_cell BK369.out 6).trans rfl, (blk_cell BK370.out 0).trans rfl, (blk_cell BK370.out 1).trans rfl, (blk_cell BK370.out 2).trans rfl, (blk_cell BK370.out 3).trans rfl, (blk_cell BK370.out 4).trans rfl, (blk_cell BK370.out 5).trans rfl, (blk_cell BK370.out 6).trans rfl⟩ (fun hHeld => ?_)
  clear hK K
  refine norm_ (a' := ?_) ?_ ?_
  rotate_left
  ·show Act.put _ (some 6) _ = _
   simp only [Act.put, List.setIfInBounds_toArray, List.set_cons_zero, List.set_cons_succ, i64_w, i32_w]
   rfl
  refine one_ (i := 3) (N := some 8) #[true, true, true, true, false, false, false, false, false, false, false, false, false] rfl rfl (one_of HT_.out (by kernel_rfl)) (by decide) (fun K hK => ?_)
  refine goes_ Try.func110 (by kernel_rfl) rfl #[.agg #[.int .i64 a1_0, .string a1_1, .int .u64 a1_2, .slice A1_3 l1_3.length c1_3, .int .u64 a1_4, .int .u64 a1_5, .string a1_6]] (by rfl) rfl rfl (by (try simp only [List.map_toArray, List.map_cons, List.map_nil]); first | done | rfl | (simp only [List.length_drop, List.length_take]; rfl)) ?_
  with_reducible refine (record_of.calls a1_0 a1_1 a1_2 _ _ l1_3 a1_4 a1_5 a1_6 t377 t378 t379 t380 t381 t382 _ ?side1 ?side2 A4.out).mono ?_
  (case side1 => repeat (first | exact (Kd.C_below HR1_3.out HB.out) | (with_reducible refine Kd.C_alloc ?_ _) | (with_reducible refine Kd.C_drewN ?_ _) | (with_reducible refine Kd.C_drew ?_)))
  (case side2 => exact HC1_3.out)
  rintro e w16 ⟨rfl, hb⟩
  refine ⟨_, rfl, ?_⟩
  have n0_ := Aside0.mk (blk_below (g := gb369) (o := .cells #[.int .i64 a0_0, .string a0_1, .int .u64 a0_2, .slice A0_3 l0_3.length c0_3, .int .u64 a0_4, .int .u64 a0_5, .string a0_6] 62 (0, 0)) (by (with_reducible repeat (first | refine blk_drewN ?_ _ | refine blk_drew ?_ | refine blk_alloc ?_ _)); exact BK369.out) hb)
  have n1_ := Aside0.mk (blk_below (g := gb370) (o := .cells #[.int .i64 a1_0, .string a1_1, .int .u64 a1_2, .slice A1_3 l1_3.length c1_3, .int .u64 a1_4, .int .u64 a1_5, .string a1_6] 62 (0, 0)) (by (with_reducible repeat (first | refine blk_drewN ?_ _ | refine blk_drew ?_ | refine blk_alloc ?_ _)); exact BK370.out) hb)
  have n2_ := Aside0.mk (below_step (by repeat (first | (with_reducible first | exact HB.out | apply below_alloc | apply pw_below_drewN | apply below_drew1 | refine below_set ?_ GE369.out | refine below_set ?_ GE370.out) | exact HB.out)) hb)
  clear BK369
  clear BK370
  clear HB
  have BK369 := n0_
  have BK370 := n1_
  have HB := n2_
  clear n0_ n1_ n2_
  (try clear hb)
  (try clear hb2)
  (try clear hk)
  (try clear hi)
  refine hK.out _ _ ⟨(blk_cell BK369.out 0).trans rfl, (blk_cell BK369.out 1).trans rfl, (blk_cell BK369.out 2).trans rfl, (blk_cell BK369.out 3).trans rfl, (blk_cell BK369.out 4).trans rfl, (blk_cell BK369.out 5).trans rfl, (blk_cell BK369.out 6).trans rfl, (blk_cell BK370.out 0).trans rfl, (blk_cell BK370.out 1).trans rfl, (blk_cell BK370.out 2).trans rfl, (blk_cell BK370.out 3).trans rfl, (blk_cell BK370.out 4).trans rfl, (blk_cell BK370.out 5).trans rfl, (blk_cell BK370.out 6).trans rfl⟩ (fun hHeld => ?_)
  clear hK K
  refine norm_ (a' := ?_) ?_ ?_
  rotate_left
  ·show Act.put _ (some 8) _ = _
   simp only [Act.put, List.setIfInBounds_toArray, List.set_cons_zero, List.set_cons_succ, i64_w, i32_w]
   rfl
  refine pure_ (i := 4) (N := some 9) (v := ?_) (a' := ?_) #[true, true, true, true, true, false, false, false, false, false, false, false, false] rfl rfl (any_of HT_.out (by kernel_rfl)) (fun _ _ _ h => h) (Or.inl ⟨by rfl, ?_⟩) ?_ ?_
  rotate_left
  ·intro w'
   go_simp
   with_reducible rfl
  rotate_left
  ·simp only [Act.put, List.setIfInBounds_toArray, List.set_cons_zero, List.set_cons_succ, i64_w, i32_w]
   rfl
  refine pure_ (i := 5) (N := some 10) (v := ?_) (a' := ?_) #[true, true, true, true, true, true, false, false, false, false, false, false, false] rfl rfl (any_of HT_.out (by kernel_rfl)) (fun _ _ _ h => h) (Or.inl ⟨by rfl, ?_⟩) ?_ ?_
  rotate_left
  ·intro w'
   go_simp
   with_reducible rfl
  rotate_left
  ·simp only [Act.put, List.setIfInBounds_toArray, List.set_cons_zero, List.set_cons_succ, i64_w, i32_w]
   rfl
  refine pure_ (i := 6) (N := some 11) (v := undef) (a' := ?_) #[true, true, true, true, true, true, true, false, false, false, false, false, false] rfl rfl (any_of HT_.out (by kernel_rfl)) (fun _ _ _ h => h) (Or.inr ⟨by rfl, rfl⟩) ?_ ?_
  rotate_left
  ·simp only [Act.put, List.setIfInBounds_toArray, List.set_cons_zero, List.set_cons_succ, i64_w, i32_w]
   rfl
  refine pure_ (i := 7) (N := some 12) (v := undef) (a' := ?_) #[true, true, true, true, true, true, true, true, false, false, false, false, false] rfl rfl (any_of HT_.out (by kernel_rfl)) (fun _ _ _ h => h) (Or.inr ⟨by rfl, rfl⟩) ?_ ?_
  rotate_left
  ·simp only [Act.put, List.setIfInBounds_toArray, List.set_cons_zero, List.set_cons_succ, i64_w, i32_w]
   rfl
  refine pure_ (i := 8) (N := some 13) (v := undef) (a' := ?_) #[true, true, true, true, true, true, true, true, true, false, false, false, false] rfl rfl (any_of HT_.out (by kernel_rfl)) (fun _ _ _ h => h) (Or.inr ⟨by rfl, rfl⟩) ?_ ?_
  rotate_left
  ·simp only [Act.put, List.setIfInBounds_toArray, List.set_cons_zero, List.set_cons_succ, i64_w, i32_w]
   rfl
  refine pure_ (i := 9) (N := some 14) (v := undef) (a' := ?_) #[true, true, true, true, true, true, true, true, true, true, false, false, false] rfl rfl (any_of HT_.out (by kernel_rfl)) (fun _ _ _ h => h) (Or.inr ⟨by rfl, rfl⟩) ?_ ?_
  rotate_left
  ·simp only [Act.put, List.setIfInBounds_toArray, List.set_cons_zero, List.set_cons_succ, i64_w, i32_w]
   rfl
  refine pure_ (i := 10) (N := some 15) (v := undef) (a' := ?_) #[true, true, true, true, true, true, true, true, true, true, true, false, false] rfl rfl (any_of HT_.out (by kernel_rfl)) (fun _ _ _ h => h) (Or.inr ⟨by rfl, rfl⟩) ?_ ?_
  rotate_left
  ·simp only [Act.put, List.setIfInBounds_toArray, List.set_cons_zero, List.set_cons_succ, i64_w, i32_w]
   rfl
  refine pure_ (i := 11) (N := some 16) (v := ?_) (a' := ?_) #[true, true, true, true, true, true, true, true, true, true, true, true, false] rfl rfl (any_of HT_.out (by kernel_rfl)) (fun _ _ _ h => h) (Or.inl ⟨by rfl, ?_⟩) ?_ ?_
  rotate_left
  ·intro w'
   go_simp
   with_reducible rfl
  rotate_left
  ·simp only [Act.put, List.setIfInBounds_toArray, List.set_cons_zero, List.set_cons_succ, i64_w, i32_w]
   rfl
  refine pure_ (i := 12) (N := some 4) (v := ?_) (a' := ?_) #[true, true, true, true, true, true, true, true, true, true, true, true, true] rfl rfl (any_of HT_.out (by kernel_rfl)) (fun _ _ _ h => h) (Or.inl ⟨by rfl, ?_⟩) ?_ ?_
  rotate_left
  ·intro w'
   go_simp
   with_reducible rfl
  rotate_left
  ·simp only [Act.put, List.setIfInBounds_toArray, List.set_cons_zero, List.set_cons_succ, i64_w, i32_w]
   rfl
  refine done_ (done_of HT_.out (by kernel_rfl)) ?_
  try go_wp2
  go_ret
  exact ⟨by first | rfl | (simp [errW_none, errW_some] <;> rfl) | (simp [*, errW_none, errW_some] <;> rfl), by repeat (first | (with_reducible first | exact HB.out | apply below_alloc | apply pw_below_drewN | apply below_drew1 | refine below_set ?_ GE369.out | refine below_set ?_ GE370.out) | exact HB.out)⟩
end Go.Proofs.Ytmeocdkiecknkaa.GRR
-- by a program of this session (gprint.py, over the kit's print): the machine's side of a law
namespace Go.Proofs.Ytmeocdkiecknkaa.GRR
open Go.RowKit Go.Proofs.YtmeocdkiecknkaaW.PrintWords Go.Proofs.YtmeocdkiecknkaaW.PrintLast Go.Proofs.YtmeocdkiecknkaaW.PrintMore
attribute [local go_sem] max2_int min2_int max_two min_two max_three min_three max_four min_four   -- for this text's walks alone
end Go.Proofs.Ytmeocdkiecknkaa.GRR
-- by a program of this session (gprint.py, over the kit's print): the machine's side of a law
namespace Go.Proofs.Ytmeocdkiecknkaa.GVB
open Go.RowKit Go.Proofs.YtmeocdkiecknkaaW.PrintWords Go.Proofs.YtmeocdkiecknkaaW.PrintLast Go.Proofs.YtmeocdkiecknkaaW.PrintMore
attribute [local go_sem] max2_int min2_int max_two min_two max_three min_three max_four min_four   -- for this text's walks alone
def crc_Bytes.f (a0 : Int) : Option (List Int) := some (([(a0) % 256, (a0 / 256) % 256, (a0 / 65536) % 256, (a0 / 16777216) % 256] : List Int))
set_option maxHeartbeats 8000000 in
set_option maxRecDepth 100000 in
theorem crc_Bytes.calls (a0 : Int) (r : List Int) (w : World) (h : crc_Bytes.f a0 = some r) :
  Calls Try.prog 78 #[.int .u32 a0] w fun e w' => ∃ v0_ : Value, e = .returned (v0_) ∧ Kd.R (Kd.int .u8) 5 w' w.heap.size (fun _ => True) v0_ r ∧ Below w.heap.size w w' := by
 have HB := Aside0.mk (Below.refl w.heap.size w)
 have H : (some (([(a0) % 256, (a0 / 256) % 256, (a0 / 65536) % 256, (a0 / 16777216) % 256] : List Int))) = some r := h
 clear h
 obtain ⟨y102, hy102⟩ : ∃ y_ : List Int, y_ = (([(a0) % 256, (a0 / 256) % 256, (a0 / 65536) % 256, (a0 / 16777216) % 256] : List Int)) := ⟨_, rfl⟩
 replace H : (some y102) = some r := by first | (rw [hy102]; with_reducible exact H) | (have H2_ := (Option.bind_some _ _).symm.trans H; rw [hy102]; with_reducible exact H2_) | (have H2_ := (Option.bind_some _ _).symm.trans H; with_reducible exact H2_) | with_reducible exact H | (rw [hy102]; exact H) | exact H
 have Ny102 := Aside0.mk hy102
 clear hy102
 obtain rfl := Option.some.inj H
 go_enter Try.func78, Try.ntmps78
 go_wp2_with (first | ((with_reducible refine gate_dst (N := 14) rfl ?_); refine Kd.R_lit (Kd.int .u8) _ 5 ?hg (N := 14) ?hd (xs := ([(a0) % 256, (a0 / 256) % 256, (a0 / 65536) % 256, (a0 / 16777216) % 256] : List Int)) (inner := [.int .u8 ((a0) % 256), .int .u8 ((a0 / 256) % 256), .int .u8 ((a0 / 65536) % 256), .int .u8 ((a0 / 16777216) % 256)]) (ok := fun _ => True) (okp := fun _ => True) ?hr ?hp (fun _ hk => hk) trivial (Below.refl _ _) (Nat.le_refl _) (by simp) ?_; (case hd => rfl); (case hg => rfl); (case hr => first | (go_simp; done) | (go_simp; rfl)); (case hp => exact (Reps.one (show Kd.M (Kd.int .u8) _ _ _ ((a0) % 256) [.int .u8 ((a0) % 256)] from rfl) (Reps.one (show Kd.M (Kd.int .u8) _ _ _ ((a0 / 256) % 256) [.int .u8 ((a0 / 256) % 256)] from rfl) (Reps.one (show Kd.M (Kd.int .u8) _ _ _ ((a0 / 65536) % 256) [.int .u8 ((a0 / 65536) % 256)] from rfl) (Reps.one (show Kd.M (Kd.int .u8) _ _ _ ((a0 / 16777216) % 256) [.int .u8 ((a0 / 16777216) % 256)] from rfl) (Reps.none _ _)))))); intro v103 w2 ho3 hb hg_ hnew_; clear hg_ hnew_; (first | rw [← Ny102.out] at ho3 | (simp only [Int.reduceToNat] at ho3; rw [← Ny102.out] at ho3)); have n0_ := Aside0.mk (Kd.R_lower ho3 (below_size (by repeat (first | (with_reducible first | exact HB.out | apply below_alloc | apply pw_below_drewN | apply below_drew1) | exact HB.out)))); have n1_ := Aside0.mk (below_step (by repeat (first | (with_reducible first | exact HB.out | apply below_alloc | apply pw_below_drewN | apply below_drew1) | exact HB.out)) hb); clear HB; have HO104 := n0_; have HB := n1_; clear n0_ n1_; clear hb ho3))
 go_ret
 exact ⟨_, by first | rfl | (simp [errW_none, errW_some] <;> rfl) | (simp [*, errW_none, errW_some] <;> rfl), by (with_reducible repeat (first | apply Kd.R_alloc | apply Kd.R_drewN | apply Kd.R_drew)); exact HO104.out, by repeat (first | (with_reducible first | exact HB.out | apply below_alloc | apply pw_below_drewN | apply below_drew1) | exact HB.out)⟩
mutual
def crc_Read.j0 : Nat → List Int → Int → Bool → Option (Int × Bool)
 | 0, _, _, _ => none
 | k + 1, x0, x1, x22 => if x22 = true then (some (0, false)) else (crc_Read.l0 k x0 x1 0 3)
def crc_Read.l0 : Nat → List Int → Int → Int → Int → Option (Int × Bool)
 | 0, _, _, _, _ => none
 | k + 1, x0, x1, x6, x7 => if x7 ≥ 0 then (if 0 ≤ (wrap64 (x1 + x7)) then (if (wrap64 (x1 + x7)) < (x0.length : Int) then (crc_Read.l0 k x0 x1 (Go.bits .or .u32 ((x6 * 256) % 4294967296) ((rd x0 (wrap64 (x1 + x7))) % 4294967296)) (wrap64 (x7 - 1))) else (none)) else (none)) else (some (x6, true))
end
def crc_Read.f (k : Nat) (l0 : List Int) (a1 : Int) : Option (Int × Bool) := if a1 < 0 then (crc_Read.j0 k l0 a1 true) else (if a1 > (l0.length : Int) then (crc_Read.j0 k l0 a1 true) else (crc_Read.j0 k l0 a1 (decide ((wrap64 ((l0.length : Int) - a1)) < 4))))
set_option maxHeartbeats 8000000 in
set_option maxRecDepth 100000 in
theorem crc_Read.calls (k : Nat) (A0 : Option Addr) (c0 : Nat) (l0 : List Int) (a1 : Int) (r1 : Int) (r2 : Bool) (w : World) (hr0 : Kd.C (Kd.int .u8) w A0 l0.length l0) (hc0 : l0.length ≤ c0) (h : crc_Read.f k l0 a1 = some (r1, r2)) :
  Calls Try.prog 80 #[.slice A0 l0.length c0, .int .i64 a1] w fun e w' => e = .returned (.tuple #[.int .u32 r1, .bool r2]) ∧ Drawn0 w w' := by
 have HR0 := Aside0.mk hr0
 have HC0 := Aside0.mk hc0
 clear hr0 hc0
 have H : (if a1 < 0 then (crc_Read.j0 k l0 a1 true) else (if a1 > (l0.length : Int) then (crc_Read.j0 k l0 a1 true) else (crc_Read.j0 k l0 a1 (decide ((wrap64 ((l0.length : Int) - a1)) < 4))))) = some (r1, r2) := h
 clear h
 have HC3 := Aside0.mk H
 clear H
 go_enter Try.func80, Try.ntmps80
 go_upto_region 1 with (fail)
 go_cut [22] (fun v22 wc => ∃ (kq : Nat) (x22_2 : Bool), v22 = .bool x22_2 ∧ Aside0 (crc_Read.j0 kq l0 a1 x22_2 = some (r1, r2)) ∧ Aside0 (kq ≤ k) ∧ Drawn0 w wc)
 case first =>
  have H := HC3.out
  clear HC3
  by_cases c4 : a1 < 0
  ·rw [if_pos c4] at H
   have c4b0 : decide (a1 < 0) = true := decide_eq_true c4
   clear c4
   (first | rw [c4b0] | (simp only [i64_w, i32_w]; rw [c4b0]) | skip)
   have H' := Aside0.mk H
   clear H
   go_wp2
   go_meet
   case rel => exact ⟨_, (true), (by first | rfl | (simp; done) | (simp [*]; done) | (simp; rw [Bool.eq_iff_iff]; simp; done)), H', ⟨by first | omega | exact Nat.le_refl _⟩, by repeat (first | exact Drawn0.refl _ | apply Drawn0.step)⟩
  ·rw [if_neg c4] at H
   have c4b0 : decide (a1 < 0) = false := decide_eq_false c4
   clear c4
   (first | rw [c4b0] | (simp only [i64_w, i32_w]; rw [c4b0]) | skip)
   by_cases c5 : a1 > (l0.length : Int)
   ·rw [if_pos c5] at H
    have c5b0 : decide ((l0.length : Int) < a1) = true := decide_eq_true c5
    clear c5
    have H' := Aside0.mk H
    clear H
    go_wp2
    go_meet
    case rel => exact ⟨_, (true), (by first | rfl | (simp; done) | (simp [*]; done) | (simp; rw [Bool.eq_iff_iff]; simp; done)), H', ⟨by first | omega | exact Nat.le_refl _⟩, by repeat (first | exact Drawn0.refl _ | apply Drawn0.step)⟩
   ·rw [if_neg c5] at H
    have c5b0 : decide ((l0.length : Int) < a1) = false := decide_eq_false c5
    clear c5
    have H' := Aside0.mk H
    clear H
    go_wp2
    go_meet
    case rel => exact ⟨_, (decide ((wrap64 ((l0.length : Int) - a1)) < 4)), (by first | rfl | (simp; done) | (simp [*]; done) | (simp; rw [Bool.eq_iff_iff]; simp; done)), H', ⟨by first | omega | exact Nat.le_refl _⟩, by repeat (first | exact Drawn0.refl _ | apply Drawn0.step)⟩
 case rest =>
  clear HC3
  try clear p2
  try clear c4
  try clear c4b0
  try clear c5
  try clear c5b0
  obtain ⟨kq, x22_2, rfl, HA, HJ2, ⟨mc2, rfl⟩⟩ := hcut
  cases kq with
  | zero => exact absurd HA.out (by simp [crc_Read.j0])
  | succ kj2 =>
   have H := HA.out
   clear HA
   simp only [crc_Read.j0] at H
   by_cases c6 : x22_2 = true
   ·subst c6
    have H1 : (some (0, false)) = some (r1, r2) := by rw [if_pos rfl] at H; exact H
    clear H
    have H := H1
    clear H1
    simp only [Option.some.injEq, Prod.mk.injEq] at H
    obtain ⟨rfl, rfl⟩ := H
    go_wp2
    go_ret2
    exact ⟨by first | rfl | (simp; done) | (simp [*]; done), by repeat (first | exact Drawn0.refl _ | apply Drawn0.step)⟩
   ·replace c6 := Bool.eq_false_iff.mpr c6
    subst c6
    have H1 : (crc_Read.l0 kj2 l0 a1 0 3) = some (r1, r2) := by rw [if_neg (show ¬ (false = true) by decide)] at H; exact H
    clear H
    have H := H1
    clear H1
    have H' := Aside0.mk H
    clear H
    go_wp2
    go_loopg [6, 7] kj2 (fun kq v6 v7 w' => ∃ (x6_2 : Int) (x7_2 : Int), v6 = .int .u32 x6_2 ∧ v7 = .int .i64 x7_2 ∧ Aside0 (crc_Read.l0 kq l0 a1 x6_2 x7_2 = some (r1, r2)) ∧ Aside0 (kq ≤ kj2) ∧ Drawn0 w w')
    case atStart => exact ⟨(0), (3), (by first | rfl | (simp; done) | (simp [*]; done) | (simp; rw [Bool.eq_iff_iff]; simp; done)), (by first | rfl | (simp; done) | (simp [*]; done) | (simp; rw [Bool.eq_iff_iff]; simp; done)), H', ⟨Nat.le_refl _⟩, by repeat (first | exact Drawn0.refl _ | apply Drawn0.step)⟩
    case round =>
     clear H'
     try clear c2
     try clear p2
     try clear c4
     try clear c4b0
     try clear c5
     try clear c5b0
     try clear c6
     try clear p6
     try clear p2
     obtain ⟨x6_2, x7_2, rfl, rfl, HA, HK2, ⟨m2, rfl⟩⟩ := hrel
     cases gk with
     | zero => exact absurd HA.out (by simp [crc_Read.l0])
     | succ k2 =>
      have H := HA.out
      clear HA
      simp only [crc_Read.l0] at H
      by_cases c7 : x7_2 ≥ 0
      ·rw [if_pos c7] at H
       have c7b0 : decide (0 ≤ x7_2) = true := decide_eq_true c7
       clear c7
       obtain ⟨ji8, hji8⟩ : ∃ j_ : Int, (wrap64 (a1 + x7_2)) = j_ := ⟨_, rfl⟩
       replace H : (if 0 ≤ (ji8) then (if (ji8) < (l0.length : Int) then (crc_Read.l0 k2 l0 a1 (Go.bits .or .u32 ((x6_2 * 256) % 4294967296) ((rd l0 (ji8)) % 4294967296)) (wrap64 (x7_2 - 1))) else (none)) else (none)) = some (r1, r2) := by first | (rw [hji8] at H; exact H) | (simp only [hji8] at H ⊢; exact H)
       have hji8w : (IntKind.i64.wrap (a1 + x7_2)) = ji8 := (i64_w _).trans hji8
       by_cases c9 : 0 ≤ (ji8)
       ·rw [if_pos c9] at H
        have c9b0 : decide (0 ≤ (ji8)) = true := decide_eq_true c9
        clear c9
        by_cases c10 : (ji8) < (l0.length : Int)
        ·rw [if_pos c10] at H
         have c10b0 : decide ((ji8) < (l0.length : Int)) = true := decide_eq_true c10
         clear c10
         have H' := Aside0.mk H
         clear H
         have p146 : 0 ≤ ((ji8) : Int) := of_decide_eq_true (by first | (with_reducible assumption) | assumption)
         have q146 : (ji8) < (l0.length : Int) := of_decide_eq_true (by first | (with_reducible assumption) | assumption)
         obtain ⟨ad146, e146, hx146_0⟩ := Kd.at_int HR0.out (ji8) p146 q146
         cases e146
         replace p146 := eq_true p146
         replace q146 := eq_true q146
         go_wp2
         go_roundg k2
         case measure => have := HJ2.out; have := HK2.out; omega
         case rel => exact ⟨(Go.bits .or .u32 ((x6_2 * 256) % 4294967296) ((rd l0 (ji8)) % 4294967296)), (wrap64 (x7_2 - 1)), (by first | rfl | (simp; done) | (simp only [← hji8] <;> (first | rfl | simp)) | (simp [*]; done)), (by first | rfl | (simp; done) | (simp [*]; done) | (simp; rw [Bool.eq_iff_iff]; simp; done)), H', ⟨by have := HJ2.out; have := HK2.out; omega⟩, by repeat (first | exact Drawn0.refl _ | apply Drawn0.step)⟩
        ·rw [if_neg c10] at H
         exact absurd H (by simp)
       ·rw [if_neg c9] at H
        exact absurd H (by simp)
      ·rw [if_neg c7] at H
       have c7b0 : decide (0 ≤ x7_2) = false := decide_eq_false c7
       clear c7
       simp only [Option.some.injEq, Prod.mk.injEq] at H
       obtain ⟨rfl, rfl⟩ := H
       go_wp2
       go_ret2
       exact ⟨by first | rfl | (simp; done) | (simp [*]; done), by repeat (first | exact Drawn0.refl _ | apply Drawn0.step)⟩
end Go.Proofs.Ytmeocdkiecknkaa.GVB
-- by a program of this session (gprint.py, over the kit's print): the machine's side of a law
namespace Go.Proofs.Ytmeocdkiecknkaa.GVB
open Go.RowKit Go.Proofs.YtmeocdkiecknkaaW.PrintWords Go.Proofs.YtmeocdkiecknkaaW.PrintLast Go.Proofs.YtmeocdkiecknkaaW.PrintMore
attribute [local go_sem] max2_int min2_int max_two min_two max_three min_three max_four min_four   -- for this text's walks alone
end Go.Proofs.Ytmeocdkiecknkaa.GVB
-- by a program of this session (gprint.py, over the kit's print): the machine's side of a law
namespace Go.Proofs.Ytmeocdkiecknkaa.GVB
open Go.RowKit Go.Proofs.YtmeocdkiecknkaaW.PrintWords Go.Proofs.YtmeocdkiecknkaaW.PrintLast Go.Proofs.YtmeocdkiecknkaaW.PrintMore
attribute [local go_sem] max2_int min2_int max_two min_two max_three min_three max_four min_four   -- for this text's walks alone
end Go.Proofs.Ytmeocdkiecknkaa.GVB
