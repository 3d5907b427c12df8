-- by a program of this session (gprint.py, over the kit's print): the machine's side of a law
import Derived.Test.YtfflenbfapgilaaGRRx0
import Derived.Test.YtfflenbfapgilaaGRRx3
namespace Go.Proofs.Ytfflenbfapgilaa.GRR
open Go.RowKit Go.Proofs.YtfflenbfapgilaaW.PrintWords Go.Proofs.YtfflenbfapgilaaW.PrintLast Go.Proofs.YtfflenbfapgilaaW.PrintMore
attribute [local go_sem] max2_int min2_int max_two min_two max_three min_three max_four min_four   -- for this text's walks alone
set_option linter.unusedVariables false
set_option linter.unusedSimpArgs false

/-! ### tephraref08_May: function 66 -/
mutual
def tephraref08_May.j0 : Nat → Int → Bool → Int → ByteArray → Int → List (S113) → Int → Int → ByteArray → Option (Bool)
  | 0, _, _, _, _, _, _, _, _, _ => none
  | k + 1, x0, x19, x119000, x119001, x119002, x119003, x119004, x119005, x119006 => if x19 = true then (some false) else (if x119000 = 2 then (if x119002 = 0 then (if (x119003.length : Int) = 0 then (if x119004 = 0 then (if x119005 = 0 then (some (x119006.toList == ([] : List UInt8))) else (some false)) else (some false)) else (some false)) else (some false)) else (if x119000 = 1 then (if (x119003.length : Int) > 16 then (tephraref08_May.j1 k x0 true x119000 x119001 x119002 x119003 x119004 x119005 x119006) else (tephraref08_May.j1 k x0 (decide ((x119006.size : Int) > 64)) x119000 x119001 x119002 x119003 x119004 x119005 x119006)) else (tephraref08_May.j1 k x0 true x119000 x119001 x119002 x119003 x119004 x119005 x119006)))
def tephraref08_May.j1 : Nat → Int → Bool → Int → ByteArray → Int → List (S113) → Int → Int → ByteArray → Option (Bool)
  | 0, _, _, _, _, _, _, _, _, _ => none
  | k + 1, x0, x61, x119000, x119001, x119002, x119003, x119004, x119005, x119006 => if x61 = true then (some false) else (if x0 = 1 then (if x119005 = 0 then (if x0 < 3 then (tephraref08_May.j2 k x0 (x119006.toList != ([] : List UInt8)) x119000 x119001 x119002 x119003 x119004 x119005 x119006) else (tephraref08_May.j2 k x0 false x119000 x119001 x119002 x119003 x119004 x119005 x119006)) else (tephraref08_May.j2 k x0 true x119000 x119001 x119002 x119003 x119004 x119005 x119006)) else (if x0 < 3 then (tephraref08_May.j2 k x0 (x119006.toList != ([] : List UInt8)) x119000 x119001 x119002 x119003 x119004 x119005 x119006) else (tephraref08_May.j2 k x0 false x119000 x119001 x119002 x119003 x119004 x119005 x119006)))
def tephraref08_May.j2 : Nat → Int → Bool → Int → ByteArray → Int → List (S113) → Int → Int → ByteArray → Option (Bool)
  | 0, _, _, _, _, _, _, _, _, _ => none
  | k + 1, x0, x77, x119000, x119001, x119002, x119003, x119004, x119005, x119006 => if x77 = true then (some false) else (tephraref08_May.l0 k x0 0 x119000 x119001 x119002 x119003 x119004 x119005 x119006)
def tephraref08_May.l0 : Nat → Int → Int → Int → ByteArray → Int → List (S113) → Int → Int → ByteArray → Option (Bool)
  | 0, _, _, _, _, _, _, _, _, _ => none
  | k + 1, x0, x5, x119000, x119001, x119002, x119003, x119004, x119005, x119006 => if x5 < (x119003.length : Int) then (if 0 ≤ x5 then ((tephraref08_Name.f ((rd_T113 x119003 x5).f0)).bind fun t122 => (if t122 = true then (if ((rd_T113 x119003 x5).f0).toList = x119001.toList then (tephraref08_May.j4 k x0 x5 true x119000 x119001 x119002 x119003 x119004 x119005 x119006 ((rd_T113 x119003 x5).f0) ((rd_T113 x119003 x5).f1) ((rd_T113 x119003 x5).f2)) else (if (rd_T113 x119003 x5).f2 = true then (tephraref08_May.j4 k x0 x5 (decide (x0 < 3)) x119000 x119001 x119002 x119003 x119004 x119005 x119006 ((rd_T113 x119003 x5).f0) ((rd_T113 x119003 x5).f1) ((rd_T113 x119003 x5).f2)) else (tephraref08_May.j4 k x0 x5 false x119000 x119001 x119002 x119003 x119004 x119005 x119006 ((rd_T113 x119003 x5).f0) ((rd_T113 x119003 x5).f1) ((rd_T113 x119003 x5).f2)))) else (tephraref08_May.j4 k x0 x5 true x119000 x119001 x119002 x119003 x119004 x119005 x119006 ((rd_T113 x119003 x5).f0) ((rd_T113 x119003 x5).f1) ((rd_T113 x119003 x5).f2)))) else (none)) else (some true)
def tephraref08_May.j4 : Nat → Int → Int → Bool → Int → ByteArray → Int → List (S113) → Int → Int → ByteArray → ByteArray → Int → Bool → Option (Bool)
  | 0, _, _, _, _, _, _, _, _, _, _, _, _, _ => none
  | k + 1, x0, x5, x108, x119000, x119001, x119002, x119003, x119004, x119005, x119006, x122000, x122001, x122002 => if x108 = true then (some false) else (tephraref08_May.l1 k x0 x5 0 x119000 x119001 x119002 x119003 x119004 x119005 x119006 x122000 x122001 x122002)
def tephraref08_May.l1 : Nat → Int → Int → Int → Int → ByteArray → Int → List (S113) → Int → Int → ByteArray → ByteArray → Int → Bool → Option (Bool)
  | 0, _, _, _, _, _, _, _, _, _, _, _, _, _ => none
  | k + 1, x0, x5, x7, x119000, x119001, x119002, x119003, x119004, x119005, x119006, x122000, x122001, x122002 => if x7 < x5 then (if 0 ≤ x7 then (if x7 < (x119003.length : Int) then (if ((rd_T113 x119003 x7).f0).toList = x122000.toList then (some false) else (tephraref08_May.l1 k x0 x5 (wrap64 (x7 + 1)) x119000 x119001 x119002 x119003 x119004 x119005 x119006 x122000 x122001 x122002)) else (none)) else (none)) else (tephraref08_May.l0 k x0 (wrap64 (x5 + 1)) x119000 x119001 x119002 x119003 x119004 x119005 x119006)
end
def tephraref08_May.f (k : Nat) (a0 : Int) (a1_0 : Int) (a1_1 : ByteArray) (a1_2 : Int) (l1_3 : List (S113)) (a1_4 : Int) (a1_5 : Int) (a1_6 : ByteArray) : Option (Bool) := if a0 < 1 then (tephraref08_May.j0 k a0 true a1_0 a1_1 a1_2 l1_3 a1_4 a1_5 a1_6) else (if a0 > 3 then (tephraref08_May.j0 k a0 true a1_0 a1_1 a1_2 l1_3 a1_4 a1_5 a1_6) else ((tephraref08_Name.f a1_1).bind fun t119 => (tephraref08_May.j0 k a0 (!t119) a1_0 a1_1 a1_2 l1_3 a1_4 a1_5 a1_6)))
theorem tephraref08_May.mono_l : ∀ k, (∀ y0 y1 y2 y3 y4 y5 y6 y7 y8, LeO (tephraref08_May.j0 k y0 y1 y2 y3 y4 y5 y6 y7 y8) (tephraref08_May.j0 (k + 1) y0 y1 y2 y3 y4 y5 y6 y7 y8)) ∧ (∀ y0 y1 y2 y3 y4 y5 y6 y7 y8, LeO (tephraref08_May.j1 k y0 y1 y2 y3 y4 y5 y6 y7 y8) (tephraref08_May.j1 (k + 1) y0 y1 y2 y3 y4 y5 y6 y7 y8)) ∧ (∀ y0 y1 y2 y3 y4 y5 y6 y7 y8, LeO (tephraref08_May.j2 k y0 y1 y2 y3 y4 y5 y6 y7 y8) (tephraref08_May.j2 (k + 1) y0 y1 y2 y3 y4 y5 y6 y7 y8)) ∧ (∀ y0 y1 y2 y3 y4 y5 y6 y7 y8, LeO (tephraref08_May.l0 k y0 y1 y2 y3 y4 y5 y6 y7 y8) (tephraref08_May.l0 (k + 1) y0 y1 y2 y3 y4 y5 y6 y7 y8)) ∧ (∀ y0 y1 y2 y3 y4 y5 y6 y7 y8 y9 y10 y11 y12, LeO (tephraref08_May.j4 k y0 y1 y2 y3 y4 y5 y6 y7 y8 y9 y10 y11 y12) (tephraref08_May.j4 (k + 1) y0 y1 y2 y3 y4 y5 y6 y7 y8 y9 y10 y11 y12)) ∧ (∀ y0 y1 y2 y3 y4 y5 y6 y7 y8 y9 y10 y11 y12, LeO (tephraref08_May.l1 k y0 y1 y2 y3 y4 y5 y6 y7 y8 y9 y10 y11 y12) (tephraref08_May.l1 (k + 1) y0 y1 y2 y3 y4 y5 y6 y7 y8 y9 y10 y11 y12))
  | 0 => ⟨fun _ _ _ _ _ _ _ _ _ r h => by simp [tephraref08_May.j0] at h, fun _ _ _ _ _ _ _ _ _ r h => by simp [tephraref08_May.j1] at h, fun _ _ _ _ _ _ _ _ _ r h => by simp [tephraref08_May.j2] at h, fun _ _ _ _ _ _ _ _ _ r h => by simp [tephraref08_May.l0] at h, fun _ _ _ _ _ _ _ _ _ _ _ _ _ r h => by simp [tephraref08_May.j4] at h, fun _ _ _ _ _ _ _ _ _ _ _ _ _ r h => by simp [tephraref08_May.l1] at h⟩
  | k + 1 => by
    obtain ⟨ih0, ih1, ih2, ih3, ih4, ih5⟩ := tephraref08_May.mono_l k
    refine ⟨?_, ?_, ?_, ?_, ?_, ?_⟩
    · intro y0 y1 y2 y3 y4 y5 y6 y7 y8
      unfold tephraref08_May.j0
      repeat' first
      | (with_reducible exact ih0 _ _ _ _ _ _ _ _ _)
      | (with_reducible exact ih1 _ _ _ _ _ _ _ _ _)
      | (with_reducible exact ih2 _ _ _ _ _ _ _ _ _)
      | (with_reducible exact ih3 _ _ _ _ _ _ _ _ _)
      | (with_reducible exact ih4 _ _ _ _ _ _ _ _ _ _ _ _ _)
      | (with_reducible exact ih5 _ _ _ _ _ _ _ _ _ _ _ _ _)
      | (with_reducible exact LeO.refl _)
      | (with_reducible exact LeO.none _)
      | (with_reducible refine LeO.ite ?_ ?_)
      | (with_reducible refine LeO.bind ?_ (fun _ => ?_))
      | exact ih0 _ _ _ _ _ _ _ _ _
      | exact ih1 _ _ _ _ _ _ _ _ _
      | exact ih2 _ _ _ _ _ _ _ _ _
      | exact ih3 _ _ _ _ _ _ _ _ _
      | exact ih4 _ _ _ _ _ _ _ _ _ _ _ _ _
      | exact ih5 _ _ _ _ _ _ _ _ _ _ _ _ _
      | exact LeO.none _
      | refine LeO.ite ?_ ?_
      | refine LeO.bind ?_ (fun _ => ?_)
    · intro y0 y1 y2 y3 y4 y5 y6 y7 y8
      unfold tephraref08_May.j1
      repeat' first
      | (with_reducible exact ih0 _ _ _ _ _ _ _ _ _)
      | (with_reducible exact ih1 _ _ _ _ _ _ _ _ _)
      | (with_reducible exact ih2 _ _ _ _ _ _ _ _ _)
      | (with_reducible exact ih3 _ _ _ _ _ _ _ _ _)
      | (with_reducible exact ih4 _ _ _ _ _ _ _ _ _ _ _ _ _)
      | (with_reducible exact ih5 _ _ _ _ _ _ _ _ _ _ _ _ _)
      | (with_reducible exact LeO.refl _)
      | (with_reducible exact LeO.none _)
      | (with_reducible refine LeO.ite ?_ ?_)
      | (with_reducible refine LeO.bind ?_ (fun _ => ?_))
      | exact ih0 _ _ _ _ _ _ _ _ _
      | exact ih1 _ _ _ _ _ _ _ _ _
      | exact ih2 _ _ _ _ _ _ _ _ _
      | exact ih3 _ _ _ _ _ _ _ _ _
      | exact ih4 _ _ _ _ _ _ _ _ _ _ _ _ _
      | exact ih5 _ _ _ _ _ _ _ _ _ _ _ _ _
      | exact LeO.none _
      | refine LeO.ite ?_ ?_
      | refine LeO.bind ?_ (fun _ => ?_)
    · intro y0 y1 y2 y3 y4 y5 y6 y7 y8
      unfold tephraref08_May.j2
      repeat' first
      | (with_reducible exact ih0 _ _ _ _ _ _ _ _ _)
      | (with_reducible exact ih1 _ _ _ _ _ _ _ _ _)
      | (with_reducible exact ih2 _ _ _ _ _ _ _ _ _)
      | (with_reducible exact ih3 _ _ _ _ _ _ _ _ _)
      | (with_reducible exact ih4 _ _ _ _ _ _ _ _ _ _ _ _ _)
      | (with_reducible exact ih5 _ _ _ _ _ _ _ _ _ _ _ _ _)
      | (with_reducible exact LeO.refl _)
      | (with_reducible exact LeO.none _)
      | (with_reducible refine LeO.ite ?_ ?_)
      | (with_reducible refine LeO.bind ?_ (fun _ => ?_))
      | exact ih0 _ _ _ _ _ _ _ _ _
      | exact ih1 _ _ _ _ _ _ _ _ _
      | exact ih2 _ _ _ _ _ _ _ _ _
      | exact ih3 _ _ _ _ _ _ _ _ _
      | exact ih4 _ _ _ _ _ _ _ _ _ _ _ _ _
      | exact ih5 _ _ _ _ _ _ _ _ _ _ _ _ _
      | exact LeO.none _
      | refine LeO.ite ?_ ?_
      | refine LeO.bind ?_ (fun _ => ?_)
    · intro y0 y1 y2 y3 y4 y5 y6 y7 y8
      unfold tephraref08_May.l0
      repeat' first
      | (with_reducible exact ih0 _ _ _ _ _ _ _ _ _)
      | (with_reducible exact ih1 _ _ _ _ _ _ _ _ _)
      | (with_reducible exact ih2 _ _ _ _ _ _ _ _ _)
      | (with_reducible exact ih3 _ _ _ _ _ _ _ _ _)
      | (with_reducible exact ih4 _ _ _ _ _ _ _ _ _ _ _ _ _)
      | (with_reducible exact ih5 _ _ _ _ _ _ _ _ _ _ _ _ _)
      | (with_reducible exact LeO.refl _)
      | (with_reducible exact LeO.none _)
      | (with_reducible refine LeO.ite ?_ ?_)
      | (with_reducible refine LeO.bind ?_ (fun _ => ?_))
      | exact ih0 _ _ _ _ _ _ _ _ _
      | exact ih1 _ _ _ _ _ _ _ _ _
      | exact ih2 _ _ _ _ _ _ _ _ _
      | exact ih3 _ _ _ _ _ _ _ _ _
      | exact ih4 _ _ _ _ _ _ _ _ _ _ _ _ _
      | exact ih5 _ _ _ _ _ _ _ _ _ _ _ _ _
      | exact LeO.none _
      | refine LeO.ite ?_ ?_
      | refine LeO.bind ?_ (fun _ => ?_)
    · intro y0 y1 y2 y3 y4 y5 y6 y7 y8 y9 y10 y11 y12
      unfold tephraref08_May.j4
      repeat' first
      | (with_reducible exact ih0 _ _ _ _ _ _ _ _ _)
      | (with_reducible exact ih1 _ _ _ _ _ _ _ _ _)
      | (with_reducible exact ih2 _ _ _ _ _ _ _ _ _)
      | (with_reducible exact ih3 _ _ _ _ _ _ _ _ _)
      | (with_reducible exact ih4 _ _ _ _ _ _ _ _ _ _ _ _ _)
      | (with_reducible exact ih5 _ _ _ _ _ _ _ _ _ _ _ _ _)
      | (with_reducible exact LeO.refl _)
      | (with_reducible exact LeO.none _)
      | (with_reducible refine LeO.ite ?_ ?_)
      | (with_reducible refine LeO.bind ?_ (fun _ => ?_))
      | exact ih0 _ _ _ _ _ _ _ _ _
      | exact ih1 _ _ _ _ _ _ _ _ _
      | exact ih2 _ _ _ _ _ _ _ _ _
      | exact ih3 _ _ _ _ _ _ _ _ _
      | exact ih4 _ _ _ _ _ _ _ _ _ _ _ _ _
      | exact ih5 _ _ _ _ _ _ _ _ _ _ _ _ _
      | exact LeO.none _
      | refine LeO.ite ?_ ?_
      | refine LeO.bind ?_ (fun _ => ?_)
    · intro y0 y1 y2 y3 y4 y5 y6 y7 y8 y9 y10 y11 y12
      unfold tephraref08_May.l1
      repeat' first
      | (with_reducible exact ih0 _ _ _ _ _ _ _ _ _)
      | (with_reducible exact ih1 _ _ _ _ _ _ _ _ _)
      | (with_reducible exact ih2 _ _ _ _ _ _ _ _ _)
      | (with_reducible exact ih3 _ _ _ _ _ _ _ _ _)
      | (with_reducible exact ih4 _ _ _ _ _ _ _ _ _ _ _ _ _)
      | (with_reducible exact ih5 _ _ _ _ _ _ _ _ _ _ _ _ _)
      | (with_reducible exact LeO.refl _)
      | (with_reducible exact LeO.none _)
      | (with_reducible refine LeO.ite ?_ ?_)
      | (with_reducible refine LeO.bind ?_ (fun _ => ?_))
      | exact ih0 _ _ _ _ _ _ _ _ _
      | exact ih1 _ _ _ _ _ _ _ _ _
      | exact ih2 _ _ _ _ _ _ _ _ _
      | exact ih3 _ _ _ _ _ _ _ _ _
      | exact ih4 _ _ _ _ _ _ _ _ _ _ _ _ _
      | exact ih5 _ _ _ _ _ _ _ _ _ _ _ _ _
      | exact LeO.none _
      | refine LeO.ite ?_ ?_
      | refine LeO.bind ?_ (fun _ => ?_)
theorem tephraref08_May.mono : ∀ a0 a1 a2 a3 a4 a5 a6 a7 k, LeO (tephraref08_May.f k a0 a1 a2 a3 a4 a5 a6 a7) (tephraref08_May.f (k + 1) a0 a1 a2 a3 a4 a5 a6 a7) := by
  intro a0 a1 a2 a3 a4 a5 a6 a7 k
  obtain ⟨ih0, ih1, ih2, ih3, ih4, ih5⟩ := tephraref08_May.mono_l k
  unfold tephraref08_May.f
  repeat' first
      | (with_reducible exact ih0 _ _ _ _ _ _ _ _ _)
      | (with_reducible exact ih1 _ _ _ _ _ _ _ _ _)
      | (with_reducible exact ih2 _ _ _ _ _ _ _ _ _)
      | (with_reducible exact ih3 _ _ _ _ _ _ _ _ _)
      | (with_reducible exact ih4 _ _ _ _ _ _ _ _ _ _ _ _ _)
      | (with_reducible exact ih5 _ _ _ _ _ _ _ _ _ _ _ _ _)
      | (with_reducible exact LeO.refl _)
      | (with_reducible exact LeO.none _)
      | (with_reducible refine LeO.ite ?_ ?_)
      | (with_reducible refine LeO.bind ?_ (fun _ => ?_))
      | exact ih0 _ _ _ _ _ _ _ _ _
      | exact ih1 _ _ _ _ _ _ _ _ _
      | exact ih2 _ _ _ _ _ _ _ _ _
      | exact ih3 _ _ _ _ _ _ _ _ _
      | exact ih4 _ _ _ _ _ _ _ _ _ _ _ _ _
      | exact ih5 _ _ _ _ _ _ _ _ _ _ _ _ _
      | exact LeO.none _
      | refine LeO.ite ?_ ?_
      | refine LeO.bind ?_ (fun _ => ?_)
set_option maxHeartbeats 8000000 in
set_option maxRecDepth 100000 in
theorem tephraref08_May.calls (k : Nat) (a0 : Int) (a1_0 : Int) (a1_1 : ByteArray) (a1_2 : Int) (A1_3 : Option Addr) (c1_3 : Nat) (l1_3 : List (S113)) (a1_4 : Int) (a1_5 : Int) (a1_6 : ByteArray) (r : Bool) (w : World) (hr1_3 : Kd.C k113 w A1_3 l1_3.length l1_3) (hc1_3 : l1_3.length ≤ c1_3) (h : tephraref08_May.f k a0 a1_0 a1_1 a1_2 l1_3 a1_4 a1_5 a1_6 = some r) :
    Calls Try.prog 66 #[.int .i64 a0, .agg #[.int .i64 a1_0, .string a1_1, .int .u64 a1_2, .slice A1_3 l1_3.length c1_3, .int .u64 a1_4, .int .u64 a1_5, .string a1_6]] w fun e w' => e = .returned (.bool r) ∧ Below w.heap.size w w' := by
  have hu62 := Try.underlying62
  have hu113 := Try.underlying113
  have HR1_3 := Aside0.mk hr1_3
  have HC1_3 := Aside0.mk hc1_3
  clear hr1_3 hc1_3
  have HB := Aside0.mk (Below.refl w.heap.size w)
  have H : (if a0 < 1 then (tephraref08_May.j0 k a0 true a1_0 a1_1 a1_2 l1_3 a1_4 a1_5 a1_6) else (if a0 > 3 then (tephraref08_May.j0 k a0 true a1_0 a1_1 a1_2 l1_3 a1_4 a1_5 a1_6) else ((tephraref08_Name.f a1_1).bind fun t119 => (tephraref08_May.j0 k a0 (!t119) a1_0 a1_1 a1_2 l1_3 a1_4 a1_5 a1_6)))) = some r := h
  clear h
  have HC3 := Aside0.mk H
  clear H
  go_enter Try.func66, Try.ntmps66
  go_upto_region 1 with (first | ((with_reducible refine gate_dst (N := 3) rfl ?_); (try (refine gate_guard (by rfl) ?_; dsimp only)); refine box_event ?hg (N := 3) ?hd (cs := #[.int .i64 a1_0, .string a1_1, .int .u64 a1_2, .slice A1_3 l1_3.length c1_3, .int .u64 a1_4, .int .u64 a1_5, .string a1_6]) (t := 62) ?hr ?_; (case hd => rfl); (case hg => rfl); (case hr => first | (go_simp; done) | (go_simp; rfl)); intro gb118 hg w4 hbox hb; have n0_ := Aside0.mk (below_step (by repeat (first | (with_reducible first | exact HB.out | apply below_alloc | apply pw_below_drewN | apply below_drew1) | exact HB.out)) hb); have n1_ := Aside0.mk (hbox); have n2_ := Aside0.mk ((by rw [hg]; exact (below_size (by repeat (first | (with_reducible first | exact HB.out | apply below_alloc | apply pw_below_drewN | apply below_drew1) | exact HB.out))) : w.heap.size ≤ gb118)); have n3_ := Aside0.mk ((by rw [hg]; exact (below_size (by repeat (first | (with_reducible first | exact HB.out | apply below_alloc | apply pw_below_drewN | apply below_drew1) | exact HB.out))) : w.heap.size ≤ gb118)); clear HB; have HB := n0_; have BK118 := n1_; have GW118 := n2_; have GE118 := n3_; clear n0_ n1_ n2_ n3_; clear hb hbox hg))
  repeat (go_quiet (first | ((with_reducible refine gate_dst (N := 3) rfl ?_); (try (refine gate_guard (by rfl) ?_; dsimp only)); refine box_event ?hg (N := 3) ?hd (cs := #[.int .i64 a1_0, .string a1_1, .int .u64 a1_2, .slice A1_3 l1_3.length c1_3, .int .u64 a1_4, .int .u64 a1_5, .string a1_6]) (t := 62) ?hr ?_; (case hd => rfl); (case hg => rfl); (case hr => first | (go_simp; done) | (go_simp; rfl)); intro gb118 hg w4 hbox hb; have n0_ := Aside0.mk (below_step (by repeat (first | (with_reducible first | exact HB.out | apply below_alloc | apply pw_below_drewN | apply below_drew1) | exact HB.out)) hb); have n1_ := Aside0.mk (hbox); have n2_ := Aside0.mk ((by rw [hg]; exact (below_size (by repeat (first | (with_reducible first | exact HB.out | apply below_alloc | apply pw_below_drewN | apply below_drew1) | exact HB.out))) : w.heap.size ≤ gb118)); have n3_ := Aside0.mk ((by rw [hg]; exact (below_size (by repeat (first | (with_reducible first | exact HB.out | apply below_alloc | apply pw_below_drewN | apply below_drew1) | exact HB.out))) : w.heap.size ≤ gb118)); clear HB; have HB := n0_; have BK118 := n1_; have GW118 := n2_; have GE118 := n3_; clear n0_ n1_ n2_ n3_; clear hb hbox hg)); go_upto_region 1 with (first | ((with_reducible refine gate_dst (N := 3) rfl ?_); (try (refine gate_guard (by rfl) ?_; dsimp only)); refine box_event ?hg (N := 3) ?hd (cs := #[.int .i64 a1_0, .string a1_1, .int .u64 a1_2, .slice A1_3 l1_3.length c1_3, .int .u64 a1_4, .int .u64 a1_5, .string a1_6]) (t := 62) ?hr ?_; (case hd => rfl); (case hg => rfl); (case hr => first | (go_simp; done) | (go_simp; rfl)); intro gb118 hg w4 hbox hb; have n0_ := Aside0.mk (below_step (by repeat (first | (with_reducible first | exact HB.out | apply below_alloc | apply pw_below_drewN | apply below_drew1) | exact HB.out)) hb); have n1_ := Aside0.mk (hbox); have n2_ := Aside0.mk ((by rw [hg]; exact (below_size (by repeat (first | (with_reducible first | exact HB.out | apply below_alloc | apply pw_below_drewN | apply below_drew1) | exact HB.out))) : w.heap.size ≤ gb118)); have n3_ := Aside0.mk ((by rw [hg]; exact (below_size (by repeat (first | (with_reducible first | exact HB.out | apply below_alloc | apply pw_below_drewN | apply below_drew1) | exact HB.out))) : w.heap.size ≤ gb118)); clear HB; have HB := n0_; have BK118 := n1_; have GW118 := n2_; have GE118 := n3_; clear n0_ n1_ n2_ n3_; clear hb hbox hg)))
  (try simp only [Act.put, List.setIfInBounds_toArray, List.set_cons_zero, List.set_cons_succ])
  go_cut [19] (fun v19 wc => ∃ (kq : Nat) (x19_2 : Bool), v19 = .bool x19_2 ∧ Aside0 (tephraref08_May.j0 kq a0 x19_2 a1_0 a1_1 a1_2 l1_3 a1_4 a1_5 a1_6 = some r) ∧ Aside0 (kq ≤ k) ∧ Aside0 (wc.heap[gb118]? = some (.cells #[.int .i64 a1_0, .string a1_1, .int .u64 a1_2, (.slice A1_3 l1_3.length c1_3), .int .u64 a1_4, .int .u64 a1_5, .string a1_6] 62 (0, 0))) ∧ Aside0 (Below w.heap.size w wc))
  case first =>
    have H := HC3.out
    clear HC3
    by_cases c5 : a0 < 1
    · rw [if_pos c5] at H
      have c5b0 : decide (a0 < 1) = true := decide_eq_true c5
      clear c5
      (first | rw [c5b0] | (simp only [i64_w, i32_w]; rw [c5b0]) | skip)
      have H' := Aside0.mk H
      clear H
      go_wp2
      repeat (go_quiet (fail); try go_wp2)
      go_meet
      case rel => exact ⟨_, (true), (by first | rfl | (simp; done) | (simp [*]; done) | (simp; rw [Bool.eq_iff_iff]; simp; done)), H', ⟨by first | omega | exact Nat.le_refl _⟩, ⟨by (with_reducible repeat (first | refine blk_drewN ?_ _ | refine blk_drew ?_ | refine blk_alloc ?_ _)); exact BK118.out⟩, ⟨by repeat (first | (with_reducible first | exact HB.out | apply below_alloc | apply pw_below_drewN | apply below_drew1 | refine below_set ?_ GE118.out) | exact HB.out)⟩⟩
    · rw [if_neg c5] at H
      have c5b0 : decide (a0 < 1) = false := decide_eq_false c5
      clear c5
      (first | rw [c5b0] | (simp only [i64_w, i32_w]; rw [c5b0]) | skip)
      by_cases c6 : a0 > 3
      · rw [if_pos c6] at H
        have c6b0 : decide (3 < a0) = true := decide_eq_true c6
        clear c6
        have H' := Aside0.mk H
        clear H
        go_wp2
        repeat (go_quiet (fail); try go_wp2)
        go_meet
        case rel => exact ⟨_, (true), (by first | rfl | (simp; done) | (simp [*]; done) | (simp; rw [Bool.eq_iff_iff]; simp; done)), H', ⟨by first | omega | exact Nat.le_refl _⟩, ⟨by (with_reducible repeat (first | refine blk_drewN ?_ _ | refine blk_drew ?_ | refine blk_alloc ?_ _)); exact BK118.out⟩, ⟨by repeat (first | (with_reducible first | exact HB.out | apply below_alloc | apply pw_below_drewN | apply below_drew1 | refine below_set ?_ GE118.out) | exact HB.out)⟩⟩
      · rw [if_neg c6] at H
        have c6b0 : decide (3 < a0) = false := decide_eq_false c6
        clear c6
        replace H := Option.bind_eq_some_iff.mp H
        obtain ⟨t119, A70, H⟩ := H
        replace H : (tephraref08_May.j0 k a0 (!t119) a1_0 a1_1 a1_2 l1_3 a1_4 a1_5 a1_6) = some r := H
        have A7 := Aside0.mk A70
        clear A70
        have H' := Aside0.mk H
        clear H
        have hcz8_0 : w4.cell? ⟨gb118, 0, none⟩ = some (.int .i64 a1_0) := (blk_cell BK118.out 0).trans rfl
        have hcz8_1 : w4.cell? ⟨gb118, 1, none⟩ = some (.string a1_1) := (blk_cell BK118.out 1).trans rfl
        have hcz8_2 : w4.cell? ⟨gb118, 2, none⟩ = some (.int .u64 a1_2) := (blk_cell BK118.out 2).trans rfl
        have hcz8_3 : w4.cell? ⟨gb118, 3, none⟩ = some (.slice A1_3 l1_3.length c1_3) := (blk_cell BK118.out 3).trans rfl
        have hcz8_4 : w4.cell? ⟨gb118, 4, none⟩ = some (.int .u64 a1_4) := (blk_cell BK118.out 4).trans rfl
        have hcz8_5 : w4.cell? ⟨gb118, 5, none⟩ = some (.int .u64 a1_5) := (blk_cell BK118.out 5).trans rfl
        have hcz8_6 : w4.cell? ⟨gb118, 6, none⟩ = some (.string a1_6) := (blk_cell BK118.out 6).trans rfl
        have hfz8_0 := blk_frozen BK118.out 0
        have hfz8_1 := blk_frozen BK118.out 1
        have hfz8_2 := blk_frozen BK118.out 2
        have hfz8_3 := blk_frozen BK118.out 3
        have hfz8_4 := blk_frozen BK118.out 4
        have hfz8_5 := blk_frozen BK118.out 5
        have hfz8_6 := blk_frozen BK118.out 6
        go_wp2_with (first | (go_at_call 97; (with_reducible refine (tephraref08_Name.calls a1_1 t119 _ A7.out).mono ?_); rintro e w' ⟨rfl, ⟨nd, rfl⟩⟩; (try first | exact ⟨rfl, _, World.drewN_drewN _ _ _⟩ | exact ⟨rfl, _, Eq.trans (World.drewN_drewN _ _ _) (congrArg (World.drewN _) (Nat.add_assoc _ _ _))⟩)))
        repeat (go_quiet (first | (go_at_call 97; (with_reducible refine (tephraref08_Name.calls a1_1 t119 _ A7.out).mono ?_); rintro e w' ⟨rfl, ⟨nd, rfl⟩⟩; (try first | exact ⟨rfl, _, World.drewN_drewN _ _ _⟩ | exact ⟨rfl, _, Eq.trans (World.drewN_drewN _ _ _) (congrArg (World.drewN _) (Nat.add_assoc _ _ _))⟩))); try go_wp2_with (first | (go_at_call 97; (with_reducible refine (tephraref08_Name.calls a1_1 t119 _ A7.out).mono ?_); rintro e w' ⟨rfl, ⟨nd, rfl⟩⟩; (try first | exact ⟨rfl, _, World.drewN_drewN _ _ _⟩ | exact ⟨rfl, _, Eq.trans (World.drewN_drewN _ _ _) (congrArg (World.drewN _) (Nat.add_assoc _ _ _))⟩))))
        go_meet
        case rel => exact ⟨_, (!t119), (by first | rfl | (simp; done) | (simp [*]; done) | (simp; rw [Bool.eq_iff_iff]; simp; done)), H', ⟨by first | omega | exact Nat.le_refl _⟩, ⟨by (with_reducible repeat (first | refine blk_drewN ?_ _ | refine blk_drew ?_ | refine blk_alloc ?_ _)); exact BK118.out⟩, ⟨by repeat (first | (with_reducible first | exact HB.out | apply below_alloc | apply pw_below_drewN | apply below_drew1 | refine below_set ?_ GE118.out) | exact HB.out)⟩⟩
  case rest =>
    clear HC3
    try clear c1
    try clear p2
    try clear c5
    try clear c5b0
    try clear c6
    try clear c6b0
    try clear hcz8_0
    try clear hcz8_1
    try clear hcz8_2
    try clear hcz8_3
    try clear hcz8_4
    try clear hcz8_5
    try clear hcz8_6
    try clear hfz8_0
    try clear hfz8_1
    try clear hfz8_2
    try clear hfz8_3
    try clear hfz8_4
    try clear hfz8_5
    try clear hfz8_6
    obtain ⟨kq, x19_2, rfl, HA, HJ2, BK118, HB⟩ := hcut
    cases kq with
    | zero => exact absurd HA.out (by simp [tephraref08_May.j0])
    | succ kj2 =>
      have H := HA.out
      clear HA
      simp only [tephraref08_May.j0] at H
      by_cases c9 : x19_2 = true
      · subst c9
        have H1 : (some false) = some r := by rw [if_pos rfl] at H; exact H
        clear H
        have H := H1
        clear H1
        obtain rfl := Option.some.inj H
        go_wp2
        repeat (go_quiet (fail); try go_wp2)
        go_ret
        exact ⟨by first | rfl | (simp [errW_none, errW_some] <;> rfl) | (simp [*, errW_none, errW_some] <;> rfl), by repeat (first | (with_reducible first | exact HB.out | apply below_alloc | apply pw_below_drewN | apply below_drew1 | refine below_set ?_ GE118.out) | exact HB.out)⟩
      · replace c9 := Bool.eq_false_iff.mpr c9
        subst c9
        have H1 : (if a1_0 = 2 then (if a1_2 = 0 then (if (l1_3.length : Int) = 0 then (if a1_4 = 0 then (if a1_5 = 0 then (some (a1_6.toList == ([] : List UInt8))) else (some false)) else (some false)) else (some false)) else (some false)) else (if a1_0 = 1 then (if (l1_3.length : Int) > 16 then (tephraref08_May.j1 kj2 a0 true a1_0 a1_1 a1_2 l1_3 a1_4 a1_5 a1_6) else (tephraref08_May.j1 kj2 a0 (decide ((a1_6.size : Int) > 64)) a1_0 a1_1 a1_2 l1_3 a1_4 a1_5 a1_6)) else (tephraref08_May.j1 kj2 a0 true a1_0 a1_1 a1_2 l1_3 a1_4 a1_5 a1_6))) = some r := by rw [if_neg (show ¬ (false = true) by decide)] at H; exact H
        clear H
        have H := H1
        clear H1
        by_cases c10 : a1_0 = 2
        · rw [if_pos c10] at H
          have c10b0 : (a1_0 == 2) = true := beq_iff_eq.mpr c10
          have c10b1 : (a1_0 != 2) = false := bne_eq_false_iff_eq.mpr c10
          clear c10
          by_cases c11 : a1_2 = 0
          · rw [if_pos c11] at H
            have c11b0 : (a1_2 == 0) = true := beq_iff_eq.mpr c11
            have c11b1 : (a1_2 != 0) = false := bne_eq_false_iff_eq.mpr c11
            clear c11
            by_cases c12 : (l1_3.length : Int) = 0
            · rw [if_pos c12] at H
              have c12b0 : ((l1_3.length : Int) == 0) = true := beq_iff_eq.mpr c12
              have c12b1 : ((l1_3.length : Int) != 0) = false := bne_eq_false_iff_eq.mpr c12
              clear c12
              by_cases c13 : a1_4 = 0
              · rw [if_pos c13] at H
                have c13b0 : (a1_4 == 0) = true := beq_iff_eq.mpr c13
                have c13b1 : (a1_4 != 0) = false := bne_eq_false_iff_eq.mpr c13
                clear c13
                by_cases c14 : a1_5 = 0
                · rw [if_pos c14] at H
                  have c14b0 : (a1_5 == 0) = true := beq_iff_eq.mpr c14
                  have c14b1 : (a1_5 != 0) = false := bne_eq_false_iff_eq.mpr c14
                  clear c14
                  obtain rfl := Option.some.inj H
                  have hcz15_0 : wc.cell? ⟨gb118, 0, none⟩ = some (.int .i64 a1_0) := (blk_cell BK118.out 0).trans rfl
                  have hcz15_1 : wc.cell? ⟨gb118, 1, none⟩ = some (.string a1_1) := (blk_cell BK118.out 1).trans rfl
                  have hcz15_2 : wc.cell? ⟨gb118, 2, none⟩ = some (.int .u64 a1_2) := (blk_cell BK118.out 2).trans rfl
                  have hcz15_3 : wc.cell? ⟨gb118, 3, none⟩ = some (.slice A1_3 l1_3.length c1_3) := (blk_cell BK118.out 3).trans rfl
                  have hcz15_4 : wc.cell? ⟨gb118, 4, none⟩ = some (.int .u64 a1_4) := (blk_cell BK118.out 4).trans rfl
                  have hcz15_5 : wc.cell? ⟨gb118, 5, none⟩ = some (.int .u64 a1_5) := (blk_cell BK118.out 5).trans rfl
                  have hcz15_6 : wc.cell? ⟨gb118, 6, none⟩ = some (.string a1_6) := (blk_cell BK118.out 6).trans rfl
                  have hfz15_0 := blk_frozen BK118.out 0
                  have hfz15_1 := blk_frozen BK118.out 1
                  have hfz15_2 := blk_frozen BK118.out 2
                  have hfz15_3 := blk_frozen BK118.out 3
                  have hfz15_4 := blk_frozen BK118.out 4
                  have hfz15_5 := blk_frozen BK118.out 5
                  have hfz15_6 := blk_frozen BK118.out 6
                  go_wp2
                  repeat (go_quiet (fail); try go_wp2)
                  go_ret
                  exact ⟨by first | rfl | (simp [errW_none, errW_some] <;> rfl) | (simp [*, errW_none, errW_some] <;> rfl), by repeat (first | (with_reducible first | exact HB.out | apply below_alloc | apply pw_below_drewN | apply below_drew1 | refine below_set ?_ GE118.out) | exact HB.out)⟩
                · rw [if_neg c14] at H
                  have c14b0 : (a1_5 == 0) = false := beq_eq_false_iff_ne.mpr c14
                  have c14b1 : (a1_5 != 0) = true := bne_iff_ne.mpr c14
                  obtain rfl := Option.some.inj H
                  have hcz16_0 : wc.cell? ⟨gb118, 0, none⟩ = some (.int .i64 a1_0) := (blk_cell BK118.out 0).trans rfl
                  have hcz16_1 : wc.cell? ⟨gb118, 1, none⟩ = some (.string a1_1) := (blk_cell BK118.out 1).trans rfl
                  have hcz16_2 : wc.cell? ⟨gb118, 2, none⟩ = some (.int .u64 a1_2) := (blk_cell BK118.out 2).trans rfl
                  have hcz16_3 : wc.cell? ⟨gb118, 3, none⟩ = some (.slice A1_3 l1_3.length c1_3) := (blk_cell BK118.out 3).trans rfl
                  have hcz16_4 : wc.cell? ⟨gb118, 4, none⟩ = some (.int .u64 a1_4) := (blk_cell BK118.out 4).trans rfl
                  have hcz16_5 : wc.cell? ⟨gb118, 5, none⟩ = some (.int .u64 a1_5) := (blk_cell BK118.out 5).trans rfl
                  have hcz16_6 : wc.cell? ⟨gb118, 6, none⟩ = some (.string a1_6) := (blk_cell BK118.out 6).trans rfl
                  have hfz16_0 := blk_frozen BK118.out 0
                  have hfz16_1 := blk_frozen BK118.out 1
                  have hfz16_2 := blk_frozen BK118.out 2
                  have hfz16_3 := blk_frozen BK118.out 3
                  have hfz16_4 := blk_frozen BK118.out 4
                  have hfz16_5 := blk_frozen BK118.out 5
                  have hfz16_6 := blk_frozen BK118.out 6
                  go_wp2
                  repeat (go_quiet (fail); try go_wp2)
                  go_ret
                  exact ⟨by first | rfl | (simp [errW_none, errW_some] <;> rfl) | (simp [*, errW_none, errW_some] <;> rfl), by repeat (first | (with_reducible first | exact HB.out | apply below_alloc | apply pw_below_drewN | apply below_drew1 | refine below_set ?_ GE118.out) | exact HB.out)⟩
              · rw [if_neg c13] at H
                have c13b0 : (a1_4 == 0) = false := beq_eq_false_iff_ne.mpr c13
                have c13b1 : (a1_4 != 0) = true := bne_iff_ne.mpr c13
                obtain rfl := Option.some.inj H
                have hcz17_0 : wc.cell? ⟨gb118, 0, none⟩ = some (.int .i64 a1_0) := (blk_cell BK118.out 0).trans rfl
                have hcz17_1 : wc.cell? ⟨gb118, 1, none⟩ = some (.string a1_1) := (blk_cell BK118.out 1).trans rfl
                have hcz17_2 : wc.cell? ⟨gb118, 2, none⟩ = some (.int .u64 a1_2) := (blk_cell BK118.out 2).trans rfl
                have hcz17_3 : wc.cell? ⟨gb118, 3, none⟩ = some (.slice A1_3 l1_3.length c1_3) := (blk_cell BK118.out 3).trans rfl
                have hcz17_4 : wc.cell? ⟨gb118, 4, none⟩ = some (.int .u64 a1_4) := (blk_cell BK118.out 4).trans rfl
                have hcz17_5 : wc.cell? ⟨gb118, 5, none⟩ = some (.int .u64 a1_5) := (blk_cell BK118.out 5).trans rfl
                have hcz17_6 : wc.cell? ⟨gb118, 6, none⟩ = some (.string a1_6) := (blk_cell BK118.out 6).trans rfl
                have hfz17_0 := blk_frozen BK118.out 0
                have hfz17_1 := blk_frozen BK118.out 1
                have hfz17_2 := blk_frozen BK118.out 2
                have hfz17_3 := blk_frozen BK118.out 3
                have hfz17_4 := blk_frozen BK118.out 4
                have hfz17_5 := blk_frozen BK118.out 5
                have hfz17_6 := blk_frozen BK118.out 6
                go_wp2
                repeat (go_quiet (fail); try go_wp2)
                go_ret
                exact ⟨by first | rfl | (simp [errW_none, errW_some] <;> rfl) | (simp [*, errW_none, errW_some] <;> rfl), by repeat (first | (with_reducible first | exact HB.out | apply below_alloc | apply pw_below_drewN | apply below_drew1 | refine below_set ?_ GE118.out) | exact HB.out)⟩
            · rw [if_neg c12] at H
              have c12b0 : ((l1_3.length : Int) == 0) = false := beq_eq_false_iff_ne.mpr c12
              have c12b1 : ((l1_3.length : Int) != 0) = true := bne_iff_ne.mpr c12
              have c12b2 : ¬ (l1_3 = []) := fun h_ => c12 (by rw [h_]; rfl)
              obtain rfl := Option.some.inj H
              have hcz18_0 : wc.cell? ⟨gb118, 0, none⟩ = some (.int .i64 a1_0) := (blk_cell BK118.out 0).trans rfl
              have hcz18_1 : wc.cell? ⟨gb118, 1, none⟩ = some (.string a1_1) := (blk_cell BK118.out 1).trans rfl
              have hcz18_2 : wc.cell? ⟨gb118, 2, none⟩ = some (.int .u64 a1_2) := (blk_cell BK118.out 2).trans rfl
              have hcz18_3 : wc.cell? ⟨gb118, 3, none⟩ = some (.slice A1_3 l1_3.length c1_3) := (blk_cell BK118.out 3).trans rfl
              have hcz18_4 : wc.cell? ⟨gb118, 4, none⟩ = some (.int .u64 a1_4) := (blk_cell BK118.out 4).trans rfl
              have hcz18_5 : wc.cell? ⟨gb118, 5, none⟩ = some (.int .u64 a1_5) := (blk_cell BK118.out 5).trans rfl
              have hcz18_6 : wc.cell? ⟨gb118, 6, none⟩ = some (.string a1_6) := (blk_cell BK118.out 6).trans rfl
              have hfz18_0 := blk_frozen BK118.out 0
              have hfz18_1 := blk_frozen BK118.out 1
              have hfz18_2 := blk_frozen BK118.out 2
              have hfz18_3 := blk_frozen BK118.out 3
              have hfz18_4 := blk_frozen BK118.out 4
              have hfz18_5 := blk_frozen BK118.out 5
              have hfz18_6 := blk_frozen BK118.out 6
              go_wp2
              repeat (go_quiet (fail); try go_wp2)
              go_ret
              exact ⟨by first | rfl | (simp [errW_none, errW_some] <;> rfl) | (simp [*, errW_none, errW_some] <;> rfl), by repeat (first | (with_reducible first | exact HB.out | apply below_alloc | apply pw_below_drewN | apply below_drew1 | refine below_set ?_ GE118.out) | exact HB.out)⟩
          · rw [if_neg c11] at H
            have c11b0 : (a1_2 == 0) = false := beq_eq_false_iff_ne.mpr c11
            have c11b1 : (a1_2 != 0) = true := bne_iff_ne.mpr c11
            obtain rfl := Option.some.inj H
            have hcz19_0 : wc.cell? ⟨gb118, 0, none⟩ = some (.int .i64 a1_0) := (blk_cell BK118.out 0).trans rfl
            have hcz19_1 : wc.cell? ⟨gb118, 1, none⟩ = some (.string a1_1) := (blk_cell BK118.out 1).trans rfl
            have hcz19_2 : wc.cell? ⟨gb118, 2, none⟩ = some (.int .u64 a1_2) := (blk_cell BK118.out 2).trans rfl
            have hcz19_3 : wc.cell? ⟨gb118, 3, none⟩ = some (.slice A1_3 l1_3.length c1_3) := (blk_cell BK118.out 3).trans rfl
            have hcz19_4 : wc.cell? ⟨gb118, 4, none⟩ = some (.int .u64 a1_4) := (blk_cell BK118.out 4).trans rfl
            have hcz19_5 : wc.cell? ⟨gb118, 5, none⟩ = some (.int .u64 a1_5) := (blk_cell BK118.out 5).trans rfl
            have hcz19_6 : wc.cell? ⟨gb118, 6, none⟩ = some (.string a1_6) := (blk_cell BK118.out 6).trans rfl
            have hfz19_0 := blk_frozen BK118.out 0
            have hfz19_1 := blk_frozen BK118.out 1
            have hfz19_2 := blk_frozen BK118.out 2
            have hfz19_3 := blk_frozen BK118.out 3
            have hfz19_4 := blk_frozen BK118.out 4
            have hfz19_5 := blk_frozen BK118.out 5
            have hfz19_6 := blk_frozen BK118.out 6
            go_wp2
            repeat (go_quiet (fail); try go_wp2)
            go_ret
            exact ⟨by first | rfl | (simp [errW_none, errW_some] <;> rfl) | (simp [*, errW_none, errW_some] <;> rfl), by repeat (first | (with_reducible first | exact HB.out | apply below_alloc | apply pw_below_drewN | apply below_drew1 | refine below_set ?_ GE118.out) | exact HB.out)⟩
        · rw [if_neg c10] at H
          have c10b0 : (a1_0 == 2) = false := beq_eq_false_iff_ne.mpr c10
          have c10b1 : (a1_0 != 2) = true := bne_iff_ne.mpr c10
          have HC20 := Aside0.mk H
          clear H
          have hcz21_0 : wc.cell? ⟨gb118, 0, none⟩ = some (.int .i64 a1_0) := (blk_cell BK118.out 0).trans rfl
          have hcz21_1 : wc.cell? ⟨gb118, 1, none⟩ = some (.string a1_1) := (blk_cell BK118.out 1).trans rfl
          have hcz21_2 : wc.cell? ⟨gb118, 2, none⟩ = some (.int .u64 a1_2) := (blk_cell BK118.out 2).trans rfl
          have hcz21_3 : wc.cell? ⟨gb118, 3, none⟩ = some (.slice A1_3 l1_3.length c1_3) := (blk_cell BK118.out 3).trans rfl
          have hcz21_4 : wc.cell? ⟨gb118, 4, none⟩ = some (.int .u64 a1_4) := (blk_cell BK118.out 4).trans rfl
          have hcz21_5 : wc.cell? ⟨gb118, 5, none⟩ = some (.int .u64 a1_5) := (blk_cell BK118.out 5).trans rfl
          have hcz21_6 : wc.cell? ⟨gb118, 6, none⟩ = some (.string a1_6) := (blk_cell BK118.out 6).trans rfl
          have hfz21_0 := blk_frozen BK118.out 0
          have hfz21_1 := blk_frozen BK118.out 1
          have hfz21_2 := blk_frozen BK118.out 2
          have hfz21_3 := blk_frozen BK118.out 3
          have hfz21_4 := blk_frozen BK118.out 4
          have hfz21_5 := blk_frozen BK118.out 5
          have hfz21_6 := blk_frozen BK118.out 6
          go_upto_region 5 with (fail)
          repeat (go_quiet (fail); go_upto_region 5 with (fail))
          go_cut [61] (fun v61 wc => ∃ (kq : Nat) (x61_19 : Bool), v61 = .bool x61_19 ∧ Aside0 (tephraref08_May.j1 kq a0 x61_19 a1_0 a1_1 a1_2 l1_3 a1_4 a1_5 a1_6 = some r) ∧ Aside0 (kq ≤ kj2) ∧ Aside0 (wc.heap[gb118]? = some (.cells #[.int .i64 a1_0, .string a1_1, .int .u64 a1_2, (.slice A1_3 l1_3.length c1_3), .int .u64 a1_4, .int .u64 a1_5, .string a1_6] 62 (0, 0))) ∧ Aside0 (Below w.heap.size w wc))
          case first =>
            have H := HC20.out
            clear HC20
            by_cases c22 : a1_0 = 1
            · rw [if_pos c22] at H
              have c22b0 : (a1_0 == 1) = true := beq_iff_eq.mpr c22
              have c22b1 : (a1_0 != 1) = false := bne_eq_false_iff_eq.mpr c22
              clear c22
              (first | rw [c22b0] | (simp only [i64_w, i32_w]; rw [c22b0]) | skip)
              by_cases c23 : (l1_3.length : Int) > 16
              · rw [if_pos c23] at H
                have c23b0 : decide (16 < (l1_3.length : Int)) = true := decide_eq_true c23
                have c23b1 : decide (16 < l1_3.length) = true := decide_eq_true (by omega)
                clear c23
                have H' := Aside0.mk H
                clear H
                have hcz24_0 : wc.cell? ⟨gb118, 0, none⟩ = some (.int .i64 a1_0) := (blk_cell BK118.out 0).trans rfl
                have hcz24_1 : wc.cell? ⟨gb118, 1, none⟩ = some (.string a1_1) := (blk_cell BK118.out 1).trans rfl
                have hcz24_2 : wc.cell? ⟨gb118, 2, none⟩ = some (.int .u64 a1_2) := (blk_cell BK118.out 2).trans rfl
                have hcz24_3 : wc.cell? ⟨gb118, 3, none⟩ = some (.slice A1_3 l1_3.length c1_3) := (blk_cell BK118.out 3).trans rfl
                have hcz24_4 : wc.cell? ⟨gb118, 4, none⟩ = some (.int .u64 a1_4) := (blk_cell BK118.out 4).trans rfl
                have hcz24_5 : wc.cell? ⟨gb118, 5, none⟩ = some (.int .u64 a1_5) := (blk_cell BK118.out 5).trans rfl
                have hcz24_6 : wc.cell? ⟨gb118, 6, none⟩ = some (.string a1_6) := (blk_cell BK118.out 6).trans rfl
                have hfz24_0 := blk_frozen BK118.out 0
                have hfz24_1 := blk_frozen BK118.out 1
                have hfz24_2 := blk_frozen BK118.out 2
                have hfz24_3 := blk_frozen BK118.out 3
                have hfz24_4 := blk_frozen BK118.out 4
                have hfz24_5 := blk_frozen BK118.out 5
                have hfz24_6 := blk_frozen BK118.out 6
                go_wp2
                repeat (go_quiet (fail); try go_wp2)
                go_meet
                case rel => exact ⟨_, (true), (by first | rfl | (simp; done) | (simp [*]; done) | (simp; rw [Bool.eq_iff_iff]; simp; done)), H', ⟨by have := HJ2.out; first | omega | exact Nat.le_refl _⟩, ⟨by (with_reducible repeat (first | refine blk_drewN ?_ _ | refine blk_drew ?_ | refine blk_alloc ?_ _)); exact BK118.out⟩, ⟨by repeat (first | (with_reducible first | exact HB.out | apply below_alloc | apply pw_below_drewN | apply below_drew1 | refine below_set ?_ GE118.out) | exact HB.out)⟩⟩
              · rw [if_neg c23] at H
                have c23b0 : decide (16 < (l1_3.length : Int)) = false := decide_eq_false c23
                have c23b1 : decide (16 < l1_3.length) = false := decide_eq_false (by omega)
                clear c23
                have H' := Aside0.mk H
                clear H
                have hcz25_0 : wc.cell? ⟨gb118, 0, none⟩ = some (.int .i64 a1_0) := (blk_cell BK118.out 0).trans rfl
                have hcz25_1 : wc.cell? ⟨gb118, 1, none⟩ = some (.string a1_1) := (blk_cell BK118.out 1).trans rfl
                have hcz25_2 : wc.cell? ⟨gb118, 2, none⟩ = some (.int .u64 a1_2) := (blk_cell BK118.out 2).trans rfl
                have hcz25_3 : wc.cell? ⟨gb118, 3, none⟩ = some (.slice A1_3 l1_3.length c1_3) := (blk_cell BK118.out 3).trans rfl
                have hcz25_4 : wc.cell? ⟨gb118, 4, none⟩ = some (.int .u64 a1_4) := (blk_cell BK118.out 4).trans rfl
                have hcz25_5 : wc.cell? ⟨gb118, 5, none⟩ = some (.int .u64 a1_5) := (blk_cell BK118.out 5).trans rfl
                have hcz25_6 : wc.cell? ⟨gb118, 6, none⟩ = some (.string a1_6) := (blk_cell BK118.out 6).trans rfl
                have hfz25_0 := blk_frozen BK118.out 0
                have hfz25_1 := blk_frozen BK118.out 1
                have hfz25_2 := blk_frozen BK118.out 2
                have hfz25_3 := blk_frozen BK118.out 3
                have hfz25_4 := blk_frozen BK118.out 4
                have hfz25_5 := blk_frozen BK118.out 5
                have hfz25_6 := blk_frozen BK118.out 6
                go_wp2
                repeat (go_quiet (fail); try go_wp2)
                go_meet
                case rel => exact ⟨_, (decide ((a1_6.size : Int) > 64)), (by first | rfl | (simp; done) | (simp [*]; done) | (simp; rw [Bool.eq_iff_iff]; simp; done)), H', ⟨by have := HJ2.out; first | omega | exact Nat.le_refl _⟩, ⟨by (with_reducible repeat (first | refine blk_drewN ?_ _ | refine blk_drew ?_ | refine blk_alloc ?_ _)); exact BK118.out⟩, ⟨by repeat (first | (with_reducible first | exact HB.out | apply below_alloc | apply pw_below_drewN | apply below_drew1 | refine below_set ?_ GE118.out) | exact HB.out)⟩⟩
            · rw [if_neg c22] at H
              have c22b0 : (a1_0 == 1) = false := beq_eq_false_iff_ne.mpr c22
              have c22b1 : (a1_0 != 1) = true := bne_iff_ne.mpr c22
              (first | rw [c22b0] | (simp only [i64_w, i32_w]; rw [c22b0]) | skip)
              have H' := Aside0.mk H
              clear H
              have hcz26_0 : wc.cell? ⟨gb118, 0, none⟩ = some (.int .i64 a1_0) := (blk_cell BK118.out 0).trans rfl
              have hcz26_1 : wc.cell? ⟨gb118, 1, none⟩ = some (.string a1_1) := (blk_cell BK118.out 1).trans rfl
              have hcz26_2 : wc.cell? ⟨gb118, 2, none⟩ = some (.int .u64 a1_2) := (blk_cell BK118.out 2).trans rfl
              have hcz26_3 : wc.cell? ⟨gb118, 3, none⟩ = some (.slice A1_3 l1_3.length c1_3) := (blk_cell BK118.out 3).trans rfl
              have hcz26_4 : wc.cell? ⟨gb118, 4, none⟩ = some (.int .u64 a1_4) := (blk_cell BK118.out 4).trans rfl
              have hcz26_5 : wc.cell? ⟨gb118, 5, none⟩ = some (.int .u64 a1_5) := (blk_cell BK118.out 5).trans rfl
              have hcz26_6 : wc.cell? ⟨gb118, 6, none⟩ = some (.string a1_6) := (blk_cell BK118.out 6).trans rfl
              have hfz26_0 := blk_frozen BK118.out 0
              have hfz26_1 := blk_frozen BK118.out 1
              have hfz26_2 := blk_frozen BK118.out 2
              have hfz26_3 := blk_frozen BK118.out 3
              have hfz26_4 := blk_frozen BK118.out 4
              have hfz26_5 := blk_frozen BK118.out 5
              have hfz26_6 := blk_frozen BK118.out 6
              go_wp2
              repeat (go_quiet (fail); try go_wp2)
              go_meet
              case rel => exact ⟨_, (true), (by first | rfl | (simp; done) | (simp [*]; done) | (simp; rw [Bool.eq_iff_iff]; simp; done)), H', ⟨by have := HJ2.out; first | omega | exact Nat.le_refl _⟩, ⟨by (with_reducible repeat (first | refine blk_drewN ?_ _ | refine blk_drew ?_ | refine blk_alloc ?_ _)); exact BK118.out⟩, ⟨by repeat (first | (with_reducible first | exact HB.out | apply below_alloc | apply pw_below_drewN | apply below_drew1 | refine below_set ?_ GE118.out) | exact HB.out)⟩⟩
          case rest =>
            clear HC20
            try clear c1
            try clear c2
            try clear p2
            try clear c5
            try clear c5b0
            try clear c6
            try clear c6b0
            try clear c9
            try clear c10
            try clear c10b0
            try clear c10b1
            try clear c11
            try clear c11b0
            try clear c11b1
            try clear c12
            try clear c12b0
            try clear c12b1
            try clear c12b2
            try clear c13
            try clear c13b0
            try clear c13b1
            try clear c14
            try clear c14b0
            try clear c14b1
            try clear c22
            try clear c22b0
            try clear c22b1
            try clear c23
            try clear c23b0
            try clear c23b1
            try clear hcz15_0
            try clear hcz15_1
            try clear hcz15_2
            try clear hcz15_3
            try clear hcz15_4
            try clear hcz15_5
            try clear hcz15_6
            try clear hcz16_0
            try clear hcz16_1
            try clear hcz16_2
            try clear hcz16_3
            try clear hcz16_4
            try clear hcz16_5
            try clear hcz16_6
            try clear hcz17_0
            try clear hcz17_1
            try clear hcz17_2
            try clear hcz17_3
            try clear hcz17_4
            try clear hcz17_5
            try clear hcz17_6
            try clear hcz18_0
            try clear hcz18_1
            try clear hcz18_2
            try clear hcz18_3
            try clear hcz18_4
            try clear hcz18_5
            try clear hcz18_6
            try clear hcz19_0
            try clear hcz19_1
            try clear hcz19_2
            try clear hcz19_3
            try clear hcz19_4
            try clear hcz19_5
            try clear hcz19_6
            try clear hcz21_0
            try clear hcz21_1
            try clear hcz21_2
            try clear hcz21_3
            try clear hcz21_4
            try clear hcz21_5
            try clear hcz21_6
            try clear hcz24_0
            try clear hcz24_1
            try clear hcz24_2
            try clear hcz24_3
            try clear hcz24_4
            try clear hcz24_5
            try clear hcz24_6
            try clear hcz25_0
            try clear hcz25_1
            try clear hcz25_2
            try clear hcz25_3
            try clear hcz25_4
            try clear hcz25_5
            try clear hcz25_6
            try clear hcz26_0
            try clear hcz26_1
            try clear hcz26_2
            try clear hcz26_3
            try clear hcz26_4
            try clear hcz26_5
            try clear hcz26_6
            try clear hcz8_0
            try clear hcz8_1
            try clear hcz8_2
            try clear hcz8_3
            try clear hcz8_4
            try clear hcz8_5
            try clear hcz8_6
            try clear hfz15_0
            try clear hfz15_1
            try clear hfz15_2
            try clear hfz15_3
            try clear hfz15_4
            try clear hfz15_5
            try clear hfz15_6
            try clear hfz16_0
            try clear hfz16_1
            try clear hfz16_2
            try clear hfz16_3
            try clear hfz16_4
            try clear hfz16_5
            try clear hfz16_6
            try clear hfz17_0
            try clear hfz17_1
            try clear hfz17_2
            try clear hfz17_3
            try clear hfz17_4
            try clear hfz17_5
            try clear hfz17_6
            try clear hfz18_0
            try clear hfz18_1
            try clear hfz18_2
            try clear hfz18_3
            try clear hfz18_4
            try clear hfz18_5
            try clear hfz18_6
            try clear hfz19_0
            try clear hfz19_1
            try clear hfz19_2
            try clear hfz19_3
            try clear hfz19_4
            try clear hfz19_5
            try clear hfz19_6
            try clear hfz21_0
            try clear hfz21_1
            try clear hfz21_2
            try clear hfz21_3
            try clear hfz21_4
            try clear hfz21_5
            try clear hfz21_6
            try clear hfz24_0
            try clear hfz24_1
            try clear hfz24_2
            try clear hfz24_3
            try clear hfz24_4
            try clear hfz24_5
            try clear hfz24_6
            try clear hfz25_0
            try clear hfz25_1
            try clear hfz25_2
            try clear hfz25_3
            try clear hfz25_4
            try clear hfz25_5
            try clear hfz25_6
            try clear hfz26_0
            try clear hfz26_1
            try clear hfz26_2
            try clear hfz26_3
            try clear hfz26_4
            try clear hfz26_5
            try clear hfz26_6
            try clear hfz8_0
            try clear hfz8_1
            try clear hfz8_2
            try clear hfz8_3
            try clear hfz8_4
            try clear hfz8_5
            try clear hfz8_6
            try clear p2
            obtain ⟨kq, x61_19, rfl, HA, HJ19, BK118, HB⟩ := hcut
            cases kq with
            | zero => exact absurd HA.out (by simp [tephraref08_May.j1])
            | succ kj19 =>
              have H := HA.out
              clear HA
              simp only [tephraref08_May.j1] at H
              by_cases c27 : x61_19 = true
              · subst c27
                have H1 : (some false) = some r := by rw [if_pos rfl] at H; exact H
                clear H
                have H := H1
                clear H1
                obtain rfl := Option.some.inj H
                go_wp2
                repeat (go_quiet (fail); try go_wp2)
                go_ret
                exact ⟨by first | rfl | (simp [errW_none, errW_some] <;> rfl) | (simp [*, errW_none, errW_some] <;> rfl), by repeat (first | (with_reducible first | exact HB.out | apply below_alloc | apply pw_below_drewN | apply below_drew1 | refine below_set ?_ GE118.out) | exact HB.out)⟩
              · replace c27 := Bool.eq_false_iff.mpr c27
                subst c27
                have H1 : (if a0 = 1 then (if a1_5 = 0 then (if a0 < 3 then (tephraref08_May.j2 kj19 a0 (a1_6.toList != ([] : List UInt8)) a1_0 a1_1 a1_2 l1_3 a1_4 a1_5 a1_6) else (tephraref08_May.j2 kj19 a0 false a1_0 a1_1 a1_2 l1_3 a1_4 a1_5 a1_6)) else (tephraref08_May.j2 kj19 a0 true a1_0 a1_1 a1_2 l1_3 a1_4 a1_5 a1_6)) else (if a0 < 3 then (tephraref08_May.j2 kj19 a0 (a1_6.toList != ([] : List UInt8)) a1_0 a1_1 a1_2 l1_3 a1_4 a1_5 a1_6) else (tephraref08_May.j2 kj19 a0 false a1_0 a1_1 a1_2 l1_3 a1_4 a1_5 a1_6))) = some r := by rw [if_neg (show ¬ (false = true) by decide)] at H; exact H
                clear H
                have H := H1
                clear H1
                have HC28 := Aside0.mk H
                clear H
                go_upto_region 7 with (fail)
                repeat (go_quiet (fail); go_upto_region 7 with (fail))
                go_cut [77] (fun v77 wc => ∃ (kq : Nat) (x77_27 : Bool), v77 = .bool x77_27 ∧ Aside0 (tephraref08_May.j2 kq a0 x77_27 a1_0 a1_1 a1_2 l1_3 a1_4 a1_5 a1_6 = some r) ∧ Aside0 (kq ≤ kj19) ∧ Aside0 (wc.heap[gb118]? = some (.cells #[.int .i64 a1_0, .string a1_1, .int .u64 a1_2, (.slice A1_3 l1_3.length c1_3), .int .u64 a1_4, .int .u64 a1_5, .string a1_6] 62 (0, 0))) ∧ Aside0 (Below w.heap.size w wc))
                case first =>
                  have H := HC28.out
                  clear HC28
                  by_cases c29 : a0 = 1
                  · rw [if_pos c29] at H
                    have c29b0 : (a0 == 1) = true := beq_iff_eq.mpr c29
                    have c29b1 : (a0 != 1) = false := bne_eq_false_iff_eq.mpr c29
                    clear c29
                    (first | rw [c29b0] | (simp only [i64_w, i32_w]; rw [c29b0]) | skip)
                    by_cases c30 : a1_5 = 0
                    · rw [if_pos c30] at H
                      have c30b0 : (a1_5 == 0) = true := beq_iff_eq.mpr c30
                      have c30b1 : (a1_5 != 0) = false := bne_eq_false_iff_eq.mpr c30
                      clear c30
                      by_cases c31 : a0 < 3
                      · rw [if_pos c31] at H
                        have c31b0 : decide (a0 < 3) = true := decide_eq_true c31
                        clear c31
                        have H' := Aside0.mk H
                        clear H
                        have hcz32_0 : wc.cell? ⟨gb118, 0, none⟩ = some (.int .i64 a1_0) := (blk_cell BK118.out 0).trans rfl
                        have hcz32_1 : wc.cell? ⟨gb118, 1, none⟩ = some (.string a1_1) := (blk_cell BK118.out 1).trans rfl
                        have hcz32_2 : wc.cell? ⟨gb118, 2, none⟩ = some (.int .u64 a1_2) := (blk_cell BK118.out 2).trans rfl
                        have hcz32_3 : wc.cell? ⟨gb118, 3, none⟩ = some (.slice A1_3 l1_3.length c1_3) := (blk_cell BK118.out 3).trans rfl
                        have hcz32_4 : wc.cell? ⟨gb118, 4, none⟩ = some (.int .u64 a1_4) := (blk_cell BK118.out 4).trans rfl
                        have hcz32_5 : wc.cell? ⟨gb118, 5, none⟩ = some (.int .u64 a1_5) := (blk_cell BK118.out 5).trans rfl
                        have hcz32_6 : wc.cell? ⟨gb118, 6, none⟩ = some (.string a1_6) := (blk_cell BK118.out 6).trans rfl
                        have hfz32_0 := blk_frozen BK118.out 0
                        have hfz32_1 := blk_frozen BK118.out 1
                        have hfz32_2 := blk_frozen BK118.out 2
                        have hfz32_3 := blk_frozen BK118.out 3
                        have hfz32_4 := blk_frozen BK118.out 4
                        have hfz32_5 := blk_frozen BK118.out 5
                        have hfz32_6 := blk_frozen BK118.out 6
                        go_wp2
                        repeat (go_quiet (fail); try go_wp2)
                        go_meet
                        case rel => exact ⟨_, ((a1_6.toList != ([] : List UInt8))), (by first | rfl | (simp; done) | (simp [*]; done) | (simp; rw [Bool.eq_iff_iff]; simp; done)), H', ⟨by have := HJ2.out; have := HJ19.out; first | omega | exact Nat.le_refl _⟩, ⟨by (with_reducible repeat (first | refine blk_drewN ?_ _ | refine blk_drew ?_ | refine blk_alloc ?_ _)); exact BK118.out⟩, ⟨by repeat (first | (with_reducible first | exact HB.out | apply below_alloc | apply pw_below_drewN | apply below_drew1 | refine below_set ?_ GE118.out) | exact HB.out)⟩⟩
                      · rw [if_neg c31] at H
                        have c31b0 : decide (a0 < 3) = false := decide_eq_false c31
                        clear c31
                        have H' := Aside0.mk H
                        clear H
                        have hcz33_0 : wc.cell? ⟨gb118, 0, none⟩ = some (.int .i64 a1_0) := (blk_cell BK118.out 0).trans rfl
                        have hcz33_1 : wc.cell? ⟨gb118, 1, none⟩ = some (.string a1_1) := (blk_cell BK118.out 1).trans rfl
                        have hcz33_2 : wc.cell? ⟨gb118, 2, none⟩ = some (.int .u64 a1_2) := (blk_cell BK118.out 2).trans rfl
                        have hcz33_3 : wc.cell? ⟨gb118, 3, none⟩ = some (.slice A1_3 l1_3.length c1_3) := (blk_cell BK118.out 3).trans rfl
                        have hcz33_4 : wc.cell? ⟨gb118, 4, none⟩ = some (.int .u64 a1_4) := (blk_cell BK118.out 4).trans rfl
                        have hcz33_5 : wc.cell? ⟨gb118, 5, none⟩ = some (.int .u64 a1_5) := (blk_cell BK118.out 5).trans rfl
                        have hcz33_6 : wc.cell? ⟨gb118, 6, none⟩ = some (.string a1_6) := (blk_cell BK118.out 6).trans rfl
                        have hfz33_0 := blk_frozen BK118.out 0
                        have hfz33_1 := blk_frozen BK118.out 1
                        have hfz33_2 := blk_frozen BK118.out 2
                        have hfz33_3 := blk_frozen BK118.out 3
                        have hfz33_4 := blk_frozen BK118.out 4
                        have hfz33_5 := blk_frozen BK118.out 5
                        have hfz33_6 := blk_frozen BK118.out 6
                        go_wp2
                        repeat (go_quiet (fail); try go_wp2)
                        go_meet
                        case rel => exact ⟨_, (false), (by first | rfl | (simp; done) | (simp [*]; done) | (simp; rw [Bool.eq_iff_iff]; simp; done)), H', ⟨by have := HJ2.out; have := HJ19.out; first | omega | exact Nat.le_refl _⟩, ⟨by (with_reducible repeat (first | refine blk_drewN ?_ _ | refine blk_drew ?_ | refine blk_alloc ?_ _)); exact BK118.out⟩, ⟨by repeat (first | (with_reducible first | exact HB.out | apply below_alloc | apply pw_below_drewN | apply below_drew1 | refine below_set ?_ GE118.out) | exact HB.out)⟩⟩
                    · rw [if_neg c30] at H
                      have c30b0 : (a1_5 == 0) = false := beq_eq_false_iff_ne.mpr c30
                      have c30b1 : (a1_5 != 0) = true := bne_iff_ne.mpr c30
                      have H' := Aside0.mk H
                      clear H
                      have hcz34_0 : wc.cell? ⟨gb118, 0, none⟩ = some (.int .i64 a1_0) := (blk_cell BK118.out 0).trans rfl
                      have hcz34_1 : wc.cell? ⟨gb118, 1, none⟩ = some (.string a1_1) := (blk_cell BK118.out 1).trans rfl
                      have hcz34_2 : wc.cell? ⟨gb118, 2, none⟩ = some (.int .u64 a1_2) := (blk_cell BK118.out 2).trans rfl
                      have hcz34_3 : wc.cell? ⟨gb118, 3, none⟩ = some (.slice A1_3 l1_3.length c1_3) := (blk_cell BK118.out 3).trans rfl
                      have hcz34_4 : wc.cell? ⟨gb118, 4, none⟩ = some (.int .u64 a1_4) := (blk_cell BK118.out 4).trans rfl
                      have hcz34_5 : wc.cell? ⟨gb118, 5, none⟩ = some (.int .u64 a1_5) := (blk_cell BK118.out 5).trans rfl
                      have hcz34_6 : wc.cell? ⟨gb118, 6, none⟩ = some (.string a1_6) := (blk_cell BK118.out 6).trans rfl
                      have hfz34_0 := blk_frozen BK118.out 0
                      have hfz34_1 := blk_frozen BK118.out 1
                      have hfz34_2 := blk_frozen BK118.out 2
                      have hfz34_3 := blk_frozen BK118.out 3
                      have hfz34_4 := blk_frozen BK118.out 4
                      have hfz34_5 := blk_frozen BK118.out 5
                      have hfz34_6 := blk_frozen BK118.out 6
                      go_wp2
                      repeat (go_quiet (fail); try go_wp2)
                      go_meet
                      case rel => exact ⟨_, (true), (by first | rfl | (simp; done) | (simp [*]; done) | (simp; rw [Bool.eq_iff_iff]; simp; done)), H', ⟨by have := HJ2.out; have := HJ19.out; first | omega | exact Nat.le_refl _⟩, ⟨by (with_reducible repeat (first | refine blk_drewN ?_ _ | refine blk_drew ?_ | refine blk_alloc ?_ _)); exact BK118.out⟩, ⟨by repeat (first | (with_reducible first | exact HB.out | apply below_alloc | apply pw_below_drewN | apply below_drew1 | refine below_set ?_ GE118.out) | exact HB.out)⟩⟩
                  · rw [if_neg c29] at H
                    have c29b0 : (a0 == 1) = false := beq_eq_false_iff_ne.mpr c29
                    have c29b1 : (a0 != 1) = true := bne_iff_ne.mpr c29
                    (first | rw [c29b0] | (simp only [i64_w, i32_w]; rw [c29b0]) | skip)
                    by_cases c35 : a0 < 3
                    · rw [if_pos c35] at H
                      have c35b0 : decide (a0 < 3) = true := decide_eq_true c35
                      clear c35
                      have H' := Aside0.mk H
                      clear H
                      have hcz36_0 : wc.cell? ⟨gb118, 0, none⟩ = some (.int .i64 a1_0) := (blk_cell BK118.out 0).trans rfl
                      have hcz36_1 : wc.cell? ⟨gb118, 1, none⟩ = some (.string a1_1) := (blk_cell BK118.out 1).trans rfl
                      have hcz36_2 : wc.cell? ⟨gb118, 2, none⟩ = some (.int .u64 a1_2) := (blk_cell BK118.out 2).trans rfl
                      have hcz36_3 : wc.cell? ⟨gb118, 3, none⟩ = some (.slice A1_3 l1_3.length c1_3) := (blk_cell BK118.out 3).trans rfl
                      have hcz36_4 : wc.cell? ⟨gb118, 4, none⟩ = some (.int .u64 a1_4) := (blk_cell BK118.out 4).trans rfl
                      have hcz36_5 : wc.cell? ⟨gb118, 5, none⟩ = some (.int .u64 a1_5) := (blk_cell BK118.out 5).trans rfl
                      have hcz36_6 : wc.cell? ⟨gb118, 6, none⟩ = some (.string a1_6) := (blk_cell BK118.out 6).trans rfl
                      have hfz36_0 := blk_frozen BK118.out 0
                      have hfz36_1 := blk_frozen BK118.out 1
                      have hfz36_2 := blk_frozen BK118.out 2
                      have hfz36_3 := blk_frozen BK118.out 3
                      have hfz36_4 := blk_frozen BK118.out 4
                      have hfz36_5 := blk_frozen BK118.out 5
                      have hfz36_6 := blk_frozen BK118.out 6
                      go_wp2
                      repeat (go_quiet (fail); try go_wp2)
                      go_meet
                      case rel => exact ⟨_, ((a1_6.toList != ([] : List UInt8))), (by first | rfl | (simp; done) | (simp [*]; done) | (simp; rw [Bool.eq_iff_iff]; simp; done)), H', ⟨by have := HJ2.out; have := HJ19.out; first | omega | exact Nat.le_refl _⟩, ⟨by (with_reducible repeat (first | refine blk_drewN ?_ _ | refine blk_drew ?_ | refine blk_alloc ?_ _)); exact BK118.out⟩, ⟨by repeat (first | (with_reducible first | exact HB.out | apply below_alloc | apply pw_below_drewN | apply below_drew1 | refine below_set ?_ GE118.out) | exact HB.out)⟩⟩
                    · rw [if_neg c35] at H
                      have c35b0 : decide (a0 < 3) = false := decide_eq_false c35
                      clear c35
                      have H' := Aside0.mk H
                      clear H
                      go_wp2
                      repeat (go_quiet (fail); try go_wp2)
                      go_meet
                      case rel => exact ⟨_, (false), (by first | rfl | (simp; done) | (simp [*]; done) | (simp; rw [Bool.eq_iff_iff]; simp; done)), H', ⟨by have := HJ2.out; have := HJ19.out; first | omega | exact Nat.le_refl _⟩, ⟨by (with_reducible repeat (first | refine blk_drewN ?_ _ | refine blk_drew ?_ | refine blk_alloc ?_ _)); exact BK118.out⟩, ⟨by repeat (first | (with_reducible first | exact HB.out | apply below_alloc | apply pw_below_drewN | apply below_drew1 | refine below_set ?_ GE118.out) | exact HB.out)⟩⟩
                case rest =>
                  clear HC28
                  try clear c1
                  try clear c2
                  try clear p2
                  try clear c3
                  try clear c5
                  try clear c5b0
                  try clear c6
                  try clear c6b0
                  try clear c9
                  try clear c10
                  try clear c10b0
                  try clear c10b1
                  try clear c11
                  try clear c11b0
                  try clear c11b1
                  try clear c12
                  try clear c12b0
                  try clear c12b1
                  try clear c12b2
                  try clear c13
                  try clear c13b0
                  try clear c13b1
                  try clear c14
                  try clear c14b0
                  try clear c14b1
                  try clear c22
                  try clear c22b0
                  try clear c22b1
                  try clear c23
                  try clear c23b0
                  try clear c23b1
                  try clear c27
                  try clear c29
                  try clear c29b0
                  try clear c29b1
                  try clear c30
                  try clear c30b0
                  try clear c30b1
                  try clear c31
                  try clear c31b0
                  try clear c35
                  try clear c35b0
                  try clear hcz15_0
                  try clear hcz15_1
                  try clear hcz15_2
                  try clear hcz15_3
                  try clear hcz15_4
                  try clear hcz15_5
                  try clear hcz15_6
                  try clear hcz16_0
                  try clear hcz16_1
                  try clear hcz16_2
                  try clear hcz16_3
                  try clear hcz16_4
                  try clear hcz16_5
                  try clear hcz16_6
                  try clear hcz17_0
                  try clear hcz17_1
                  try clear hcz17_2
                  try clear hcz17_3
                  try clear hcz17_4
                  try clear hcz17_5
                  try clear hcz17_6
                  try clear hcz18_0
                  try clear hcz18_1
                  try clear hcz18_2
                  try clear hcz18_3
                  try clear hcz18_4
                  try clear hcz18_5
                  try clear hcz18_6
                  try clear hcz19_0
                  try clear hcz19_1
                  try clear hcz19_2
                  try clear hcz19_3
                  try clear hcz19_4
                  try clear hcz19_5
                  try clear hcz19_6
                  try clear hcz21_0
                  try clear hcz21_1
                  try clear hcz21_2
                  try clear hcz21_3
                  try clear hcz21_4
                  try clear hcz21_5
                  try clear hcz21_6
                  try clear hcz24_0
                  try clear hcz24_1
                  try clear hcz24_2
                  try clear hcz24_3
                  try clear hcz24_4
                  try clear hcz24_5
                  try clear hcz24_6
                  try clear hcz25_0
                  try clear hcz25_1
                  try clear hcz25_2
                  try clear hcz25_3
                  try clear hcz25_4
                  try clear hcz25_5
                  try clear hcz25_6
                  try clear hcz26_0
                  try clear hcz26_1
                  try clear hcz26_2
                  try clear hcz26_3
                  try clear hcz26_4
                  try clear hcz26_5
                  try clear hcz26_6
                  try clear hcz32_0
                  try clear hcz32_1
                  try clear hcz32_2
                  try clear hcz32_3
                  try clear hcz32_4
                  try clear hcz32_5
                  try clear hcz32_6
                  try clear hcz33_0
                  try clear hcz33_1
                  try clear hcz33_2
                  try clear hcz33_3
                  try clear hcz33_4
                  try clear hcz33_5
                  try clear hcz33_6
                  try clear hcz34_0
                  try clear hcz34_1
                  try clear hcz34_2
                  try clear hcz34_3
                  try clear hcz34_4
                  try clear hcz34_5
                  try clear hcz34_6
                  try clear hcz36_0
                  try clear hcz36_1
                  try clear hcz36_2
                  try clear hcz36_3
                  try clear hcz36_4
                  try clear hcz36_5
                  try clear hcz36_6
                  try clear hcz8_0
                  try clear hcz8_1
                  try clear hcz8_2
                  try clear hcz8_3
                  try clear hcz8_4
                  try clear hcz8_5
                  try clear hcz8_6
                  try clear hfz15_0
                  try clear hfz15_1
                  try clear hfz15_2
                  try clear hfz15_3
                  try clear hfz15_4
                  try clear hfz15_5
                  try clear hfz15_6
                  try clear hfz16_0
                  try clear hfz16_1
                  try clear hfz16_2
                  try clear hfz16_3
                  try clear hfz16_4
                  try clear hfz16_5
                  try clear hfz16_6
                  try clear hfz17_0
                  try clear hfz17_1
                  try clear hfz17_2
                  try clear hfz17_3
                  try clear hfz17_4
                  try clear hfz17_5
                  try clear hfz17_6
                  try clear hfz18_0
                  try clear hfz18_1
                  try clear hfz18_2
                  try clear hfz18_3
                  try clear hfz18_4
                  try clear hfz18_5
                  try clear hfz18_6
                  try clear hfz19_0
                  try clear hfz19_1
                  try clear hfz19_2
                  try clear hfz19_3
                  try clear hfz19_4
                  try clear hfz19_5
                  try clear hfz19_6
                  try clear hfz21_0
                  try clear hfz21_1
                  try clear hfz21_2
                  try clear hfz21_3
                  try clear hfz21_4
                  try clear hfz21_5
                  try clear hfz21_6
                  try clear hfz24_0
                  try clear hfz24_1
                  try clear hfz24_2
                  try clear hfz24_3
                  try clear hfz24_4
                  try clear hfz24_5
                  try clear hfz24_6
                  try clear hfz25_0
                  try clear hfz25_1
                  try clear hfz25_2
                  try clear hfz25_3
                  try clear hfz25_4
                  try clear hfz25_5
                  try clear hfz25_6
                  try clear hfz26_0
                  try clear hfz26_1
                  try clear hfz26_2
                  try clear hfz26_3
                  try clear hfz26_4
                  try clear hfz26_5
                  try clear hfz26_6
                  try clear hfz32_0
                  try clear hfz32_1
                  try clear hfz32_2
                  try clear hfz32_3
                  try clear hfz32_4
                  try clear hfz32_5
                  try clear hfz32_6
                  try clear hfz33_0
                  try clear hfz33_1
                  try clear hfz33_2
                  try clear hfz33_3
                  try clear hfz33_4
                  try clear hfz33_5
                  try clear hfz33_6
                  try clear hfz34_0
                  try clear hfz34_1
                  try clear hfz34_2
                  try clear hfz34_3
                  try clear hfz34_4
                  try clear hfz34_5
                  try clear hfz34_6
                  try clear hfz36_0
                  try clear hfz36_1
                  try clear hfz36_2
                  try clear hfz36_3
                  try clear hfz36_4
                  try clear hfz36_5
                  try clear hfz36_6
                  try clear hfz8_0
                  try clear hfz8_1
                  try clear hfz8_2
                  try clear hfz8_3
                  try clear hfz8_4
                  try clear hfz8_5
                  try clear hfz8_6
                  try clear p2
                  obtain ⟨kq, x77_27, rfl, HA, HJ27, BK118, HB⟩ := hcut
                  cases kq with
                  | zero => exact absurd HA.out (by simp [tephraref08_May.j2])
                  | succ kj27 =>
                    have H := HA.out
                    clear HA
                    simp only [tephraref08_May.j2] at H
                    by_cases c37 : x77_27 = true
                    · subst c37
                      have H1 : (some false) = some r := by rw [if_pos rfl] at H; exact H
                      clear H
                      have H := H1
                      clear H1
                      obtain rfl := Option.some.inj H
                      go_wp2
                      repeat (go_quiet (fail); try go_wp2)
                      go_ret
                      exact ⟨by first | rfl | (simp [errW_none, errW_some] <;> rfl) | (simp [*, errW_none, errW_some] <;> rfl), by repeat (first | (with_reducible first | exact HB.out | apply below_alloc | apply pw_below_drewN | apply below_drew1 | refine below_set ?_ GE118.out) | exact HB.out)⟩
                    · replace c37 := Bool.eq_false_iff.mpr c37
                      subst c37
                      have H1 : (tephraref08_May.l0 kj27 a0 0 a1_0 a1_1 a1_2 l1_3 a1_4 a1_5 a1_6) = some r := by rw [if_neg (show ¬ (false = true) by decide)] at H; exact H
                      clear H
                      have H := H1
                      clear H1
                      have H' := Aside0.mk H
                      clear H
                      go_wp2
                      repeat (go_quiet (fail); try go_wp2)
                      go_loopg [5] kj27 (fun kq v5 w' => ∃ (x5_4 : Int), v5 = .int .i64 x5_4 ∧ Aside0 (tephraref08_May.l0 kq a0 x5_4 a1_0 a1_1 a1_2 l1_3 a1_4 a1_5 a1_6 = some r) ∧ Aside0 (kq ≤ kj27) ∧ Aside0 (w'.heap[gb118]? = some (.cells #[.int .i64 a1_0, .string a1_1, .int .u64 a1_2, (.slice A1_3 l1_3.length c1_3), .int .u64 a1_4, .int .u64 a1_5, .string a1_6] 62 (0, 0))) ∧ Aside0 (Below w.heap.size w w'))
                      case atStart => exact ⟨(0), (by first | rfl | (simp; done) | (simp [*]; done) | (simp; rw [Bool.eq_iff_iff]; simp; done)), H', ⟨Nat.le_refl _⟩, ⟨by (with_reducible repeat (first | refine blk_drewN ?_ _ | refine blk_drew ?_ | refine blk_alloc ?_ _)); exact BK118.out⟩, ⟨by repeat (first | (with_reducible first | exact HB.out | apply below_alloc | apply pw_below_drewN | apply below_drew1 | refine below_set ?_ GE118.out) | exact HB.out)⟩⟩
                      case round =>
                        clear H'
                        try clear c1
                        try clear c2
                        try clear p2
                        try clear c3
                        try clear c5
                        try clear c5b0
                        try clear c6
                        try clear c6b0
                        try clear c9
                        try clear c10
                        try clear c10b0
                        try clear c10b1
                        try clear c11
                        try clear c11b0
                        try clear c11b1
                        try clear c12
                        try clear c12b0
                        try clear c12b1
                        try clear c12b2
                        try clear c13
                        try clear c13b0
                        try clear c13b1
                        try clear c14
                        try clear c14b0
                        try clear c14b1
                        try clear c22
                        try clear c22b0
                        try clear c22b1
                        try clear c23
                        try clear c23b0
                        try clear c23b1
                        try clear c27
                        try clear c29
                        try clear c29b0
                        try clear c29b1
                        try clear c30
                        try clear c30b0
                        try clear c30b1
                        try clear c31
                        try clear c31b0
                        try clear c35
                        try clear c35b0
                        try clear c37
                        try clear hcz15_0
                        try clear hcz15_1
                        try clear hcz15_2
                        try clear hcz15_3
                        try clear hcz15_4
                        try clear hcz15_5
                        try clear hcz15_6
                        try clear hcz16_0
                        try clear hcz16_1
                        try clear hcz16_2
                        try clear hcz16_3
                        try clear hcz16_4
                        try clear hcz16_5
                        try clear hcz16_6
                        try clear hcz17_0
                        try clear hcz17_1
                        try clear hcz17_2
                        try clear hcz17_3
                        try clear hcz17_4
                        try clear hcz17_5
                        try clear hcz17_6
                        try clear hcz18_0
                        try clear hcz18_1
                        try clear hcz18_2
                        try clear hcz18_3
                        try clear hcz18_4
                        try clear hcz18_5
                        try clear hcz18_6
                        try clear hcz19_0
                        try clear hcz19_1
                        try clear hcz19_2
                        try clear hcz19_3
                        try clear hcz19_4
                        try clear hcz19_5
                        try clear hcz19_6
                        try clear hcz21_0
                        try clear hcz21_1
                        try clear hcz21_2
                        try clear hcz21_3
                        try clear hcz21_4
                        try clear hcz21_5
                        try clear hcz21_6
                        try clear hcz24_0
                        try clear hcz24_1
                        try clear hcz24_2
                        try clear hcz24_3
                        try clear hcz24_4
                        try clear hcz24_5
                        try clear hcz24_6
                        try clear hcz25_0
                        try clear hcz25_1
                        try clear hcz25_2
                        try clear hcz25_3
                        try clear hcz25_4
                        try clear hcz25_5
                        try clear hcz25_6
                        try clear hcz26_0
                        try clear hcz26_1
                        try clear hcz26_2
                        try clear hcz26_3
                        try clear hcz26_4
                        try clear hcz26_5
                        try clear hcz26_6
                        try clear hcz32_0
                        try clear hcz32_1
                        try clear hcz32_2
                        try clear hcz32_3
                        try clear hcz32_4
                        try clear hcz32_5
                        try clear hcz32_6
                        try clear hcz33_0
                        try clear hcz33_1
                        try clear hcz33_2
                        try clear hcz33_3
                        try clear hcz33_4
                        try clear hcz33_5
                        try clear hcz33_6
                        try clear hcz34_0
                        try clear hcz34_1
                        try clear hcz34_2
                        try clear hcz34_3
                        try clear hcz34_4
                        try clear hcz34_5
                        try clear hcz34_6
                        try clear hcz36_0
                        try clear hcz36_1
                        try clear hcz36_2
                        try clear hcz36_3
                        try clear hcz36_4
                        try clear hcz36_5
                        try clear hcz36_6
                        try clear hcz8_0
                        try clear hcz8_1
                        try clear hcz8_2
                        try clear hcz8_3
                        try clear hcz8_4
                        try clear hcz8_5
                        try clear hcz8_6
                        try clear hfz15_0
                        try clear hfz15_1
                        try clear hfz15_2
                        try clear hfz15_3
                        try clear hfz15_4
                        try clear hfz15_5
                        try clear hfz15_6
                        try clear hfz16_0
                        try clear hfz16_1
                        try clear hfz16_2
                        try clear hfz16_3
                        try clear hfz16_4
                        try clear hfz16_5
                        try clear hfz16_6
                        try clear hfz17_0
                        try clear hfz17_1
                        try clear hfz17_2
                        try clear hfz17_3
                        try clear hfz17_4
                        try clear hfz17_5
                        try clear hfz17_6
                        try clear hfz18_0
                        try clear hfz18_1
                        try clear hfz18_2
                        try clear hfz18_3
                        try clear hfz18_4
                        try clear hfz18_5
                        try clear hfz18_6
                        try clear hfz19_0
                        try clear hfz19_1
                        try clear hfz19_2
                        try clear hfz19_3
                        try clear hfz19_4
                        try clear hfz19_5
                        try clear hfz19_6
                        try clear hfz21_0
                        try clear hfz21_1
                        try clear hfz21_2
                        try clear hfz21_3
                        try clear hfz21_4
                        try clear hfz21_5
                        try clear hfz21_6
                        try clear hfz24_0
                        try clear hfz24_1
                        try clear hfz24_2
                        try clear hfz24_3
                        try clear hfz24_4
                        try clear hfz24_5
                        try clear hfz24_6
                        try clear hfz25_0
                        try clear hfz25_1
                        try clear hfz25_2
                        try clear hfz25_3
                        try clear hfz25_4
                        try clear hfz25_5
                        try clear hfz25_6
                        try clear hfz26_0
                        try clear hfz26_1
                        try clear hfz26_2
                        try clear hfz26_3
                        try clear hfz26_4
                        try clear hfz26_5
                        try clear hfz26_6
                        try clear hfz32_0
                        try clear hfz32_1
                        try clear hfz32_2
                        try clear hfz32_3
                        try clear hfz32_4
                        try clear hfz32_5
                        try clear hfz32_6
                        try clear hfz33_0
                        try clear hfz33_1
                        try clear hfz33_2
                        try clear hfz33_3
                        try clear hfz33_4
                        try clear hfz33_5
                        try clear hfz33_6
                        try clear hfz34_0
                        try clear hfz34_1
                        try clear hfz34_2
                        try clear hfz34_3
                        try clear hfz34_4
                        try clear hfz34_5
                        try clear hfz34_6
                        try clear hfz36_0
                        try clear hfz36_1
                        try clear hfz36_2
                        try clear hfz36_3
                        try clear hfz36_4
                        try clear hfz36_5
                        try clear hfz36_6
                        try clear hfz8_0
                        try clear hfz8_1
                        try clear hfz8_2
                        try clear hfz8_3
                        try clear hfz8_4
                        try clear hfz8_5
                        try clear hfz8_6
                        try clear p2
                        obtain ⟨x5_4, rfl, HA, HK4, BK118, HB⟩ := hrel
                        cases gk with
                        | zero => exact absurd HA.out (by simp [tephraref08_May.l0])
                        | succ k4 =>
                          have H := HA.out
                          clear HA
                          simp only [tephraref08_May.l0] at H
                          by_cases c38 : x5_4 < (l1_3.length : Int)
                          · rw [if_pos c38] at H
                            have c38b0 : decide (x5_4 < (l1_3.length : Int)) = true := decide_eq_true c38
                            clear c38
                            by_cases c39 : 0 ≤ x5_4
                            · rw [if_pos c39] at H
                              have c39b0 : decide (0 ≤ x5_4) = true := decide_eq_true c39
                              clear c39
                              have HC40 := Aside0.mk H
                              clear H
                              have hcz41_0 : wr.cell? ⟨gb118, 0, none⟩ = some (.int .i64 a1_0) := (blk_cell BK118.out 0).trans rfl
                              have hcz41_1 : wr.cell? ⟨gb118, 1, none⟩ = some (.string a1_1) := (blk_cell BK118.out 1).trans rfl
                              have hcz41_2 : wr.cell? ⟨gb118, 2, none⟩ = some (.int .u64 a1_2) := (blk_cell BK118.out 2).trans rfl
                              have hcz41_3 : wr.cell? ⟨gb118, 3, none⟩ = some (.slice A1_3 l1_3.length c1_3) := (blk_cell BK118.out 3).trans rfl
                              have hcz41_4 : wr.cell? ⟨gb118, 4, none⟩ = some (.int .u64 a1_4) := (blk_cell BK118.out 4).trans rfl
                              have hcz41_5 : wr.cell? ⟨gb118, 5, none⟩ = some (.int .u64 a1_5) := (blk_cell BK118.out 5).trans rfl
                              have hcz41_6 : wr.cell? ⟨gb118, 6, none⟩ = some (.string a1_6) := (blk_cell BK118.out 6).trans rfl
                              have hfz41_0 := blk_frozen BK118.out 0
                              have hfz41_1 := blk_frozen BK118.out 1
                              have hfz41_2 := blk_frozen BK118.out 2
                              have hfz41_3 := blk_frozen BK118.out 3
                              have hfz41_4 := blk_frozen BK118.out 4
                              have hfz41_5 := blk_frozen BK118.out 5
                              have hfz41_6 := blk_frozen BK118.out 6
                              have p120 : 0 ≤ (x5_4 : Int) := of_decide_eq_true (by first | (with_reducible assumption) | assumption)
                              have q120 : x5_4 < (l1_3.length : Int) := of_decide_eq_true (by first | (with_reducible assumption) | assumption)
                              obtain ⟨ad120, e120, hx120_0, hx120_1, hx120_2⟩ := at_T113 HR1_3.out x5_4 p120 q120
                              cases e120
                              replace hx120_0 := (HB.out.cell (World.block_lt_of_cell? w _ hx120_0)).trans hx120_0
                              replace hx120_1 := (HB.out.cell (World.block_lt_of_cell? w _ hx120_1)).trans hx120_1
                              replace hx120_2 := (HB.out.cell (World.block_lt_of_cell? w _ hx120_2)).trans hx120_2
                              replace p120 := eq_true p120
                              replace q120 := eq_true q120
                              go_upto_region 13 with (first | ((with_reducible refine gate_dst (N := 6) rfl ?_); (try (refine gate_guard (by rfl) ?_; dsimp only)); refine box_event ?hg (N := 6) ?hd (cs := #[.string (⟨#[]⟩ : ByteArray), .int .u64 0, .bool false]) (t := 113) ?hr ?_; (case hd => rfl); (case hg => rfl); (case hr => first | (go_simp; done) | (go_simp; rfl)); intro gb121 hg w42 hbox hb; have n0_ := Aside0.mk (blk_below (g := gb118) (o := .cells #[.int .i64 a1_0, .string a1_1, .int .u64 a1_2, .slice (some ad120) l1_3.length c1_3, .int .u64 a1_4, .int .u64 a1_5, .string a1_6] 62 (0, 0)) (by (with_reducible repeat (first | refine blk_drewN ?_ _ | refine blk_drew ?_ | refine blk_alloc ?_ _)); exact BK118.out) hb); have n1_ := Aside0.mk (below_step (by repeat (first | (with_reducible first | exact HB.out | apply below_alloc | apply pw_below_drewN | apply below_drew1 | refine below_set ?_ GE118.out) | exact HB.out)) hb); have n2_ := Aside0.mk (hbox); have n3_ := Aside0.mk ((by rw [hg]; exact (below_size (by repeat (first | (with_reducible first | exact HB.out | apply below_alloc | apply pw_below_drewN | apply below_drew1 | refine below_set ?_ GE118.out) | exact HB.out))) : w.heap.size ≤ gb121)); have n4_ := Aside0.mk ((by rw [hg]; exact (below_size (by repeat (first | (with_reducible first | exact HB.out | apply below_alloc | apply pw_below_drewN | apply below_drew1 | refine below_set ?_ GE118.out) | exact HB.out))) : w.heap.size ≤ gb121)); have n5_ := Aside0.mk ((by rw [hg]; exact Nat.ne_of_lt (blk_lt (g := gb118) (o := .cells #[.int .i64 a1_0, .string a1_1, .int .u64 a1_2, .slice (some ad120) l1_3.length c1_3, .int .u64 a1_4, .int .u64 a1_5, .string a1_6] 62 (0, 0)) (by (with_reducible repeat (first | refine blk_drewN ?_ _ | refine blk_drew ?_ | refine blk_alloc ?_ _)); exact BK118.out)) : gb118 ≠ gb121)); have n6_ := Aside0.mk ((by rw [hg]; exact Nat.ne_of_gt (blk_lt (g := gb118) (o := .cells #[.int .i64 a1_0, .string a1_1, .int .u64 a1_2, .slice (some ad120) l1_3.length c1_3, .int .u64 a1_4, .int .u64 a1_5, .string a1_6] 62 (0, 0)) (by (with_reducible repeat (first | refine blk_drewN ?_ _ | refine blk_drew ?_ | refine blk_alloc ?_ _)); exact BK118.out)) : gb121 ≠ gb118)); clear BK118; clear HB; have BK118 := n0_; have HB := n1_; have BK121 := n2_; have GW121 := n3_; have GE121 := n4_; have NB118_121 := n5_; have NB121_118 := n6_; clear n0_ n1_ n2_ n3_ n4_ n5_ n6_; clear hb hbox hg; have hnb43 := NB121_118.out; have hnc43 := NB118_121.out; have hcz44_0 : w42.cell? ⟨gb121, 0, none⟩ = some (.string (⟨#[]⟩ : ByteArray)) := (blk_cell BK121.out 0).trans rfl; have hcz44_1 : w42.cell? ⟨gb121, 1, none⟩ = some (.int .u64 0) := (blk_cell BK121.out 1).trans rfl; have hcz44_2 : w42.cell? ⟨gb121, 2, none⟩ = some (.bool false) := (blk_cell BK121.out 2).trans rfl; have hfz44_0 := blk_frozen BK121.out 0; have hfz44_1 := blk_frozen BK121.out 1; have hfz44_2 := blk_frozen BK121.out 2))
                              repeat (go_quiet (first | ((with_reducible refine gate_dst (N := 6) rfl ?_); (try (refine gate_guard (by rfl) ?_; dsimp only)); refine box_event ?hg (N := 6) ?hd (cs := #[.string (⟨#[]⟩ : ByteArray), .int .u64 0, .bool false]) (t := 113) ?hr ?_; (case hd => rfl); (case hg => rfl); (case hr => first | (go_simp; done) | (go_simp; rfl)); intro gb121 hg w42 hbox hb; have n0_ := Aside0.mk (blk_below (g := gb118) (o := .cells #[.int .i64 a1_0, .string a1_1, .int .u64 a1_2, .slice (some ad120) l1_3.length c1_3, .int .u64 a1_4, .int .u64 a1_5, .string a1_6] 62 (0, 0)) (by (with_reducible repeat (first | refine blk_drewN ?_ _ | refine blk_drew ?_ | refine blk_alloc ?_ _)); exact BK118.out) hb); have n1_ := Aside0.mk (below_step (by repeat (first | (with_reducible first | exact HB.out | apply below_alloc | apply pw_below_drewN | apply below_drew1 | refine below_set ?_ GE118.out) | exact HB.out)) hb); have n2_ := Aside0.mk (hbox); have n3_ := Aside0.mk ((by rw [hg]; exact (below_size (by repeat (first | (with_reducible first | exact HB.out | apply below_alloc | apply pw_below_drewN | apply below_drew1 | refine below_set ?_ GE118.out) | exact HB.out))) : w.heap.size ≤ gb121)); have n4_ := Aside0.mk ((by rw [hg]; exact (below_size (by repeat (first | (with_reducible first | exact HB.out | apply below_alloc | apply pw_below_drewN | apply below_drew1 | refine below_set ?_ GE118.out) | exact HB.out))) : w.heap.size ≤ gb121)); have n5_ := Aside0.mk ((by rw [hg]; exact Nat.ne_of_lt (blk_lt (g := gb118) (o := .cells #[.int .i64 a1_0, .string a1_1, .int .u64 a1_2, .slice (some ad120) l1_3.length c1_3, .int .u64 a1_4, .int .u64 a1_5, .string a1_6] 62 (0, 0)) (by (with_reducible repeat (first | refine blk_drewN ?_ _ | refine blk_drew ?_ | refine blk_alloc ?_ _)); exact BK118.out)) : gb118 ≠ gb121)); have n6_ := Aside0.mk ((by rw [hg]; exact Nat.ne_of_gt (blk_lt (g := gb118) (o := .cells #[.int .i64 a1_0, .string a1_1, .int .u64 a1_2, .slice (some ad120) l1_3.length c1_3, .int .u64 a1_4, .int .u64 a1_5, .string a1_6] 62 (0, 0)) (by (with_reducible repeat (first | refine blk_drewN ?_ _ | refine blk_drew ?_ | refine blk_alloc ?_ _)); exact BK118.out)) : gb121 ≠ gb118)); clear BK118; clear HB; have BK118 := n0_; have HB := n1_; have BK121 := n2_; have GW121 := n3_; have GE121 := n4_; have NB118_121 := n5_; have NB121_118 := n6_; clear n0_ n1_ n2_ n3_ n4_ n5_ n6_; clear hb hbox hg; have hnb43 := NB121_118.out; have hnc43 := NB118_121.out; have hcz44_0 : w42.cell? ⟨gb121, 0, none⟩ = some (.string (⟨#[]⟩ : ByteArray)) := (blk_cell BK121.out 0).trans rfl; have hcz44_1 : w42.cell? ⟨gb121, 1, none⟩ = some (.int .u64 0) := (blk_cell BK121.out 1).trans rfl; have hcz44_2 : w42.cell? ⟨gb121, 2, none⟩ = some (.bool false) := (blk_cell BK121.out 2).trans rfl; have hfz44_0 := blk_frozen BK121.out 0; have hfz44_1 := blk_frozen BK121.out 1; have hfz44_2 := blk_frozen BK121.out 2)); go_upto_region 13 with (first | ((with_reducible refine gate_dst (N := 6) rfl ?_); (try (refine gate_guard (by rfl) ?_; dsimp only)); refine box_event ?hg (N := 6) ?hd (cs := #[.string (⟨#[]⟩ : ByteArray), .int .u64 0, .bool false]) (t := 113) ?hr ?_; (case hd => rfl); (case hg => rfl); (case hr => first | (go_simp; done) | (go_simp; rfl)); intro gb121 hg w42 hbox hb; have n0_ := Aside0.mk (blk_below (g := gb118) (o := .cells #[.int .i64 a1_0, .string a1_1, .int .u64 a1_2, .slice (some ad120) l1_3.length c1_3, .int .u64 a1_4, .int .u64 a1_5, .string a1_6] 62 (0, 0)) (by (with_reducible repeat (first | refine blk_drewN ?_ _ | refine blk_drew ?_ | refine blk_alloc ?_ _)); exact BK118.out) hb); have n1_ := Aside0.mk (below_step (by repeat (first | (with_reducible first | exact HB.out | apply below_alloc | apply pw_below_drewN | apply below_drew1 | refine below_set ?_ GE118.out) | exact HB.out)) hb); have n2_ := Aside0.mk (hbox); have n3_ := Aside0.mk ((by rw [hg]; exact (below_size (by repeat (first | (with_reducible first | exact HB.out | apply below_alloc | apply pw_below_drewN | apply below_drew1 | refine below_set ?_ GE118.out) | exact HB.out))) : w.heap.size ≤ gb121)); have n4_ := Aside0.mk ((by rw [hg]; exact (below_size (by repeat (first | (with_reducible first | exact HB.out | apply below_alloc | apply pw_below_drewN | apply below_drew1 | refine below_set ?_ GE118.out) | exact HB.out))) : w.heap.size ≤ gb121)); have n5_ := Aside0.mk ((by rw [hg]; exact Nat.ne_of_lt (blk_lt (g := gb118) (o := .cells #[.int .i64 a1_0, .string a1_1, .int .u64 a1_2, .slice (some ad120) l1_3.length c1_3, .int .u64 a1_4, .int .u64 a1_5, .string a1_6] 62 (0, 0)) (by (with_reducible repeat (first | refine blk_drewN ?_ _ | refine blk_drew ?_ | refine blk_alloc ?_ _)); exact BK118.out)) : gb118 ≠ gb121)); have n6_ := Aside0.mk ((by rw [hg]; exact Nat.ne_of_gt (blk_lt (g := gb118) (o := .cells #[.int .i64 a1_0, .string a1_1, .int .u64 a1_2, .slice (some ad120) l1_3.length c1_3, .int .u64 a1_4, .int .u64 a1_5, .string a1_6] 62 (0, 0)) (by (with_reducible repeat (first | refine blk_drewN ?_ _ | refine blk_drew ?_ | refine blk_alloc ?_ _)); exact BK118.out)) : gb121 ≠ gb118)); clear BK118; clear HB; have BK118 := n0_; have HB := n1_; have BK121 := n2_; have GW121 := n3_; have GE121 := n4_; have NB118_121 := n5_; have NB121_118 := n6_; clear n0_ n1_ n2_ n3_ n4_ n5_ n6_; clear hb hbox hg; have hnb43 := NB121_118.out; have hnc43 := NB118_121.out; have hcz44_0 : w42.cell? ⟨gb121, 0, none⟩ = some (.string (⟨#[]⟩ : ByteArray)) := (blk_cell BK121.out 0).trans rfl; have hcz44_1 : w42.cell? ⟨gb121, 1, none⟩ = some (.int .u64 0) := (blk_cell BK121.out 1).trans rfl; have hcz44_2 : w42.cell? ⟨gb121, 2, none⟩ = some (.bool false) := (blk_cell BK121.out 2).trans rfl; have hfz44_0 := blk_frozen BK121.out 0; have hfz44_1 := blk_frozen BK121.out 1; have hfz44_2 := blk_frozen BK121.out 2)))
                              (try simp only [Act.put, List.setIfInBounds_toArray, List.set_cons_zero, List.set_cons_succ])
                              go_cut [108] (fun v108 wc => ∃ (kq : Nat) (x108_39 : Bool), v108 = .bool x108_39 ∧ Aside0 (tephraref08_May.j4 kq a0 x5_4 x108_39 a1_0 a1_1 a1_2 l1_3 a1_4 a1_5 a1_6 ((rd_T113 l1_3 x5_4).f0) ((rd_T113 l1_3 x5_4).f1) ((rd_T113 l1_3 x5_4).f2) = some r) ∧ Aside0 (kq ≤ k4) ∧ Aside0 (wc.heap[gb118]? = some (.cells #[.int .i64 a1_0, .string a1_1, .int .u64 a1_2, (.slice (some ad120) l1_3.length c1_3), .int .u64 a1_4, .int .u64 a1_5, .string a1_6] 62 (0, 0))) ∧ Aside0 (wc.heap[gb121]? = some (.cells #[.string ((rd_T113 l1_3 x5_4).f0), .int .u64 ((rd_T113 l1_3 x5_4).f1), .bool ((rd_T113 l1_3 x5_4).f2)] 113 (0, 0))) ∧ Aside0 (Below w.heap.size w wc))
                              case first =>
                                have H := HC40.out
                                clear HC40
                                replace H := Option.bind_eq_some_iff.mp H
                                obtain ⟨t122, A450, H⟩ := H
                                replace H : (if t122 = true then (if ((rd_T113 l1_3 x5_4).f0).toList = a1_1.toList then (tephraref08_May.j4 k4 a0 x5_4 true a1_0 a1_1 a1_2 l1_3 a1_4 a1_5 a1_6 ((rd_T113 l1_3 x5_4).f0) ((rd_T113 l1_3 x5_4).f1) ((rd_T113 l1_3 x5_4).f2)) else (if (rd_T113 l1_3 x5_4).f2 = true then (tephraref08_May.j4 k4 a0 x5_4 (decide (a0 < 3)) a1_0 a1_1 a1_2 l1_3 a1_4 a1_5 a1_6 ((rd_T113 l1_3 x5_4).f0) ((rd_T113 l1_3 x5_4).f1) ((rd_T113 l1_3 x5_4).f2)) else (tephraref08_May.j4 k4 a0 x5_4 false a1_0 a1_1 a1_2 l1_3 a1_4 a1_5 a1_6 ((rd_T113 l1_3 x5_4).f0) ((rd_T113 l1_3 x5_4).f1) ((rd_T113 l1_3 x5_4).f2)))) else (tephraref08_May.j4 k4 a0 x5_4 true a1_0 a1_1 a1_2 l1_3 a1_4 a1_5 a1_6 ((rd_T113 l1_3 x5_4).f0) ((rd_T113 l1_3 x5_4).f1) ((rd_T113 l1_3 x5_4).f2))) = some r := H
                                have A45 := Aside0.mk A450
                                clear A450
                                by_cases c46 : t122 = true
                                · subst c46
                                  have H1 : (if ((rd_T113 l1_3 x5_4).f0).toList = a1_1.toList then (tephraref08_May.j4 k4 a0 x5_4 true a1_0 a1_1 a1_2 l1_3 a1_4 a1_5 a1_6 ((rd_T113 l1_3 x5_4).f0) ((rd_T113 l1_3 x5_4).f1) ((rd_T113 l1_3 x5_4).f2)) else (if (rd_T113 l1_3 x5_4).f2 = true then (tephraref08_May.j4 k4 a0 x5_4 (decide (a0 < 3)) a1_0 a1_1 a1_2 l1_3 a1_4 a1_5 a1_6 ((rd_T113 l1_3 x5_4).f0) ((rd_T113 l1_3 x5_4).f1) ((rd_T113 l1_3 x5_4).f2)) else (tephraref08_May.j4 k4 a0 x5_4 false a1_0 a1_1 a1_2 l1_3 a1_4 a1_5 a1_6 ((rd_T113 l1_3 x5_4).f0) ((rd_T113 l1_3 x5_4).f1) ((rd_T113 l1_3 x5_4).f2)))) = some r := by rw [if_pos rfl] at H; exact H
                                  clear H
                                  have H := H1
                                  clear H1
                                  by_cases c47 : ((rd_T113 l1_3 x5_4).f0).toList = a1_1.toList
                                  · rw [if_pos c47] at H
                                    have c47b0 : (((rd_T113 l1_3 x5_4).f0).toList == a1_1.toList) = true := beq_iff_eq.mpr c47
                                    have c47b1 : (((rd_T113 l1_3 x5_4).f0).toList != a1_1.toList) = false := bne_eq_false_iff_eq.mpr c47
                                    clear c47
                                    (first | rw [c47b0] | (simp only [i64_w, i32_w]; rw [c47b0]) | skip)
                                    have H' := Aside0.mk H
                                    clear H
                                    have hnb48 := NB121_118.out
                                    have hnc48 := NB118_121.out
                                    have hcz49_0 : w42.cell? ⟨gb121, 0, none⟩ = some (.string (⟨#[]⟩ : ByteArray)) := (blk_cell BK121.out 0).trans rfl
                                    have hcz49_1 : w42.cell? ⟨gb121, 1, none⟩ = some (.int .u64 0) := (blk_cell BK121.out 1).trans rfl
                                    have hcz49_2 : w42.cell? ⟨gb121, 2, none⟩ = some (.bool false) := (blk_cell BK121.out 2).trans rfl
                                    have hfz49_0 := blk_frozen BK121.out 0
                                    have hfz49_1 := blk_frozen BK121.out 1
                                    have hfz49_2 := blk_frozen BK121.out 2
                                    go_wp2_with (first | (go_at_call 97; (with_reducible refine (tephraref08_Name.calls ((rd_T113 l1_3 x5_4).f0) true _ A45.out).mono ?_); rintro e w' ⟨rfl, ⟨nd, rfl⟩⟩; (try first | exact ⟨rfl, _, World.drewN_drewN _ _ _⟩ | exact ⟨rfl, _, Eq.trans (World.drewN_drewN _ _ _) (congrArg (World.drewN _) (Nat.add_assoc _ _ _))⟩); have hcz50_0 : w42.cell? ⟨gb118, 0, none⟩ = some (.int .i64 a1_0) := (blk_cell BK118.out 0).trans rfl; have hcz50_1 : w42.cell? ⟨gb118, 1, none⟩ = some (.string a1_1) := (blk_cell BK118.out 1).trans rfl; have hcz50_2 : w42.cell? ⟨gb118, 2, none⟩ = some (.int .u64 a1_2) := (blk_cell BK118.out 2).trans rfl; have hcz50_3 : w42.cell? ⟨gb118, 3, none⟩ = some (.slice (some ad120) l1_3.length c1_3) := (blk_cell BK118.out 3).trans rfl; have hcz50_4 : w42.cell? ⟨gb118, 4, none⟩ = some (.int .u64 a1_4) := (blk_cell BK118.out 4).trans rfl; have hcz50_5 : w42.cell? ⟨gb118, 5, none⟩ = some (.int .u64 a1_5) := (blk_cell BK118.out 5).trans rfl; have hcz50_6 : w42.cell? ⟨gb118, 6, none⟩ = some (.string a1_6) := (blk_cell BK118.out 6).trans rfl; have hfz50_0 := blk_frozen BK118.out 0; have hfz50_1 := blk_frozen BK118.out 1; have hfz50_2 := blk_frozen BK118.out 2; have hfz50_3 := blk_frozen BK118.out 3; have hfz50_4 := blk_frozen BK118.out 4; have hfz50_5 := blk_frozen BK118.out 5; have hfz50_6 := blk_frozen BK118.out 6))
                                    repeat (go_quiet (first | (go_at_call 97; (with_reducible refine (tephraref08_Name.calls ((rd_T113 l1_3 x5_4).f0) true _ A45.out).mono ?_); rintro e w' ⟨rfl, ⟨nd, rfl⟩⟩; (try first | exact ⟨rfl, _, World.drewN_drewN _ _ _⟩ | exact ⟨rfl, _, Eq.trans (World.drewN_drewN _ _ _) (congrArg (World.drewN _) (Nat.add_assoc _ _ _))⟩); have hcz50_0 : w42.cell? ⟨gb118, 0, none⟩ = some (.int .i64 a1_0) := (blk_cell BK118.out 0).trans rfl; have hcz50_1 : w42.cell? ⟨gb118, 1, none⟩ = some (.string a1_1) := (blk_cell BK118.out 1).trans rfl; have hcz50_2 : w42.cell? ⟨gb118, 2, none⟩ = some (.int .u64 a1_2) := (blk_cell BK118.out 2).trans rfl; have hcz50_3 : w42.cell? ⟨gb118, 3, none⟩ = some (.slice (some ad120) l1_3.length c1_3) := (blk_cell BK118.out 3).trans rfl; have hcz50_4 : w42.cell? ⟨gb118, 4, none⟩ = some (.int .u64 a1_4) := (blk_cell BK118.out 4).trans rfl; have hcz50_5 : w42.cell? ⟨gb118, 5, none⟩ = some (.int .u64 a1_5) := (blk_cell BK118.out 5).trans rfl; have hcz50_6 : w42.cell? ⟨gb118, 6, none⟩ = some (.string a1_6) := (blk_cell BK118.out 6).trans rfl; have hfz50_0 := blk_frozen BK118.out 0; have hfz50_1 := blk_frozen BK118.out 1; have hfz50_2 := blk_frozen BK118.out 2; have hfz50_3 := blk_frozen BK118.out 3; have hfz50_4 := blk_frozen BK118.out 4; have hfz50_5 := blk_frozen BK118.out 5; have hfz50_6 := blk_frozen BK118.out 6)); try go_wp2_with (first | (go_at_call 97; (with_reducible refine (tephraref08_Name.calls ((rd_T113 l1_3 x5_4).f0) true _ A45.out).mono ?_); rintro e w' ⟨rfl, ⟨nd, rfl⟩⟩; (try first | exact ⟨rfl, _, World.drewN_drewN _ _ _⟩ | exact ⟨rfl, _, Eq.trans (World.drewN_drewN _ _ _) (congrArg (World.drewN _) (Nat.add_assoc _ _ _))⟩); have hcz50_0 : w42.cell? ⟨gb118, 0, none⟩ = some (.int .i64 a1_0) := (blk_cell BK118.out 0).trans rfl; have hcz50_1 : w42.cell? ⟨gb118, 1, none⟩ = some (.string a1_1) := (blk_cell BK118.out 1).trans rfl; have hcz50_2 : w42.cell? ⟨gb118, 2, none⟩ = some (.int .u64 a1_2) := (blk_cell BK118.out 2).trans rfl; have hcz50_3 : w42.cell? ⟨gb118, 3, none⟩ = some (.slice (some ad120) l1_3.length c1_3) := (blk_cell BK118.out 3).trans rfl; have hcz50_4 : w42.cell? ⟨gb118, 4, none⟩ = some (.int .u64 a1_4) := (blk_cell BK118.out 4).trans rfl; have hcz50_5 : w42.cell? ⟨gb118, 5, none⟩ = some (.int .u64 a1_5) := (blk_cell BK118.out 5).trans rfl; have hcz50_6 : w42.cell? ⟨gb118, 6, none⟩ = some (.string a1_6) := (blk_cell BK118.out 6).trans rfl; have hfz50_0 := blk_frozen BK118.out 0; have hfz50_1 := blk_frozen BK118.out 1; have hfz50_2 := blk_frozen BK118.out 2; have hfz50_3 := blk_frozen BK118.out 3; have hfz50_4 := blk_frozen BK118.out 4; have hfz50_5 := blk_frozen BK118.out 5; have hfz50_6 := blk_frozen BK118.out 6)))
                                    go_meet
                                    case rel => exact ⟨_, (true), (by first | rfl | (simp; done) | (simp [*]; done) | (simp; rw [Bool.eq_iff_iff]; simp; done)), H', ⟨by have := HJ2.out; have := HJ19.out; have := HJ27.out; have := HK4.out; first | omega | exact Nat.le_refl _⟩, ⟨by (with_reducible repeat (first | refine blk_drewN ?_ _ | refine blk_drew ?_ | refine blk_alloc ?_ _)); refine blk_far ?_ NB118_121.out _; (with_reducible repeat (first | refine blk_drewN ?_ _ | refine blk_drew ?_ | refine blk_alloc ?_ _)); refine blk_far ?_ NB118_121.out _; (with_reducible repeat (first | refine blk_drewN ?_ _ | refine blk_drew ?_ | refine blk_alloc ?_ _)); refine blk_far ?_ NB118_121.out _; (with_reducible repeat (first | refine blk_drewN ?_ _ | refine blk_drew ?_ | refine blk_alloc ?_ _)); exact BK118.out⟩, ⟨by (with_reducible repeat (first | refine blk_drewN ?_ _ | refine blk_drew ?_ | refine blk_alloc ?_ _)); refine blk_put (cs := #[.string ((rd_T113 l1_3 x5_4).f0), .int .u64 ((rd_T113 l1_3 x5_4).f1), .bool false]) ?_ 2 _ rfl; (with_reducible repeat (first | refine blk_drewN ?_ _ | refine blk_drew ?_ | refine blk_alloc ?_ _)); refine blk_put (cs := #[.string ((rd_T113 l1_3 x5_4).f0), .int .u64 0, .bool false]) ?_ 1 _ rfl; (with_reducible repeat (first | refine blk_drewN ?_ _ | refine blk_drew ?_ | refine blk_alloc ?_ _)); refine blk_put (cs := #[.string (⟨#[]⟩ : ByteArray), .int .u64 0, .bool false]) ?_ 0 _ rfl; (with_reducible repeat (first | refine blk_drewN ?_ _ | refine blk_drew ?_ | refine blk_alloc ?_ _)); exact BK121.out⟩, ⟨by repeat (first | (with_reducible first | exact HB.out | apply below_alloc | apply pw_below_drewN | apply below_drew1 | refine below_set ?_ GE118.out | refine below_set ?_ GE121.out) | exact HB.out)⟩⟩
                                  · rw [if_neg c47] at H
                                    have c47b0 : (((rd_T113 l1_3 x5_4).f0).toList == a1_1.toList) = false := beq_eq_false_iff_ne.mpr c47
                                    have c47b1 : (((rd_T113 l1_3 x5_4).f0).toList != a1_1.toList) = true := bne_iff_ne.mpr c47
                                    (first | rw [c47b0] | (simp only [i64_w, i32_w]; rw [c47b0]) | skip)
                                    obtain ⟨bq51, hbq51⟩ : ∃ b_ : Bool, b_ = ((rd_T113 l1_3 x5_4).f2) := ⟨_, rfl⟩
                                    replace H : (if bq51 = true then (tephraref08_May.j4 k4 a0 x5_4 (decide (a0 < 3)) a1_0 a1_1 a1_2 l1_3 a1_4 a1_5 a1_6 ((rd_T113 l1_3 x5_4).f0) ((rd_T113 l1_3 x5_4).f1) bq51) else (tephraref08_May.j4 k4 a0 x5_4 false a1_0 a1_1 a1_2 l1_3 a1_4 a1_5 a1_6 ((rd_T113 l1_3 x5_4).f0) ((rd_T113 l1_3 x5_4).f1) bq51)) = some r := by rw [← hbq51] at H; exact H
                                    have Nbq51 := Aside0.mk hbq51
                                    clear hbq51
                                    by_cases c52 : bq51 = true
                                    · subst c52
                                      have Nbq51x := Nbq51.out.symm
                                      have H1 : (tephraref08_May.j4 k4 a0 x5_4 (decide (a0 < 3)) a1_0 a1_1 a1_2 l1_3 a1_4 a1_5 a1_6 ((rd_T113 l1_3 x5_4).f0) ((rd_T113 l1_3 x5_4).f1) true) = some r := by rw [if_pos rfl] at H; exact H
                                      clear H
                                      have H := H1
                                      clear H1
                                      have H' := Aside0.mk H
                                      clear H
                                      have hnb53 := NB121_118.out
                                      have hnc53 := NB118_121.out
                                      have hcz54_0 : w42.cell? ⟨gb121, 0, none⟩ = some (.string (⟨#[]⟩ : ByteArray)) := (blk_cell BK121.out 0).trans rfl
                                      have hcz54_1 : w42.cell? ⟨gb121, 1, none⟩ = some (.int .u64 0) := (blk_cell BK121.out 1).trans rfl
                                      have hcz54_2 : w42.cell? ⟨gb121, 2, none⟩ = some (.bool false) := (blk_cell BK121.out 2).trans rfl
                                      have hfz54_0 := blk_frozen BK121.out 0
                                      have hfz54_1 := blk_frozen BK121.out 1
                                      have hfz54_2 := blk_frozen BK121.out 2
                                      go_wp2_with (first | (go_at_call 97; (with_reducible refine (tephraref08_Name.calls ((rd_T113 l1_3 x5_4).f0) true _ A45.out).mono ?_); rintro e w' ⟨rfl, ⟨nd, rfl⟩⟩; (try first | exact ⟨rfl, _, World.drewN_drewN _ _ _⟩ | exact ⟨rfl, _, Eq.trans (World.drewN_drewN _ _ _) (congrArg (World.drewN _) (Nat.add_assoc _ _ _))⟩); have hcz55_0 : w42.cell? ⟨gb118, 0, none⟩ = some (.int .i64 a1_0) := (blk_cell BK118.out 0).trans rfl; have hcz55_1 : w42.cell? ⟨gb118, 1, none⟩ = some (.string a1_1) := (blk_cell BK118.out 1).trans rfl; have hcz55_2 : w42.cell? ⟨gb118, 2, none⟩ = some (.int .u64 a1_2) := (blk_cell BK118.out 2).trans rfl; have hcz55_3 : w42.cell? ⟨gb118, 3, none⟩ = some (.slice (some ad120) l1_3.length c1_3) := (blk_cell BK118.out 3).trans rfl; have hcz55_4 : w42.cell? ⟨gb118, 4, none⟩ = some (.int .u64 a1_4) := (blk_cell BK118.out 4).trans rfl; have hcz55_5 : w42.cell? ⟨gb118, 5, none⟩ = some (.int .u64 a1_5) := (blk_cell BK118.out 5).trans rfl; have hcz55_6 : w42.cell? ⟨gb118, 6, none⟩ = some (.string a1_6) := (blk_cell BK118.out 6).trans rfl; have hfz55_0 := blk_frozen BK118.out 0; have hfz55_1 := blk_frozen BK118.out 1; have hfz55_2 := blk_frozen BK118.out 2; have hfz55_3 := blk_frozen BK118.out 3; have hfz55_4 := blk_frozen BK118.out 4; have hfz55_5 := blk_frozen BK118.out 5; have hfz55_6 := blk_frozen BK118.out 6))
                                      repeat (go_quiet (first | (go_at_call 97; (with_reducible refine (tephraref08_Name.calls ((rd_T113 l1_3 x5_4).f0) true _ A45.out).mono ?_); rintro e w' ⟨rfl, ⟨nd, rfl⟩⟩; (try first | exact ⟨rfl, _, World.drewN_drewN _ _ _⟩ | exact ⟨rfl, _, Eq.trans (World.drewN_drewN _ _ _) (congrArg (World.drewN _) (Nat.add_assoc _ _ _))⟩); have hcz55_0 : w42.cell? ⟨gb118, 0, none⟩ = some (.int .i64 a1_0) := (blk_cell BK118.out 0).trans rfl; have hcz55_1 : w42.cell? ⟨gb118, 1, none⟩ = some (.string a1_1) := (blk_cell BK118.out 1).trans rfl; have hcz55_2 : w42.cell? ⟨gb118, 2, none⟩ = some (.int .u64 a1_2) := (blk_cell BK118.out 2).trans rfl; have hcz55_3 : w42.cell? ⟨gb118, 3, none⟩ = some (.slice (some ad120) l1_3.length c1_3) := (blk_cell BK118.out 3).trans rfl; have hcz55_4 : w42.cell? ⟨gb118, 4, none⟩ = some (.int .u64 a1_4) := (blk_cell BK118.out 4).trans rfl; have hcz55_5 : w42.cell? ⟨gb118, 5, none⟩ = some (.int .u64 a1_5) := (blk_cell BK118.out 5).trans rfl; have hcz55_6 : w42.cell? ⟨gb118, 6, none⟩ = some (.string a1_6) := (blk_cell BK118.out 6).trans rfl; have hfz55_0 := blk_frozen BK118.out 0; have hfz55_1 := blk_frozen BK118.out 1; have hfz55_2 := blk_frozen BK118.out 2; have hfz55_3 := blk_frozen BK118.out 3; have hfz55_4 := blk_frozen BK118.out 4; have hfz55_5 := blk_frozen BK118.out 5; have hfz55_6 := blk_frozen BK118.out 6)); try go_wp2_with (first | (go_at_call 97; (with_reducible refine (tephraref08_Name.calls ((rd_T113 l1_3 x5_4).f0) true _ A45.out).mono ?_); rintro e w' ⟨rfl, ⟨nd, rfl⟩⟩; (try first | exact ⟨rfl, _, World.drewN_drewN _ _ _⟩ | exact ⟨rfl, _, Eq.trans (World.drewN_drewN _ _ _) (congrArg (World.drewN _) (Nat.add_assoc _ _ _))⟩); have hcz55_0 : w42.cell? ⟨gb118, 0, none⟩ = some (.int .i64 a1_0) := (blk_cell BK118.out 0).trans rfl; have hcz55_1 : w42.cell? ⟨gb118, 1, none⟩ = some (.string a1_1) := (blk_cell BK118.out 1).trans rfl; have hcz55_2 : w42.cell? ⟨gb118, 2, none⟩ = some (.int .u64 a1_2) := (blk_cell BK118.out 2).trans rfl; have hcz55_3 : w42.cell? ⟨gb118, 3, none⟩ = some (.slice (some ad120) l1_3.length c1_3) := (blk_cell BK118.out 3).trans rfl; have hcz55_4 : w42.cell? ⟨gb118, 4, none⟩ = some (.int .u64 a1_4) := (blk_cell BK118.out 4).trans rfl; have hcz55_5 : w42.cell? ⟨gb118, 5, none⟩ = some (.int .u64 a1_5) := (blk_cell BK118.out 5).trans rfl; have hcz55_6 : w42.cell? ⟨gb118, 6, none⟩ = some (.string a1_6) := (blk_cell BK118.out 6).trans rfl; have hfz55_0 := blk_frozen BK118.out 0; have hfz55_1 := blk_frozen BK118.out 1; have hfz55_2 := blk_frozen BK118.out 2; have hfz55_3 := blk_frozen BK118.out 3; have hfz55_4 := blk_frozen BK118.out 4; have hfz55_5 := blk_frozen BK118.out 5; have hfz55_6 := blk_frozen BK118.out 6)))
                                      go_meet
                                      case rel => (try rw [← Nbq51.out]); exact ⟨_, (decide (a0 < 3)), (by first | rfl | (simp; done) | (simp [*]; done) | (simp; rw [Bool.eq_iff_iff]; simp; done)), H', ⟨by have := HJ2.out; have := HJ19.out; have := HJ27.out; have := HK4.out; first | omega | exact Nat.le_refl _⟩, ⟨by (with_reducible repeat (first | refine blk_drewN ?_ _ | refine blk_drew ?_ | refine blk_alloc ?_ _)); refine blk_far ?_ NB118_121.out _; (with_reducible repeat (first | refine blk_drewN ?_ _ | refine blk_drew ?_ | refine blk_alloc ?_ _)); refine blk_far ?_ NB118_121.out _; (with_reducible repeat (first | refine blk_drewN ?_ _ | refine blk_drew ?_ | refine blk_alloc ?_ _)); refine blk_far ?_ NB118_121.out _; (with_reducible repeat (first | refine blk_drewN ?_ _ | refine blk_drew ?_ | refine blk_alloc ?_ _)); exact BK118.out⟩, ⟨by (with_reducible repeat (first | refine blk_drewN ?_ _ | refine blk_drew ?_ | refine blk_alloc ?_ _)); refine blk_put (cs := #[.string ((rd_T113 l1_3 x5_4).f0), .int .u64 ((rd_T113 l1_3 x5_4).f1), .bool false]) ?_ 2 _ rfl; (with_reducible repeat (first | refine blk_drewN ?_ _ | refine blk_drew ?_ | refine blk_alloc ?_ _)); refine blk_put (cs := #[.string ((rd_T113 l1_3 x5_4).f0), .int .u64 0, .bool false]) ?_ 1 _ rfl; (with_reducible repeat (first | refine blk_drewN ?_ _ | refine blk_drew ?_ | refine blk_alloc ?_ _)); refine blk_put (cs := #[.string (⟨#[]⟩ : ByteArray), .int .u64 0, .bool false]) ?_ 0 _ rfl; (with_reducible repeat (first | refine blk_drewN ?_ _ | refine blk_drew ?_ | refine blk_alloc ?_ _)); exact BK121.out⟩, ⟨by repeat (first | (with_reducible first | exact HB.out | apply below_alloc | apply pw_below_drewN | apply below_drew1 | refine below_set ?_ GE118.out | refine below_set ?_ GE121.out) | exact HB.out)⟩⟩
                                    · replace c52 := Bool.eq_false_iff.mpr c52
                                      subst c52
                                      have Nbq51x := Nbq51.out.symm
                                      have H1 : (tephraref08_May.j4 k4 a0 x5_4 false a1_0 a1_1 a1_2 l1_3 a1_4 a1_5 a1_6 ((rd_T113 l1_3 x5_4).f0) ((rd_T113 l1_3 x5_4).f1) false) = some r := by rw [if_neg (show ¬ (false = true) by decide)] at H; exact H
                                      clear H
                                      have H := H1
                                      clear H1
                                      have H' := Aside0.mk H
                                      clear H
                                      have hnb56 := NB121_118.out
                                      have hnc56 := NB118_121.out
                                      have hcz57_0 : w42.cell? ⟨gb121, 0, none⟩ = some (.string (⟨#[]⟩ : ByteArray)) := (blk_cell BK121.out 0).trans rfl
                                      have hcz57_1 : w42.cell? ⟨gb121, 1, none⟩ = some (.int .u64 0) := (blk_cell BK121.out 1).trans rfl
                                      have hcz57_2 : w42.cell? ⟨gb121, 2, none⟩ = some (.bool false) := (blk_cell BK121.out 2).trans rfl
                                      have hfz57_0 := blk_frozen BK121.out 0
                                      have hfz57_1 := blk_frozen BK121.out 1
                                      have hfz57_2 := blk_frozen BK121.out 2
                                      go_wp2_with (first | (go_at_call 97; (with_reducible refine (tephraref08_Name.calls ((rd_T113 l1_3 x5_4).f0) true _ A45.out).mono ?_); rintro e w' ⟨rfl, ⟨nd, rfl⟩⟩; (try first | exact ⟨rfl, _, World.drewN_drewN _ _ _⟩ | exact ⟨rfl, _, Eq.trans (World.drewN_drewN _ _ _) (congrArg (World.drewN _) (Nat.add_assoc _ _ _))⟩); have hcz58_0 : w42.cell? ⟨gb118, 0, none⟩ = some (.int .i64 a1_0) := (blk_cell BK118.out 0).trans rfl; have hcz58_1 : w42.cell? ⟨gb118, 1, none⟩ = some (.string a1_1) := (blk_cell BK118.out 1).trans rfl; have hcz58_2 : w42.cell? ⟨gb118, 2, none⟩ = some (.int .u64 a1_2) := (blk_cell BK118.out 2).trans rfl; have hcz58_3 : w42.cell? ⟨gb118, 3, none⟩ = some (.slice (some ad120) l1_3.length c1_3) := (blk_cell BK118.out 3).trans rfl; have hcz58_4 : w42.cell? ⟨gb118, 4, none⟩ = some (.int .u64 a1_4) := (blk_cell BK118.out 4).trans rfl; have hcz58_5 : w42.cell? ⟨gb118, 5, none⟩ = some (.int .u64 a1_5) := (blk_cell BK118.out 5).trans rfl; have hcz58_6 : w42.cell? ⟨gb118, 6, none⟩ = some (.string a1_6) := (blk_cell BK118.out 6).trans rfl; have hfz58_0 := blk_frozen BK118.out 0; have hfz58_1 := blk_frozen BK118.out 1; have hfz58_2 := blk_frozen BK118.out 2; have hfz58_3 := blk_frozen BK118.out 3; have hfz58_4 := blk_frozen BK118.out 4; have hfz58_5 := blk_frozen BK118.out 5; have hfz58_6 := blk_frozen BK118.out 6))
                                      repeat (go_quiet (first | (go_at_call 97; (with_reducible refine (tephraref08_Name.calls ((rd_T113 l1_3 x5_4).f0) true _ A45.out).mono ?_); rintro e w' ⟨rfl, ⟨nd, rfl⟩⟩; (try first | exact ⟨rfl, _, World.drewN_drewN _ _ _⟩ | exact ⟨rfl, _, Eq.trans (World.drewN_drewN _ _ _) (congrArg (World.drewN _) (Nat.add_assoc _ _ _))⟩); have hcz58_0 : w42.cell? ⟨gb118, 0, none⟩ = some (.int .i64 a1_0) := (blk_cell BK118.out 0).trans rfl; have hcz58_1 : w42.cell? ⟨gb118, 1, none⟩ = some (.string a1_1) := (blk_cell BK118.out 1).trans rfl; have hcz58_2 : w42.cell? ⟨gb118, 2, none⟩ = some (.int .u64 a1_2) := (blk_cell BK118.out 2).trans rfl; have hcz58_3 : w42.cell? ⟨gb118, 3, none⟩ = some (.slice (some ad120) l1_3.length c1_3) := (blk_cell BK118.out 3).trans rfl; have hcz58_4 : w42.cell? ⟨gb118, 4, none⟩ = some (.int .u64 a1_4) := (blk_cell BK118.out 4).trans rfl; have hcz58_5 : w42.cell? ⟨gb118, 5, none⟩ = some (.int .u64 a1_5) := (blk_cell BK118.out 5).trans rfl; have hcz58_6 : w42.cell? ⟨gb118, 6, none⟩ = some (.string a1_6) := (blk_cell BK118.out 6).trans rfl; have hfz58_0 := blk_frozen BK118.out 0; have hfz58_1 := blk_frozen BK118.out 1; have hfz58_2 := blk_frozen BK118.out 2; have hfz58_3 := blk_frozen BK118.out 3; have hfz58_4 := blk_frozen BK118.out 4; have hfz58_5 := blk_frozen BK118.out 5; have hfz58_6 := blk_frozen BK118.out 6)); try go_wp2_with (first | (go_at_call 97; (with_reducible refine (tephraref08_Name.calls ((rd_T113 l1_3 x5_4).f0) true _ A45.out).mono ?_); rintro e w' ⟨rfl, ⟨nd, rfl⟩⟩; (try first | exact ⟨rfl, _, World.drewN_drewN _ _ _⟩ | exact ⟨rfl, _, Eq.trans (World.drewN_drewN _ _ _) (congrArg (World.drewN _) (Nat.add_assoc _ _ _))⟩); have hcz58_0 : w42.cell? ⟨gb118, 0, none⟩ = some (.int .i64 a1_0) := (blk_cell BK118.out 0).trans rfl; have hcz58_1 : w42.cell? ⟨gb118, 1, none⟩ = some (.string a1_1) := (blk_cell BK118.out 1).trans rfl; have hcz58_2 : w42.cell? ⟨gb118, 2, none⟩ = some (.int .u64 a1_2) := (blk_cell BK118.out 2).trans rfl; have hcz58_3 : w42.cell? ⟨gb118, 3, none⟩ = some (.slice (some ad120) l1_3.length c1_3) := (blk_cell BK118.out 3).trans rfl; have hcz58_4 : w42.cell? ⟨gb118, 4, none⟩ = some (.int .u64 a1_4) := (blk_cell BK118.out 4).trans rfl; have hcz58_5 : w42.cell? ⟨gb118, 5, none⟩ = some (.int .u64 a1_5) := (blk_cell BK118.out 5).trans rfl; have hcz58_6 : w42.cell? ⟨gb118, 6, none⟩ = some (.string a1_6) := (blk_cell BK118.out 6).trans rfl; have hfz58_0 := blk_frozen BK118.out 0; have hfz58_1 := blk_frozen BK118.out 1; have hfz58_2 := blk_frozen BK118.out 2; have hfz58_3 := blk_frozen BK118.out 3; have hfz58_4 := blk_frozen BK118.out 4; have hfz58_5 := blk_frozen BK118.out 5; have hfz58_6 := blk_frozen BK118.out 6)))
                                      go_meet
                                      case rel => (try rw [← Nbq51.out]); exact ⟨_, (false), (by first | rfl | (simp; done) | (simp [*]; done) | (simp; rw [Bool.eq_iff_iff]; simp; done)), H', ⟨by have := HJ2.out; have := HJ19.out; have := HJ27.out; have := HK4.out; first | omega | exact Nat.le_refl _⟩, ⟨by (with_reducible repeat (first | refine blk_drewN ?_ _ | refine blk_drew ?_ | refine blk_alloc ?_ _)); refine blk_far ?_ NB118_121.out _; (with_reducible repeat (first | refine blk_drewN ?_ _ | refine blk_drew ?_ | refine blk_alloc ?_ _)); refine blk_far ?_ NB118_121.out _; (with_reducible repeat (first | refine blk_drewN ?_ _ | refine blk_drew ?_ | refine blk_alloc ?_ _)); refine blk_far ?_ NB118_121.out _; (with_reducible repeat (first | refine blk_drewN ?_ _ | refine blk_drew ?_ | refine blk_alloc ?_ _)); exact BK118.out⟩, ⟨by (with_reducible repeat (first | refine blk_drewN ?_ _ | refine blk_drew ?_ | refine blk_alloc ?_ _)); refine blk_put (cs := #[.string ((rd_T113 l1_3 x5_4).f0), .int .u64 ((rd_T113 l1_3 x5_4).f1), .bool false]) ?_ 2 _ rfl; (with_reducible repeat (first | refine blk_drewN ?_ _ | refine blk_drew ?_ | refine blk_alloc ?_ _)); refine blk_put (cs := #[.string ((rd_T113 l1_3 x5_4).f0), .int .u64 0, .bool false]) ?_ 1 _ rfl; (with_reducible repeat (first | refine blk_drewN ?_ _ | refine blk_drew ?_ | refine blk_alloc ?_ _)); refine blk_put (cs := #[.string (⟨#[]⟩ : ByteArray), .int .u64 0, .bool false]) ?_ 0 _ rfl; (with_reducible repeat (first | refine blk_drewN ?_ _ | refine blk_drew ?_ | refine blk_alloc ?_ _)); exact BK121.out⟩, ⟨by repeat (first | (with_reducible first | exact HB.out | apply below_alloc | apply pw_below_drewN | apply below_drew1 | refine below_set ?_ GE118.out | refine below_set ?_ GE121.out) | exact HB.out)⟩⟩
                                · replace c46 := Bool.eq_false_iff.mpr c46
                                  subst c46
                                  have H1 : (tephraref08_May.j4 k4 a0 x5_4 true a1_0 a1_1 a1_2 l1_3 a1_4 a1_5 a1_6 ((rd_T113 l1_3 x5_4).f0) ((rd_T113 l1_3 x5_4).f1) ((rd_T113 l1_3 x5_4).f2)) = some r := by rw [if_neg (show ¬ (false = true) by decide)] at H; exact H
                                  clear H
                                  have H := H1
                                  clear H1
                                  have H' := Aside0.mk H
                                  clear H
                                  have hnb59 := NB121_118.out
                                  have hnc59 := NB118_121.out
                                  have hcz60_0 : w42.cell? ⟨gb121, 0, none⟩ = some (.string (⟨#[]⟩ : ByteArray)) := (blk_cell BK121.out 0).trans rfl
                                  have hcz60_1 : w42.cell? ⟨gb121, 1, none⟩ = some (.int .u64 0) := (blk_cell BK121.out 1).trans rfl
                                  have hcz60_2 : w42.cell? ⟨gb121, 2, none⟩ = some (.bool false) := (blk_cell BK121.out 2).trans rfl
                                  have hfz60_0 := blk_frozen BK121.out 0
                                  have hfz60_1 := blk_frozen BK121.out 1
                                  have hfz60_2 := blk_frozen BK121.out 2
                                  go_wp2_with (first | (go_at_call 97; (with_reducible refine (tephraref08_Name.calls ((rd_T113 l1_3 x5_4).f0) false _ A45.out).mono ?_); rintro e w' ⟨rfl, ⟨nd, rfl⟩⟩; (try first | exact ⟨rfl, _, World.drewN_drewN _ _ _⟩ | exact ⟨rfl, _, Eq.trans (World.drewN_drewN _ _ _) (congrArg (World.drewN _) (Nat.add_assoc _ _ _))⟩)))
                                  repeat (go_quiet (first | (go_at_call 97; (with_reducible refine (tephraref08_Name.calls ((rd_T113 l1_3 x5_4).f0) false _ A45.out).mono ?_); rintro e w' ⟨rfl, ⟨nd, rfl⟩⟩; (try first | exact ⟨rfl, _, World.drewN_drewN _ _ _⟩ | exact ⟨rfl, _, Eq.trans (World.drewN_drewN _ _ _) (congrArg (World.drewN _) (Nat.add_assoc _ _ _))⟩))); try go_wp2_with (first | (go_at_call 97; (with_reducible refine (tephraref08_Name.calls ((rd_T113 l1_3 x5_4).f0) false _ A45.out).mono ?_); rintro e w' ⟨rfl, ⟨nd, rfl⟩⟩; (try first | exact ⟨rfl, _, World.drewN_drewN _ _ _⟩ | exact ⟨rfl, _, Eq.trans (World.drewN_drewN _ _ _) (congrArg (World.drewN _) (Nat.add_assoc _ _ _))⟩))))
                                  go_meet
                                  case rel => exact ⟨_, (true), (by first | rfl | (simp; done) | (simp [*]; done) | (simp; rw [Bool.eq_iff_iff]; simp; done)), H', ⟨by have := HJ2.out; have := HJ19.out; have := HJ27.out; have := HK4.out; first | omega | exact Nat.le_refl _⟩, ⟨by (with_reducible repeat (first | refine blk_drewN ?_ _ | refine blk_drew ?_ | refine blk_alloc ?_ _)); refine blk_far ?_ NB118_121.out _; (with_reducible repeat (first | refine blk_drewN ?_ _ | refine blk_drew ?_ | refine blk_alloc ?_ _)); refine blk_far ?_ NB118_121.out _; (with_reducible repeat (first | refine blk_drewN ?_ _ | refine blk_drew ?_ | refine blk_alloc ?_ _)); refine blk_far ?_ NB118_121.out _; (with_reducible repeat (first | refine blk_drewN ?_ _ | refine blk_drew ?_ | refine blk_alloc ?_ _)); exact BK118.out⟩, ⟨by (with_reducible repeat (first | refine blk_drewN ?_ _ | refine blk_drew ?_ | refine blk_alloc ?_ _)); refine blk_put (cs := #[.string ((rd_T113 l1_3 x5_4).f0), .int .u64 ((rd_T113 l1_3 x5_4).f1), .bool false]) ?_ 2 _ rfl; (with_reducible repeat (first | refine blk_drewN ?_ _ | refine blk_drew ?_ | refine blk_alloc ?_ _)); refine blk_put (cs := #[.string ((rd_T113 l1_3 x5_4).f0), .int .u64 0, .bool false]) ?_ 1 _ rfl; (with_reducible repeat (first | refine blk_drewN ?_ _ | refine blk_drew ?_ | refine blk_alloc ?_ _)); refine blk_put (cs := #[.string (⟨#[]⟩ : ByteArray), .int .u64 0, .bool false]) ?_ 0 _ rfl; (with_reducible repeat (first | refine blk_drewN ?_ _ | refine blk_drew ?_ | refine blk_alloc ?_ _)); exact BK121.out⟩, ⟨by repeat (first | (with_reducible first | exact HB.out | apply below_alloc | apply pw_below_drewN | apply below_drew1 | refine below_set ?_ GE118.out | refine below_set ?_ GE121.out) | exact HB.out)⟩⟩
                              case rest =>
                                clear HC40
                                try clear c1
                                try clear p1
                                try clear q1
                                try clear hx1
                                try clear c2
                                try clear p2
                                try clear c3
                                try clear c4
                                try clear c5
                                try clear c5b0
                                try clear q5
                                try clear c6
                                try clear c6b0
                                try clear c9
                                try clear c10
                                try clear c10b0
                                try clear c10b1
                                try clear c11
                                try clear c11b0
                                try clear c11b1
                                try clear c12
                                try clear c12b0
                                try clear c12b1
                                try clear c12b2
                                try clear p12
                                try clear q12
                                try clear hx12
                                try clear c13
                                try clear c13b0
                                try clear c13b1
                                try clear c14
                                try clear c14b0
                                try clear c14b1
                                try clear c22
                                try clear c22b0
                                try clear c22b1
                                try clear c23
                                try clear c23b0
                                try clear c23b1
                                try clear c27
                                try clear c29
                                try clear c29b0
                                try clear c29b1
                                try clear c30
                                try clear c30b0
                                try clear c30b1
                                try clear c31
                                try clear c31b0
                                try clear c35
                                try clear c35b0
                                try clear c37
                                try clear c38
                                try clear c38b0
                                try clear c39
                                try clear c39b0
                                try clear c43
                                try clear c46
                                try clear c47
                                try clear c47b0
                                try clear c47b1
                                try clear c48
                                try clear q51
                                try clear c52
                                try clear c53
                                try clear c56
                                try clear c59
                                try clear hcz15_0
                                try clear hcz15_1
                                try clear hcz15_2
                                try clear hcz15_3
                                try clear hcz15_4
                                try clear hcz15_5
                                try clear hcz15_6
                                try clear hcz16_0
                                try clear hcz16_1
                                try clear hcz16_2
                                try clear hcz16_3
                                try clear hcz16_4
                                try clear hcz16_5
                                try clear hcz16_6
                                try clear hcz17_0
                                try clear hcz17_1
                                try clear hcz17_2
                                try clear hcz17_3
                                try clear hcz17_4
                                try clear hcz17_5
                                try clear hcz17_6
                                try clear hcz18_0
                                try clear hcz18_1
                                try clear hcz18_2
                                try clear hcz18_3
                                try clear hcz18_4
                                try clear hcz18_5
                                try clear hcz18_6
                                try clear hcz19_0
                                try clear hcz19_1
                                try clear hcz19_2
                                try clear hcz19_3
                                try clear hcz19_4
                                try clear hcz19_5
                                try clear hcz19_6
                                try clear hcz21_0
                                try clear hcz21_1
                                try clear hcz21_2
                                try clear hcz21_3
                                try clear hcz21_4
                                try clear hcz21_5
                                try clear hcz21_6
                                try clear hcz24_0
                                try clear hcz24_1
                                try clear hcz24_2
                                try clear hcz24_3
                                try clear hcz24_4
                                try clear hcz24_5
                                try clear hcz24_6
                                try clear hcz25_0
                                try clear hcz25_1
                                try clear hcz25_2
                                try clear hcz25_3
                                try clear hcz25_4
                                try clear hcz25_5
                                try clear hcz25_6
                                try clear hcz26_0
                                try clear hcz26_1
                                try clear hcz26_2
                                try clear hcz26_3
                                try clear hcz26_4
                                try clear hcz26_5
                                try clear hcz26_6
                                try clear hcz32_0
                                try clear hcz32_1
                                try clear hcz32_2
                                try clear hcz32_3
                                try clear hcz32_4
                                try clear hcz32_5
                                try clear hcz32_6
                                try clear hcz33_0
                                try clear hcz33_1
                                try clear hcz33_2
                                try clear hcz33_3
                                try clear hcz33_4
                                try clear hcz33_5
                                try clear hcz33_6
                                try clear hcz34_0
                                try clear hcz34_1
                                try clear hcz34_2
                                try clear hcz34_3
                                try clear hcz34_4
                                try clear hcz34_5
                                try clear hcz34_6
                                try clear hcz36_0
                                try clear hcz36_1
                                try clear hcz36_2
                                try clear hcz36_3
                                try clear hcz36_4
                                try clear hcz36_5
                                try clear hcz36_6
                                try clear hcz41_0
                                try clear hcz41_1
                                try clear hcz41_2
                                try clear hcz41_3
                                try clear hcz41_4
                                try clear hcz41_5
                                try clear hcz41_6
                                try clear hcz44_0
                                try clear hcz44_1
                                try clear hcz44_2
                                try clear hcz49_0
                                try clear hcz49_1
                                try clear hcz49_2
                                try clear hcz50_0
                                try clear hcz50_1
                                try clear hcz50_2
                                try clear hcz50_3
                                try clear hcz50_4
                                try clear hcz50_5
                                try clear hcz50_6
                                try clear hcz54_0
                                try clear hcz54_1
                                try clear hcz54_2
                                try clear hcz55_0
                                try clear hcz55_1
                                try clear hcz55_2
                                try clear hcz55_3
                                try clear hcz55_4
                                try clear hcz55_5
                                try clear hcz55_6
                                try clear hcz57_0
                                try clear hcz57_1
                                try clear hcz57_2
                                try clear hcz58_0
                                try clear hcz58_1
                                try clear hcz58_2
                                try clear hcz58_3
                                try clear hcz58_4
                                try clear hcz58_5
                                try clear hcz58_6
                                try clear hcz60_0
                                try clear hcz60_1
                                try clear hcz60_2
                                try clear hcz8_0
                                try clear hcz8_1
                                try clear hcz8_2
                                try clear hcz8_3
                                try clear hcz8_4
                                try clear hcz8_5
                                try clear hcz8_6
                                try clear hfz15_0
                                try clear hfz15_1
                                try clear hfz15_2
                                try clear hfz15_3
                                try clear hfz15_4
                                try clear hfz15_5
                                try clear hfz15_6
                                try clear hfz16_0
                                try clear hfz16_1
                                try clear hfz16_2
                                try clear hfz16_3
                                try clear hfz16_4
                                try clear hfz16_5
                                try clear hfz16_6
                                try clear hfz17_0
                                try clear hfz17_1
                                try clear hfz17_2
                                try clear hfz17_3
                                try clear hfz17_4
                                try clear hfz17_5
                                try clear hfz17_6
                                try clear hfz18_0
                                try clear hfz18_1
                                try clear hfz18_2
                                try clear hfz18_3
                                try clear hfz18_4
                                try clear hfz18_5
                                try clear hfz18_6
                                try clear hfz19_0
                                try clear hfz19_1
                                try clear hfz19_2
                                try clear hfz19_3
                                try clear hfz19_4
                                try clear hfz19_5
                                try clear hfz19_6
                                try clear hfz21_0
                                try clear hfz21_1
                                try clear hfz21_2
                                try clear hfz21_3
                                try clear hfz21_4
                                try clear hfz21_5
                                try clear hfz21_6
                                try clear hfz24_0
                                try clear hfz24_1
                                try clear hfz24_2
                                try clear hfz24_3
                                try clear hfz24_4
                                try clear hfz24_5
                                try clear hfz24_6
                                try clear hfz25_0
                                try clear hfz25_1
                                try clear hfz25_2
                                try clear hfz25_3
                                try clear hfz25_4
                                try clear hfz25_5
                                try clear hfz25_6
                                try clear hfz26_0
                                try clear hfz26_1
                                try clear hfz26_2
                                try clear hfz26_3
                                try clear hfz26_4
                                try clear hfz26_5
                                try clear hfz26_6
                                try clear hfz32_0
                                try clear hfz32_1
                                try clear hfz32_2
                                try clear hfz32_3
                                try clear hfz32_4
                                try clear hfz32_5
                                try clear hfz32_6
                                try clear hfz33_0
                                try clear hfz33_1
                                try clear hfz33_2
                                try clear hfz33_3
                                try clear hfz33_4
                                try clear hfz33_5
                                try clear hfz33_6
                                try clear hfz34_0
                                try clear hfz34_1
                                try clear hfz34_2
                                try clear hfz34_3
                                try clear hfz34_4
                                try clear hfz34_5
                                try clear hfz34_6
                                try clear hfz36_0
                                try clear hfz36_1
                                try clear hfz36_2
                                try clear hfz36_3
                                try clear hfz36_4
                                try clear hfz36_5
                                try clear hfz36_6
                                try clear hfz41_0
                                try clear hfz41_1
                                try clear hfz41_2
                                try clear hfz41_3
                                try clear hfz41_4
                                try clear hfz41_5
                                try clear hfz41_6
                                try clear hfz44_0
                                try clear hfz44_1
                                try clear hfz44_2
                                try clear hfz49_0
                                try clear hfz49_1
                                try clear hfz49_2
                                try clear hfz50_0
                                try clear hfz50_1
                                try clear hfz50_2
                                try clear hfz50_3
                                try clear hfz50_4
                                try clear hfz50_5
                                try clear hfz50_6
                                try clear hfz54_0
                                try clear hfz54_1
                                try clear hfz54_2
                                try clear hfz55_0
                                try clear hfz55_1
                                try clear hfz55_2
                                try clear hfz55_3
                                try clear hfz55_4
                                try clear hfz55_5
                                try clear hfz55_6
                                try clear hfz57_0
                                try clear hfz57_1
                                try clear hfz57_2
                                try clear hfz58_0
                                try clear hfz58_1
                                try clear hfz58_2
                                try clear hfz58_3
                                try clear hfz58_4
                                try clear hfz58_5
                                try clear hfz58_6
                                try clear hfz60_0
                                try clear hfz60_1
                                try clear hfz60_2
                                try clear hfz8_0
                                try clear hfz8_1
                                try clear hfz8_2
                                try clear hfz8_3
                                try clear hfz8_4
                                try clear hfz8_5
                                try clear hfz8_6
                                try clear hx120_0
                                try clear hx120_1
                                try clear hx120_2
                                try clear p120
                                try clear p2
                                try clear q120
                                obtain ⟨kq, x108_39, rfl, HA, HJ39, BK118, BK121, HB⟩ := hcut
                                cases kq with
                                | zero => exact absurd HA.out (by simp [tephraref08_May.j4])
                                | succ kj39 =>
                                  have H := HA.out
                                  clear HA
                                  simp only [tephraref08_May.j4] at H
                                  by_cases c61 : x108_39 = true
                                  · subst c61
                                    have H1 : (some false) = some r := by rw [if_pos rfl] at H; exact H
                                    clear H
                                    have H := H1
                                    clear H1
                                    obtain rfl := Option.some.inj H
                                    go_wp2
                                    repeat (go_quiet (fail); try go_wp2)
                                    go_ret
                                    exact ⟨by first | rfl | (simp [errW_none, errW_some] <;> rfl) | (simp [*, errW_none, errW_some] <;> rfl), by repeat (first | (with_reducible first | exact HB.out | apply below_alloc | apply pw_below_drewN | apply below_drew1 | refine below_set ?_ GE118.out | refine below_set ?_ GE121.out) | exact HB.out)⟩
                                  · replace c61 := Bool.eq_false_iff.mpr c61
                                    subst c61
                                    have H1 : (tephraref08_May.l1 kj39 a0 x5_4 0 a1_0 a1_1 a1_2 l1_3 a1_4 a1_5 a1_6 ((rd_T113 l1_3 x5_4).f0) ((rd_T113 l1_3 x5_4).f1) ((rd_T113 l1_3 x5_4).f2)) = some r := by rw [if_neg (show ¬ (false = true) by decide)] at H; exact H
                                    clear H
                                    have H := H1
                                    clear H1
                                    have H' := Aside0.mk H
                                    clear H
                                    go_wp2
                                    repeat (go_quiet (fail); try go_wp2)
                                    go_loopg [7] kj39 (fun kq v7 w' => ∃ (x7_6 : Int), v7 = .int .i64 x7_6 ∧ Aside0 (tephraref08_May.l1 kq a0 x5_4 x7_6 a1_0 a1_1 a1_2 l1_3 a1_4 a1_5 a1_6 ((rd_T113 l1_3 x5_4).f0) ((rd_T113 l1_3 x5_4).f1) ((rd_T113 l1_3 x5_4).f2) = some r) ∧ Aside0 (kq ≤ kj39) ∧ Aside0 (w'.heap[gb118]? = some (.cells #[.int .i64 a1_0, .string a1_1, .int .u64 a1_2, (.slice (some ad120) l1_3.length c1_3), .int .u64 a1_4, .int .u64 a1_5, .string a1_6] 62 (0, 0))) ∧ Aside0 (w'.heap[gb121]? = some (.cells #[.string ((rd_T113 l1_3 x5_4).f0), .int .u64 ((rd_T113 l1_3 x5_4).f1), .bool ((rd_T113 l1_3 x5_4).f2)] 113 (0, 0))) ∧ Aside0 (Below w.heap.size w w'))
                                    case atStart => exact ⟨(0), (by first | rfl | (simp; done) | (simp [*]; done) | (simp; rw [Bool.eq_iff_iff]; simp; done)), H', ⟨Nat.le_refl _⟩, ⟨by (with_reducible repeat (first | refine blk_drewN ?_ _ | refine blk_drew ?_ | refine blk_alloc ?_ _)); exact BK118.out⟩, ⟨by (with_reducible repeat (first | refine blk_drewN ?_ _ | refine blk_drew ?_ | refine blk_alloc ?_ _)); exact BK121.out⟩, ⟨by repeat (first | (with_reducible first | exact HB.out | apply below_alloc | apply pw_below_drewN | apply below_drew1 | refine below_set ?_ GE118.out | refine below_set ?_ GE121.out) | exact HB.out)⟩⟩
                                    case round =>
                                      clear H'
                                      try clear c1
                                      try clear p1
                                      try clear q1
                                      try clear hx1
                                      try clear c2
                                      try clear p2
                                      try clear c3
                                      try clear c4
                                      try clear c5
                                      try clear c5b0
                                      try clear q5
                                      try clear c6
                                      try clear c6b0
                                      try clear c9
                                      try clear c10
                                      try clear c10b0
                                      try clear c10b1
                                      try clear c11
                                      try clear c11b0
                                      try clear c11b1
                                      try clear c12
                                      try clear c12b0
                                      try clear c12b1
                                      try clear c12b2
                                      try clear p12
                                      try clear q12
                                      try clear hx12
                                      try clear c13
                                      try clear c13b0
                                      try clear c13b1
                                      try clear c14
                                      try clear c14b0
                                      try clear c14b1
                                      try clear c22
                                      try clear c22b0
                                      try clear c22b1
                                      try clear c23
                                      try clear c23b0
                                      try clear c23b1
                                      try clear c27
                                      try clear c29
                                      try clear c29b0
                                      try clear c29b1
                                      try clear c30
                                      try clear c30b0
                                      try clear c30b1
                                      try clear c31
                                      try clear c31b0
                                      try clear c35
                                      try clear c35b0
                                      try clear c37
                                      try clear c38
                                      try clear c38b0
                                      try clear c39
                                      try clear c39b0
                                      try clear c43
                                      try clear c46
                                      try clear c47
                                      try clear c47b0
                                      try clear c47b1
                                      try clear c48
                                      try clear q51
                                      try clear c52
                                      try clear c53
                                      try clear c56
                                      try clear c59
                                      try clear c61
                                      try clear hcz15_0
                                      try clear hcz15_1
                                      try clear hcz15_2
                                      try clear hcz15_3
                                      try clear hcz15_4
                                      try clear hcz15_5
                                      try clear hcz15_6
                                      try clear hcz16_0
                                      try clear hcz16_1
                                      try clear hcz16_2
                                      try clear hcz16_3
                                      try clear hcz16_4
                                      try clear hcz16_5
                                      try clear hcz16_6
                                      try clear hcz17_0
                                      try clear hcz17_1
                                      try clear hcz17_2
                                      try clear hcz17_3
                                      try clear hcz17_4
                                      try clear hcz17_5
                                      try clear hcz17_6
                                      try clear hcz18_0
                                      try clear hcz18_1
                                      try clear hcz18_2
                                      try clear hcz18_3
                                      try clear hcz18_4
                                      try clear hcz18_5
                                      try clear hcz18_6
                                      try clear hcz19_0
                                      try clear hcz19_1
                                      try clear hcz19_2
                                      try clear hcz19_3
                                      try clear hcz19_4
                                      try clear hcz19_5
                                      try clear hcz19_6
                                      try clear hcz21_0
                                      try clear hcz21_1
                                      try clear hcz21_2
                                      try clear hcz21_3
                                      try clear hcz21_4
                                      try clear hcz21_5
                                      try clear hcz21_6
                                      try clear hcz24_0
                                      try clear hcz24_1
                                      try clear hcz24_2
                                      try clear hcz24_3
                                      try clear hcz24_4
                                      try clear hcz24_5
                                      try clear hcz24_6
                                      try clear hcz25_0
                                      try clear hcz25_1
                                      try clear hcz25_2
                                      try clear hcz25_3
                                      try clear hcz25_4
                                      try clear hcz25_5
                                      try clear hcz25_6
                                      try clear hcz26_0
                                      try clear hcz26_1
                                      try clear hcz26_2
                                      try clear hcz26_3
                                      try clear hcz26_4
                                      try clear hcz26_5
                                      try clear hcz26_6
                                      try clear hcz32_0
                                      try clear hcz32_1
                                      try clear hcz32_2
                                      try clear hcz32_3
                                      try clear hcz32_4
                                      try clear hcz32_5
                                      try clear hcz32_6
                                      try clear hcz33_0
                                      try clear hcz33_1
                                      try clear hcz33_2
                                      try clear hcz33_3
                                      try clear hcz33_4
                                      try clear hcz33_5
                                      try clear hcz33_6
                                      try clear hcz34_0
                                      try clear hcz34_1
                                      try clear hcz34_2
                                      try clear hcz34_3
                                      try clear hcz34_4
                                      try clear hcz34_5
                                      try clear hcz34_6
                                      try clear hcz36_0
                                      try clear hcz36_1
                                      try clear hcz36_2
                                      try clear hcz36_3
                                      try clear hcz36_4
                                      try clear hcz36_5
                                      try clear hcz36_6
                                      try clear hcz41_0
                                      try clear hcz41_1
                                      try clear hcz41_2
                                      try clear hcz41_3
                                      try clear hcz41_4
                                      try clear hcz41_5
                                      try clear hcz41_6
                                      try clear hcz44_0
                                      try clear hcz44_1
                                      try clear hcz44_2
                                      try clear hcz49_0
                                      try clear hcz49_1
                                      try clear hcz49_2
                                      try clear hcz50_0
                                      try clear hcz50_1
                                      try clear hcz50_2
                                      try clear hcz50_3
                                      try clear hcz50_4
                                      try clear hcz50_5
                                      try clear hcz50_6
                                      try clear hcz54_0
                                      try clear hcz54_1
                                      try clear hcz54_2
                                      try clear hcz55_0
                                      try clear hcz55_1
                                      try clear hcz55_2
                                      try clear hcz55_3
                                      try clear hcz55_4
                                      try clear hcz55_5
                                      try clear hcz55_6
                                      try clear hcz57_0
                                      try clear hcz57_1
                                      try clear hcz57_2
                                      try clear hcz58_0
                                      try clear hcz58_1
                                      try clear hcz58_2
                                      try clear hcz58_3
                                      try clear hcz58_4
                                      try clear hcz58_5
                                      try clear hcz58_6
                                      try clear hcz60_0
                                      try clear hcz60_1
                                      try clear hcz60_2
                                      try clear hcz8_0
                                      try clear hcz8_1
                                      try clear hcz8_2
                                      try clear hcz8_3
                                      try clear hcz8_4
                                      try clear hcz8_5
                                      try clear hcz8_6
                                      try clear hfz15_0
                                      try clear hfz15_1
                                      try clear hfz15_2
                                      try clear hfz15_3
                                      try clear hfz15_4
                                      try clear hfz15_5
                                      try clear hfz15_6
                                      try clear hfz16_0
                                      try clear hfz16_1
                                      try clear hfz16_2
                                      try clear hfz16_3
                                      try clear hfz16_4
                                      try clear hfz16_5
                                      try clear hfz16_6
                                      try clear hfz17_0
                                      try clear hfz17_1
                                      try clear hfz17_2
                                      try clear hfz17_3
                                      try clear hfz17_4
                                      try clear hfz17_5
                                      try clear hfz17_6
                                      try clear hfz18_0
                                      try clear hfz18_1
                                      try clear hfz18_2
                                      try clear hfz18_3
                                      try clear hfz18_4
                                      try clear hfz18_5
                                      try clear hfz18_6
                                      try clear hfz19_0
                                      try clear hfz19_1
                                      try clear hfz19_2
                                      try clear hfz19_3
                                      try clear hfz19_4
                                      try clear hfz19_5
                                      try clear hfz19_6
                                      try clear hfz21_0
                                      try clear hfz21_1
                                      try clear hfz21_2
                                      try clear hfz21_3
                                      try clear hfz21_4
                                      try clear hfz21_5
                                      try clear hfz21_6
                                      try clear hfz24_0
                                      try clear hfz24_1
                                      try clear hfz24_2
                                      try clear hfz24_3
                                      try clear hfz24_4
                                      try clear hfz24_5
                                      try clear hfz24_6
                                      try clear hfz25_0
                                      try clear hfz25_1
                                      try clear hfz25_2
                                      try clear hfz25_3
                                      try clear hfz25_4
                                      try clear hfz25_5
                                      try clear hfz25_6
                                      try clear hfz26_0
                                      try clear hfz26_1
                                      try clear hfz26_2
                                      try clear hfz26_3
                                      try clear hfz26_4
                                      try clear hfz26_5
                                      try clear hfz26_6
                                      try clear hfz32_0
                                      try clear hfz32_1
                                      try clear hfz32_2
                                      try clear hfz32_3
                                      try clear hfz32_4
                                      try clear hfz32_5
                                      try clear hfz32_6
                                      try clear hfz33_0
                                      try clear hfz33_1
                                      try clear hfz33_2
                                      try clear hfz33_3
                                      try clear hfz33_4
                                      try clear hfz33_5
                                      try clear hfz33_6
                                      try clear hfz34_0
                                      try clear hfz34_1
                                      try clear hfz34_2
                                      try clear hfz34_3
                                      try clear hfz34_4
                                      try clear hfz34_5
                                      try clear hfz34_6
                                      try clear hfz36_0
                                      try clear hfz36_1
                                      try clear hfz36_2
                                      try clear hfz36_3
                                      try clear hfz36_4
                                      try clear hfz36_5
                                      try clear hfz36_6
                                      try clear hfz41_0
                                      try clear hfz41_1
                                      try clear hfz41_2
                                      try clear hfz41_3
                                      try clear hfz41_4
                                      try clear hfz41_5
                                      try clear hfz41_6
                                      try clear hfz44_0
                                      try clear hfz44_1
                                      try clear hfz44_2
                                      try clear hfz49_0
                                      try clear hfz49_1
                                      try clear hfz49_2
                                      try clear hfz50_0
                                      try clear hfz50_1
                                      try clear hfz50_2
                                      try clear hfz50_3
                                      try clear hfz50_4
                                      try clear hfz50_5
                                      try clear hfz50_6
                                      try clear hfz54_0
                                      try clear hfz54_1
                                      try clear hfz54_2
                                      try clear hfz55_0
                                      try clear hfz55_1
                                      try clear hfz55_2
                                      try clear hfz55_3
                                      try clear hfz55_4
                                      try clear hfz55_5
                                      try clear hfz55_6
                                      try clear hfz57_0
                                      try clear hfz57_1
                                      try clear hfz57_2
                                      try clear hfz58_0
                                      try clear hfz58_1
                                      try clear hfz58_2
                                      try clear hfz58_3
                                      try clear hfz58_4
                                      try clear hfz58_5
                                      try clear hfz58_6
                                      try clear hfz60_0
                                      try clear hfz60_1
                                      try clear hfz60_2
                                      try clear hfz8_0
                                      try clear hfz8_1
                                      try clear hfz8_2
                                      try clear hfz8_3
                                      try clear hfz8_4
                                      try clear hfz8_5
                                      try clear hfz8_6
                                      try clear hx120_0
                                      try clear hx120_1
                                      try clear hx120_2
                                      try clear p1
                                      try clear p12
                                      try clear p120
                                      try clear p2
                                      try clear q1
                                      try clear q12
                                      try clear q120
                                      try clear q5
                                      try clear q51
                                      obtain ⟨x7_6, rfl, HA, HK6, BK118, BK121, HB⟩ := hrel
                                      cases gk with
                                      | zero => exact absurd HA.out (by simp [tephraref08_May.l1])
                                      | succ k6 =>
                                        have H := HA.out
                                        clear HA
                                        simp only [tephraref08_May.l1] at H
                                        by_cases c62 : x7_6 < x5_4
                                        · rw [if_pos c62] at H
                                          have c62b0 : decide (x7_6 < x5_4) = true := decide_eq_true c62
                                          clear c62
                                          by_cases c63 : 0 ≤ x7_6
                                          · rw [if_pos c63] at H
                                            have c63b0 : decide (0 ≤ x7_6) = true := decide_eq_true c63
                                            clear c63
                                            by_cases c64 : x7_6 < (l1_3.length : Int)
                                            · rw [if_pos c64] at H
                                              have c64b0 : decide (x7_6 < (l1_3.length : Int)) = true := decide_eq_true c64
                                              clear c64
                                              by_cases c65 : ((rd_T113 l1_3 x7_6).f0).toList = ((rd_T113 l1_3 x5_4).f0).toList
                                              · rw [if_pos c65] at H
                                                have c65b0 : (((rd_T113 l1_3 x7_6).f0).toList == ((rd_T113 l1_3 x5_4).f0).toList) = true := beq_iff_eq.mpr c65
                                                have c65b1 : (((rd_T113 l1_3 x7_6).f0).toList != ((rd_T113 l1_3 x5_4).f0).toList) = false := bne_eq_false_iff_eq.mpr c65
                                                clear c65
                                                obtain rfl := Option.some.inj H
                                                have hnb66 := NB118_121.out
                                                have hnc66 := NB121_118.out
                                                have hcz67_0 : wr.cell? ⟨gb118, 0, none⟩ = some (.int .i64 a1_0) := (blk_cell BK118.out 0).trans rfl
                                                have hcz67_1 : wr.cell? ⟨gb118, 1, none⟩ = some (.string a1_1) := (blk_cell BK118.out 1).trans rfl
                                                have hcz67_2 : wr.cell? ⟨gb118, 2, none⟩ = some (.int .u64 a1_2) := (blk_cell BK118.out 2).trans rfl
                                                have hcz67_3 : wr.cell? ⟨gb118, 3, none⟩ = some (.slice (some ad120) l1_3.length c1_3) := (blk_cell BK118.out 3).trans rfl
                                                have hcz67_4 : wr.cell? ⟨gb118, 4, none⟩ = some (.int .u64 a1_4) := (blk_cell BK118.out 4).trans rfl
                                                have hcz67_5 : wr.cell? ⟨gb118, 5, none⟩ = some (.int .u64 a1_5) := (blk_cell BK118.out 5).trans rfl
                                                have hcz67_6 : wr.cell? ⟨gb118, 6, none⟩ = some (.string a1_6) := (blk_cell BK118.out 6).trans rfl
                                                have hfz67_0 := blk_frozen BK118.out 0
                                                have hfz67_1 := blk_frozen BK118.out 1
                                                have hfz67_2 := blk_frozen BK118.out 2
                                                have hfz67_3 := blk_frozen BK118.out 3
                                                have hfz67_4 := blk_frozen BK118.out 4
                                                have hfz67_5 := blk_frozen BK118.out 5
                                                have hfz67_6 := blk_frozen BK118.out 6
                                                have p123 : 0 ≤ (x7_6 : Int) := of_decide_eq_true (by first | (with_reducible assumption) | assumption)
                                                have q123 : x7_6 < (l1_3.length : Int) := of_decide_eq_true (by first | (with_reducible assumption) | assumption)
                                                obtain ⟨ad123, e123, hx123_0, hx123_1, hx123_2⟩ := at_T113 HR1_3.out x7_6 p123 q123
                                                obtain rfl : ad120 = ad123 := (by injection e123)
                                                replace hx123_0 := (HB.out.cell (World.block_lt_of_cell? w _ hx123_0)).trans hx123_0
                                                replace hx123_1 := (HB.out.cell (World.block_lt_of_cell? w _ hx123_1)).trans hx123_1
                                                replace hx123_2 := (HB.out.cell (World.block_lt_of_cell? w _ hx123_2)).trans hx123_2
                                                replace p123 := eq_true p123
                                                replace q123 := eq_true q123
                                                have hcz68_0 : wr.cell? ⟨gb121, 0, none⟩ = some (.string ((rd_T113 l1_3 x5_4).f0)) := (blk_cell BK121.out 0).trans rfl
                                                have hcz68_1 : wr.cell? ⟨gb121, 1, none⟩ = some (.int .u64 ((rd_T113 l1_3 x5_4).f1)) := (blk_cell BK121.out 1).trans rfl
                                                have hcz68_2 : wr.cell? ⟨gb121, 2, none⟩ = some (.bool ((rd_T113 l1_3 x5_4).f2)) := (blk_cell BK121.out 2).trans rfl
                                                have hfz68_0 := blk_frozen BK121.out 0
                                                have hfz68_1 := blk_frozen BK121.out 1
                                                have hfz68_2 := blk_frozen BK121.out 2
                                                go_wp2
                                                repeat (go_quiet (fail); try go_wp2)
                                                go_ret
                                                exact ⟨by first | rfl | (simp [errW_none, errW_some] <;> rfl) | (simp [*, errW_none, errW_some] <;> rfl), by repeat (first | (with_reducible first | exact HB.out | apply below_alloc | apply pw_below_drewN | apply below_drew1 | refine below_set ?_ GE118.out | refine below_set ?_ GE121.out) | exact HB.out)⟩
                                              · rw [if_neg c65] at H
                                                have c65b0 : (((rd_T113 l1_3 x7_6).f0).toList == ((rd_T113 l1_3 x5_4).f0).toList) = false := beq_eq_false_iff_ne.mpr c65
                                                have c65b1 : (((rd_T113 l1_3 x7_6).f0).toList != ((rd_T113 l1_3 x5_4).f0).toList) = true := bne_iff_ne.mpr c65
                                                have H' := Aside0.mk H
                                                clear H
                                                have hnb69 := NB118_121.out
                                                have hnc69 := NB121_118.out
                                                have hcz70_0 : wr.cell? ⟨gb118, 0, none⟩ = some (.int .i64 a1_0) := (blk_cell BK118.out 0).trans rfl
                                                have hcz70_1 : wr.cell? ⟨gb118, 1, none⟩ = some (.string a1_1) := (blk_cell BK118.out 1).trans rfl
                                                have hcz70_2 : wr.cell? ⟨gb118, 2, none⟩ = some (.int .u64 a1_2) := (blk_cell BK118.out 2).trans rfl
                                                have hcz70_3 : wr.cell? ⟨gb118, 3, none⟩ = some (.slice (some ad120) l1_3.length c1_3) := (blk_cell BK118.out 3).trans rfl
                                                have hcz70_4 : wr.cell? ⟨gb118, 4, none⟩ = some (.int .u64 a1_4) := (blk_cell BK118.out 4).trans rfl
                                                have hcz70_5 : wr.cell? ⟨gb118, 5, none⟩ = some (.int .u64 a1_5) := (blk_cell BK118.out 5).trans rfl
                                                have hcz70_6 : wr.cell? ⟨gb118, 6, none⟩ = some (.string a1_6) := (blk_cell BK118.out 6).trans rfl
                                                have hfz70_0 := blk_frozen BK118.out 0
                                                have hfz70_1 := blk_frozen BK118.out 1
                                                have hfz70_2 := blk_frozen BK118.out 2
                                                have hfz70_3 := blk_frozen BK118.out 3
                                                have hfz70_4 := blk_frozen BK118.out 4
                                                have hfz70_5 := blk_frozen BK118.out 5
                                                have hfz70_6 := blk_frozen BK118.out 6
                                                have p123 : 0 ≤ (x7_6 : Int) := of_decide_eq_true (by first | (with_reducible assumption) | assumption)
                                                have q123 : x7_6 < (l1_3.length : Int) := of_decide_eq_true (by first | (with_reducible assumption) | assumption)
                                                obtain ⟨ad123, e123, hx123_0, hx123_1, hx123_2⟩ := at_T113 HR1_3.out x7_6 p123 q123
                                                obtain rfl : ad120 = ad123 := (by injection e123)
                                                replace hx123_0 := (HB.out.cell (World.block_lt_of_cell? w _ hx123_0)).trans hx123_0
                                                replace hx123_1 := (HB.out.cell (World.block_lt_of_cell? w _ hx123_1)).trans hx123_1
                                                replace hx123_2 := (HB.out.cell (World.block_lt_of_cell? w _ hx123_2)).trans hx123_2
                                                replace p123 := eq_true p123
                                                replace q123 := eq_true q123
                                                have hcz71_0 : wr.cell? ⟨gb121, 0, none⟩ = some (.string ((rd_T113 l1_3 x5_4).f0)) := (blk_cell BK121.out 0).trans rfl
                                                have hcz71_1 : wr.cell? ⟨gb121, 1, none⟩ = some (.int .u64 ((rd_T113 l1_3 x5_4).f1)) := (blk_cell BK121.out 1).trans rfl
                                                have hcz71_2 : wr.cell? ⟨gb121, 2, none⟩ = some (.bool ((rd_T113 l1_3 x5_4).f2)) := (blk_cell BK121.out 2).trans rfl
                                                have hfz71_0 := blk_frozen BK121.out 0
                                                have hfz71_1 := blk_frozen BK121.out 1
                                                have hfz71_2 := blk_frozen BK121.out 2
                                                go_wp2
                                                repeat (go_quiet (fail); try go_wp2)
                                                go_roundg k6
                                                case measure => have := HJ2.out; have := HJ19.out; have := HJ27.out; have := HK4.out; have := HJ39.out; have := HK6.out; omega
                                                case rel => exact ⟨(wrap64 (x7_6 + 1)), (by first | rfl | (simp; done) | (simp [*]; done) | (simp; rw [Bool.eq_iff_iff]; simp; done)), H', ⟨by have := HJ2.out; have := HJ19.out; have := HJ27.out; have := HK4.out; have := HJ39.out; have := HK6.out; omega⟩, ⟨by (with_reducible repeat (first | refine blk_drewN ?_ _ | refine blk_drew ?_ | refine blk_alloc ?_ _)); exact BK118.out⟩, ⟨by (with_reducible repeat (first | refine blk_drewN ?_ _ | refine blk_drew ?_ | refine blk_alloc ?_ _)); exact BK121.out⟩, ⟨by repeat (first | (with_reducible first | exact HB.out | apply below_alloc | apply pw_below_drewN | apply below_drew1 | refine below_set ?_ GE118.out | refine below_set ?_ GE121.out) | exact HB.out)⟩⟩
                                            · rw [if_neg c64] at H
                                              exact absurd H (by simp)
                                          · rw [if_neg c63] at H
                                            exact absurd H (by simp)
                                        · rw [if_neg c62] at H
                                          have c62b0 : decide (x7_6 < x5_4) = false := decide_eq_false c62
                                          clear c62
                                          have H' := Aside0.mk H
                                          clear H
                                          go_wp2
                                          repeat (go_quiet (fail); try go_wp2)
                                          go_roundg k6
                                          case measure => have := HJ2.out; have := HJ19.out; have := HJ27.out; have := HK4.out; have := HJ39.out; have := HK6.out; omega
                                          case rel => exact ⟨(wrap64 (x5_4 + 1)), (by first | rfl | (simp; done) | (simp [*]; done) | (simp; rw [Bool.eq_iff_iff]; simp; done)), H', ⟨by have := HJ2.out; have := HJ19.out; have := HJ27.out; have := HK4.out; have := HJ39.out; have := HK6.out; omega⟩, ⟨by (with_reducible repeat (first | refine blk_drewN ?_ _ | refine blk_drew ?_ | refine blk_alloc ?_ _)); exact BK118.out⟩, ⟨by repeat (first | (with_reducible first | exact HB.out | apply below_alloc | apply pw_below_drewN | apply below_drew1 | refine below_set ?_ GE118.out | refine below_set ?_ GE121.out) | exact HB.out)⟩⟩
                            · rw [if_neg c39] at H
                              exact absurd H (by simp)
                          · rw [if_neg c38] at H
                            have c38b0 : decide (x5_4 < (l1_3.length : Int)) = false := decide_eq_false c38
                            clear c38
                            obtain rfl := Option.some.inj H
                            have hcz72_0 : wr.cell? ⟨gb118, 0, none⟩ = some (.int .i64 a1_0) := (blk_cell BK118.out 0).trans rfl
                            have hcz72_1 : wr.cell? ⟨gb118, 1, none⟩ = some (.string a1_1) := (blk_cell BK118.out 1).trans rfl
                            have hcz72_2 : wr.cell? ⟨gb118, 2, none⟩ = some (.int .u64 a1_2) := (blk_cell BK118.out 2).trans rfl
                            have hcz72_3 : wr.cell? ⟨gb118, 3, none⟩ = some (.slice A1_3 l1_3.length c1_3) := (blk_cell BK118.out 3).trans rfl
                            have hcz72_4 : wr.cell? ⟨gb118, 4, none⟩ = some (.int .u64 a1_4) := (blk_cell BK118.out 4).trans rfl
                            have hcz72_5 : wr.cell? ⟨gb118, 5, none⟩ = some (.int .u64 a1_5) := (blk_cell BK118.out 5).trans rfl
                            have hcz72_6 : wr.cell? ⟨gb118, 6, none⟩ = some (.string a1_6) := (blk_cell BK118.out 6).trans rfl
                            have hfz72_0 := blk_frozen BK118.out 0
                            have hfz72_1 := blk_frozen BK118.out 1
                            have hfz72_2 := blk_frozen BK118.out 2
                            have hfz72_3 := blk_frozen BK118.out 3
                            have hfz72_4 := blk_frozen BK118.out 4
                            have hfz72_5 := blk_frozen BK118.out 5
                            have hfz72_6 := blk_frozen BK118.out 6
                            go_wp2
                            repeat (go_quiet (fail); try go_wp2)
                            go_ret
                            exact ⟨by first | rfl | (simp [errW_none, errW_some] <;> rfl) | (simp [*, errW_none, errW_some] <;> rfl), by repeat (first | (with_reducible first | exact HB.out | apply below_alloc | apply pw_below_drewN | apply below_drew1 | refine below_set ?_ GE118.out) | exact HB.out)⟩

end Go.Proofs.Ytfflenbfapgilaa.GRR
