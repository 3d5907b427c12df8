/- Texts laid as one: MigR, RecL, MigT, MigS, MigM, MigN, MigU, RecR. -/
import Derived.Test.YthpbkhagjgggjaaRecF
import Derived.Test.YthpbkhagjgggjaaGRRx7
import Derived.Laws.EntriesVeiled
import Derived.Test.YthpbkhagjgggjaaRecP
import Derived.Test.YthpbkhagjgggjaaGRRx6
set_option linter.unusedVariables false
set_option linter.unusedSimpArgs false
/- What the document's step of a move answers. -/
namespace Go.Proofs.Ythpbkhagjgggjaa
open Go.RowKit Go.Proofs.YthpbkhagjgggjaaW.PrintWords Go.Proofs.Ythpbkhagjgggjaa.GRR

def oldB : ByteArray := ⟨#[111, 108, 100]⟩
section
variable (v k0 : Int) (t : ByteArray) (rule : Int) (A : Option Addr) (c : Nat) (l : List S76) (out when : Int) (tag : ByteArray) (w : World)
theorem refMay_any (hr : Kd.C k76 w A l.length l) (hc : l.length ≤ c) (hok : RecOk t l tag) :
    Calls Try.prog 48 #[.int .i64 v, .agg #[.int .i64 k0, .string t, .int .u64 rule, .slice A l.length c, .int .u64 out, .int .u64 when, .string tag]] w fun e w' => e = .returned (.bool (mayB v k0 t rule l out when tag)) ∧ Below w.heap.size w w' :=
  tephraref08_May.calls 1100000 v k0 t rule A c l out when tag _ w hr hc (ref_May_is v k0 t rule l out when tag hok _ (Nat.le_refl _))
theorem blk_put7 {w : World} {g : Nat} {t : TypeId} {a0 a1 a2 a3 a4 a5 a6 : Value} (h : w.heap[g]? = some (.cells #[a0, a1, a2, a3, a4, a5, a6] t (0, 0))) (v0 v1 v2 v3 v4 v5 v6 : Value) :
    (((((((w.setCell ⟨g, 0, none⟩ v0).setCell ⟨g, 1, none⟩ v1).setCell ⟨g, 2, none⟩ v2).setCell ⟨g, 3, none⟩ v3).setCell ⟨g, 4, none⟩ v4).setCell ⟨g, 5, none⟩ v5).setCell ⟨g, 6, none⟩ v6).heap[g]? = some (.cells #[v0, v1, v2, v3, v4, v5, v6] t (0, 0)) := by
  have h0 := blk_put (cs' := #[v0, a1, a2, a3, a4, a5, a6]) h 0 v0 rfl
  have h1 := blk_put (cs' := #[v0, v1, a2, a3, a4, a5, a6]) h0 1 v1 rfl
  have h2 := blk_put (cs' := #[v0, v1, v2, a3, a4, a5, a6]) h1 2 v2 rfl
  have h3 := blk_put (cs' := #[v0, v1, v2, v3, a4, a5, a6]) h2 3 v3 rfl
  have h4 := blk_put (cs' := #[v0, v1, v2, v3, v4, a5, a6]) h3 4 v4 rfl
  have h5 := blk_put (cs' := #[v0, v1, v2, v3, v4, v5, a6]) h4 5 v5 rfl
  have h6 := blk_put (cs' := #[v0, v1, v2, v3, v4, v5, v6]) h5 6 v6 rfl
  exact h6
theorem below_put7 {B : Nat} {w0 w : World} {g : Nat} (h : Below B w0 w) (hg : B ≤ g) (v0 v1 v2 v3 v4 v5 v6 : Value) :
    Below B w0 (((((((w.setCell ⟨g, 0, none⟩ v0).setCell ⟨g, 1, none⟩ v1).setCell ⟨g, 2, none⟩ v2).setCell ⟨g, 3, none⟩ v3).setCell ⟨g, 4, none⟩ v4).setCell ⟨g, 5, none⟩ v5).setCell ⟨g, 6, none⟩ v6) :=
  ((((((h.setCell (p := ⟨g, 0, none⟩) hg v0).setCell (p := ⟨g, 1, none⟩) hg v1).setCell (p := ⟨g, 2, none⟩) hg v2).setCell (p := ⟨g, 3, none⟩) hg v3).setCell (p := ⟨g, 4, none⟩) hg v4).setCell (p := ⟨g, 5, none⟩) hg v5).setCell (p := ⟨g, 6, none⟩) hg v6
def stpW (k0 v when : Int) : Int := if k0 = 1 ∧ v = 1 then 1 else when
def stpT (k0 v : Int) (tag : ByteArray) : ByteArray := if k0 = 1 ∧ v = 2 then oldB else tag
set_option maxHeartbeats 2000000 in
set_option maxRecDepth 100000 in
theorem rstep_any (hr : Kd.C k76 w A l.length l) (hc : l.length ≤ c) (hok : RecOk t l tag) :
    Calls Try.prog 57 #[.int .i64 v, .agg #[.int .i64 k0, .string t, .int .u64 rule, .slice A l.length c, .int .u64 out, .int .u64 when, .string tag]] w fun e w' =>
      e = .returned (if v = 1 ∨ v = 2 then (if mayB v k0 t rule l out when tag = true then .tuple #[.agg #[.int .i64 k0, .string t, .int .u64 rule, .slice A l.length c, .int .u64 out, .int .u64 (stpW k0 v when), .string (stpT k0 v tag)], .int .i64 0] else .tuple #[.agg #[.int .i64 0, .string ⟨#[]⟩, .int .u64 0, .slice none 0 0, .int .u64 0, .int .u64 0, .string ⟨#[]⟩], .int .i64 1]) else .tuple #[.agg #[.int .i64 0, .string ⟨#[]⟩, .int .u64 0, .slice none 0 0, .int .u64 0, .int .u64 0, .string ⟨#[]⟩], .int .i64 11]) ∧ Below w.heap.size w w' := by
  obtain ⟨w1, hw1⟩ : ∃ w1, (w.alloc (.cells #[.int .i64 k0, .string t, .int .u64 rule, .slice A l.length c, .int .u64 out, .int .u64 when, .string tag] 70)).alloc (.cells #[.int .i64 0, .string ⟨#[]⟩, .int .u64 0, .slice none 0 0, .int .u64 0, .int .u64 0, .string ⟨#[]⟩] 70) = w1 := ⟨_, rfl⟩
  have hb1 : Below w.heap.size w w1 := by rw [← hw1]; exact ((Below.refl _ _).alloc (Nat.le_refl _) _).alloc (by rw [heap_size_alloc]; omega) _
  have hC1 := Kd.C_below hr hb1
  have HMY := Lib.hid (refMay_any v k0 t rule A c l out when tag w1 hC1 hc hok)
  obtain ⟨M, hM⟩ : ∃ M, mayB v k0 t rule l out when tag = M := ⟨_, rfl⟩
  rw [hM] at HMY ⊢
  have hk0 : w1.heap[w.heap.size]? = some (.cells #[.int .i64 k0, .string t, .int .u64 rule, .slice A l.length c, .int .u64 out, .int .u64 when, .string tag] 70 (0, 0)) := by
    rw [← hw1, heap_new_old _ _ _ (by rw [heap_size_alloc]; omega)]; exact heap_new _ _
  have hk1 : w1.heap[w.heap.size + 1]? = some (.cells #[.int .i64 0, .string ⟨#[]⟩, .int .u64 0, .slice none 0 0, .int .u64 0, .int .u64 0, .string ⟨#[]⟩] 70 (0, 0)) := by
    rw [← hw1]; have := heap_new (w.alloc (.cells #[.int .i64 k0, .string t, .int .u64 rule, .slice A l.length c, .int .u64 out, .int .u64 when, .string tag] 70)) (.cells #[.int .i64 0, .string ⟨#[]⟩, .int .u64 0, .slice none 0 0, .int .u64 0, .int .u64 0, .string ⟨#[]⟩] 70); rwa [heap_size_alloc] at this
  have HU := Lib.hid (Try.underlying70)
  obtain ⟨b0, hb0⟩ : ∃ b, w.heap.size = b := ⟨_, rfl⟩
  obtain ⟨b1, hbb1⟩ : ∃ b, w.heap.size + 1 = b := ⟨_, rfl⟩
  rw [hb0] at hk0
  rw [hbb1] at hk1
  have hne : b1 ≠ b0 := by omega
  have hne2 : b0 ≠ b1 := by omega
  have hg0 : w.heap.size ≤ b0 := by omega
  have hg1 : w.heap.size ≤ b1 := by omega
  have HB0 := Lib.hid hb0
  have HBB1 := Lib.hid hbb1
  have HG := Lib.hid (And.intro hg0 hg1)
  have HK0 := Lib.hid hk0
  have HK1 := Lib.hid hk1
  have HW1 := Lib.hid hw1
  have HB1 := Lib.hid hb1
  clear hr hok hb1 hC1 hM hw1 hk0 hk1 hb0 hbb1 hg0 hg1
  by_cases hv : v = 1 ∨ v = 2
  · rw [if_pos hv]
    have hvb : (v != 1 && v != 2) = false := by rcases hv with rfl | rfl <;> rfl
    cases M with
    | false =>
      rw [if_neg (by simp)]
      rcases hv with rfl | rfl
      all_goals
        go_enter Try.func57, Try.ntmps57
        go_wp2_with fail
        rw [HW1.out, HBB1.out, HB0.out]
        refine HMY.out.mono ?_
        rintro e w2 ⟨rfl, hb2⟩
        have hk3 := blk_below HK1.out hb2
        have z0 : w2.cell? ⟨b1, 0, none⟩ = some (.int .i64 0) := (blk_cell hk3 0).trans rfl
        have z1 : w2.cell? ⟨b1, 1, none⟩ = some (.string ⟨#[]⟩) := (blk_cell hk3 1).trans rfl
        have z2 : w2.cell? ⟨b1, 2, none⟩ = some (.int .u64 0) := (blk_cell hk3 2).trans rfl
        have z3 : w2.cell? ⟨b1, 3, none⟩ = some (.slice none 0 0) := (blk_cell hk3 3).trans rfl
        have z4 : w2.cell? ⟨b1, 4, none⟩ = some (.int .u64 0) := (blk_cell hk3 4).trans rfl
        have z5 : w2.cell? ⟨b1, 5, none⟩ = some (.int .u64 0) := (blk_cell hk3 5).trans rfl
        have z6 : w2.cell? ⟨b1, 6, none⟩ = some (.string ⟨#[]⟩) := (blk_cell hk3 6).trans rfl
        have zf0 := blk_frozen hk3 0
        have zf1 := blk_frozen hk3 1
        have zf2 := blk_frozen hk3 2
        have zf3 := blk_frozen hk3 3
        have zf4 := blk_frozen hk3 4
        have zf5 := blk_frozen hk3 5
        have zf6 := blk_frozen hk3 6
        go_wp2_with fail
        refine bodyPost_ret (results_ct rfl _ _ b1 70 #[_, _, _, _, _, _, _] (0, 0) _ rfl (blk_put7 hk3 _ _ _ _ _ _ _) HU.out rfl (by kernel_rfl)) rfl ?_
        exact ⟨rfl, below_put7 (HB1.out.trans (hb2.mono HB1.out.size)) HG.out.2 _ _ _ _ _ _ _⟩
    | true =>
      rw [if_pos rfl]
      by_cases hk : k0 = 1
      · subst hk
        rcases hv with rfl | rfl
        all_goals
          go_enter Try.func57, Try.ntmps57
          go_wp2_with fail
          rw [HW1.out, HBB1.out, HB0.out]
          refine HMY.out.mono ?_
          rintro e w2 ⟨rfl, hb2⟩
          have hk3 := blk_below HK1.out hb2
          have hk4 := blk_below HK0.out hb2
          have z0 : w2.cell? ⟨b1, 0, none⟩ = some (.int .i64 0) := (blk_cell hk3 0).trans rfl
          have z1 : w2.cell? ⟨b1, 1, none⟩ = some (.string ⟨#[]⟩) := (blk_cell hk3 1).trans rfl
          have z2 : w2.cell? ⟨b1, 2, none⟩ = some (.int .u64 0) := (blk_cell hk3 2).trans rfl
          have z3 : w2.cell? ⟨b1, 3, none⟩ = some (.slice none 0 0) := (blk_cell hk3 3).trans rfl
          have z4 : w2.cell? ⟨b1, 4, none⟩ = some (.int .u64 0) := (blk_cell hk3 4).trans rfl
          have z5 : w2.cell? ⟨b1, 5, none⟩ = some (.int .u64 0) := (blk_cell hk3 5).trans rfl
          have z6 : w2.cell? ⟨b1, 6, none⟩ = some (.string ⟨#[]⟩) := (blk_cell hk3 6).trans rfl
          have zf0 := blk_frozen hk3 0
          have zf1 := blk_frozen hk3 1
          have zf2 := blk_frozen hk3 2
          have zf3 := blk_frozen hk3 3
          have zf4 := blk_frozen hk3 4
          have zf5 := blk_frozen hk3 5
          have zf6 := blk_frozen hk3 6
          have y0 : w2.cell? ⟨b0, 0, none⟩ = some (.int .i64 1) := (blk_cell hk4 0).trans rfl
          have y1 : w2.cell? ⟨b0, 1, none⟩ = some (.string t) := (blk_cell hk4 1).trans rfl
          have y2 : w2.cell? ⟨b0, 2, none⟩ = some (.int .u64 rule) := (blk_cell hk4 2).trans rfl
          have y3 : w2.cell? ⟨b0, 3, none⟩ = some (.slice A l.length c) := (blk_cell hk4 3).trans rfl
          have y4 : w2.cell? ⟨b0, 4, none⟩ = some (.int .u64 out) := (blk_cell hk4 4).trans rfl
          have y5 : w2.cell? ⟨b0, 5, none⟩ = some (.int .u64 when) := (blk_cell hk4 5).trans rfl
          have y6 : w2.cell? ⟨b0, 6, none⟩ = some (.string tag) := (blk_cell hk4 6).trans rfl
          have yf0 := blk_frozen hk4 0
          have yf1 := blk_frozen hk4 1
          have yf2 := blk_frozen hk4 2
          have yf3 := blk_frozen hk4 3
          have yf4 := blk_frozen hk4 4
          have yf5 := blk_frozen hk4 5
          have yf6 := blk_frozen hk4 6
          go_wp2_with fail
          refine bodyPost_ret (results_ct rfl _ _ b1 70 #[_, _, _, _, _, _, _] (0, 0) _ rfl (blk_put7 ((Below.heap_setCell _ _ _ _ hne).trans hk3) _ _ _ _ _ _ _) HU.out rfl (by kernel_rfl)) rfl ?_
          exact ⟨rfl, below_put7 ((HB1.out.trans (hb2.mono HB1.out.size)).setCell (p := ⟨b0, _, none⟩) HG.out.1 _) HG.out.2 _ _ _ _ _ _ _⟩
      · have hkb : (k0 == 1) = false := by simp [hk]
        rcases hv with rfl | rfl
        all_goals
          go_enter Try.func57, Try.ntmps57
          go_wp2_with fail
          rw [HW1.out, HBB1.out, HB0.out]
          refine HMY.out.mono ?_
          rintro e w2 ⟨rfl, hb2⟩
          have hk3 := blk_below HK1.out hb2
          have hk4 := blk_below HK0.out hb2
          have z0 : w2.cell? ⟨b1, 0, none⟩ = some (.int .i64 0) := (blk_cell hk3 0).trans rfl
          have z1 : w2.cell? ⟨b1, 1, none⟩ = some (.string ⟨#[]⟩) := (blk_cell hk3 1).trans rfl
          have z2 : w2.cell? ⟨b1, 2, none⟩ = some (.int .u64 0) := (blk_cell hk3 2).trans rfl
          have z3 : w2.cell? ⟨b1, 3, none⟩ = some (.slice none 0 0) := (blk_cell hk3 3).trans rfl
          have z4 : w2.cell? ⟨b1, 4, none⟩ = some (.int .u64 0) := (blk_cell hk3 4).trans rfl
          have z5 : w2.cell? ⟨b1, 5, none⟩ = some (.int .u64 0) := (blk_cell hk3 5).trans rfl
          have z6 : w2.cell? ⟨b1, 6, none⟩ = some (.string ⟨#[]⟩) := (blk_cell hk3 6).trans rfl
          have zf0 := blk_frozen hk3 0
          have zf1 := blk_frozen hk3 1
          have zf2 := blk_frozen hk3 2
          have zf3 := blk_frozen hk3 3
          have zf4 := blk_frozen hk3 4
          have zf5 := blk_frozen hk3 5
          have zf6 := blk_frozen hk3 6
          have y0 : w2.cell? ⟨b0, 0, none⟩ = some (.int .i64 k0) := (blk_cell hk4 0).trans rfl
          have y1 : w2.cell? ⟨b0, 1, none⟩ = some (.string t) := (blk_cell hk4 1).trans rfl
          have y2 : w2.cell? ⟨b0, 2, none⟩ = some (.int .u64 rule) := (blk_cell hk4 2).trans rfl
          have y3 : w2.cell? ⟨b0, 3, none⟩ = some (.slice A l.length c) := (blk_cell hk4 3).trans rfl
          have y4 : w2.cell? ⟨b0, 4, none⟩ = some (.int .u64 out) := (blk_cell hk4 4).trans rfl
          have y5 : w2.cell? ⟨b0, 5, none⟩ = some (.int .u64 when) := (blk_cell hk4 5).trans rfl
          have y6 : w2.cell? ⟨b0, 6, none⟩ = some (.string tag) := (blk_cell hk4 6).trans rfl
          have yf0 := blk_frozen hk4 0
          have yf1 := blk_frozen hk4 1
          have yf2 := blk_frozen hk4 2
          have yf3 := blk_frozen hk4 3
          have yf4 := blk_frozen hk4 4
          have yf5 := blk_frozen hk4 5
          have yf6 := blk_frozen hk4 6
          go_wp2_with fail
          refine bodyPost_ret (results_ct rfl _ _ b1 70 #[_, _, _, _, _, _, _] (0, 0) _ rfl (blk_put7 hk3 _ _ _ _ _ _ _) HU.out rfl (by kernel_rfl)) rfl ?_
          exact ⟨by simp [stpW, stpT, hk], below_put7 (HB1.out.trans (hb2.mono HB1.out.size)) HG.out.2 _ _ _ _ _ _ _⟩
  · rw [if_neg hv]
    have hv1 : (v != 1) = true := by simp; intro h; exact hv (.inl h)
    have hv2 : (v != 2) = true := by simp; intro h; exact hv (.inr h)
    have hk3 := HK1.out
    have z0 : w1.cell? ⟨b1, 0, none⟩ = some (.int .i64 0) := (blk_cell hk3 0).trans rfl
    have z1 : w1.cell? ⟨b1, 1, none⟩ = some (.string ⟨#[]⟩) := (blk_cell hk3 1).trans rfl
    have z2 : w1.cell? ⟨b1, 2, none⟩ = some (.int .u64 0) := (blk_cell hk3 2).trans rfl
    have z3 : w1.cell? ⟨b1, 3, none⟩ = some (.slice none 0 0) := (blk_cell hk3 3).trans rfl
    have z4 : w1.cell? ⟨b1, 4, none⟩ = some (.int .u64 0) := (blk_cell hk3 4).trans rfl
    have z5 : w1.cell? ⟨b1, 5, none⟩ = some (.int .u64 0) := (blk_cell hk3 5).trans rfl
    have z6 : w1.cell? ⟨b1, 6, none⟩ = some (.string ⟨#[]⟩) := (blk_cell hk3 6).trans rfl
    have zf0 := blk_frozen hk3 0
    have zf1 := blk_frozen hk3 1
    have zf2 := blk_frozen hk3 2
    have zf3 := blk_frozen hk3 3
    have zf4 := blk_frozen hk3 4
    have zf5 := blk_frozen hk3 5
    have zf6 := blk_frozen hk3 6
    go_enter Try.func57, Try.ntmps57
    go_wp2_with fail
    rw [HW1.out, HBB1.out, HB0.out]
    refine bodyPost_ret (results_ct rfl _ _ b1 70 #[_, _, _, _, _, _, _] (0, 0) _ rfl hk3 HU.out rfl (by kernel_rfl)) rfl ?_
    exact ⟨rfl, HB0.out ▸ HB1.out⟩
end
end Go.Proofs.Ythpbkhagjgggjaa
/- From one version to the next: what the moves of a record come to. -/
namespace Go.Proofs.Ythpbkhagjgggjaa
open Go.RowKit Go.Proofs.YthpbkhagjgggjaaW.PrintWords Go.Proofs.Ythpbkhagjgggjaa.GRR

theorem depsOk_le {v v' : Int} (h : v ≤ v') : ∀ (l : List S76) (met : List ByteArray), depsOk v met l = true → depsOk v' met l = true
  | [], _, _ => rfl
  | d :: r, met, hh => by
    unfold depsOk at hh ⊢
    simp only [Bool.and_eq_true] at hh ⊢
    refine ⟨⟨hh.1.1, ?_⟩, depsOk_le h r _ hh.2⟩
    have h2 := hh.1.2
    revert h2
    cases d.f2 with
    | false => intro _; rfl
    | true =>
      intro h2
      simp only [Bool.true_and, Bool.not_eq_true', decide_eq_false_iff_not] at h2 ⊢
      omega
theorem depsB_le {v v' : Int} (h : v ≤ v') (t : ByteArray) (l : List S76) (hh : depsB v t l = true) : depsB v' t l = true := by
  unfold depsB at hh ⊢
  simp only [Bool.and_eq_true] at hh ⊢
  exact ⟨depsOk_le h _ _ hh.1, hh.2⟩
theorem depsOk_21 : ∀ (l : List S76) (met : List ByteArray), depsOk 2 met l = depsOk 1 met l
  | [], _ => rfl
  | d :: r, met => by
    unfold depsOk
    rw [depsOk_21 r, show decide ((2 : Int) < 3) = decide ((1 : Int) < 3) from rfl]
theorem depsB_21 (t : ByteArray) (l : List S76) : depsB 2 t l = depsB 1 t l := by
  unfold depsB; rw [depsOk_21]
/-- what the times and the tag are after the steps from u to v -/
def toW (k0 u v when : Int) : Int := if k0 = 1 ∧ u ≤ 1 ∧ 1 < v then 1 else when
def toT (k0 u v : Int) (tag : ByteArray) : ByteArray := if k0 = 1 ∧ u ≤ 2 ∧ 2 < v then oldB else tag
theorem toW_self (k0 u when : Int) : toW k0 u u when = when := by unfold toW; rw [if_neg (by omega)]
theorem toT_self (k0 u : Int) (tag : ByteArray) : toT k0 u u tag = tag := by unfold toT; rw [if_neg (by omega)]
theorem toW_step (k0 u i when : Int) (h : u ≤ i) (h1 : i = 1 ∨ i = 2) : stpW k0 i (toW k0 u i when) = toW k0 u (i + 1) when := by
  unfold stpW toW
  by_cases c : k0 = 1
  · rcases h1 with rfl | rfl
    · rw [if_pos (by omega), if_pos (by omega)]
    · rw [if_neg (by omega)]
      by_cases c2 : u ≤ 1
      · rw [if_pos (by omega), if_pos (by omega)]
      · rw [if_neg (by omega), if_neg (by omega)]
  · rw [if_neg (by omega), if_neg (by omega), if_neg (by omega)]
theorem toT_step (k0 u i : Int) (tag : ByteArray) (h : u ≤ i) (h1 : i = 1 ∨ i = 2) : stpT k0 i (toT k0 u i tag) = toT k0 u (i + 1) tag := by
  unfold stpT toT
  by_cases c : k0 = 1
  · rcases h1 with rfl | rfl
    · rw [if_neg (by omega), if_neg (by omega), if_neg (by omega)]
    · rw [if_pos (by omega), if_pos (by omega)]
  · rw [if_neg (by omega), if_neg (by omega), if_neg (by omega)]
theorem toT_size (k0 u v : Int) (tag : ByteArray) (h : tag.size ≤ maxLen) : (toT k0 u v tag).size ≤ maxLen := by
  unfold toT; split
  · decide
  · exact h
theorem mayB_step {i k0 : Int} {t : ByteArray} {rule : Int} {l : List S76} {out when : Int} {tag : ByteArray} (hi : i = 1 ∨ i = 2) (h : mayB i k0 t rule l out when tag = true) :
    mayB (i + 1) k0 t rule l out (stpW k0 i when) (stpT k0 i tag) = true := by
  unfold mayB stpW stpT at *
  by_cases c : k0 = 1
  · rw [if_pos c] at h ⊢
    rcases hi with rfl | rfl
    · have := depsB_21 t l
      rw [if_pos ⟨c, rfl⟩, if_neg (by omega)]
      simp at h ⊢
      simp_all
    · have := depsB_le (show (2 : Int) ≤ 3 by omega) t l
      rw [if_neg (by omega), if_pos ⟨c, rfl⟩, show oldB.size = 3 from rfl]
      simp at h ⊢
      simp_all
  · rw [if_neg c] at h ⊢
    rw [if_neg (by omega), if_neg (by omega)]
    rcases hi with rfl | rfl <;> simpa using h
end Go.Proofs.Ythpbkhagjgggjaa
/- The document's move of a record from one version to another. -/
namespace Go.Proofs.Ythpbkhagjgggjaa
open Go.RowKit Go.Proofs.YthpbkhagjgggjaaW.PrintWords Go.Proofs.Ythpbkhagjgggjaa.GRR

theorem heap_put7 (w : World) {g k : Nat} (h : k ≠ g) (v0 v1 v2 v3 v4 v5 v6 : Value) :
    (((((((w.setCell ⟨g, 0, none⟩ v0).setCell ⟨g, 1, none⟩ v1).setCell ⟨g, 2, none⟩ v2).setCell ⟨g, 3, none⟩ v3).setCell ⟨g, 4, none⟩ v4).setCell ⟨g, 5, none⟩ v5).setCell ⟨g, 6, none⟩ v6).heap[k]? = w.heap[k]? := by
  rw [Below.heap_setCell _ _ _ _ h, Below.heap_setCell _ _ _ _ h, Below.heap_setCell _ _ _ _ h, Below.heap_setCell _ _ _ _ h, Below.heap_setCell _ _ _ _ h, Below.heap_setCell _ _ _ _ h, Below.heap_setCell _ _ _ _ h]
section
variable (u v k0 : Int) (t : ByteArray) (rule : Int) (A : Option Addr) (c : Nat) (l : List S76) (out when : Int) (tag : ByteArray) (w : World)
theorem rstep_ok (i W : Int) (T : ByteArray) (wq : World) (hr : Kd.C k76 wq A l.length l) (hc : l.length ≤ c) (hok : RecOk t l T) (hi : i = 1 ∨ i = 2) (hm : mayB i k0 t rule l out W T = true) :
    Calls Try.prog 57 #[.int .i64 i, .agg #[.int .i64 k0, .string t, .int .u64 rule, .slice A l.length c, .int .u64 out, .int .u64 W, .string T]] wq fun e w' =>
      e = .returned (.tuple #[.agg #[.int .i64 k0, .string t, .int .u64 rule, .slice A l.length c, .int .u64 out, .int .u64 (stpW k0 i W), .string (stpT k0 i T)], .int .i64 0]) ∧ Below wq.heap.size wq w' := by
  have h := rstep_any i k0 t rule A c l out W T wq hr hc hok
  rw [if_pos hi, if_pos hm] at h
  exact h
set_option maxHeartbeats 2000000 in
set_option maxRecDepth 100000 in
theorem rto_any (hr : Kd.C k76 w A l.length l) (hc : l.length ≤ c) (hok : RecOk t l tag) :
    Calls Try.prog 55 #[.int .i64 u, .int .i64 v, .agg #[.int .i64 k0, .string t, .int .u64 rule, .slice A l.length c, .int .u64 out, .int .u64 when, .string tag]] w fun e w' =>
      e = .returned (if 1 ≤ u ∧ u ≤ v ∧ v ≤ 3 then (if mayB u k0 t rule l out when tag = true then .tuple #[.agg #[.int .i64 k0, .string t, .int .u64 rule, .slice A l.length c, .int .u64 out, .int .u64 (toW k0 u v when), .string (toT k0 u v tag)], .int .i64 0] else .tuple #[.agg #[.int .i64 0, .string ⟨#[]⟩, .int .u64 0, .slice none 0 0, .int .u64 0, .int .u64 0, .string ⟨#[]⟩], .int .i64 1]) else .tuple #[.agg #[.int .i64 0, .string ⟨#[]⟩, .int .u64 0, .slice none 0 0, .int .u64 0, .int .u64 0, .string ⟨#[]⟩], .int .i64 11]) ∧ Below w.heap.size w w' := by
  obtain ⟨w1, hw1⟩ : ∃ w1, (w.alloc (.cells #[.int .i64 k0, .string t, .int .u64 rule, .slice A l.length c, .int .u64 out, .int .u64 when, .string tag] 70)).alloc (.cells #[.int .i64 0, .string ⟨#[]⟩, .int .u64 0, .slice none 0 0, .int .u64 0, .int .u64 0, .string ⟨#[]⟩] 70) = w1 := ⟨_, rfl⟩
  have hb1 : Below w.heap.size w w1 := by rw [← hw1]; exact ((Below.refl _ _).alloc (Nat.le_refl _) _).alloc (by rw [heap_size_alloc]; omega) _
  have hC1 := Kd.C_below hr hb1
  have HMY := Lib.hid (refMay_any u k0 t rule A c l out when tag w1 hC1 hc hok)
  have HCC := Lib.hid (fun (wq : World) (h : Below w.heap.size w wq) => Kd.C_below hr h)
  have HOK := Lib.hid hok
  obtain ⟨M, hM⟩ : ∃ M, mayB u k0 t rule l out when tag = M := ⟨_, rfl⟩
  have HMM := Lib.hid hM
  rw [hM] at HMY ⊢
  have hk0 : w1.heap[w.heap.size]? = some (.cells #[.int .i64 k0, .string t, .int .u64 rule, .slice A l.length c, .int .u64 out, .int .u64 when, .string tag] 70 (0, 0)) := by
    rw [← hw1, heap_new_old _ _ _ (by rw [heap_size_alloc]; omega)]; exact heap_new _ _
  have hk1 : w1.heap[w.heap.size + 1]? = some (.cells #[.int .i64 0, .string ⟨#[]⟩, .int .u64 0, .slice none 0 0, .int .u64 0, .int .u64 0, .string ⟨#[]⟩] 70 (0, 0)) := by
    rw [← hw1]; have := heap_new (w.alloc (.cells #[.int .i64 k0, .string t, .int .u64 rule, .slice A l.length c, .int .u64 out, .int .u64 when, .string tag] 70)) (.cells #[.int .i64 0, .string ⟨#[]⟩, .int .u64 0, .slice none 0 0, .int .u64 0, .int .u64 0, .string ⟨#[]⟩] 70); rwa [heap_size_alloc] at this
  have HU := Lib.hid (Try.underlying70)
  obtain ⟨b0, hb0⟩ : ∃ b, w.heap.size = b := ⟨_, rfl⟩
  obtain ⟨b1, hbb1⟩ : ∃ b, w.heap.size + 1 = b := ⟨_, rfl⟩
  rw [hb0] at hk0
  rw [hbb1] at hk1
  have hne : b1 ≠ b0 := by omega
  have hne2 : b0 ≠ b1 := by omega
  have hg0 : w.heap.size ≤ b0 := by omega
  have hg1 : w.heap.size ≤ b1 := by omega
  have HB0 := Lib.hid hb0
  have HBB1 := Lib.hid hbb1
  have HG := Lib.hid (And.intro hg0 hg1)
  have HK0 := Lib.hid hk0
  have HK1 := Lib.hid hk1
  have HW1 := Lib.hid hw1
  have HB1 := Lib.hid hb1
  clear hr hok hb1 hC1 hM hw1 hk0 hk1 hb0 hbb1 hg0 hg1
  by_cases hv : 1 ≤ u ∧ u ≤ v ∧ v ≤ 3
  · rw [if_pos hv]
    have d1 : decide (u < 1) = false := decide_eq_false (by omega)
    have d2 : decide (3 < v) = false := decide_eq_false (by omega)
    have d3 : decide (v < u) = false := decide_eq_false (by omega)
    cases M with
    | false =>
      rw [if_neg (by simp)]
      go_enter Try.func55, Try.ntmps55
      go_wp2_with fail
      rw [HW1.out, HBB1.out, HB0.out]
      refine HMY.out.mono ?_
      rintro e w2 ⟨rfl, hb2⟩
      have hk3 := blk_below HK1.out hb2
      have z0 : w2.cell? ⟨b1, 0, none⟩ = some (.int .i64 0) := (blk_cell hk3 0).trans rfl
      have z1 : w2.cell? ⟨b1, 1, none⟩ = some (.string ⟨#[]⟩) := (blk_cell hk3 1).trans rfl
      have z2 : w2.cell? ⟨b1, 2, none⟩ = some (.int .u64 0) := (blk_cell hk3 2).trans rfl
      have z3 : w2.cell? ⟨b1, 3, none⟩ = some (.slice none 0 0) := (blk_cell hk3 3).trans rfl
      have z4 : w2.cell? ⟨b1, 4, none⟩ = some (.int .u64 0) := (blk_cell hk3 4).trans rfl
      have z5 : w2.cell? ⟨b1, 5, none⟩ = some (.int .u64 0) := (blk_cell hk3 5).trans rfl
      have z6 : w2.cell? ⟨b1, 6, none⟩ = some (.string ⟨#[]⟩) := (blk_cell hk3 6).trans rfl
      have zf0 := blk_frozen hk3 0
      have zf1 := blk_frozen hk3 1
      have zf2 := blk_frozen hk3 2
      have zf3 := blk_frozen hk3 3
      have zf4 := blk_frozen hk3 4
      have zf5 := blk_frozen hk3 5
      have zf6 := blk_frozen hk3 6
      go_wp2_with fail
      refine bodyPost_ret (results_ct rfl _ _ b1 70 #[_, _, _, _, _, _, _] (0, 0) _ rfl (blk_put7 hk3 _ _ _ _ _ _ _) HU.out rfl (by kernel_rfl)) rfl ?_
      exact ⟨rfl, below_put7 (HB1.out.trans (hb2.mono HB1.out.size)) HG.out.2 _ _ _ _ _ _ _⟩
    | true =>
      rw [if_pos rfl]
      go_enter Try.func55, Try.ntmps55
      go_wp2_with fail
      rw [HW1.out, HBB1.out, HB0.out]
      refine HMY.out.mono ?_
      rintro e w2 ⟨rfl, hb2⟩
      have H0 := Lib.hid (And.intro (blk_below HK0.out hb2) (And.intro (blk_below HK1.out hb2) (And.intro (HB1.out.trans (hb2.mono HB1.out.size)) HMM.out)))
      clear hb2
      go_wp2_with fail
      go_loopw [8] (fun u8 wq => ∃ (i W : Int) (T : ByteArray), u ≤ i ∧ i ≤ v ∧ u8 = .int .i64 i ∧ Hid (W = toW k0 u i when ∧ T = toT k0 u i tag) ∧ Hid (wq.heap[b0]? = some (.cells #[.int .i64 k0, .string t, .int .u64 rule, .slice A l.length c, .int .u64 out, .int .u64 W, .string T] 70 (0, 0)) ∧ wq.heap[b1]? = some (.cells #[.int .i64 0, .string ⟨#[]⟩, .int .u64 0, .slice none 0 0, .int .u64 0, .int .u64 0, .string ⟨#[]⟩] 70 (0, 0)) ∧ Below w.heap.size w wq ∧ mayB i k0 t rule l out W T = true)) (fun u8 _ => (v - intOf u8).toNat)
      case atStart => exact ⟨u, when, tag, by omega, by omega, rfl, Lib.hid ⟨(toW_self _ _ _).symm, (toT_self _ _ _).symm⟩, H0⟩
      case round =>
        obtain ⟨i, W, T, hi1, hi2, rfl, hWT, hp⟩ := hrel
        obtain ⟨hk0, hk1, hB, hm⟩ := hp.out
        by_cases hlt : i < v
        · have hi : i = 1 ∨ i = 2 := by omega
          have hdl : decide (i < v) = true := decide_eq_true hlt
          have hokT : RecOk t l T := ⟨HOK.out.n, HOK.out.t, by rw [hWT.out.2]; exact toT_size _ _ _ _ HOK.out.tag, HOK.out.d⟩
          have HST := Lib.hid (rstep_ok k0 t rule A c l out i W T wr (HCC.out wr hB) hc hokT hi hm)
          have HMS := Lib.hid (mayB_step hi hm)
          have HE := Lib.hid (And.intro (show stpW k0 i W = toW k0 u (i + 1) when by rw [hWT.out.1]; exact toW_step _ _ _ _ hi1 hi) (show stpT k0 i T = toT k0 u (i + 1) tag by rw [hWT.out.2]; exact toT_step _ _ _ _ hi1 hi))
          have y0 : wr.cell? ⟨b0, 0, none⟩ = some (.int .i64 k0) := (blk_cell hk0 0).trans rfl
          have y1 : wr.cell? ⟨b0, 1, none⟩ = some (.string t) := (blk_cell hk0 1).trans rfl
          have y2 : wr.cell? ⟨b0, 2, none⟩ = some (.int .u64 rule) := (blk_cell hk0 2).trans rfl
          have y3 : wr.cell? ⟨b0, 3, none⟩ = some (.slice A l.length c) := (blk_cell hk0 3).trans rfl
          have y4 : wr.cell? ⟨b0, 4, none⟩ = some (.int .u64 out) := (blk_cell hk0 4).trans rfl
          have y5 : wr.cell? ⟨b0, 5, none⟩ = some (.int .u64 W) := (blk_cell hk0 5).trans rfl
          have y6 : wr.cell? ⟨b0, 6, none⟩ = some (.string T) := (blk_cell hk0 6).trans rfl
          have yf0 := blk_frozen hk0 0
          have yf1 := blk_frozen hk0 1
          have yf2 := blk_frozen hk0 2
          have yf3 := blk_frozen hk0 3
          have yf4 := blk_frozen hk0 4
          have yf5 := blk_frozen hk0 5
          have yf6 := blk_frozen hk0 6
          have HB := Lib.hid hB
          have HQ0 := Lib.hid hk0
          have HQ1 := Lib.hid hk1
          clear hk0 hk1 hB hm hokT hp
          generalize stpW k0 i W = W2 at *
          generalize stpT k0 i T = T2 at *
          go_wp2_with fail
          refine HST.out.mono ?_
          rintro e w4 ⟨rfl, hb4⟩
          clear y0 y1 y2 y3 y4 y5 y6 yf0 yf1 yf2 yf3 yf4 yf5 yf6
          have hk3 := blk_below HQ0.out hb4
          have y0 : w4.cell? ⟨b0, 0, none⟩ = some (.int .i64 k0) := (blk_cell hk3 0).trans rfl
          have y1 : w4.cell? ⟨b0, 1, none⟩ = some (.string t) := (blk_cell hk3 1).trans rfl
          have y2 : w4.cell? ⟨b0, 2, none⟩ = some (.int .u64 rule) := (blk_cell hk3 2).trans rfl
          have y3 : w4.cell? ⟨b0, 3, none⟩ = some (.slice A l.length c) := (blk_cell hk3 3).trans rfl
          have y4 : w4.cell? ⟨b0, 4, none⟩ = some (.int .u64 out) := (blk_cell hk3 4).trans rfl
          have y5 : w4.cell? ⟨b0, 5, none⟩ = some (.int .u64 W) := (blk_cell hk3 5).trans rfl
          have y6 : w4.cell? ⟨b0, 6, none⟩ = some (.string T) := (blk_cell hk3 6).trans rfl
          have yf0 := blk_frozen hk3 0
          have yf1 := blk_frozen hk3 1
          have yf2 := blk_frozen hk3 2
          have yf3 := blk_frozen hk3 3
          have yf4 := blk_frozen hk3 4
          have yf5 := blk_frozen hk3 5
          have yf6 := blk_frozen hk3 6
          have HR0 := Lib.hid hk3
          have HR1 := Lib.hid (blk_below HQ1.out hb4)
          have HRB := Lib.hid (HB.out.trans (hb4.mono HB.out.size))
          clear hk3 hb4
          go_wp2
          go_roundw
          case rel =>
            have hw : wrap64 (i + 1) = i + 1 := by unfold wrap64; omega
            exact ⟨i + 1, W2, T2, by omega, by omega, by first | rfl | rw [hw] | (simp only [i64_w]; rw [hw]), HE, Lib.hid ⟨blk_put7 HR0.out _ _ _ _ _ _ _, (heap_put7 _ hne _ _ _ _ _ _ _).trans HR1.out, below_put7 HRB.out HG.out.1 _ _ _ _ _ _ _, HMS.out⟩⟩
          case measure =>
            have hw : wrap64 (i + 1) = i + 1 := by unfold wrap64; omega
            simp [intOf]
            omega
        · obtain rfl : i = v := by omega
          have hdl : decide (i < i) = false := decide_eq_false (by omega)
          have y0 : wr.cell? ⟨b0, 0, none⟩ = some (.int .i64 k0) := (blk_cell hk0 0).trans rfl
          have y1 : wr.cell? ⟨b0, 1, none⟩ = some (.string t) := (blk_cell hk0 1).trans rfl
          have y2 : wr.cell? ⟨b0, 2, none⟩ = some (.int .u64 rule) := (blk_cell hk0 2).trans rfl
          have y3 : wr.cell? ⟨b0, 3, none⟩ = some (.slice A l.length c) := (blk_cell hk0 3).trans rfl
          have y4 : wr.cell? ⟨b0, 4, none⟩ = some (.int .u64 out) := (blk_cell hk0 4).trans rfl
          have y5 : wr.cell? ⟨b0, 5, none⟩ = some (.int .u64 W) := (blk_cell hk0 5).trans rfl
          have y6 : wr.cell? ⟨b0, 6, none⟩ = some (.string T) := (blk_cell hk0 6).trans rfl
          have yf0 := blk_frozen hk0 0
          have yf1 := blk_frozen hk0 1
          have yf2 := blk_frozen hk0 2
          have yf3 := blk_frozen hk0 3
          have yf4 := blk_frozen hk0 4
          have yf5 := blk_frozen hk0 5
          have yf6 := blk_frozen hk0 6
          have z0 : wr.cell? ⟨b1, 0, none⟩ = some (.int .i64 0) := (blk_cell hk1 0).trans rfl
          have z1 : wr.cell? ⟨b1, 1, none⟩ = some (.string ⟨#[]⟩) := (blk_cell hk1 1).trans rfl
          have z2 : wr.cell? ⟨b1, 2, none⟩ = some (.int .u64 0) := (blk_cell hk1 2).trans rfl
          have z3 : wr.cell? ⟨b1, 3, none⟩ = some (.slice none 0 0) := (blk_cell hk1 3).trans rfl
          have z4 : wr.cell? ⟨b1, 4, none⟩ = some (.int .u64 0) := (blk_cell hk1 4).trans rfl
          have z5 : wr.cell? ⟨b1, 5, none⟩ = some (.int .u64 0) := (blk_cell hk1 5).trans rfl
          have z6 : wr.cell? ⟨b1, 6, none⟩ = some (.string ⟨#[]⟩) := (blk_cell hk1 6).trans rfl
          have zf0 := blk_frozen hk1 0
          have zf1 := blk_frozen hk1 1
          have zf2 := blk_frozen hk1 2
          have zf3 := blk_frozen hk1 3
          have zf4 := blk_frozen hk1 4
          have zf5 := blk_frozen hk1 5
          have zf6 := blk_frozen hk1 6
          go_wp2_with fail
          refine bodyPost_ret (results_ct rfl _ _ b1 70 #[_, _, _, _, _, _, _] (0, 0) _ rfl (blk_put7 hk1 _ _ _ _ _ _ _) HU.out rfl (by kernel_rfl)) rfl ?_
          exact ⟨by rw [hWT.out.1, hWT.out.2]; rfl, below_put7 hB HG.out.2 _ _ _ _ _ _ _⟩
  · rw [if_neg hv]
    have hk3 := HK1.out
    by_cases e1 : u < 1
    · have d1 : decide (u < 1) = true := decide_eq_true e1
      go_enter Try.func55, Try.ntmps55
      go_wp2_with fail
      rw [HW1.out, HBB1.out, HB0.out]
      refine bodyPost_ret (results_ct rfl _ _ b1 70 #[_, _, _, _, _, _, _] (0, 0) _ rfl hk3 HU.out rfl (by kernel_rfl)) rfl ?_
      exact ⟨rfl, HB0.out ▸ HB1.out⟩
    · have d1 : decide (u < 1) = false := decide_eq_false e1
      by_cases e2 : 3 < v
      · have d2 : decide (3 < v) = true := decide_eq_true e2
        go_enter Try.func55, Try.ntmps55
        go_wp2_with fail
        rw [HW1.out, HBB1.out, HB0.out]
        refine bodyPost_ret (results_ct rfl _ _ b1 70 #[_, _, _, _, _, _, _] (0, 0) _ rfl hk3 HU.out rfl (by kernel_rfl)) rfl ?_
        exact ⟨rfl, HB0.out ▸ HB1.out⟩
      · have d2 : decide (3 < v) = false := decide_eq_false e2
        have d3 : decide (v < u) = true := decide_eq_true (by omega)
        go_enter Try.func55, Try.ntmps55
        go_wp2_with fail
        rw [HW1.out, HBB1.out, HB0.out]
        refine bodyPost_ret (results_ct rfl _ _ b1 70 #[_, _, _, _, _, _, _] (0, 0) _ rfl hk3 HU.out rfl (by kernel_rfl)) rfl ?_
        exact ⟨rfl, HB0.out ▸ HB1.out⟩
end
end Go.Proofs.Ythpbkhagjgggjaa
/- The steps of the moves, and what each writes. -/
namespace Go.Proofs.Ythpbkhagjgggjaa
open Go.RowKit Go.Proofs.YthpbkhagjgggjaaW.PrintWords Go.Proofs.Ythpbkhagjgggjaa.GRR

set_option maxRecDepth 100000 in
theorem steps_any (w : World) : Calls Try.prog 90 #[] w fun e w' => e = .returned (.agg #[.int .i64 1, .func (.func 95) #[] #[], .int .i64 2, .func (.func 96) #[] #[]]) ∧ Below w.heap.size w w' := by
  go_enter Try.func90, Try.ntmps90
  go_wp2_with fail
  refine bodyPost_ret (results_cell_row rfl _ _ w.heap.size 142 #[_, _, _, _] (0, 0) _ rfl (heap_new w _) Try.underlying142 rfl (by kernel_rfl)) rfl ?_
  exact ⟨rfl, (Below.refl _ _).alloc (Nat.le_refl _) _⟩
set_option maxRecDepth 100000 in
theorem step1_any (w : World) (b : Nat) (x : Value) (hx : w.cell? ⟨b, 5, none⟩ = some x) (hf : w.frozen? ⟨b, 5, none⟩ = false) : Calls Try.prog 95 #[.pointer (some ⟨b, 0, none⟩)] w fun e w' => e = .returned (.tuple #[]) ∧ w' = w.setCell ⟨b, 5, none⟩ (.int .u64 1) := by
  go_enter Try.func95, Try.ntmps95
  go_wp2_with fail
  go_end0
  exact ⟨rfl, rfl⟩
set_option maxRecDepth 100000 in
theorem step2_any (w : World) (b : Nat) (x : Value) (hx : w.cell? ⟨b, 6, none⟩ = some x) (hf : w.frozen? ⟨b, 6, none⟩ = false) : Calls Try.prog 96 #[.pointer (some ⟨b, 0, none⟩)] w fun e w' => e = .returned (.tuple #[]) ∧ w' = w.setCell ⟨b, 6, none⟩ (.string oldB) := by
  go_enter Try.func96, Try.ntmps96
  go_wp2_with fail
  go_end0
  exact ⟨rfl, rfl⟩
theorem versions_any (u v : Int) (w : World) : Calls Try.prog 89 #[.int .i64 u, .int .i64 v] w fun e w' => e = .returned (.bool (decide (1 ≤ u ∧ u ≤ v ∧ v ≤ 3))) ∧ w = w' := by
  by_cases e1 : 1 ≤ u
  · have d1 : decide (1 ≤ u) = true := decide_eq_true e1
    by_cases e2 : u ≤ v
    · have d2 : decide (u ≤ v) = true := decide_eq_true e2
      have e : decide (1 ≤ u ∧ u ≤ v ∧ v ≤ 3) = decide (v ≤ 3) := by simp [e1, e2]
      rw [e]
      go_enter Try.func89, Try.ntmps89
      go_wp2_with fail
      go_ret
      exact ⟨rfl, rfl⟩
    · have d2 : decide (u ≤ v) = false := decide_eq_false e2
      have e : decide (1 ≤ u ∧ u ≤ v ∧ v ≤ 3) = false := by simp [e2]
      rw [e]
      go_enter Try.func89, Try.ntmps89
      go_wp2_with fail
      go_ret
      exact ⟨rfl, rfl⟩
  · have d1 : decide (1 ≤ u) = false := decide_eq_false e1
    have e : decide (1 ≤ u ∧ u ≤ v ∧ v ≤ 3) = false := by simp [e1]
    rw [e]
    go_enter Try.func89, Try.ntmps89
    go_wp2_with fail
    go_ret
    exact ⟨rfl, rfl⟩
end Go.Proofs.Ythpbkhagjgggjaa
/- A record's move from one version to another: migrate.To. -/
namespace Go.Proofs.Ythpbkhagjgggjaa
open Go.RowKit Go.Proofs.YthpbkhagjgggjaaW.PrintWords Go.Proofs.Ythpbkhagjgggjaa.GRR

section
variable (u v k0 : Int) (t : ByteArray) (rule : Int) (A : Option Addr) (c : Nat) (l : List S76) (out when : Int) (tag : ByteArray) (w : World)
theorem clone_any (wq : World) (hr : Kd.C k76 wq A l.length l) (hc : l.length ≤ c) (hl : l.length ≤ 1000000) :
    Calls Try.prog 47 #[.agg #[.int .i64 k0, .string t, .int .u64 rule, .slice A l.length c, .int .u64 out, .int .u64 when, .string tag]] wq fun e w' => ∃ (A3 : Option Addr) (c3 : Nat), e = .returned (.agg #[.int .i64 k0, .string t, .int .u64 rule, .slice A3 l.length c3, .int .u64 out, .int .u64 when, .string tag]) ∧ Kd.R k76 76 w' wq.heap.size (fun _ => True) (.slice A3 l.length c3) l ∧ Below wq.heap.size wq w' := by
  refine (record_Clone.calls k0 t rule A c l out when tag k0 t rule l out when tag wq hr hc (by unfold record_Clone.f api_Dep_88.f; rw [if_pos hl]; rfl)).mono ?_
  rintro e w' ⟨v3, rfl, hR, hB⟩
  obtain ⟨A3, c3, rfl⟩ := Kd.R_slice hR
  exact ⟨A3, c3, rfl, hR, hB⟩
theorem ix0 (w : World) : (Instr.index 142 (.agg #[.int .i64 1, .func (.func 95) #[] #[], .int .i64 2, .func (.func 96) #[] #[]]) (.int .i64 0)).run Try.prog w = .ok (.agg #[.int .i64 1, .func (.func 95) #[] #[]]) w := by kernel_rfl
theorem ix1 (w : World) : (Instr.index 142 (.agg #[.int .i64 1, .func (.func 95) #[] #[], .int .i64 2, .func (.func 96) #[] #[]]) (.int .i64 1)).run Try.prog w = .ok (.agg #[.int .i64 2, .func (.func 96) #[] #[]]) w := by kernel_rfl
set_option maxHeartbeats 4000000 in
set_option maxRecDepth 100000 in
theorem mto_ok (hr : Kd.C k76 w A l.length l) (hc : l.length ≤ c) (hok : RecOk t l tag) (hv : 1 ≤ u ∧ u ≤ v ∧ v ≤ 3) (hm : mayB u k0 t rule l out when tag = true) :
    Calls Try.prog 54 #[.int .i64 u, .int .i64 v, .agg #[.int .i64 k0, .string t, .int .u64 rule, .slice A l.length c, .int .u64 out, .int .u64 when, .string tag]] w fun e w' => ∃ (A3 : Option Addr) (c3 : Nat),
      e = .returned (.tuple #[.agg #[.int .i64 k0, .string t, .int .u64 rule, .slice A3 l.length c3, .int .u64 out, .int .u64 (toW k0 u v when), .string (toT k0 u v tag)], .int .i64 0]) ∧ Kd.R k76 76 w' w.heap.size (fun _ => True) (.slice A3 l.length c3) l ∧ Below w.heap.size w w' := by
  obtain ⟨w1, hw1⟩ : ∃ w1, (w.alloc (.cells #[.int .i64 k0, .string t, .int .u64 rule, .slice A l.length c, .int .u64 out, .int .u64 when, .string tag] 70)).alloc (.cells #[.int .i64 0, .string ⟨#[]⟩, .int .u64 0, .slice none 0 0, .int .u64 0, .int .u64 0, .string ⟨#[]⟩] 70) = w1 := ⟨_, rfl⟩
  have hb1 : Below w.heap.size w w1 := by rw [← hw1]; exact ((Below.refl _ _).alloc (Nat.le_refl _) _).alloc (by rw [heap_size_alloc]; omega) _
  have hz1 : w.heap.size + 2 ≤ w1.heap.size := by rw [← hw1, heap_size_alloc, heap_size_alloc]; omega
  have HMY := Lib.hid (may_any u k0 t rule A c l out when tag w1 (Kd.C_below hr hb1) hc hok)
  rw [hm] at HMY
  have HCL := Lib.hid (fun (wq : World) (h : Below w.heap.size w wq) => clone_any k0 t rule A c l out when tag wq (Kd.C_below hr h) hc (by have := hok.n; omega))
  have HVS := Lib.hid (versions_any u v w1)
  rw [show decide (1 ≤ u ∧ u ≤ v ∧ v ≤ 3) = true from decide_eq_true hv] at HVS
  have hk0 : w1.heap[w.heap.size]? = some (.cells #[.int .i64 k0, .string t, .int .u64 rule, .slice A l.length c, .int .u64 out, .int .u64 when, .string tag] 70 (0, 0)) := by
    rw [← hw1, heap_new_old _ _ _ (by rw [heap_size_alloc]; omega)]; exact heap_new _ _
  have hk1 : w1.heap[w.heap.size + 1]? = some (.cells #[.int .i64 0, .string ⟨#[]⟩, .int .u64 0, .slice none 0 0, .int .u64 0, .int .u64 0, .string ⟨#[]⟩] 70 (0, 0)) := by
    rw [← hw1]; have := heap_new (w.alloc (.cells #[.int .i64 k0, .string t, .int .u64 rule, .slice A l.length c, .int .u64 out, .int .u64 when, .string tag] 70)) (.cells #[.int .i64 0, .string ⟨#[]⟩, .int .u64 0, .slice none 0 0, .int .u64 0, .int .u64 0, .string ⟨#[]⟩] 70); rwa [heap_size_alloc] at this
  have HU := Lib.hid (Try.underlying70)
  obtain ⟨x1, hx1⟩ : ∃ b, (k0 == 1) = b := ⟨_, rfl⟩
  obtain ⟨x2, hx2⟩ : ∃ b, decide (u ≤ 1) = b := ⟨_, rfl⟩
  obtain ⟨x3, hx3⟩ : ∃ b, decide (1 < v) = b := ⟨_, rfl⟩
  obtain ⟨x4, hx4⟩ : ∃ b, decide (u ≤ 2) = b := ⟨_, rfl⟩
  obtain ⟨x5, hx5⟩ : ∃ b, decide (2 < v) = b := ⟨_, rfl⟩
  have HW := Lib.hid (show toW k0 u v when = if (x1 && x2 && x3) = true then 1 else when by
    rw [← hx1, ← hx2, ← hx3]; unfold toW; simp [and_assoc])
  have HT := Lib.hid (show toT k0 u v tag = if (x1 && x4 && x5) = true then oldB else tag by
    rw [← hx1, ← hx4, ← hx5]; unfold toT; simp [and_assoc])
  obtain ⟨b0, hb0⟩ : ∃ b, w.heap.size = b := ⟨_, rfl⟩
  obtain ⟨b1, hbb1⟩ : ∃ b, w.heap.size + 1 = b := ⟨_, rfl⟩
  rw [hb0] at hk0
  rw [hbb1] at hk1
  have hne : b1 ≠ b0 := by omega
  have hne2 : b0 ≠ b1 := by omega
  have HG := Lib.hid (show w.heap.size ≤ b0 ∧ w.heap.size ≤ b1 ∧ b0 < w1.heap.size ∧ b1 < w1.heap.size by omega)
  have HB0 := Lib.hid hb0
  have HBB1 := Lib.hid hbb1
  have HK0 := Lib.hid hk0
  have HK1 := Lib.hid hk1
  have HW1 := Lib.hid hw1
  have HB1 := Lib.hid hb1
  have y0 : w1.cell? ⟨b0, 0, none⟩ = some (.int .i64 k0) := (blk_cell hk0 0).trans rfl
  have y1 : w1.cell? ⟨b0, 1, none⟩ = some (.string t) := (blk_cell hk0 1).trans rfl
  have y2 : w1.cell? ⟨b0, 2, none⟩ = some (.int .u64 rule) := (blk_cell hk0 2).trans rfl
  have y3 : w1.cell? ⟨b0, 3, none⟩ = some (.slice A l.length c) := (blk_cell hk0 3).trans rfl
  have y4 : w1.cell? ⟨b0, 4, none⟩ = some (.int .u64 out) := (blk_cell hk0 4).trans rfl
  have y5 : w1.cell? ⟨b0, 5, none⟩ = some (.int .u64 when) := (blk_cell hk0 5).trans rfl
  have y6 : w1.cell? ⟨b0, 6, none⟩ = some (.string tag) := (blk_cell hk0 6).trans rfl
  have yf0 := blk_frozen hk0 0
  have yf1 := blk_frozen hk0 1
  have yf2 := blk_frozen hk0 2
  have yf3 := blk_frozen hk0 3
  have yf4 := blk_frozen hk0 4
  have yf5 := blk_frozen hk0 5
  have yf6 := blk_frozen hk0 6
  clear hr hok hb1 hm hv hw1 hk0 hk1 hb0 hbb1 hz1
  go_enter Try.func54, Try.ntmps54
  go_wp2_with fail
  rw [HW1.out, HBB1.out, HB0.out]
  refine HVS.out.mono ?_
  rintro e w1' ⟨rfl, rfl⟩
  go_wp2_with fail
  refine HMY.out.mono ?_
  rintro e w2 ⟨rfl, hb2⟩
  have hq0 := blk_below HK0.out hb2
  have hB2 := HB1.out.trans (hb2.mono HB1.out.size)
  have HQ1 := Lib.hid (blk_below HK1.out hb2)
  have HQ0 := Lib.hid hq0
  have HG2 := Lib.hid (show b0 < w2.heap.size ∧ b1 < w2.heap.size by have := HG.out; have := hb2.size; omega)
  clear y0 y1 y2 y3 y4 y5 y6 yf0 yf1 yf2 yf3 yf4 yf5 yf6
  have y0 : w2.cell? ⟨b0, 0, none⟩ = some (.int .i64 k0) := (blk_cell hq0 0).trans rfl
  have y1 : w2.cell? ⟨b0, 1, none⟩ = some (.string t) := (blk_cell hq0 1).trans rfl
  have y2 : w2.cell? ⟨b0, 2, none⟩ = some (.int .u64 rule) := (blk_cell hq0 2).trans rfl
  have y3 : w2.cell? ⟨b0, 3, none⟩ = some (.slice A l.length c) := (blk_cell hq0 3).trans rfl
  have y4 : w2.cell? ⟨b0, 4, none⟩ = some (.int .u64 out) := (blk_cell hq0 4).trans rfl
  have y5 : w2.cell? ⟨b0, 5, none⟩ = some (.int .u64 when) := (blk_cell hq0 5).trans rfl
  have y6 : w2.cell? ⟨b0, 6, none⟩ = some (.string tag) := (blk_cell hq0 6).trans rfl
  have yf0 := blk_frozen hq0 0
  have yf1 := blk_frozen hq0 1
  have yf2 := blk_frozen hq0 2
  have yf3 := blk_frozen hq0 3
  have yf4 := blk_frozen hq0 4
  have yf5 := blk_frozen hq0 5
  have yf6 := blk_frozen hq0 6
  have HCL2 := Lib.hid (HCL.out w2 hB2)
  have HB2 := Lib.hid hB2
  clear hb2 hB2 hq0 HCL HMY HVS
  go_wp2_with fail
  refine HCL2.out.mono ?_
  rintro e w3 ⟨A3, c3, rfl, hR3, hB3⟩
  have hR4 := Kd.R_mono (Kd.R_bound hR3) (ok' := fun k => w2.heap.size ≤ k ∧ k < w3.heap.size) (fun k hk => ⟨hk.2.1, hk.2.2.1⟩)
  have HR4 := Lib.hid (Kd.R_lower hR4 HB2.out.size)
  have HB3 := Lib.hid (HB2.out.trans (hB3.mono HB2.out.size))
  have hq0 := blk_below HQ0.out hB3
  have HP0 := Lib.hid hq0
  have HP1 := Lib.hid (blk_below HQ1.out hB3)
  have HG3 := Lib.hid (show b0 < w3.heap.size ∧ b1 < w3.heap.size ∧ b1 < w2.heap.size by have := HG2.out; have := hB3.size; omega)
  clear hR3 hR4 hB3 y0 y1 y2 y3 y4 y5 y6 yf0 yf1 yf2 yf3 yf4 yf5 yf6 hq0 HCL2
  go_wp2_with fail
  obtain ⟨w4, hw4⟩ : ∃ w4, w3.alloc (.cells #[.int .i64 k0, .string t, .int .u64 rule, .slice A3 l.length c3, .int .u64 out, .int .u64 when, .string tag] 70) = w4 := ⟨_, rfl⟩
  have hb4 : Below w3.heap.size w3 w4 := by rw [← hw4]; exact (Below.refl _ _).alloc (Nat.le_refl _) _
  have hk4 : w4.heap[w3.heap.size]? = some (.cells #[.int .i64 k0, .string t, .int .u64 rule, .slice A3 l.length c3, .int .u64 out, .int .u64 when, .string tag] 70 (0, 0)) := by rw [← hw4]; exact heap_new _ _
  have hz4 : w3.heap.size < w4.heap.size := by rw [← hw4, heap_size_alloc]; omega
  rw [hw4]
  obtain ⟨b2, hb2⟩ : ∃ b, w3.heap.size = b := ⟨_, rfl⟩
  rw [hb2] at hk4 hz4 ⊢
  have hne3 : b2 ≠ b0 := by have := HG3.out; omega
  have hne4 : b2 ≠ b1 := by have := HG3.out; omega
  have HBB2 := Lib.hid hb2
  clear hb2 hw4
  refine (steps_any w4).mono ?_
  rintro e w5 ⟨rfl, hb5⟩
  have H0 := Lib.hid (And.intro (blk_below hk4 hb5) (hb4.trans (hb5.mono hb4.size)))
  clear hb4 hk4 hz4 hb5
  go_wp2_with fail
  go_loopw [24] (fun u24 wq => ∃ (i : Nat) (W : Int) (T : ByteArray), i ≤ 2 ∧ u24 = .int .i64 i ∧ Hid (W = (if i = 0 then when else toW k0 u v when) ∧ T = (if i = 2 then toT k0 u v tag else tag)) ∧ Hid (wq.heap[b2]? = some (.cells #[.int .i64 k0, .string t, .int .u64 rule, .slice A3 l.length c3, .int .u64 out, .int .u64 W, .string T] 70 (0, 0)) ∧ Below w3.heap.size w3 wq)) (fun u _ => 2 - (intOf u).toNat)
  case atStart => exact ⟨0, when, tag, by omega, rfl, Lib.hid ⟨rfl, rfl⟩, H0⟩
  case round =>
    clear H0
    obtain ⟨i, W, T, hi, rfl, hWT, hp⟩ := hrel
    obtain ⟨hk2, hB⟩ := hp.out
    have hp0 := blk_below HP0.out hB
    have hi3 : i = 0 ∨ i = 1 ∨ i = 2 := by omega
    rcases hi3 with rfl | rfl | rfl
    · have hix := ix0
      have HW0 := Lib.hid (show W = when from hWT.out.1.trans (if_pos rfl))
      have HT0 := Lib.hid (show T = tag from hWT.out.2.trans (if_neg (by decide)))
      have hB2 : Below w3.heap.size w3 (wr.alloc (.cells #[.int .i64 1, .func (.func 95) #[] #[]] 141)) := hB.alloc hB.size _
      have hq2 : (wr.alloc (.cells #[.int .i64 1, .func (.func 95) #[] #[]] 141)).heap[b2]? = _ := (heap_new_old _ _ _ (blk_lt hk2)).trans hk2
      have y0 : (wr.alloc (.cells #[.int .i64 1, .func (.func 95) #[] #[]] 141)).cell? ⟨b0, 0, none⟩ = some (.int .i64 k0) := (blk_cell (blk_below HP0.out hB2) 0).trans rfl
      have HST := Lib.hid (step1_any (wr.alloc (.cells #[.int .i64 1, .func (.func 95) #[] #[]] 141)) b2 _ ((blk_cell hq2 5).trans rfl) (blk_frozen hq2 5))
      have HB2 := Lib.hid hB2
      have HQ2 := Lib.hid hq2
      have HZ3 := Lib.hid (show w3.heap.size ≤ b2 from Nat.le_of_eq HBB2.out)
      clear hk2 hB hp hp0 hB2 hq2 hWT
      cases x1 <;> cases x2 <;> cases x3
      all_goals go_wp2_with fail
      all_goals first
        | exact ⟨⟨1, W, T, by omega, rfl, Lib.hid ⟨by rw [if_neg (by omega), HW.out]; exact HW0.out, HT0.out⟩, Lib.hid ⟨HQ2.out, HB2.out⟩⟩, by simp [intOf]⟩
        | (refine HST.out.mono ?_
           rintro e w7 ⟨rfl, rfl⟩
           go_wp2_with fail
           exact ⟨⟨1, 1, T, by omega, rfl, Lib.hid ⟨by rw [if_neg (by omega), HW.out]; rfl, HT0.out⟩, Lib.hid ⟨blk_put HQ2.out 5 _ rfl, HB2.out.setCell (p := ⟨b2, _, none⟩) HZ3.out _⟩⟩, by simp [intOf]⟩)
    · have hix := ix1
      have HW0 := Lib.hid (show W = toW k0 u v when from hWT.out.1.trans (if_neg (by decide)))
      have HT0 := Lib.hid (show T = tag from hWT.out.2.trans (if_neg (by decide)))
      have hB2 : Below w3.heap.size w3 (wr.alloc (.cells #[.int .i64 2, .func (.func 96) #[] #[]] 141)) := hB.alloc hB.size _
      have hq2 : (wr.alloc (.cells #[.int .i64 2, .func (.func 96) #[] #[]] 141)).heap[b2]? = _ := (heap_new_old _ _ _ (blk_lt hk2)).trans hk2
      have y0 : (wr.alloc (.cells #[.int .i64 2, .func (.func 96) #[] #[]] 141)).cell? ⟨b0, 0, none⟩ = some (.int .i64 k0) := (blk_cell (blk_below HP0.out hB2) 0).trans rfl
      have HST := Lib.hid (step2_any (wr.alloc (.cells #[.int .i64 2, .func (.func 96) #[] #[]] 141)) b2 _ ((blk_cell hq2 6).trans rfl) (blk_frozen hq2 6))
      have HB2 := Lib.hid hB2
      have HQ2 := Lib.hid hq2
      have HZ3 := Lib.hid (show w3.heap.size ≤ b2 from Nat.le_of_eq HBB2.out)
      clear hk2 hB hp hp0 hB2 hq2 hWT
      cases x1 <;> cases x4 <;> cases x5
      all_goals go_wp2_with fail
      all_goals first
        | exact ⟨⟨2, W, T, by omega, rfl, Lib.hid ⟨HW0.out, by rw [if_pos rfl, HT.out]; exact HT0.out⟩, Lib.hid ⟨HQ2.out, HB2.out⟩⟩, by simp [intOf]⟩
        | (refine HST.out.mono ?_
           rintro e w7 ⟨rfl, rfl⟩
           go_wp2_with fail
           exact ⟨⟨2, W, oldB, by omega, rfl, Lib.hid ⟨HW0.out, by rw [if_pos rfl, HT.out]; rfl⟩, Lib.hid ⟨blk_put HQ2.out 6 _ rfl, HB2.out.setCell (p := ⟨b2, _, none⟩) HZ3.out _⟩⟩, by simp [intOf]⟩)
    · have hk1 := blk_below HP1.out hB
      have HPK := Lib.hid hk2
      have HPB := Lib.hid hB
      have y0 : wr.cell? ⟨b2, 0, none⟩ = some (.int .i64 k0) := (blk_cell hk2 0).trans rfl
      have y1 : wr.cell? ⟨b2, 1, none⟩ = some (.string t) := (blk_cell hk2 1).trans rfl
      have y2 : wr.cell? ⟨b2, 2, none⟩ = some (.int .u64 rule) := (blk_cell hk2 2).trans rfl
      have y3 : wr.cell? ⟨b2, 3, none⟩ = some (.slice A3 l.length c3) := (blk_cell hk2 3).trans rfl
      have y4 : wr.cell? ⟨b2, 4, none⟩ = some (.int .u64 out) := (blk_cell hk2 4).trans rfl
      have y5 : wr.cell? ⟨b2, 5, none⟩ = some (.int .u64 W) := (blk_cell hk2 5).trans rfl
      have y6 : wr.cell? ⟨b2, 6, none⟩ = some (.string T) := (blk_cell hk2 6).trans rfl
      have yf0 := blk_frozen hk2 0
      have yf1 := blk_frozen hk2 1
      have yf2 := blk_frozen hk2 2
      have yf3 := blk_frozen hk2 3
      have yf4 := blk_frozen hk2 4
      have yf5 := blk_frozen hk2 5
      have yf6 := blk_frozen hk2 6
      have z0 : wr.cell? ⟨b1, 0, none⟩ = some (.int .i64 0) := (blk_cell hk1 0).trans rfl
      have z1 : wr.cell? ⟨b1, 1, none⟩ = some (.string ⟨#[]⟩) := (blk_cell hk1 1).trans rfl
      have z2 : wr.cell? ⟨b1, 2, none⟩ = some (.int .u64 0) := (blk_cell hk1 2).trans rfl
      have z3 : wr.cell? ⟨b1, 3, none⟩ = some (.slice none 0 0) := (blk_cell hk1 3).trans rfl
      have z4 : wr.cell? ⟨b1, 4, none⟩ = some (.int .u64 0) := (blk_cell hk1 4).trans rfl
      have z5 : wr.cell? ⟨b1, 5, none⟩ = some (.int .u64 0) := (blk_cell hk1 5).trans rfl
      have z6 : wr.cell? ⟨b1, 6, none⟩ = some (.string ⟨#[]⟩) := (blk_cell hk1 6).trans rfl
      have zf0 := blk_frozen hk1 0
      have zf1 := blk_frozen hk1 1
      have zf2 := blk_frozen hk1 2
      have zf3 := blk_frozen hk1 3
      have zf4 := blk_frozen hk1 4
      have zf5 := blk_frozen hk1 5
      have zf6 := blk_frozen hk1 6
      go_wp2_with fail
      refine bodyPost_ret (results_ct rfl _ _ b1 70 #[_, _, _, _, _, _, _] (0, 0) _ rfl (blk_put7 hk1 _ _ _ _ _ _ _) HU.out rfl (by kernel_rfl)) rfl ?_
      refine ⟨A3, c3, by rw [hWT.out.1, hWT.out.2]; rfl, ?_, below_put7 (HB3.out.trans (hB.mono HB3.out.size)) HG.out.2.1 _ _ _ _ _ _ _⟩
      refine Kd.R_mono (Kd.R_step HR4.out (fun k hk _ => ?_)) (fun _ _ => trivial)
      rw [heap_put7 _ (by have := HG3.out; omega)]
      exact hB.block k hk.2
end
end Go.Proofs.Ythpbkhagjgggjaa
/- A record's move from one version to another, whatever it is: one function of numbers, texts and lists. -/
namespace Go.Proofs.Ythpbkhagjgggjaa
open Go.RowKit Go.Proofs.YthpbkhagjgggjaaW.PrintWords Go.Proofs.Ythpbkhagjgggjaa.GRR

abbrev Rec8 := Int × ByteArray × Int × List S76 × Int × Int × ByteArray
def zero8 : Rec8 := (0, ⟨#[]⟩, 0, [], 0, 0, ⟨#[]⟩)
def toF (u v k0 : Int) (t : ByteArray) (rule : Int) (l : List S76) (out when : Int) (tag : ByteArray) : Rec8 × Int :=
  if 1 ≤ u ∧ u ≤ v ∧ v ≤ 3 then (if mayB u k0 t rule l out when tag = true then ((k0, t, rule, l, out, toW k0 u v when, toT k0 u v tag), 0) else (zero8, 1)) else (zero8, 11)
section
variable (u v k0 : Int) (t : ByteArray) (rule : Int) (A : Option Addr) (c : Nat) (l : List S76) (out when : Int) (tag : ByteArray) (w : World)
set_option maxHeartbeats 2000000 in
set_option maxRecDepth 100000 in
theorem mto_bad (hv : ¬ (1 ≤ u ∧ u ≤ v ∧ v ≤ 3)) :
    Calls Try.prog 54 #[.int .i64 u, .int .i64 v, .agg #[.int .i64 k0, .string t, .int .u64 rule, .slice A l.length c, .int .u64 out, .int .u64 when, .string tag]] w fun e w' => e = .returned (.tuple #[.agg #[.int .i64 0, .string ⟨#[]⟩, .int .u64 0, .slice none 0 0, .int .u64 0, .int .u64 0, .string ⟨#[]⟩], .int .i64 11]) ∧ Below w.heap.size w w' := by
  obtain ⟨w1, hw1⟩ : ∃ w1, (w.alloc (.cells #[.int .i64 k0, .string t, .int .u64 rule, .slice A l.length c, .int .u64 out, .int .u64 when, .string tag] 70)).alloc (.cells #[.int .i64 0, .string ⟨#[]⟩, .int .u64 0, .slice none 0 0, .int .u64 0, .int .u64 0, .string ⟨#[]⟩] 70) = w1 := ⟨_, rfl⟩
  have hb1 : Below w.heap.size w w1 := by rw [← hw1]; exact ((Below.refl _ _).alloc (Nat.le_refl _) _).alloc (by rw [heap_size_alloc]; omega) _
  have hk0 : w1.heap[w.heap.size]? = some (.cells #[.int .i64 k0, .string t, .int .u64 rule, .slice A l.length c, .int .u64 out, .int .u64 when, .string tag] 70 (0, 0)) := by
    rw [← hw1, heap_new_old _ _ _ (by rw [heap_size_alloc]; omega)]; exact heap_new _ _
  have hk1 : w1.heap[w.heap.size + 1]? = some (.cells #[.int .i64 0, .string ⟨#[]⟩, .int .u64 0, .slice none 0 0, .int .u64 0, .int .u64 0, .string ⟨#[]⟩] 70 (0, 0)) := by
    rw [← hw1]; have := heap_new (w.alloc (.cells #[.int .i64 k0, .string t, .int .u64 rule, .slice A l.length c, .int .u64 out, .int .u64 when, .string tag] 70)) (.cells #[.int .i64 0, .string ⟨#[]⟩, .int .u64 0, .slice none 0 0, .int .u64 0, .int .u64 0, .string ⟨#[]⟩] 70); rwa [heap_size_alloc] at this
  have HU := Lib.hid (Try.underlying70)
  obtain ⟨b0, hb0⟩ : ∃ b, w.heap.size = b := ⟨_, rfl⟩
  obtain ⟨b1, hbb1⟩ : ∃ b, w.heap.size + 1 = b := ⟨_, rfl⟩
  rw [hb0] at hk0
  rw [hbb1] at hk1
  have hne : b1 ≠ b0 := by omega
  have hne2 : b0 ≠ b1 := by omega
  have HG := Lib.hid (show w.heap.size ≤ b0 ∧ w.heap.size ≤ b1 by omega)
  have HB0 := Lib.hid hb0
  have HBB1 := Lib.hid hbb1
  have HK0 := Lib.hid hk0
  have HK1 := Lib.hid hk1
  have HW1 := Lib.hid hw1
  have HB1 := Lib.hid hb1
  have HVS := Lib.hid (versions_any u v w1)
  rw [show decide (1 ≤ u ∧ u ≤ v ∧ v ≤ 3) = false from decide_eq_false hv] at HVS
  have z0 : w1.cell? ⟨b1, 0, none⟩ = some (.int .i64 0) := (blk_cell hk1 0).trans rfl
  have z1 : w1.cell? ⟨b1, 1, none⟩ = some (.string ⟨#[]⟩) := (blk_cell hk1 1).trans rfl
  have z2 : w1.cell? ⟨b1, 2, none⟩ = some (.int .u64 0) := (blk_cell hk1 2).trans rfl
  have z3 : w1.cell? ⟨b1, 3, none⟩ = some (.slice none 0 0) := (blk_cell hk1 3).trans rfl
  have z4 : w1.cell? ⟨b1, 4, none⟩ = some (.int .u64 0) := (blk_cell hk1 4).trans rfl
  have z5 : w1.cell? ⟨b1, 5, none⟩ = some (.int .u64 0) := (blk_cell hk1 5).trans rfl
  have z6 : w1.cell? ⟨b1, 6, none⟩ = some (.string ⟨#[]⟩) := (blk_cell hk1 6).trans rfl
  have zf0 := blk_frozen hk1 0
  have zf1 := blk_frozen hk1 1
  have zf2 := blk_frozen hk1 2
  have zf3 := blk_frozen hk1 3
  have zf4 := blk_frozen hk1 4
  have zf5 := blk_frozen hk1 5
  have zf6 := blk_frozen hk1 6
  clear hb1 hv hw1 hk0 hk1 hb0 hbb1
  go_enter Try.func54, Try.ntmps54
  go_wp2_with fail
  rw [HW1.out, HBB1.out, HB0.out]
  refine HVS.out.mono ?_
  rintro e w2 ⟨rfl, rfl⟩
  go_wp2_with fail
  refine bodyPost_ret (results_ct rfl _ _ b1 70 #[_, _, _, _, _, _, _] (0, 0) _ rfl (blk_put7 HK1.out _ _ _ _ _ _ _) HU.out rfl (by kernel_rfl)) rfl ?_
  exact ⟨rfl, below_put7 HB1.out HG.out.2 _ _ _ _ _ _ _⟩
set_option maxHeartbeats 2000000 in
set_option maxRecDepth 100000 in
theorem mto_no (hr : Kd.C k76 w A l.length l) (hc : l.length ≤ c) (hok : RecOk t l tag) (hv : 1 ≤ u ∧ u ≤ v ∧ v ≤ 3) (hm : mayB u k0 t rule l out when tag = false) :
    Calls Try.prog 54 #[.int .i64 u, .int .i64 v, .agg #[.int .i64 k0, .string t, .int .u64 rule, .slice A l.length c, .int .u64 out, .int .u64 when, .string tag]] w fun e w' => e = .returned (.tuple #[.agg #[.int .i64 0, .string ⟨#[]⟩, .int .u64 0, .slice none 0 0, .int .u64 0, .int .u64 0, .string ⟨#[]⟩], .int .i64 1]) ∧ Below w.heap.size w w' := by
  obtain ⟨w1, hw1⟩ : ∃ w1, (w.alloc (.cells #[.int .i64 k0, .string t, .int .u64 rule, .slice A l.length c, .int .u64 out, .int .u64 when, .string tag] 70)).alloc (.cells #[.int .i64 0, .string ⟨#[]⟩, .int .u64 0, .slice none 0 0, .int .u64 0, .int .u64 0, .string ⟨#[]⟩] 70) = w1 := ⟨_, rfl⟩
  have hb1 : Below w.heap.size w w1 := by rw [← hw1]; exact ((Below.refl _ _).alloc (Nat.le_refl _) _).alloc (by rw [heap_size_alloc]; omega) _
  have hk0 : w1.heap[w.heap.size]? = some (.cells #[.int .i64 k0, .string t, .int .u64 rule, .slice A l.length c, .int .u64 out, .int .u64 when, .string tag] 70 (0, 0)) := by
    rw [← hw1, heap_new_old _ _ _ (by rw [heap_size_alloc]; omega)]; exact heap_new _ _
  have hk1 : w1.heap[w.heap.size + 1]? = some (.cells #[.int .i64 0, .string ⟨#[]⟩, .int .u64 0, .slice none 0 0, .int .u64 0, .int .u64 0, .string ⟨#[]⟩] 70 (0, 0)) := by
    rw [← hw1]; have := heap_new (w.alloc (.cells #[.int .i64 k0, .string t, .int .u64 rule, .slice A l.length c, .int .u64 out, .int .u64 when, .string tag] 70)) (.cells #[.int .i64 0, .string ⟨#[]⟩, .int .u64 0, .slice none 0 0, .int .u64 0, .int .u64 0, .string ⟨#[]⟩] 70); rwa [heap_size_alloc] at this
  have HU := Lib.hid (Try.underlying70)
  obtain ⟨b0, hb0⟩ : ∃ b, w.heap.size = b := ⟨_, rfl⟩
  obtain ⟨b1, hbb1⟩ : ∃ b, w.heap.size + 1 = b := ⟨_, rfl⟩
  rw [hb0] at hk0
  rw [hbb1] at hk1
  have hne : b1 ≠ b0 := by omega
  have hne2 : b0 ≠ b1 := by omega
  have HG := Lib.hid (show w.heap.size ≤ b0 ∧ w.heap.size ≤ b1 by omega)
  have HB0 := Lib.hid hb0
  have HBB1 := Lib.hid hbb1
  have HK0 := Lib.hid hk0
  have HK1 := Lib.hid hk1
  have HW1 := Lib.hid hw1
  have HB1 := Lib.hid hb1
  have HVS := Lib.hid (versions_any u v w1)
  rw [show decide (1 ≤ u ∧ u ≤ v ∧ v ≤ 3) = true from decide_eq_true hv] at HVS
  have HMY := Lib.hid (may_any u k0 t rule A c l out when tag w1 (Kd.C_below hr hb1) hc hok)
  rw [hm] at HMY
  have y0 : w1.cell? ⟨b0, 0, none⟩ = some (.int .i64 k0) := (blk_cell hk0 0).trans rfl
  have y1 : w1.cell? ⟨b0, 1, none⟩ = some (.string t) := (blk_cell hk0 1).trans rfl
  have y2 : w1.cell? ⟨b0, 2, none⟩ = some (.int .u64 rule) := (blk_cell hk0 2).trans rfl
  have y3 : w1.cell? ⟨b0, 3, none⟩ = some (.slice A l.length c) := (blk_cell hk0 3).trans rfl
  have y4 : w1.cell? ⟨b0, 4, none⟩ = some (.int .u64 out) := (blk_cell hk0 4).trans rfl
  have y5 : w1.cell? ⟨b0, 5, none⟩ = some (.int .u64 when) := (blk_cell hk0 5).trans rfl
  have y6 : w1.cell? ⟨b0, 6, none⟩ = some (.string tag) := (blk_cell hk0 6).trans rfl
  have yf0 := blk_frozen hk0 0
  have yf1 := blk_frozen hk0 1
  have yf2 := blk_frozen hk0 2
  have yf3 := blk_frozen hk0 3
  have yf4 := blk_frozen hk0 4
  have yf5 := blk_frozen hk0 5
  have yf6 := blk_frozen hk0 6
  clear hb1 hv hw1 hk0 hk1 hb0 hbb1 hr hok hm
  go_enter Try.func54, Try.ntmps54
  go_wp2_with fail
  rw [HW1.out, HBB1.out, HB0.out]
  refine HVS.out.mono ?_
  rintro e w2 ⟨rfl, rfl⟩
  go_wp2_with fail
  refine HMY.out.mono ?_
  rintro e w2 ⟨rfl, hb2⟩
  have hk3 := blk_below HK1.out hb2
  have z0 : w2.cell? ⟨b1, 0, none⟩ = some (.int .i64 0) := (blk_cell hk3 0).trans rfl
  have z1 : w2.cell? ⟨b1, 1, none⟩ = some (.string ⟨#[]⟩) := (blk_cell hk3 1).trans rfl
  have z2 : w2.cell? ⟨b1, 2, none⟩ = some (.int .u64 0) := (blk_cell hk3 2).trans rfl
  have z3 : w2.cell? ⟨b1, 3, none⟩ = some (.slice none 0 0) := (blk_cell hk3 3).trans rfl
  have z4 : w2.cell? ⟨b1, 4, none⟩ = some (.int .u64 0) := (blk_cell hk3 4).trans rfl
  have z5 : w2.cell? ⟨b1, 5, none⟩ = some (.int .u64 0) := (blk_cell hk3 5).trans rfl
  have z6 : w2.cell? ⟨b1, 6, none⟩ = some (.string ⟨#[]⟩) := (blk_cell hk3 6).trans rfl
  have zf0 := blk_frozen hk3 0
  have zf1 := blk_frozen hk3 1
  have zf2 := blk_frozen hk3 2
  have zf3 := blk_frozen hk3 3
  have zf4 := blk_frozen hk3 4
  have zf5 := blk_frozen hk3 5
  have zf6 := blk_frozen hk3 6
  clear y0 y1 y2 y3 y4 y5 y6 yf0 yf1 yf2 yf3 yf4 yf5 yf6
  go_wp2_with fail
  refine bodyPost_ret (results_ct rfl _ _ b1 70 #[_, _, _, _, _, _, _] (0, 0) _ rfl (blk_put7 hk3 _ _ _ _ _ _ _) HU.out rfl (by kernel_rfl)) rfl ?_
  exact ⟨rfl, below_put7 (HB1.out.trans (hb2.mono HB1.out.size)) HG.out.2 _ _ _ _ _ _ _⟩
/-- migrate.To. -/
theorem mto_any (hr : Kd.C k76 w A l.length l) (hc : l.length ≤ c) (hok : RecOk t l tag) :
    Calls Try.prog 54 #[.int .i64 u, .int .i64 v, .agg #[.int .i64 k0, .string t, .int .u64 rule, .slice A l.length c, .int .u64 out, .int .u64 when, .string tag]] w fun e w' => ∃ (A3 : Option Addr) (c3 : Nat), e = .returned (.tuple #[.agg #[.int .i64 (toF u v k0 t rule l out when tag).1.1, .string (toF u v k0 t rule l out when tag).1.2.1, .int .u64 (toF u v k0 t rule l out when tag).1.2.2.1, .slice A3 (toF u v k0 t rule l out when tag).1.2.2.2.1.length c3, .int .u64 (toF u v k0 t rule l out when tag).1.2.2.2.2.1, .int .u64 (toF u v k0 t rule l out when tag).1.2.2.2.2.2.1, .string (toF u v k0 t rule l out when tag).1.2.2.2.2.2.2], .int .i64 (toF u v k0 t rule l out when tag).2]) ∧ Kd.R k76 76 w' w.heap.size (fun _ => True) (.slice A3 (toF u v k0 t rule l out when tag).1.2.2.2.1.length c3) (toF u v k0 t rule l out when tag).1.2.2.2.1 ∧ Below w.heap.size w w' := by
  unfold toF
  by_cases hv : 1 ≤ u ∧ u ≤ v ∧ v ≤ 3
  · simp only [if_pos hv]
    cases hm : mayB u k0 t rule l out when tag with
    | true =>
      simp only [if_true]
      exact mto_ok u v k0 t rule A c l out when tag w hr hc hok hv hm
    | false =>
      simp only [Bool.false_eq_true, if_false]
      refine (mto_no u v k0 t rule A c l out when tag w hr hc hok hv hm).mono ?_
      rintro e w' ⟨rfl, hB⟩
      exact ⟨none, 0, rfl, Kd.R_nil _ _ _ _ _, hB⟩
  · simp only [if_neg hv]
    refine (mto_bad u v k0 t rule A c l out when tag w hv).mono ?_
    rintro e w' ⟨rfl, hB⟩
    exact ⟨none, 0, rfl, Kd.R_nil _ _ _ _ _, hB⟩
/-- The document's To. -/
theorem rto_any2 (hr : Kd.C k76 w A l.length l) (hc : l.length ≤ c) (hok : RecOk t l tag) :
    Calls Try.prog 55 #[.int .i64 u, .int .i64 v, .agg #[.int .i64 k0, .string t, .int .u64 rule, .slice A l.length c, .int .u64 out, .int .u64 when, .string tag]] w fun e w' => ∃ (A3 : Option Addr) (c3 : Nat), e = .returned (.tuple #[.agg #[.int .i64 (toF u v k0 t rule l out when tag).1.1, .string (toF u v k0 t rule l out when tag).1.2.1, .int .u64 (toF u v k0 t rule l out when tag).1.2.2.1, .slice A3 (toF u v k0 t rule l out when tag).1.2.2.2.1.length c3, .int .u64 (toF u v k0 t rule l out when tag).1.2.2.2.2.1, .int .u64 (toF u v k0 t rule l out when tag).1.2.2.2.2.2.1, .string (toF u v k0 t rule l out when tag).1.2.2.2.2.2.2], .int .i64 (toF u v k0 t rule l out when tag).2]) ∧ (Kd.C k76 w' A3 (toF u v k0 t rule l out when tag).1.2.2.2.1.length (toF u v k0 t rule l out when tag).1.2.2.2.1 ∧ (toF u v k0 t rule l out when tag).1.2.2.2.1.length ≤ c3) ∧ Below w.heap.size w w' := by
  refine (rto_any u v k0 t rule A c l out when tag w hr hc hok).mono ?_
  rintro e w' ⟨rfl, hB⟩
  unfold toF
  by_cases hv : 1 ≤ u ∧ u ≤ v ∧ v ≤ 3
  · simp only [if_pos hv]
    cases hm : mayB u k0 t rule l out when tag with
    | true =>
      simp only [if_true]
      exact ⟨A, c, rfl, ⟨Kd.C_below hr hB, hc⟩, hB⟩
    | false =>
      simp only [Bool.false_eq_true, if_false]
      exact ⟨none, 0, rfl, ⟨Kd.C_nil _ _, Nat.le_refl _⟩, hB⟩
  · simp only [if_neg hv]
    exact ⟨none, 0, rfl, ⟨Kd.C_nil _ _, Nat.le_refl _⟩, hB⟩
end
end Go.Proofs.Ythpbkhagjgggjaa
/- A step of a record's move, and the fixed part of the laws of moves. -/
namespace Go.Proofs.Ythpbkhagjgggjaa
open Go.RowKit Go.Proofs.YthpbkhagjgggjaaW.PrintWords Go.Proofs.Ythpbkhagjgggjaa.GRR

set_option maxHeartbeats 1000000 in
set_option maxRecDepth 100000 in
theorem fixed11_any (w : World) : Calls Try.prog 53 #[] w fun e w' => e = .returned (.bool true) ∧ Below w.heap.size w w' := by
  have hok : RecOk ⟨#[97]⟩ [] ⟨#[]⟩ := ⟨by simp, by decide, by decide, by simp⟩
  have HTO := Lib.hid (mto_ok 1 3 1 ⟨#[97]⟩ 0 none 0 [] 0 0 ⟨#[]⟩ w (Kd.C_nil _ _) (Nat.le_refl _) hok (by omega) (by decide))
  rw [show toW 1 1 3 0 = 1 from rfl, show toT 1 1 3 (⟨#[]⟩ : ByteArray) = oldB from rfl, show ([] : List S76).length = 0 from rfl] at HTO
  clear hok
  go_enter Try.func53, Try.ntmps53
  go_wp2_with fail
  refine HTO.out.mono ?_
  rintro e w1 ⟨A3, c3, rfl, hR, hB⟩
  clear hR
  have HB := Lib.hid hB
  have ht : (oldB.toList == [111, 108, 100]) = true := by rw [Lib.toList_data]; rfl
  clear hB
  go_wp2_with fail
  go_ret
  exact ⟨rfl, HB.out.alloc HB.out.size _⟩
section
variable (u k0 : Int) (t : ByteArray) (rule : Int) (A : Option Addr) (c : Nat) (l : List S76) (out when : Int) (tag : ByteArray) (w : World)
theorem toF_out (h : ¬ (1 ≤ u ∧ u < 3)) : toF u (u + 1) k0 t rule l out when tag = (zero8, 11) := by unfold toF; rw [if_neg (by omega)]
set_option maxHeartbeats 2000000 in
set_option maxRecDepth 100000 in
theorem mstep_any (hr : Kd.C k76 w A l.length l) (hc : l.length ≤ c) (hok : RecOk t l tag) :
    Calls Try.prog 56 #[.int .i64 u, .agg #[.int .i64 k0, .string t, .int .u64 rule, .slice A l.length c, .int .u64 out, .int .u64 when, .string tag]] w fun e w' => ∃ (A3 : Option Addr) (c3 : Nat), e = .returned (.tuple #[.agg #[.int .i64 (toF u (u + 1) k0 t rule l out when tag).1.1, .string (toF u (u + 1) k0 t rule l out when tag).1.2.1, .int .u64 (toF u (u + 1) k0 t rule l out when tag).1.2.2.1, .slice A3 (toF u (u + 1) k0 t rule l out when tag).1.2.2.2.1.length c3, .int .u64 (toF u (u + 1) k0 t rule l out when tag).1.2.2.2.2.1, .int .u64 (toF u (u + 1) k0 t rule l out when tag).1.2.2.2.2.2.1, .string (toF u (u + 1) k0 t rule l out when tag).1.2.2.2.2.2.2], .int .i64 (toF u (u + 1) k0 t rule l out when tag).2]) ∧ Kd.R k76 76 w' w.heap.size (fun _ => True) (.slice A3 (toF u (u + 1) k0 t rule l out when tag).1.2.2.2.1.length c3) (toF u (u + 1) k0 t rule l out when tag).1.2.2.2.1 ∧ Below w.heap.size w w' := by
  obtain ⟨w1, hw1⟩ : ∃ w1, (w.alloc (.cells #[.int .i64 k0, .string t, .int .u64 rule, .slice A l.length c, .int .u64 out, .int .u64 when, .string tag] 70)).alloc (.cells #[.int .i64 0, .string ⟨#[]⟩, .int .u64 0, .slice none 0 0, .int .u64 0, .int .u64 0, .string ⟨#[]⟩] 70) = w1 := ⟨_, rfl⟩
  have hb1 : Below w.heap.size w w1 := by rw [← hw1]; exact ((Below.refl _ _).alloc (Nat.le_refl _) _).alloc (by rw [heap_size_alloc]; omega) _
  have hk0 : w1.heap[w.heap.size]? = some (.cells #[.int .i64 k0, .string t, .int .u64 rule, .slice A l.length c, .int .u64 out, .int .u64 when, .string tag] 70 (0, 0)) := by
    rw [← hw1, heap_new_old _ _ _ (by rw [heap_size_alloc]; omega)]; exact heap_new _ _
  have hk1 : w1.heap[w.heap.size + 1]? = some (.cells #[.int .i64 0, .string ⟨#[]⟩, .int .u64 0, .slice none 0 0, .int .u64 0, .int .u64 0, .string ⟨#[]⟩] 70 (0, 0)) := by
    rw [← hw1]; have := heap_new (w.alloc (.cells #[.int .i64 k0, .string t, .int .u64 rule, .slice A l.length c, .int .u64 out, .int .u64 when, .string tag] 70)) (.cells #[.int .i64 0, .string ⟨#[]⟩, .int .u64 0, .slice none 0 0, .int .u64 0, .int .u64 0, .string ⟨#[]⟩] 70); rwa [heap_size_alloc] at this
  have HU := Lib.hid (Try.underlying70)
  obtain ⟨b0, hb0⟩ : ∃ b, w.heap.size = b := ⟨_, rfl⟩
  obtain ⟨b1, hbb1⟩ : ∃ b, w.heap.size + 1 = b := ⟨_, rfl⟩
  rw [hb0] at hk0
  rw [hbb1] at hk1
  have hne : b1 ≠ b0 := by omega
  have hne2 : b0 ≠ b1 := by omega
  have HG := Lib.hid (show w.heap.size ≤ b0 ∧ w.heap.size ≤ b1 by omega)
  have HB0 := Lib.hid hb0
  have HBB1 := Lib.hid hbb1
  have HK0 := Lib.hid hk0
  have HK1 := Lib.hid hk1
  have HW1 := Lib.hid hw1
  have HB1 := Lib.hid hb1
  have hz1 : b1 < w1.heap.size := by rw [← hw1, heap_size_alloc, heap_size_alloc]; omega
  have HZ1 := Lib.hid hz1
  by_cases hu : 1 ≤ u ∧ u < 3
  · have HTO := Lib.hid (mto_any u (u + 1) k0 t rule A c l out when tag w1 (Kd.C_below hr hb1) hc hok)
    have d1 : decide (u < 1) = false := decide_eq_false (by omega)
    have d2 : decide (3 ≤ u) = false := decide_eq_false (by omega)
    have hw : wrap64 (u + 1) = u + 1 := by unfold wrap64; omega
    generalize toF u (u + 1) k0 t rule l out when tag = F at *
    obtain ⟨⟨x0, x1, x2, x3, x4, x5, x6⟩, e1⟩ := F
    dsimp only at HTO ⊢
    clear hr hok hb1 hw1 hk0 hk1 hb0 hbb1 hz1
    go_enter Try.func56, Try.ntmps56
    go_wp2_with fail
    rw [HW1.out, HBB1.out, HB0.out]
    refine HTO.out.mono ?_
    rintro e w2 ⟨A3, c3, rfl, hR, hB⟩
    have HR := Lib.hid hR
    have hk3 := blk_below HK1.out hB
    have HB := Lib.hid hB
    clear hR hB
    have z0 : w2.cell? ⟨b1, 0, none⟩ = some (.int .i64 0) := (blk_cell hk3 0).trans rfl
    have z1 : w2.cell? ⟨b1, 1, none⟩ = some (.string ⟨#[]⟩) := (blk_cell hk3 1).trans rfl
    have z2 : w2.cell? ⟨b1, 2, none⟩ = some (.int .u64 0) := (blk_cell hk3 2).trans rfl
    have z3 : w2.cell? ⟨b1, 3, none⟩ = some (.slice none 0 0) := (blk_cell hk3 3).trans rfl
    have z4 : w2.cell? ⟨b1, 4, none⟩ = some (.int .u64 0) := (blk_cell hk3 4).trans rfl
    have z5 : w2.cell? ⟨b1, 5, none⟩ = some (.int .u64 0) := (blk_cell hk3 5).trans rfl
    have z6 : w2.cell? ⟨b1, 6, none⟩ = some (.string ⟨#[]⟩) := (blk_cell hk3 6).trans rfl
    have zf0 := blk_frozen hk3 0
    have zf1 := blk_frozen hk3 1
    have zf2 := blk_frozen hk3 2
    have zf3 := blk_frozen hk3 3
    have zf4 := blk_frozen hk3 4
    have zf5 := blk_frozen hk3 5
    have zf6 := blk_frozen hk3 6
    go_wp2_with fail
    refine bodyPost_ret (results_ct rfl _ _ b1 70 #[_, _, _, _, _, _, _] (0, 0) _ rfl (blk_put7 hk3 _ _ _ _ _ _ _) HU.out rfl (by kernel_rfl)) rfl ?_
    refine ⟨A3, c3, rfl, ?_, below_put7 (HB1.out.trans (HB.out.mono HB1.out.size)) HG.out.2 _ _ _ _ _ _ _⟩
    refine Kd.R_mono (Kd.R_step (Kd.R_lower (Kd.R_bound HR.out) HB1.out.size) (fun k hk _ => ?_)) (fun _ _ => trivial)
    exact heap_put7 _ (by have := HZ1.out; have := hk.2.1; omega) _ _ _ _ _ _ _
  · rw [toF_out u k0 t rule l out when tag hu]
    by_cases e1 : u < 1
    · have d1 : decide (u < 1) = true := decide_eq_true e1
      clear hr hok hb1 hw1 hb0 hbb1 hz1
      go_enter Try.func56, Try.ntmps56
      go_wp2_with fail
      rw [HW1.out, HBB1.out, HB0.out]
      refine bodyPost_ret (results_ct rfl _ _ b1 70 #[_, _, _, _, _, _, _] (0, 0) _ rfl hk1 HU.out rfl (by kernel_rfl)) rfl ?_
      exact ⟨none, 0, rfl, Kd.R_nil _ _ _ _ _, HB0.out ▸ HB1.out⟩
    · have d1 : decide (u < 1) = false := decide_eq_false e1
      have d2 : decide (3 ≤ u) = true := decide_eq_true (by omega)
      clear hr hok hb1 hw1 hb0 hbb1 hz1
      go_enter Try.func56, Try.ntmps56
      go_wp2_with fail
      rw [HW1.out, HBB1.out, HB0.out]
      refine bodyPost_ret (results_ct rfl _ _ b1 70 #[_, _, _, _, _, _, _] (0, 0) _ rfl hk1 HU.out rfl (by kernel_rfl)) rfl ?_
      exact ⟨none, 0, rfl, Kd.R_nil _ _ _ _ _, HB0.out ▸ HB1.out⟩
/-- The document's step. -/
theorem rstep_any2 (hr : Kd.C k76 w A l.length l) (hc : l.length ≤ c) (hok : RecOk t l tag) :
    Calls Try.prog 57 #[.int .i64 u, .agg #[.int .i64 k0, .string t, .int .u64 rule, .slice A l.length c, .int .u64 out, .int .u64 when, .string tag]] w fun e w' => ∃ (A3 : Option Addr) (c3 : Nat), e = .returned (.tuple #[.agg #[.int .i64 (toF u (u + 1) k0 t rule l out when tag).1.1, .string (toF u (u + 1) k0 t rule l out when tag).1.2.1, .int .u64 (toF u (u + 1) k0 t rule l out when tag).1.2.2.1, .slice A3 (toF u (u + 1) k0 t rule l out when tag).1.2.2.2.1.length c3, .int .u64 (toF u (u + 1) k0 t rule l out when tag).1.2.2.2.2.1, .int .u64 (toF u (u + 1) k0 t rule l out when tag).1.2.2.2.2.2.1, .string (toF u (u + 1) k0 t rule l out when tag).1.2.2.2.2.2.2], .int .i64 (toF u (u + 1) k0 t rule l out when tag).2]) ∧ (Kd.C k76 w' A3 (toF u (u + 1) k0 t rule l out when tag).1.2.2.2.1.length (toF u (u + 1) k0 t rule l out when tag).1.2.2.2.1 ∧ (toF u (u + 1) k0 t rule l out when tag).1.2.2.2.1.length ≤ c3) ∧ Below w.heap.size w w' := by
  refine (rstep_any u k0 t rule A c l out when tag w hr hc hok).mono ?_
  rintro e w' ⟨rfl, hB⟩
  by_cases hv : u = 1 ∨ u = 2
  · have ht : toF u (u + 1) k0 t rule l out when tag = if mayB u k0 t rule l out when tag = true then ((k0, t, rule, l, out, stpW k0 u when, stpT k0 u tag), 0) else (zero8, 1) := by
      unfold toF
      rw [if_pos (by omega), ← toW_step k0 u u when (by omega) hv, ← toT_step k0 u u tag (by omega) hv, toW_self, toT_self]
    rw [if_pos hv, ht]
    cases hm : mayB u k0 t rule l out when tag with
    | true =>
      simp only [if_true]
      exact ⟨A, c, rfl, ⟨Kd.C_below hr hB, hc⟩, hB⟩
    | false =>
      simp only [Bool.false_eq_true, if_false]
      exact ⟨none, 0, rfl, ⟨Kd.C_nil _ _, Nat.le_refl _⟩, hB⟩
  · rw [if_neg hv, toF_out u k0 t rule l out when tag (by omega)]
    exact ⟨none, 0, rfl, ⟨Kd.C_nil _ _, Nat.le_refl _⟩, hB⟩
end
end Go.Proofs.Ythpbkhagjgggjaa
/- When the document calls records the same. -/
namespace Go.Proofs.Ythpbkhagjgggjaa
open Go.RowKit Go.Proofs.YthpbkhagjgggjaaW.PrintWords Go.Proofs.Ythpbkhagjgggjaa.GRR

section
variable (a0 b0 : Int) (a1 b1 : ByteArray) (a2 b2 : Int) (a3 b3 : List S76) (a4 b4 a5 b5 : Int) (a6 b6 : ByteArray)
theorem rsame_l0 (hlen : a3.length = b3.length) (hl : a3.length ≤ 1000000) : ∀ (d i k : Nat), a3.length = i + d → d < k →
    ∃ b, tephraref08_Same.l0 k (i : Int) a0 a1 a2 a3 a4 a5 a6 b0 b1 b2 b3 b4 b5 b6 = some b ∧ (b = true ↔ a3.drop i = b3.drop i) := by
  intro d
  induction d with
  | zero =>
    intro i k hi hk
    obtain ⟨k, rfl⟩ : ∃ m, k = m + 1 := ⟨k - 1, by omega⟩
    refine ⟨true, ?_, ?_⟩
    · simp only [tephraref08_Same.l0]; rw [if_neg (by omega)]
    · rw [List.drop_of_length_le (by omega), List.drop_of_length_le (by omega)]; simp
  | succ d ih =>
    intro i k hi hk
    obtain ⟨k, rfl⟩ : ∃ m, k = m + 1 := ⟨k - 1, by omega⟩
    have h1 : i < a3.length := by omega
    have h2 : i < b3.length := by omega
    simp only [tephraref08_Same.l0]
    rw [if_pos (by omega), if_pos (by omega), if_pos (by omega), rd_dep a3 i h1, rd_dep b3 i h2, wr1 i a3.length h1 (by omega), List.drop_eq_getElem_cons h1, List.drop_eq_getElem_cons h2]
    obtain ⟨b, hb, hb2⟩ := ih (i + 1) k (by omega) (by omega)
    generalize hx : a3[i] = x
    generalize hy : b3[i] = y
    obtain ⟨x0, x1, x2⟩ := x
    obtain ⟨y0, y1, y2⟩ := y
    by_cases e0 : x0 = y0
    · by_cases e1 : x1 = y1
      · by_cases e2 : x2 = y2
        · subst e0 e1 e2
          rw [if_pos rfl, if_pos rfl, if_neg (by simp)]
          exact ⟨b, hb, by rw [hb2]; simp⟩
        · subst e0 e1
          rw [if_pos rfl, if_pos rfl, if_pos (by simpa using e2)]
          exact ⟨false, rfl, by simp [e2]⟩
      · subst e0
        rw [if_pos rfl, if_neg e1]
        exact ⟨false, rfl, by simp [e1]⟩
    · rw [if_neg (fun h => e0 (tl_eq.1 h))]
      exact ⟨false, rfl, by simp [e0]⟩
theorem rsame_is (hl : a3.length ≤ 1000000) (k : Nat) (hk : a3.length + 1 < k) :
    ∃ b, tephraref08_Same.f k a0 a1 a2 a3 a4 a5 a6 b0 b1 b2 b3 b4 b5 b6 = some b ∧ (b = true ↔ a0 = b0 ∧ a1 = b1 ∧ a2 = b2 ∧ a3 = b3 ∧ a4 = b4 ∧ a5 = b5 ∧ a6 = b6) := by
  obtain ⟨k, rfl⟩ : ∃ m, k = m + 1 := ⟨k - 1, by omega⟩
  have hno : tephraref08_Same.j0 (k + 1) true a0 a1 a2 a3 a4 a5 a6 b0 b1 b2 b3 b4 b5 b6 = some false := by
    simp only [tephraref08_Same.j0]; rw [if_pos trivial]
  unfold tephraref08_Same.f
  rw [hno]
  by_cases c0 : a0 = b0
  · by_cases c1 : a1 = b1
    · by_cases c2 : a2 = b2
      · by_cases c4 : a4 = b4
        · by_cases c5 : a5 = b5
          · by_cases c6 : a6 = b6
            · rw [if_pos c0, if_pos (tl_eq.2 c1), if_pos c2, if_pos c4, if_pos c5, if_pos (tl_eq.2 c6)]
              simp only [tephraref08_Same.j0]
              by_cases hlen : a3.length = b3.length
              · rw [if_neg (by simp; omega)]
                obtain ⟨b, hb, hb2⟩ := rsame_l0 a0 b0 a1 b1 a2 b2 a3 b3 a4 b4 a5 b5 a6 b6 hlen hl a3.length 0 k (by omega) (by omega)
                refine ⟨b, hb, ?_⟩
                rw [hb2]; simp [*]
              · rw [if_pos (by simp; omega)]
                refine ⟨false, rfl, ⟨fun h => (by cases h), fun h => absurd (congrArg List.length h.2.2.2.1) hlen⟩⟩
            · rw [if_pos c0, if_pos (tl_eq.2 c1), if_pos c2, if_pos c4, if_pos c5, if_neg (fun h => c6 (tl_eq.1 h))]; exact ⟨false, rfl, by simp [c6]⟩
          · rw [if_pos c0, if_pos (tl_eq.2 c1), if_pos c2, if_pos c4, if_neg c5]; exact ⟨false, rfl, by simp [c5]⟩
        · rw [if_pos c0, if_pos (tl_eq.2 c1), if_pos c2, if_neg c4]; exact ⟨false, rfl, by simp [c4]⟩
      · rw [if_pos c0, if_pos (tl_eq.2 c1), if_neg c2]; exact ⟨false, rfl, by simp [c2]⟩
    · rw [if_pos c0, if_neg (fun h => c1 (tl_eq.1 h))]; exact ⟨false, rfl, by simp [c1]⟩
  · rw [if_neg c0]; exact ⟨false, rfl, by simp [c0]⟩
end
end Go.Proofs.Ythpbkhagjgggjaa
