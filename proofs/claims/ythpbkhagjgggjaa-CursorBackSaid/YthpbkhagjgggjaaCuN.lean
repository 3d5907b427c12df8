/- The document's cursor takes a number, and a text. -/
import Derived.Test.YthpbkhagjgggjaaGVBx2
import Derived.Test.YthpbkhagjgggjaaVarC
import Derived.RegionTactic
import Derived.BigRegion
set_option linter.unusedVariables false
set_option linter.unusedSimpArgs false
namespace Go.Proofs.Ythpbkhagjgggjaa
open Go.RowKit Go.Proofs.YthpbkhagjgggjaaW.PrintWords Go.Proofs.Ythpbkhagjgggjaa.GVB

theorem cells_box3 {W : World} {b : Nat} {t : TypeId} {x y z : Value} (h : W.heap[b]? = some (.cells #[x, y, z] t (0, 0))) : W.cell? ⟨b, 0, none⟩ = some x ∧ W.cell? ⟨b, 1, none⟩ = some y ∧ W.cell? ⟨b, 2, none⟩ = some z ∧ W.frozen? ⟨b, 0, none⟩ = false ∧ W.frozen? ⟨b, 1, none⟩ = false ∧ W.frozen? ⟨b, 2, none⟩ = false := by
  simp [World.cell?, World.frozen?, h]
theorem put3 {W : World} {b : Nat} {t : TypeId} {x y z u v r : Value} (h : W.heap[b]? = some (.cells #[x, y, z] t (0, 0))) : (((W.setCell ⟨b, 0, none⟩ u).setCell ⟨b, 1, none⟩ v).setCell ⟨b, 2, none⟩ r).heap[b]? = some (.cells #[u, v, r] t (0, 0)) := by
  have h1 := blk_set h 0 u
  have h2 := blk_set h1 1 v
  have h3 := blk_set h2 2 r
  simpa using h3
set_option maxRecDepth 100000 in
set_option maxHeartbeats 1000000 in
theorem rnum_failed (s : ByteArray) (at_ e : Int) (he : (e != 0) = true) (w : World) :
    Calls Try.prog 69 #[.agg #[.string s, .int .i64 at_, .int .i64 e]] w fun e' w' => e' = .returned (.tuple #[.int .u64 0, .agg #[.string s, .int .i64 at_, .int .i64 e]]) ∧ Below w.heap.size w w' := by
  go_enter Try.func69, Try.ntmps69
  go_wp2_with fail
  go_region
  all_goals go_wp2
  all_goals refine bodyPost_ret (results_tc rfl _ _ (w.heap.size + 1) 39 #[_, _, _] (0, 0) _ rfl ?hb Try.underlying39 rfl (by kernel_rfl)) rfl ⟨rfl, ?_⟩
  case hb =>
    have := blk_new (w.alloc (.cells #[.string s, .int .i64 at_, .int .i64 e] 39)) (.cells #[.string s, .int .i64 at_, .int .i64 e] 39)
    rw [heap_size_alloc] at this
    exact this
  exact (((Below.refl _ _).alloc (Nat.le_refl _) _).alloc (by simp) _).drew
set_option maxRecDepth 100000 in
set_option maxHeartbeats 1000000 in
theorem rnum_err (s : ByteArray) (at_ : Int) (n p : Int) (ec : Int) (hne : (ec != 0) = true) (w : World) :
    (∀ W, Calls Try.prog 92 #[.string s, .int .i64 at_] W fun e' w' => e' = .returned (.tuple #[.int .u64 n, .int .i64 p, .int .i64 ec]) ∧ Below W.heap.size W w') →
    Calls Try.prog 69 #[.agg #[.string s, .int .i64 at_, .int .i64 0]] w fun e' w' => e' = .returned (.tuple #[.int .u64 0, .agg #[.string s, .int .i64 at_, .int .i64 ec]]) ∧ Below w.heap.size w w' := by
  intro HG
  have HG := Lib.hid HG
  go_enter Try.func69, Try.ntmps69
  go_wp2_with fail
  refine (HG.out _).mono ?_
  rintro e' w1 ⟨rfl, hb⟩
  have hB0 : Below w.heap.size w ((w.alloc (.cells #[.string s, .int .i64 at_, .int .i64 0] 39)).alloc (.cells #[.string ⟨#[]⟩, .int .i64 0, .int .i64 0] 39)) := ((Below.refl _ _).alloc (Nat.le_refl _) _).alloc (by simp) _
  have h1 : w1.heap[w.heap.size]? = some (.cells #[.string s, .int .i64 at_, .int .i64 0] 39 (0, 0)) := blk_below (blk_alloc (blk_new _ _) _) hb
  have h2 : w1.heap[w.heap.size + 1]? = some (.cells #[.string ⟨#[]⟩, .int .i64 0, .int .i64 0] 39 (0, 0)) := by
    have := blk_new (w.alloc (.cells #[.string s, .int .i64 at_, .int .i64 0] 39)) (.cells #[.string ⟨#[]⟩, .int .i64 0, .int .i64 0] 39)
    rw [heap_size_alloc] at this
    exact blk_below this hb
  have HB1 := Lib.hid (hB0.trans (hb.mono hB0.size))
  have H2 := Lib.hid h2
  obtain ⟨c0, c1, c2, f0, f1, f2⟩ := cells_box3 h1
  clear hb hB0 h1 h2
  go_wp2_with fail
  refine (tephraref04_Cursor_Fail.calls s at_ 0 ec s at_ ec w1 rfl).mono ?_
  rintro e' w2 ⟨rfl, hb⟩
  have h2 := blk_below H2.out hb
  have HB2 := Lib.hid (HB1.out.trans (hb.mono HB1.out.size))
  have H22 := Lib.hid h2
  obtain ⟨c0, c1, c2, f0, f1, f2⟩ := cells_box3 h2
  clear hb h2
  go_wp2_with fail
  refine bodyPost_ret (results_tc rfl _ _ (w.heap.size + 1) 39 #[_, _, _] (0, 0) _ rfl (put3 H22.out) Try.underlying39 rfl (by kernel_rfl)) rfl ⟨rfl, ?_⟩
  exact ((HB2.out.setCell (by simp) _).setCell (by simp) _).setCell (by simp) _
set_option maxRecDepth 100000 in
set_option maxHeartbeats 1000000 in
theorem rnum_ok (s : ByteArray) (at_ : Int) (n : Int) (next : Int) (w : World) :
    (∀ W, Calls Try.prog 92 #[.string s, .int .i64 at_] W fun e' w' => e' = .returned (.tuple #[.int .u64 n, .int .i64 next, .int .i64 0]) ∧ Below W.heap.size W w') →
    Calls Try.prog 69 #[.agg #[.string s, .int .i64 at_, .int .i64 0]] w fun e' w' => e' = .returned (.tuple #[.int .u64 n, .agg #[.string s, .int .i64 next, .int .i64 0]]) ∧ Below w.heap.size w w' := by
  intro HG
  have HG := Lib.hid HG
  go_enter Try.func69, Try.ntmps69
  go_wp2_with fail
  refine (HG.out _).mono ?_
  rintro e' w1 ⟨rfl, hb⟩
  have hB0 : Below w.heap.size w ((w.alloc (.cells #[.string s, .int .i64 at_, .int .i64 0] 39)).alloc (.cells #[.string ⟨#[]⟩, .int .i64 0, .int .i64 0] 39)) := ((Below.refl _ _).alloc (Nat.le_refl _) _).alloc (by simp) _
  have h1 : w1.heap[w.heap.size]? = some (.cells #[.string s, .int .i64 at_, .int .i64 0] 39 (0, 0)) := blk_below (blk_alloc (blk_new _ _) _) hb
  have h2 : w1.heap[w.heap.size + 1]? = some (.cells #[.string ⟨#[]⟩, .int .i64 0, .int .i64 0] 39 (0, 0)) := by
    have := blk_new (w.alloc (.cells #[.string s, .int .i64 at_, .int .i64 0] 39)) (.cells #[.string ⟨#[]⟩, .int .i64 0, .int .i64 0] 39)
    rw [heap_size_alloc] at this
    exact blk_below this hb
  have HB1 := Lib.hid (hB0.trans (hb.mono hB0.size))
  have H12 := Lib.hid (And.intro h1 h2)
  obtain ⟨c0, c1, c2, f0, f1, f2⟩ := cells_box3 h1
  clear hb hB0 h1 h2
  go_wp2_with fail
  obtain ⟨w2, hw2⟩ : ∃ w2, w1.setCell ⟨w.heap.size, 1, none⟩ (.int .i64 next) = w2 := ⟨_, rfl⟩
  have h1 : w2.heap[w.heap.size]? = some (.cells #[.string s, .int .i64 next, .int .i64 0] 39 (0, 0)) := by
    rw [← hw2]; simpa using blk_set H12.out.1 1 (.int .i64 next)
  have h2 : w2.heap[w.heap.size + 1]? = some (.cells #[.string ⟨#[]⟩, .int .i64 0, .int .i64 0] 39 (0, 0)) := by
    rw [← hw2]; exact (Below.heap_setCell _ _ _ _ (by simp)).trans H12.out.2
  have hb2 : Below w.heap.size w w2 := by rw [← hw2]; exact HB1.out.setCell (by simp) _
  rw [hw2]
  have H22 := Lib.hid h2
  have HB2 := Lib.hid hb2
  clear c0 c1 c2 f0 f1 f2
  obtain ⟨c0, c1, c2, f0, f1, f2⟩ := cells_box3 h1
  obtain ⟨d0, d1, d2, g0, g1, g2⟩ := cells_box3 h2
  clear h1 h2 hb2 hw2
  go_region
  all_goals go_wp2
  all_goals refine bodyPost_ret (results_tc rfl _ _ (w.heap.size + 1) 39 #[_, _, _] (0, 0) _ rfl (blk_drew (put3 H22.out)) Try.underlying39 rfl (by kernel_rfl)) rfl ⟨rfl, ?_⟩
  all_goals exact (((HB2.out.setCell (by simp) _).setCell (by simp) _).setCell (by simp) _).drew
set_option maxRecDepth 100000 in
set_option maxHeartbeats 1000000 in
theorem rtext_failed (s : ByteArray) (at_ e : Int) (lim : Int) (he : (e != 0) = true) (w : World) :
    Calls Try.prog 70 #[.agg #[.string s, .int .i64 at_, .int .i64 e], .int .i64 lim] w fun e' w' => e' = .returned (.tuple #[.string ⟨#[]⟩, .agg #[.string s, .int .i64 at_, .int .i64 e]]) ∧ Below w.heap.size w w' := by
  go_enter Try.func70, Try.ntmps70
  go_wp2_with fail
  go_region
  all_goals go_wp2
  all_goals refine bodyPost_ret (results_tc rfl _ _ (w.heap.size + 1) 39 #[_, _, _] (0, 0) _ rfl ?hb Try.underlying39 rfl (by kernel_rfl)) rfl ⟨rfl, ?_⟩
  case hb =>
    have := blk_new (w.alloc (.cells #[.string s, .int .i64 at_, .int .i64 e] 39)) (.cells #[.string s, .int .i64 at_, .int .i64 e] 39)
    rw [heap_size_alloc] at this
    exact this
  exact (((Below.refl _ _).alloc (Nat.le_refl _) _).alloc (by simp) _).drew
set_option maxRecDepth 100000 in
set_option maxHeartbeats 1000000 in
theorem rtext_err (s : ByteArray) (at_ : Int) (lim : Int) (u : ByteArray) (p : Int) (ec : Int) (hne : (ec != 0) = true) (w : World) :
    (∀ W, Calls Try.prog 93 #[.string s, .int .i64 at_, .int .i64 lim] W fun e' w' => e' = .returned (.tuple #[.string u, .int .i64 p, .int .i64 ec]) ∧ Below W.heap.size W w') →
    Calls Try.prog 70 #[.agg #[.string s, .int .i64 at_, .int .i64 0], .int .i64 lim] w fun e' w' => e' = .returned (.tuple #[.string ⟨#[]⟩, .agg #[.string s, .int .i64 at_, .int .i64 ec]]) ∧ Below w.heap.size w w' := by
  intro HG
  have HG := Lib.hid HG
  go_enter Try.func70, Try.ntmps70
  go_wp2_with fail
  refine (HG.out _).mono ?_
  rintro e' w1 ⟨rfl, hb⟩
  have hB0 : Below w.heap.size w ((w.alloc (.cells #[.string s, .int .i64 at_, .int .i64 0] 39)).alloc (.cells #[.string ⟨#[]⟩, .int .i64 0, .int .i64 0] 39)) := ((Below.refl _ _).alloc (Nat.le_refl _) _).alloc (by simp) _
  have h1 : w1.heap[w.heap.size]? = some (.cells #[.string s, .int .i64 at_, .int .i64 0] 39 (0, 0)) := blk_below (blk_alloc (blk_new _ _) _) hb
  have h2 : w1.heap[w.heap.size + 1]? = some (.cells #[.string ⟨#[]⟩, .int .i64 0, .int .i64 0] 39 (0, 0)) := by
    have := blk_new (w.alloc (.cells #[.string s, .int .i64 at_, .int .i64 0] 39)) (.cells #[.string ⟨#[]⟩, .int .i64 0, .int .i64 0] 39)
    rw [heap_size_alloc] at this
    exact blk_below this hb
  have HB1 := Lib.hid (hB0.trans (hb.mono hB0.size))
  have H2 := Lib.hid h2
  obtain ⟨c0, c1, c2, f0, f1, f2⟩ := cells_box3 h1
  clear hb hB0 h1 h2
  go_wp2_with fail
  refine (tephraref04_Cursor_Fail.calls s at_ 0 ec s at_ ec w1 rfl).mono ?_
  rintro e' w2 ⟨rfl, hb⟩
  have h2 := blk_below H2.out hb
  have HB2 := Lib.hid (HB1.out.trans (hb.mono HB1.out.size))
  have H22 := Lib.hid h2
  obtain ⟨c0, c1, c2, f0, f1, f2⟩ := cells_box3 h2
  clear hb h2
  go_wp2_with fail
  refine bodyPost_ret (results_tc rfl _ _ (w.heap.size + 1) 39 #[_, _, _] (0, 0) _ rfl (put3 H22.out) Try.underlying39 rfl (by kernel_rfl)) rfl ⟨rfl, ?_⟩
  exact ((HB2.out.setCell (by simp) _).setCell (by simp) _).setCell (by simp) _
set_option maxRecDepth 100000 in
set_option maxHeartbeats 1000000 in
theorem rtext_ok (s : ByteArray) (at_ : Int) (lim : Int) (u : ByteArray) (next : Int) (w : World) :
    (∀ W, Calls Try.prog 93 #[.string s, .int .i64 at_, .int .i64 lim] W fun e' w' => e' = .returned (.tuple #[.string u, .int .i64 next, .int .i64 0]) ∧ Below W.heap.size W w') →
    Calls Try.prog 70 #[.agg #[.string s, .int .i64 at_, .int .i64 0], .int .i64 lim] w fun e' w' => e' = .returned (.tuple #[.string u, .agg #[.string s, .int .i64 next, .int .i64 0]]) ∧ Below w.heap.size w w' := by
  intro HG
  have HG := Lib.hid HG
  go_enter Try.func70, Try.ntmps70
  go_wp2_with fail
  refine (HG.out _).mono ?_
  rintro e' w1 ⟨rfl, hb⟩
  have hB0 : Below w.heap.size w ((w.alloc (.cells #[.string s, .int .i64 at_, .int .i64 0] 39)).alloc (.cells #[.string ⟨#[]⟩, .int .i64 0, .int .i64 0] 39)) := ((Below.refl _ _).alloc (Nat.le_refl _) _).alloc (by simp) _
  have h1 : w1.heap[w.heap.size]? = some (.cells #[.string s, .int .i64 at_, .int .i64 0] 39 (0, 0)) := blk_below (blk_alloc (blk_new _ _) _) hb
  have h2 : w1.heap[w.heap.size + 1]? = some (.cells #[.string ⟨#[]⟩, .int .i64 0, .int .i64 0] 39 (0, 0)) := by
    have := blk_new (w.alloc (.cells #[.string s, .int .i64 at_, .int .i64 0] 39)) (.cells #[.string ⟨#[]⟩, .int .i64 0, .int .i64 0] 39)
    rw [heap_size_alloc] at this
    exact blk_below this hb
  have HB1 := Lib.hid (hB0.trans (hb.mono hB0.size))
  have H12 := Lib.hid (And.intro h1 h2)
  obtain ⟨c0, c1, c2, f0, f1, f2⟩ := cells_box3 h1
  clear hb hB0 h1 h2
  go_wp2_with fail
  obtain ⟨w2, hw2⟩ : ∃ w2, w1.setCell ⟨w.heap.size, 1, none⟩ (.int .i64 next) = w2 := ⟨_, rfl⟩
  have h1 : w2.heap[w.heap.size]? = some (.cells #[.string s, .int .i64 next, .int .i64 0] 39 (0, 0)) := by
    rw [← hw2]; simpa using blk_set H12.out.1 1 (.int .i64 next)
  have h2 : w2.heap[w.heap.size + 1]? = some (.cells #[.string ⟨#[]⟩, .int .i64 0, .int .i64 0] 39 (0, 0)) := by
    rw [← hw2]; exact (Below.heap_setCell _ _ _ _ (by simp)).trans H12.out.2
  have hb2 : Below w.heap.size w w2 := by rw [← hw2]; exact HB1.out.setCell (by simp) _
  rw [hw2]
  have H22 := Lib.hid h2
  have HB2 := Lib.hid hb2
  clear c0 c1 c2 f0 f1 f2
  obtain ⟨c0, c1, c2, f0, f1, f2⟩ := cells_box3 h1
  obtain ⟨d0, d1, d2, g0, g1, g2⟩ := cells_box3 h2
  clear h1 h2 hb2 hw2
  go_region
  all_goals go_wp2
  all_goals refine bodyPost_ret (results_tc rfl _ _ (w.heap.size + 1) 39 #[_, _, _] (0, 0) _ rfl (blk_drew (put3 H22.out)) Try.underlying39 rfl (by kernel_rfl)) rfl ⟨rfl, ?_⟩
  all_goals exact (((HB2.out.setCell (by simp) _).setCell (by simp) _).setCell (by simp) _).drew
end Go.Proofs.Ythpbkhagjgggjaa
