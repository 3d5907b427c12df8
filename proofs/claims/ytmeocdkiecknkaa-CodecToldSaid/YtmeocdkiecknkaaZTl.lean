/- Texts laid as one by shake.py, cut to what the claim needs: CuP, CuW, CuM, CuNew, CuRt. (Names that begin with W and the print's groups (G..x, G..z): laid by the kit's print, cut.) -/
import Derived.Test.YtmeocdkiecknkaaZTj
import Derived.Test.YtmeocdkiecknkaaZTk
import Derived.Test.YtmeocdkiecknkaaZTi
import Derived.Deep.QuietTactic
import Derived.BigQuiet
set_option linter.unusedVariables false
set_option linter.unusedSimpArgs false
namespace Go.Proofs.Ytmeocdkiecknkaa
open Go.RowKit Go.Proofs.YtmeocdkiecknkaaW.PrintWords Go.Proofs.Ytmeocdkiecknkaa.GVB
theorem getS_cases2 (l : List Int) (hb : ∀ x ∈ l, 0 ≤ x ∧ x < 256) (a : Int) : (∃ e : Int, getS l a = (0, 0, e) ∧ 1 ≤ e ∧ e ≤ 3) ∨
  ∃ lo n p : Nat, a = (lo : Int) ∧ getS l a = ((n : Int), (p : Int), 0) ∧ lo < p ∧ p ≤ l.length ∧ n < 18446744073709551616 := by
 rcases getS_cases l hb a with ⟨ec, h1, h2⟩ | ⟨lo, n, p, ha, h1, h2, h3, h4, h5⟩
 ·exact .inl ⟨ec, h1, by omega, by omega⟩
 ·refine .inr ⟨lo, n, p, ha, h1, ?_, h3, h4⟩
  have := congrArg List.length h5
  rw [List.length_drop, List.length_take] at this
  have h6 : 0 < (ints (vb n)).length := by
   rw [show (ints (vb n)).length = (vb n).length by simp [ints]]
   exact List.length_pos_iff.2 (vb_ne n)
  omega
def IsCu (w0 W : World) (g : Nat) (l : List Int) (a e : Int) : Prop :=
 ∃ A c, W.heap[g]? = some (.cells #[.slice A l.length c, .int .i64 a, .int .i64 e] 160 (0, 0)) ∧ w0.heap.size ≤ g ∧ Kd.C (Kd.int .u8) w0 A l.length l ∧ l.length ≤ c
theorem IsCu.keep {w0 W W' : World} {g : Nat} {l : List Int} {a e : Int} (h : IsCu w0 W g l a e) (hb : Below W.heap.size W W') : IsCu w0 W' g l a e := by
 obtain ⟨A, c, h1, h2, h3, h4⟩ := h
 exact ⟨A, c, blk_below h1 hb, h2, h3, h4⟩
theorem IsCu.grown {w0 W W' : World} {g : Nat} {l : List Int} {a e : Int} {row : Option Nat} (h : IsCu w0 W g l a e) (hg : W.grownBy W' row) (hr : some g ≠ row) : IsCu w0 W' g l a e := by
 obtain ⟨A, c, h1, h2, h3, h4⟩ := h
 exact ⟨A, c, (hg.block g (Array.getElem?_eq_some_iff.1 h1).1 hr).trans h1, h2, h3, h4⟩
def CuPost (w0 w : World) (g : Nat) (l : List Int) (v : Value) (a e : Int) (en : Ending) (w' : World) : Prop :=
 en = .returned v ∧ IsCu w0 w' g l a e ∧ w.grownBy w' (some g) ∧ Below w0.heap.size w0 w'
end Go.Proofs.Ytmeocdkiecknkaa
namespace Go.Proofs.Ytmeocdkiecknkaa
open Go.RowKit Go.Proofs.YtmeocdkiecknkaaW.PrintWords Go.Proofs.Ytmeocdkiecknkaa.GVB
theorem cu_cells {w0 W : World} {g : Nat} {l : List Int} {a e : Int} (h : IsCu w0 W g l a e) : ∃ A c, l.length ≤ c ∧ Kd.C (Kd.int .u8) w0 A l.length l ∧ w0.heap.size ≤ g ∧ W.heap[g]? = some (.cells #[.slice A l.length c, .int .i64 a, .int .i64 e] 160 (0, 0)) ∧ W.cell? ⟨g, 0, none⟩ = some (.slice A l.length c) ∧ W.cell? ⟨g, 1, none⟩ = some (.int .i64 a) ∧ W.cell? ⟨g, 2, none⟩ = some (.int .i64 e) ∧ W.frozen? ⟨g, 1, none⟩ = false ∧ W.frozen? ⟨g, 2, none⟩ = false := by
 obtain ⟨A, c, h1, h2, h3, h4⟩ := h
 exact ⟨A, c, h4, h3, h2, h1, by simp [World.cell?, h1], by simp [World.cell?, h1], by simp [World.cell?, h1], by simp [World.frozen?, h1], by simp [World.frozen?, h1]⟩
theorem IsCu.fail {w0 W : World} {g : Nat} {l : List Int} {a e : Int} (h : IsCu w0 W g l a e) (ec : Int) : IsCu w0 (W.setCell ⟨g, 2, none⟩ (.int .i64 ec)) g l a ec := by
 obtain ⟨A, c, h1, h2, h3, h4⟩ := h
 exact ⟨A, c, by simpa using blk_set h1 2 (.int .i64 ec), h2, h3, h4⟩
theorem IsCu.go {w0 W : World} {g : Nat} {l : List Int} {a e : Int} (h : IsCu w0 W g l a e) (n : Int) : IsCu w0 (W.setCell ⟨g, 1, none⟩ (.int .i64 n)) g l n e := by
 obtain ⟨A, c, h1, h2, h3, h4⟩ := h
 exact ⟨A, c, by simpa using blk_set h1 1 (.int .i64 n), h2, h3, h4⟩
theorem grownBy_setAt (W : World) (b i : Nat) (v : Value) : W.grownBy (W.setCell ⟨b, i, none⟩ v) (some b) :=
 ⟨rfl, rfl, rfl, by simp [World.setCell], fun k _ hk => Below.heap_setCell W ⟨b, i, none⟩ v k (fun e => hk (by rw [e]))⟩
set_option maxRecDepth 100000 in
set_option maxHeartbeats 1000000 in
theorem one_byte_failed (w0 w : World) (g : Nat) (l : List Int) (at0 e : Int) (tv : Value) (hI : IsCu w0 w g l at0 e) (hB : Below w0.heap.size w0 w) (he : (e != 0) = true) :
  Calls Try.prog 114 #[.pointer (some ⟨g, 0, none⟩), tv] w (CuPost w0 w g l (.int .u8 0) at0 e) := by
 have HI := Lib.hid hI
 obtain ⟨A, c, _, _, _, _, c0, c1, c2, _, _⟩ := cu_cells hI
 clear hI
 go_enter Try.func114, Try.ntmps114
 go_wp2_with fail
 go_ret
 exact ⟨rfl, HI.out, World.grownBy.refl _ _, hB⟩
set_option maxRecDepth 100000 in
set_option maxHeartbeats 1000000 in
theorem one_byte_err (w0 w : World) (g : Nat) (l : List Int) (at0 : Int) (x : Int) (nx ec : Int) (hI : IsCu w0 w g l at0 0) (hB : Below w0.heap.size w0 w) (he : (ec != 0) = true)
  (hT : ∀ A c W, Kd.C (Kd.int .u8) W A l.length l → l.length ≤ c → Below w.heap.size w W → Calls Try.prog 115 #[.slice A l.length c, .int .i64 at0] W fun e' W' => e' = .returned (.tuple #[.int .u8 x, .int .i64 nx, .int .i64 ec]) ∧ Below W.heap.size W W') :
  Calls Try.prog 114 #[.pointer (some ⟨g, 0, none⟩), .func (.func 115) #[] #[]] w (CuPost w0 w g l (.int .u8 0) at0 ec) := by
 have HI := Lib.hid hI
 have HBB := Lib.hid hB
 have HT := Lib.hid hT
 obtain ⟨A, c, hc, hC, hg, hh, c0, c1, c2, f1, f2⟩ := cu_cells hI
 have HH := Lib.hid hh
 have HCC := Lib.hid hC
 clear hI hC hh hB hT
 go_enter Try.func114, Try.ntmps114
 go_wp2_with fail
 refine region_calmA (n := 17) (byList [isV (.func (.func 115) #[] #[]), isV (.pointer (some ⟨g, 0, none⟩)), isV (.pointer (some ⟨g, 0, none⟩)), isV (.pointer (some ⟨g, 0, none⟩)), isV (.slice A l.length c), isV (.pointer (some ⟨g, 0, none⟩)), isV (.pointer (some ⟨g, 0, none⟩)), isV (.pointer (some ⟨g, 1, none⟩)), isV (.int .i64 at0), isV (.tuple #[.int .u8 x, .int .i64 nx, .int .i64 ec]), isV (.tuple #[.int .u8 x, .int .i64 nx, .int .i64 ec]), isV (.int .u8 x), isV (.int .i64 nx), isV (.int .i64 ec), isV (.int .u8 x), isV (.int .i64 nx), isV (.int .i64 ec)]) (by kernel_rfl) rfl (byList_lasts ?_) (by kernel_rfl) (by kernel_rfl) (show AllLt 17 _ from ?_) ?_
 ·intro p hp
  simp only [List.mem_cons, List.not_mem_nil, or_false] at hp
  rcases hp with rfl | rfl | rfl | rfl | rfl | rfl | rfl | rfl | rfl | rfl | rfl | rfl | rfl | rfl | rfl | rfl | rfl <;> first | exact isV_lasts | exact isC_lasts
 ·refine allLt_succ (allLt_succ (allLt_succ (allLt_succ (allLt_succ (allLt_succ (allLt_succ (allLt_succ (allLt_succ (allLt_succ (allLt_succ (allLt_succ (allLt_succ (allLt_succ (allLt_succ (allLt_succ (allLt_succ (allLt_zero _) ?_) ?_) ?_) ?_) ?_) ?_) ?_) ?_) ?_) ?_) ?_) ?_) ?_) ?_) ?_) ?_) ?_
  ·refine StepOkA.run (o := ?o0) ?ho0 ?hg0 ?h0
   case ho0 => simp only [List.getElem?_toArray, List.getElem?_cons_succ, List.getElem?_cons_zero]; rfl
   case hg0 => rfl
   case h0 =>
   intro a W hS hB hd
   have e1 : a.tmps[1]? = some (.func (.func 115) #[] #[]) := hS.get rfl rfl
   refine wp_value (c := .func (.func 115) #[] #[]) ?_ rfl
   go_simp
  ·refine StepOkA.run (o := ?o1) ?ho1 ?hg1 ?h1
   case ho1 => simp only [List.getElem?_toArray, List.getElem?_cons_succ, List.getElem?_cons_zero]; rfl
   case hg1 => rfl
   case h1 =>
   intro a W hS hB hd
   have e0 : a.tmps[0]? = some (.pointer (some ⟨g, 0, none⟩)) := hS.get rfl rfl
   refine wp_value (c := .pointer (some ⟨g, 0, none⟩)) ?_ rfl
   go_simp
  ·refine StepOkA.run (o := ?o2) ?ho2 ?hg2 ?h2
   case ho2 => simp only [List.getElem?_toArray, List.getElem?_cons_succ, List.getElem?_cons_zero]; rfl
   case hg2 => rfl
   case h2 =>
   intro a W hS hB hd
   have e17 : a.tmps[17]? = some (.pointer (some ⟨g, 0, none⟩)) := (hd 1 rfl).bool rfl rfl rfl
   refine wp_value (c := .pointer (some ⟨g, 0, none⟩)) ?_ rfl
   go_simp
  ·refine StepOkA.run (o := ?o3) ?ho3 ?hg3 ?h3
   case ho3 => simp only [List.getElem?_toArray, List.getElem?_cons_succ, List.getElem?_cons_zero]; rfl
   case hg3 => rfl
   case h3 =>
   intro a W hS hB hd
   have e18 : a.tmps[18]? = some (.pointer (some ⟨g, 0, none⟩)) := (hd 2 rfl).bool rfl rfl rfl
   refine wp_value (c := .pointer (some ⟨g, 0, none⟩)) ?_ rfl
   go_simp
  ·refine StepOkA.run (o := ?o4) ?ho4 ?hg4 ?h4
   case ho4 => simp only [List.getElem?_toArray, List.getElem?_cons_succ, List.getElem?_cons_zero]; rfl
   case hg4 => rfl
   case h4 =>
   intro a W hS hB hd
   have e19 : a.tmps[19]? = some (.pointer (some ⟨g, 0, none⟩)) := (hd 3 rfl).bool rfl rfl rfl
   refine wp_value (c := .slice A l.length c) ?_ rfl
   have hh := blk_below HH.out hB
   have hcW : W.cell? ⟨g, 0, none⟩ = some (.slice A l.length c) := by simp [World.cell?, hh]
   go_simp
  ·refine StepOkA.run (o := ?o5) ?ho5 ?hg5 ?h5
   case ho5 => simp only [List.getElem?_toArray, List.getElem?_cons_succ, List.getElem?_cons_zero]; rfl
   case hg5 => rfl
   case h5 =>
   intro a W hS hB hd
   have e0 : a.tmps[0]? = some (.pointer (some ⟨g, 0, none⟩)) := hS.get rfl rfl
   refine wp_value (c := .pointer (some ⟨g, 0, none⟩)) ?_ rfl
   go_simp
  ·refine StepOkA.run (o := ?o6) ?ho6 ?hg6 ?h6
   case ho6 => simp only [List.getElem?_toArray, List.getElem?_cons_succ, List.getElem?_cons_zero]; rfl
   case hg6 => rfl
   case h6 =>
   intro a W hS hB hd
   have e21 : a.tmps[21]? = some (.pointer (some ⟨g, 0, none⟩)) := (hd 5 rfl).bool rfl rfl rfl
   refine wp_value (c := .pointer (some ⟨g, 0, none⟩)) ?_ rfl
   go_simp
  ·refine StepOkA.run (o := ?o7) ?ho7 ?hg7 ?h7
   case ho7 => simp only [List.getElem?_toArray, List.getElem?_cons_succ, List.getElem?_cons_zero]; rfl
   case hg7 => rfl
   case h7 =>
   intro a W hS hB hd
   have e22 : a.tmps[22]? = some (.pointer (some ⟨g, 0, none⟩)) := (hd 6 rfl).bool rfl rfl rfl
   refine wp_value (c := .pointer (some ⟨g, 1, none⟩)) ?_ rfl
   go_simp
  ·refine StepOkA.run (o := ?o8) ?ho8 ?hg8 ?h8
   case ho8 => simp only [List.getElem?_toArray, List.getElem?_cons_succ, List.getElem?_cons_zero]; rfl
   case hg8 => rfl
   case h8 =>
   intro a W hS hB hd
   have e23 : a.tmps[23]? = some (.pointer (some ⟨g, 1, none⟩)) := (hd 7 rfl).bool rfl rfl rfl
   refine wp_value (c := .int .i64 at0) ?_ rfl
   have hh := blk_below HH.out hB
   have hcW : W.cell? ⟨g, 1, none⟩ = some (.int .i64 at0) := by simp [World.cell?, hh]
   go_simp
  ·refine StepOkA.run (o := ?o9) ?ho9 ?hg9 ?h9
   case ho9 => simp only [List.getElem?_toArray, List.getElem?_cons_succ, List.getElem?_cons_zero]; rfl
   case hg9 => rfl
   case h9 =>
   intro a W hS hB hd
   have e16 : a.tmps[16]? = some (.func (.func 115) #[] #[]) := (hd 0 rfl).bool rfl rfl rfl
   have e20 : a.tmps[20]? = some (.slice A l.length c) := (hd 4 rfl).bool rfl rfl rfl
   have e24 : a.tmps[24]? = some (.int .i64 at0) := (hd 8 rfl).bool rfl rfl rfl
   refine wp_called_fn (pre := #[]) (post := #[]) Try.func115 (by kernel_rfl) rfl #[.slice A l.length c, .int .i64 at0] rfl (by simp [Act.eval, *]) (by simp [Act.eval, *]) ?_
   refine (HT.out A c W (Kd.C_below HCC.out (HBB.out.trans (hB.mono HBB.out.size))) hc hB).mono ?_
   rintro e9 w9 ⟨rfl, hb9⟩
   exact ⟨_, rfl, rfl, hb9⟩
  ·refine StepOkA.run (o := ?o10) ?ho10 ?hg10 ?h10
   case ho10 => simp only [List.getElem?_toArray, List.getElem?_cons_succ, List.getElem?_cons_zero]; rfl
   case hg10 => rfl
   case h10 =>
   intro a W hS hB hd
   have e25 : a.tmps[25]? = some (.tuple #[.int .u8 x, .int .i64 nx, .int .i64 ec]) := (hd 9 rfl).bool rfl rfl rfl
   refine wp_value (c := .tuple #[.int .u8 x, .int .i64 nx, .int .i64 ec]) ?_ rfl
   go_simp
  ·refine StepOkA.run (o := ?o11) ?ho11 ?hg11 ?h11
   case ho11 => simp only [List.getElem?_toArray, List.getElem?_cons_succ, List.getElem?_cons_zero]; rfl
   case hg11 => rfl
   case h11 =>
   intro a W hS hB hd
   have e15 : a.tmps[15]? = some (.tuple #[.int .u8 x, .int .i64 nx, .int .i64 ec]) := (hd 10 rfl).bool rfl rfl rfl
   refine wp_value (c := .int .u8 x) ?_ rfl
   go_simp
  ·refine StepOkA.run (o := ?o12) ?ho12 ?hg12 ?h12
   case ho12 => simp only [List.getElem?_toArray, List.getElem?_cons_succ, List.getElem?_cons_zero]; rfl
   case hg12 => rfl
   case h12 =>
   intro a W hS hB hd
   have e15 : a.tmps[15]? = some (.tuple #[.int .u8 x, .int .i64 nx, .int .i64 ec]) := (hd 10 rfl).bool rfl rfl rfl
   refine wp_value (c := .int .i64 nx) ?_ rfl
   go_simp
  ·refine StepOkA.run (o := ?o13) ?ho13 ?hg13 ?h13
   case ho13 => simp only [List.getElem?_toArray, List.getElem?_cons_succ, List.getElem?_cons_zero]; rfl
   case hg13 => rfl
   case h13 =>
   intro a W hS hB hd
   have e15 : a.tmps[15]? = some (.tuple #[.int .u8 x, .int .i64 nx, .int .i64 ec]) := (hd 10 rfl).bool rfl rfl rfl
   refine wp_value (c := .int .i64 ec) ?_ rfl
   go_simp
  ·refine StepOkA.run (o := ?o14) ?ho14 ?hg14 ?h14
   case ho14 => simp only [List.getElem?_toArray, List.getElem?_cons_succ, List.getElem?_cons_zero]; rfl
   case hg14 => rfl
   case h14 =>
   intro a W hS hB hd
   have e26 : a.tmps[26]? = some (.int .u8 x) := (hd 11 rfl).bool rfl rfl rfl
   refine wp_value (c := .int .u8 x) ?_ rfl
   go_simp
  ·refine StepOkA.run (o := ?o15) ?ho15 ?hg15 ?h15
   case ho15 => simp only [List.getElem?_toArray, List.getElem?_cons_succ, List.getElem?_cons_zero]; rfl
   case hg15 => rfl
   case h15 =>
   intro a W hS hB hd
   have e27 : a.tmps[27]? = some (.int .i64 nx) := (hd 12 rfl).bool rfl rfl rfl
   refine wp_value (c := .int .i64 nx) ?_ rfl
   go_simp
  ·refine StepOkA.run (o := ?o16) ?ho16 ?hg16 ?h16
   case ho16 => simp only [List.getElem?_toArray, List.getElem?_cons_succ, List.getElem?_cons_zero]; rfl
   case hg16 => rfl
   case h16 =>
   intro a W hS hB hd
   have e28 : a.tmps[28]? = some (.int .i64 ec) := (hd 13 rfl).bool rfl rfl rfl
   refine wp_value (c := .int .i64 ec) ?_ rfl
   go_simp
 ·intro a W hS hB hh
  have e6 : a.tmps[6]? = some (.int .u8 x) := (hh 14 (by omega)).bool rfl rfl rfl
  have e7 : a.tmps[7]? = some (.int .i64 nx) := (hh 15 (by omega)).bool rfl rfl rfl
  have e8 : a.tmps[8]? = some (.int .i64 ec) := (hh 16 (by omega)).bool rfl rfl rfl
  have HBR := Lib.hid hB
  have hlit := same_lit hS
  clear hh hS hB
  simp only [List.filterMap_cons, List.filterMap_nil, List.foldl_cons, List.foldl_nil, List.setIfInBounds_toArray, List.set_cons_zero, List.set_cons_succ] at hlit
  rw [show a.tmps.getD 6 undef = .int .u8 x by simp [Array.getD_eq_getD_getElem?, e6]] at hlit
  rw [show a.tmps.getD 7 undef = .int .i64 nx by simp [Array.getD_eq_getD_getElem?, e7]] at hlit
  rw [show a.tmps.getD 8 undef = .int .i64 ec by simp [Array.getD_eq_getD_getElem?, e8]] at hlit
  generalize a.tmps.getD 16 undef = z16 at hlit
  generalize a.tmps.getD 17 undef = z17 at hlit
  generalize a.tmps.getD 18 undef = z18 at hlit
  generalize a.tmps.getD 19 undef = z19 at hlit
  generalize a.tmps.getD 20 undef = z20 at hlit
  generalize a.tmps.getD 21 undef = z21 at hlit
  generalize a.tmps.getD 22 undef = z22 at hlit
  generalize a.tmps.getD 23 undef = z23 at hlit
  generalize a.tmps.getD 24 undef = z24 at hlit
  generalize a.tmps.getD 25 undef = z25 at hlit
  generalize a.tmps.getD 15 undef = z15 at hlit
  generalize a.tmps.getD 26 undef = z26 at hlit
  generalize a.tmps.getD 27 undef = z27 at hlit
  generalize a.tmps.getD 28 undef = z28 at hlit
  clear e6 e7 e8
  subst hlit
  have hI2 := HI.out.keep HBR.out
  have HB2 := Lib.hid (HBB.out.trans (HBR.out.mono HBB.out.size))
  have HI2 := Lib.hid hI2
  obtain ⟨A2, c2', _, _, _, _, c0', c1', c2', f1', f2'⟩ := cu_cells hI2
  clear hI2 c0 c1 c2 f1 f2
  go_wp2
  go_ret
  exact ⟨rfl, HI2.out.fail _, (World.grownBy.but (grownBy_none HBR.out) _).trans (grownBy_setAt _ _ _ _), HB2.out.setCell hg _⟩
set_option maxRecDepth 100000 in
set_option maxHeartbeats 1000000 in
theorem one_byte_ok (w0 w : World) (g : Nat) (l : List Int) (at0 : Int) (x : Int) (nx : Int) (hI : IsCu w0 w g l at0 0) (hB : Below w0.heap.size w0 w)
  (hT : ∀ A c W, Kd.C (Kd.int .u8) W A l.length l → l.length ≤ c → Below w.heap.size w W → Calls Try.prog 115 #[.slice A l.length c, .int .i64 at0] W fun e' W' => e' = .returned (.tuple #[.int .u8 x, .int .i64 nx, .int .i64 0]) ∧ Below W.heap.size W W') :
  Calls Try.prog 114 #[.pointer (some ⟨g, 0, none⟩), .func (.func 115) #[] #[]] w (CuPost w0 w g l (.int .u8 x) nx 0) := by
 have HI := Lib.hid hI
 have HBB := Lib.hid hB
 have HT := Lib.hid hT
 obtain ⟨A, c, hc, hC, hg, hh, c0, c1, c2, f1, f2⟩ := cu_cells hI
 have HH := Lib.hid hh
 have HCC := Lib.hid hC
 clear hI hC hh hB hT
 go_enter Try.func114, Try.ntmps114
 go_wp2_with fail
 refine region_calmA (n := 17) (byList [isV (.func (.func 115) #[] #[]), isV (.pointer (some ⟨g, 0, none⟩)), isV (.pointer (some ⟨g, 0, none⟩)), isV (.pointer (some ⟨g, 0, none⟩)), isV (.slice A l.length c), isV (.pointer (some ⟨g, 0, none⟩)), isV (.pointer (some ⟨g, 0, none⟩)), isV (.pointer (some ⟨g, 1, none⟩)), isV (.int .i64 at0), isV (.tuple #[.int .u8 x, .int .i64 nx, .int .i64 0]), isV (.tuple #[.int .u8 x, .int .i64 nx, .int .i64 0]), isV (.int .u8 x), isV (.int .i64 nx), isV (.int .i64 0), isV (.int .u8 x), isV (.int .i64 nx), isV (.int .i64 0)]) (by kernel_rfl) rfl (byList_lasts ?_) (by kernel_rfl) (by kernel_rfl) (show AllLt 17 _ from ?_) ?_
 ·intro p hp
  simp only [List.mem_cons, List.not_mem_nil, or_false] at hp
  rcases hp with rfl | rfl | rfl | rfl | rfl | rfl | rfl | rfl | rfl | rfl | rfl | rfl | rfl | rfl | rfl | rfl | rfl <;> first | exact isV_lasts | exact isC_lasts
 ·refine allLt_succ (allLt_succ (allLt_succ (allLt_succ (allLt_succ (allLt_succ (allLt_succ (allLt_succ (allLt_succ (allLt_succ (allLt_succ (allLt_succ (allLt_succ (allLt_succ (allLt_succ (allLt_succ (allLt_succ (allLt_zero _) ?_) ?_) ?_) ?_) ?_) ?_) ?_) ?_) ?_) ?_) ?_) ?_) ?_) ?_) ?_) ?_) ?_
  ·refine StepOkA.run (o := ?o0) ?ho0 ?hg0 ?h0
   case ho0 => simp only [List.getElem?_toArray, List.getElem?_cons_succ, List.getElem?_cons_zero]; rfl
   case hg0 => rfl
   case h0 =>
   intro a W hS hB hd
   have e1 : a.tmps[1]? = some (.func (.func 115) #[] #[]) := hS.get rfl rfl
   refine wp_value (c := .func (.func 115) #[] #[]) ?_ rfl
   go_simp
  ·refine StepOkA.run (o := ?o1) ?ho1 ?hg1 ?h1
   case ho1 => simp only [List.getElem?_toArray, List.getElem?_cons_succ, List.getElem?_cons_zero]; rfl
   case hg1 => rfl
   case h1 =>
   intro a W hS hB hd
   have e0 : a.tmps[0]? = some (.pointer (some ⟨g, 0, none⟩)) := hS.get rfl rfl
   refine wp_value (c := .pointer (some ⟨g, 0, none⟩)) ?_ rfl
   go_simp
  ·refine StepOkA.run (o := ?o2) ?ho2 ?hg2 ?h2
   case ho2 => simp only [List.getElem?_toArray, List.getElem?_cons_succ, List.getElem?_cons_zero]; rfl
   case hg2 => rfl
   case h2 =>
   intro a W hS hB hd
   have e17 : a.tmps[17]? = some (.pointer (some ⟨g, 0, none⟩)) := (hd 1 rfl).bool rfl rfl rfl
   refine wp_value (c := .pointer (some ⟨g, 0, none⟩)) ?_ rfl
   go_simp
  ·refine StepOkA.run (o := ?o3) ?ho3 ?hg3 ?h3
   case ho3 => simp only [List.getElem?_toArray, List.getElem?_cons_succ, List.getElem?_cons_zero]; rfl
   case hg3 => rfl
   case h3 =>
   intro a W hS hB hd
   have e18 : a.tmps[18]? = some (.pointer (some ⟨g, 0, none⟩)) := (hd 2 rfl).bool rfl rfl rfl
   refine wp_value (c := .pointer (some ⟨g, 0, none⟩)) ?_ rfl
   go_simp
  ·refine StepOkA.run (o := ?o4) ?ho4 ?hg4 ?h4
   case ho4 => simp only [List.getElem?_toArray, List.getElem?_cons_succ, List.getElem?_cons_zero]; rfl
   case hg4 => rfl
   case h4 =>
   intro a W hS hB hd
   have e19 : a.tmps[19]? = some (.pointer (some ⟨g, 0, none⟩)) := (hd 3 rfl).bool rfl rfl rfl
   refine wp_value (c := .slice A l.length c) ?_ rfl
   have hh := blk_below HH.out hB
   have hcW : W.cell? ⟨g, 0, none⟩ = some (.slice A l.length c) := by simp [World.cell?, hh]
   go_simp
  ·refine StepOkA.run (o := ?o5) ?ho5 ?hg5 ?h5
   case ho5 => simp only [List.getElem?_toArray, List.getElem?_cons_succ, List.getElem?_cons_zero]; rfl
   case hg5 => rfl
   case h5 =>
   intro a W hS hB hd
   have e0 : a.tmps[0]? = some (.pointer (some ⟨g, 0, none⟩)) := hS.get rfl rfl
   refine wp_value (c := .pointer (some ⟨g, 0, none⟩)) ?_ rfl
   go_simp
  ·refine StepOkA.run (o := ?o6) ?ho6 ?hg6 ?h6
   case ho6 => simp only [List.getElem?_toArray, List.getElem?_cons_succ, List.getElem?_cons_zero]; rfl
   case hg6 => rfl
   case h6 =>
   intro a W hS hB hd
   have e21 : a.tmps[21]? = some (.pointer (some ⟨g, 0, none⟩)) := (hd 5 rfl).bool rfl rfl rfl
   refine wp_value (c := .pointer (some ⟨g, 0, none⟩)) ?_ rfl
   go_simp
  ·refine StepOkA.run (o := ?o7) ?ho7 ?hg7 ?h7
   case ho7 => simp only [List.getElem?_toArray, List.getElem?_cons_succ, List.getElem?_cons_zero]; rfl
   case hg7 => rfl
   case h7 =>
   intro a W hS hB hd
   have e22 : a.tmps[22]? = some (.pointer (some ⟨g, 0, none⟩)) := (hd 6 rfl).bool rfl rfl rfl
   refine wp_value (c := .pointer (some ⟨g, 1, none⟩)) ?_ rfl
   go_simp
  ·refine StepOkA.run (o := ?o8) ?ho8 ?hg8 ?h8
   case ho8 => simp only [List.getElem?_toArray, List.getElem?_cons_succ, List.getElem?_cons_zero]; rfl
   case hg8 => rfl
   case h8 =>
   intro a W hS hB hd
   have e23 : a.tmps[23]? = some (.pointer (some ⟨g, 1, none⟩)) := (hd 7 rfl).bool rfl rfl rfl
   refine wp_value (c := .int .i64 at0) ?_ rfl
   have hh := blk_below HH.out hB
   have hcW : W.cell? ⟨g, 1, none⟩ = some (.int .i64 at0) := by simp [World.cell?, hh]
   go_simp
  ·refine StepOkA.run (o := ?o9) ?ho9 ?hg9 ?h9
   case ho9 => simp only [List.getElem?_toArray, List.getElem?_cons_succ, List.getElem?_cons_zero]; rfl
   case hg9 => rfl
   case h9 =>
   intro a W hS hB hd
   have e16 : a.tmps[16]? = some (.func (.func 115) #[] #[]) := (hd 0 rfl).bool rfl rfl rfl
   have e20 : a.tmps[20]? = some (.slice A l.length c) := (hd 4 rfl).bool rfl rfl rfl
   have e24 : a.tmps[24]? = some (.int .i64 at0) := (hd 8 rfl).bool rfl rfl rfl
   refine wp_called_fn (pre := #[]) (post := #[]) Try.func115 (by kernel_rfl) rfl #[.slice A l.length c, .int .i64 at0] rfl (by simp [Act.eval, *]) (by simp [Act.eval, *]) ?_
   refine (HT.out A c W (Kd.C_below HCC.out (HBB.out.trans (hB.mono HBB.out.size))) hc hB).mono ?_
   rintro e9 w9 ⟨rfl, hb9⟩
   exact ⟨_, rfl, rfl, hb9⟩
  ·refine StepOkA.run (o := ?o10) ?ho10 ?hg10 ?h10
   case ho10 => simp only [List.getElem?_toArray, List.getElem?_cons_succ, List.getElem?_cons_zero]; rfl
   case hg10 => rfl
   case h10 =>
   intro a W hS hB hd
   have e25 : a.tmps[25]? = some (.tuple #[.int .u8 x, .int .i64 nx, .int .i64 0]) := (hd 9 rfl).bool rfl rfl rfl
   refine wp_value (c := .tuple #[.int .u8 x, .int .i64 nx, .int .i64 0]) ?_ rfl
   go_simp
  ·refine StepOkA.run (o := ?o11) ?ho11 ?hg11 ?h11
   case ho11 => simp only [List.getElem?_toArray, List.getElem?_cons_succ, List.getElem?_cons_zero]; rfl
   case hg11 => rfl
   case h11 =>
   intro a W hS hB hd
   have e15 : a.tmps[15]? = some (.tuple #[.int .u8 x, .int .i64 nx, .int .i64 0]) := (hd 10 rfl).bool rfl rfl rfl
   refine wp_value (c := .int .u8 x) ?_ rfl
   go_simp
  ·refine StepOkA.run (o := ?o12) ?ho12 ?hg12 ?h12
   case ho12 => simp only [List.getElem?_toArray, List.getElem?_cons_succ, List.getElem?_cons_zero]; rfl
   case hg12 => rfl
   case h12 =>
   intro a W hS hB hd
   have e15 : a.tmps[15]? = some (.tuple #[.int .u8 x, .int .i64 nx, .int .i64 0]) := (hd 10 rfl).bool rfl rfl rfl
   refine wp_value (c := .int .i64 nx) ?_ rfl
   go_simp
  ·refine StepOkA.run (o := ?o13) ?ho13 ?hg13 ?h13
   case ho13 => simp only [List.getElem?_toArray, List.getElem?_cons_succ, List.getElem?_cons_zero]; rfl
   case hg13 => rfl
   case h13 =>
   intro a W hS hB hd
   have e15 : a.tmps[15]? = some (.tuple #[.int .u8 x, .int .i64 nx, .int .i64 0]) := (hd 10 rfl).bool rfl rfl rfl
   refine wp_value (c := .int .i64 0) ?_ rfl
   go_simp
  ·refine StepOkA.run (o := ?o14) ?ho14 ?hg14 ?h14
   case ho14 => simp only [List.getElem?_toArray, List.getElem?_cons_succ, List.getElem?_cons_zero]; rfl
   case hg14 => rfl
   case h14 =>
   intro a W hS hB hd
   have e26 : a.tmps[26]? = some (.int .u8 x) := (hd 11 rfl).bool rfl rfl rfl
   refine wp_value (c := .int .u8 x) ?_ rfl
   go_simp
  ·refine StepOkA.run (o := ?o15) ?ho15 ?hg15 ?h15
   case ho15 => simp only [List.getElem?_toArray, List.getElem?_cons_succ, List.getElem?_cons_zero]; rfl
   case hg15 => rfl
   case h15 =>
   intro a W hS hB hd
   have e27 : a.tmps[27]? = some (.int .i64 nx) := (hd 12 rfl).bool rfl rfl rfl
   refine wp_value (c := .int .i64 nx) ?_ rfl
   go_simp
  ·refine StepOkA.run (o := ?o16) ?ho16 ?hg16 ?h16
   case ho16 => simp only [List.getElem?_toArray, List.getElem?_cons_succ, List.getElem?_cons_zero]; rfl
   case hg16 => rfl
   case h16 =>
   intro a W hS hB hd
   have e28 : a.tmps[28]? = some (.int .i64 0) := (hd 13 rfl).bool rfl rfl rfl
   refine wp_value (c := .int .i64 0) ?_ rfl
   go_simp
 ·intro a W hS hB hh
  have e6 : a.tmps[6]? = some (.int .u8 x) := (hh 14 (by omega)).bool rfl rfl rfl
  have e7 : a.tmps[7]? = some (.int .i64 nx) := (hh 15 (by omega)).bool rfl rfl rfl
  have e8 : a.tmps[8]? = some (.int .i64 0) := (hh 16 (by omega)).bool rfl rfl rfl
  have HBR := Lib.hid hB
  have hlit := same_lit hS
  clear hh hS hB
  simp only [List.filterMap_cons, List.filterMap_nil, List.foldl_cons, List.foldl_nil, List.setIfInBounds_toArray, List.set_cons_zero, List.set_cons_succ] at hlit
  rw [show a.tmps.getD 6 undef = .int .u8 x by simp [Array.getD_eq_getD_getElem?, e6]] at hlit
  rw [show a.tmps.getD 7 undef = .int .i64 nx by simp [Array.getD_eq_getD_getElem?, e7]] at hlit
  rw [show a.tmps.getD 8 undef = .int .i64 0 by simp [Array.getD_eq_getD_getElem?, e8]] at hlit
  generalize a.tmps.getD 16 undef = z16 at hlit
  generalize a.tmps.getD 17 undef = z17 at hlit
  generalize a.tmps.getD 18 undef = z18 at hlit
  generalize a.tmps.getD 19 undef = z19 at hlit
  generalize a.tmps.getD 20 undef = z20 at hlit
  generalize a.tmps.getD 21 undef = z21 at hlit
  generalize a.tmps.getD 22 undef = z22 at hlit
  generalize a.tmps.getD 23 undef = z23 at hlit
  generalize a.tmps.getD 24 undef = z24 at hlit
  generalize a.tmps.getD 25 undef = z25 at hlit
  generalize a.tmps.getD 15 undef = z15 at hlit
  generalize a.tmps.getD 26 undef = z26 at hlit
  generalize a.tmps.getD 27 undef = z27 at hlit
  generalize a.tmps.getD 28 undef = z28 at hlit
  clear e6 e7 e8
  subst hlit
  have hI2 := HI.out.keep HBR.out
  have HB2 := Lib.hid (HBB.out.trans (HBR.out.mono HBB.out.size))
  have HI2 := Lib.hid hI2
  obtain ⟨A2, c2', _, _, _, _, c0', c1', c2', f1', f2'⟩ := cu_cells hI2
  clear hI2 c0 c1 c2 f1 f2
  go_wp2
  go_ret
  exact ⟨rfl, HI2.out.go _, (World.grownBy.but (grownBy_none HBR.out) _).trans (grownBy_setAt _ _ _ _), HB2.out.setCell hg _⟩
set_option maxRecDepth 100000 in
set_option maxHeartbeats 1000000 in
theorem one_num_failed (w0 w : World) (g : Nat) (l : List Int) (at0 e : Int) (tv : Value) (hI : IsCu w0 w g l at0 e) (hB : Below w0.heap.size w0 w) (he : (e != 0) = true) :
  Calls Try.prog 116 #[.pointer (some ⟨g, 0, none⟩), tv] w (CuPost w0 w g l (.int .u64 0) at0 e) := by
 have HI := Lib.hid hI
 obtain ⟨A, c, _, _, _, _, c0, c1, c2, _, _⟩ := cu_cells hI
 clear hI
 go_enter Try.func116, Try.ntmps116
 go_wp2_with fail
 go_ret
 exact ⟨rfl, HI.out, World.grownBy.refl _ _, hB⟩
set_option maxRecDepth 100000 in
set_option maxHeartbeats 1000000 in
theorem one_num_err (w0 w : World) (g : Nat) (l : List Int) (at0 : Int) (x : Int) (nx ec : Int) (hI : IsCu w0 w g l at0 0) (hB : Below w0.heap.size w0 w) (he : (ec != 0) = true)
  (hT : ∀ A c W, Kd.C (Kd.int .u8) W A l.length l → l.length ≤ c → Below w.heap.size w W → Calls Try.prog 83 #[.slice A l.length c, .int .i64 at0] W fun e' W' => e' = .returned (.tuple #[.int .u64 x, .int .i64 nx, .int .i64 ec]) ∧ Below W.heap.size W W') :
  Calls Try.prog 116 #[.pointer (some ⟨g, 0, none⟩), .func (.func 83) #[] #[]] w (CuPost w0 w g l (.int .u64 0) at0 ec) := by
 have HI := Lib.hid hI
 have HBB := Lib.hid hB
 have HT := Lib.hid hT
 obtain ⟨A, c, hc, hC, hg, hh, c0, c1, c2, f1, f2⟩ := cu_cells hI
 have HH := Lib.hid hh
 have HCC := Lib.hid hC
 clear hI hC hh hB hT
 go_enter Try.func116, Try.ntmps116
 go_wp2_with fail
 refine region_calmA (n := 17) (byList [isV (.func (.func 83) #[] #[]), isV (.pointer (some ⟨g, 0, none⟩)), isV (.pointer (some ⟨g, 0, none⟩)), isV (.pointer (some ⟨g, 0, none⟩)), isV (.slice A l.length c), isV (.pointer (some ⟨g, 0, none⟩)), isV (.pointer (some ⟨g, 0, none⟩)), isV (.pointer (some ⟨g, 1, none⟩)), isV (.int .i64 at0), isV (.tuple #[.int .u64 x, .int .i64 nx, .int .i64 ec]), isV (.tuple #[.int .u64 x, .int .i64 nx, .int .i64 ec]), isV (.int .u64 x), isV (.int .i64 nx), isV (.int .i64 ec), isV (.int .u64 x), isV (.int .i64 nx), isV (.int .i64 ec)]) (by kernel_rfl) rfl (byList_lasts ?_) (by kernel_rfl) (by kernel_rfl) (show AllLt 17 _ from ?_) ?_
 ·intro p hp
  simp only [List.mem_cons, List.not_mem_nil, or_false] at hp
  rcases hp with rfl | rfl | rfl | rfl | rfl | rfl | rfl | rfl | rfl | rfl | rfl | rfl | rfl | rfl | rfl | rfl | rfl <;> first | exact isV_lasts | exact isC_lasts
 ·refine allLt_succ (allLt_succ (allLt_succ (allLt_succ (allLt_succ (allLt_succ (allLt_succ (allLt_succ (allLt_succ (allLt_succ (allLt_succ (allLt_succ (allLt_succ (allLt_succ (allLt_succ (allLt_succ (allLt_succ (allLt_zero _) ?_) ?_) ?_) ?_) ?_) ?_) ?_) ?_) ?_) ?_) ?_) ?_) ?_) ?_) ?_) ?_) ?_
  ·refine StepOkA.run (o := ?o0) ?ho0 ?hg0 ?h0
   case ho0 => simp only [List.getElem?_toArray, List.getElem?_cons_succ, List.getElem?_cons_zero]; rfl
   case hg0 => rfl
   case h0 =>
   intro a W hS hB hd
   have e1 : a.tmps[1]? = some (.func (.func 83) #[] #[]) := hS.get rfl rfl
   refine wp_value (c := .func (.func 83) #[] #[]) ?_ rfl
   go_simp
  ·refine StepOkA.run (o := ?o1) ?ho1 ?hg1 ?h1
   case ho1 => simp only [List.getElem?_toArray, List.getElem?_cons_succ, List.getElem?_cons_zero]; rfl
   case hg1 => rfl
   case h1 =>
   intro a W hS hB hd
   have e0 : a.tmps[0]? = some (.pointer (some ⟨g, 0, none⟩)) := hS.get rfl rfl
   refine wp_value (c := .pointer (some ⟨g, 0, none⟩)) ?_ rfl
   go_simp
  ·refine StepOkA.run (o := ?o2) ?ho2 ?hg2 ?h2
   case ho2 => simp only [List.getElem?_toArray, List.getElem?_cons_succ, List.getElem?_cons_zero]; rfl
   case hg2 => rfl
   case h2 =>
   intro a W hS hB hd
   have e17 : a.tmps[17]? = some (.pointer (some ⟨g, 0, none⟩)) := (hd 1 rfl).bool rfl rfl rfl
   refine wp_value (c := .pointer (some ⟨g, 0, none⟩)) ?_ rfl
   go_simp
  ·refine StepOkA.run (o := ?o3) ?ho3 ?hg3 ?h3
   case ho3 => simp only [List.getElem?_toArray, List.getElem?_cons_succ, List.getElem?_cons_zero]; rfl
   case hg3 => rfl
   case h3 =>
   intro a W hS hB hd
   have e18 : a.tmps[18]? = some (.pointer (some ⟨g, 0, none⟩)) := (hd 2 rfl).bool rfl rfl rfl
   refine wp_value (c := .pointer (some ⟨g, 0, none⟩)) ?_ rfl
   go_simp
  ·refine StepOkA.run (o := ?o4) ?ho4 ?hg4 ?h4
   case ho4 => simp only [List.getElem?_toArray, List.getElem?_cons_succ, List.getElem?_cons_zero]; rfl
   case hg4 => rfl
   case h4 =>
   intro a W hS hB hd
   have e19 : a.tmps[19]? = some (.pointer (some ⟨g, 0, none⟩)) := (hd 3 rfl).bool rfl rfl rfl
   refine wp_value (c := .slice A l.length c) ?_ rfl
   have hh := blk_below HH.out hB
   have hcW : W.cell? ⟨g, 0, none⟩ = some (.slice A l.length c) := by simp [World.cell?, hh]
   go_simp
  ·refine StepOkA.run (o := ?o5) ?ho5 ?hg5 ?h5
   case ho5 => simp only [List.getElem?_toArray, List.getElem?_cons_succ, List.getElem?_cons_zero]; rfl
   case hg5 => rfl
   case h5 =>
   intro a W hS hB hd
   have e0 : a.tmps[0]? = some (.pointer (some ⟨g, 0, none⟩)) := hS.get rfl rfl
   refine wp_value (c := .pointer (some ⟨g, 0, none⟩)) ?_ rfl
   go_simp
  ·refine StepOkA.run (o := ?o6) ?ho6 ?hg6 ?h6
   case ho6 => simp only [List.getElem?_toArray, List.getElem?_cons_succ, List.getElem?_cons_zero]; rfl
   case hg6 => rfl
   case h6 =>
   intro a W hS hB hd
   have e21 : a.tmps[21]? = some (.pointer (some ⟨g, 0, none⟩)) := (hd 5 rfl).bool rfl rfl rfl
   refine wp_value (c := .pointer (some ⟨g, 0, none⟩)) ?_ rfl
   go_simp
  ·refine StepOkA.run (o := ?o7) ?ho7 ?hg7 ?h7
   case ho7 => simp only [List.getElem?_toArray, List.getElem?_cons_succ, List.getElem?_cons_zero]; rfl
   case hg7 => rfl
   case h7 =>
   intro a W hS hB hd
   have e22 : a.tmps[22]? = some (.pointer (some ⟨g, 0, none⟩)) := (hd 6 rfl).bool rfl rfl rfl
   refine wp_value (c := .pointer (some ⟨g, 1, none⟩)) ?_ rfl
   go_simp
  ·refine StepOkA.run (o := ?o8) ?ho8 ?hg8 ?h8
   case ho8 => simp only [List.getElem?_toArray, List.getElem?_cons_succ, List.getElem?_cons_zero]; rfl
   case hg8 => rfl
   case h8 =>
   intro a W hS hB hd
   have e23 : a.tmps[23]? = some (.pointer (some ⟨g, 1, none⟩)) := (hd 7 rfl).bool rfl rfl rfl
   refine wp_value (c := .int .i64 at0) ?_ rfl
   have hh := blk_below HH.out hB
   have hcW : W.cell? ⟨g, 1, none⟩ = some (.int .i64 at0) := by simp [World.cell?, hh]
   go_simp
  ·refine StepOkA.run (o := ?o9) ?ho9 ?hg9 ?h9
   case ho9 => simp only [List.getElem?_toArray, List.getElem?_cons_succ, List.getElem?_cons_zero]; rfl
   case hg9 => rfl
   case h9 =>
   intro a W hS hB hd
   have e16 : a.tmps[16]? = some (.func (.func 83) #[] #[]) := (hd 0 rfl).bool rfl rfl rfl
   have e20 : a.tmps[20]? = some (.slice A l.length c) := (hd 4 rfl).bool rfl rfl rfl
   have e24 : a.tmps[24]? = some (.int .i64 at0) := (hd 8 rfl).bool rfl rfl rfl
   refine wp_called_fn (pre := #[]) (post := #[]) Try.func83 (by kernel_rfl) rfl #[.slice A l.length c, .int .i64 at0] rfl (by simp [Act.eval, *]) (by simp [Act.eval, *]) ?_
   refine (HT.out A c W (Kd.C_below HCC.out (HBB.out.trans (hB.mono HBB.out.size))) hc hB).mono ?_
   rintro e9 w9 ⟨rfl, hb9⟩
   exact ⟨_, rfl, rfl, hb9⟩
  ·refine StepOkA.run (o := ?o10) ?ho10 ?hg10 ?h10
   case ho10 => simp only [List.getElem?_toArray, List.getElem?_cons_succ, List.getElem?_cons_zero]; rfl
   case hg10 => rfl
   case h10 =>
   intro a W hS hB hd
   have e25 : a.tmps[25]? = some (.tuple #[.int .u64 x, .int .i64 nx, .int .i64 ec]) := (hd 9 rfl).bool rfl rfl rfl
   refine wp_value (c := .tuple #[.int .u64 x, .int .i64 nx, .int .i64 ec]) ?_ rfl
   go_simp
  ·refine StepOkA.run (o := ?o11) ?ho11 ?hg11 ?h11
   case ho11 => simp only [List.getElem?_toArray, List.getElem?_cons_succ, List.getElem?_cons_zero]; rfl
   case hg11 => rfl
   case h11 =>
   intro a W hS hB hd
   have e15 : a.tmps[15]? = some (.tuple #[.int .u64 x, .int .i64 nx, .int .i64 ec]) := (hd 10 rfl).bool rfl rfl rfl
   refine wp_value (c := .int .u64 x) ?_ rfl
   go_simp
  ·refine StepOkA.run (o := ?o12) ?ho12 ?hg12 ?h12
   case ho12 => simp only [List.getElem?_toArray, List.getElem?_cons_succ, List.getElem?_cons_zero]; rfl
   case hg12 => rfl
   case h12 =>
   intro a W hS hB hd
   have e15 : a.tmps[15]? = some (.tuple #[.int .u64 x, .int .i64 nx, .int .i64 ec]) := (hd 10 rfl).bool rfl rfl rfl
   refine wp_value (c := .int .i64 nx) ?_ rfl
   go_simp
  ·refine StepOkA.run (o := ?o13) ?ho13 ?hg13 ?h13
   case ho13 => simp only [List.getElem?_toArray, List.getElem?_cons_succ, List.getElem?_cons_zero]; rfl
   case hg13 => rfl
   case h13 =>
   intro a W hS hB hd
   have e15 : a.tmps[15]? = some (.tuple #[.int .u64 x, .int .i64 nx, .int .i64 ec]) := (hd 10 rfl).bool rfl rfl rfl
   refine wp_value (c := .int .i64 ec) ?_ rfl
   go_simp
  ·refine StepOkA.run (o := ?o14) ?ho14 ?hg14 ?h14
   case ho14 => simp only [List.getElem?_toArray, List.getElem?_cons_succ, List.getElem?_cons_zero]; rfl
   case hg14 => rfl
   case h14 =>
   intro a W hS hB hd
   have e26 : a.tmps[26]? = some (.int .u64 x) := (hd 11 rfl).bool rfl rfl rfl
   refine wp_value (c := .int .u64 x) ?_ rfl
   go_simp
  ·refine StepOkA.run (o := ?o15) ?ho15 ?hg15 ?h15
   case ho15 => simp only [List.getElem?_toArray, List.getElem?_cons_succ, List.getElem?_cons_zero]; rfl
   case hg15 => rfl
   case h15 =>
   intro a W hS hB hd
   have e27 : a.tmps[27]? = some (.int .i64 nx) := (hd 12 rfl).bool rfl rfl rfl
   refine wp_value (c := .int .i64 nx) ?_ rfl
   go_simp
  ·refine StepOkA.run (o := ?o16) ?ho16 ?hg16 ?h16
   case ho16 => simp only [List.getElem?_toArray, List.getElem?_cons_succ, List.getElem?_cons_zero]; rfl
   case hg16 => rfl
   case h16 =>
   intro a W hS hB hd
   have e28 : a.tmps[28]? = some (.int .i64 ec) := (hd 13 rfl).bool rfl rfl rfl
   refine wp_value (c := .int .i64 ec) ?_ rfl
   go_simp
 ·intro a W hS hB hh
  have e6 : a.tmps[6]? = some (.int .u64 x) := (hh 14 (by omega)).bool rfl rfl rfl
  have e7 : a.tmps[7]? = some (.int .i64 nx) := (hh 15 (by omega)).bool rfl rfl rfl
  have e8 : a.tmps[8]? = some (.int .i64 ec) := (hh 16 (by omega)).bool rfl rfl rfl
  have HBR := Lib.hid hB
  have hlit := same_lit hS
  clear hh hS hB
  simp only [List.filterMap_cons, List.filterMap_nil, List.foldl_cons, List.foldl_nil, List.setIfInBounds_toArray, List.set_cons_zero, List.set_cons_succ] at hlit
  rw [show a.tmps.getD 6 undef = .int .u64 x by simp [Array.getD_eq_getD_getElem?, e6]] at hlit
  rw [show a.tmps.getD 7 undef = .int .i64 nx by simp [Array.getD_eq_getD_getElem?, e7]] at hlit
  rw [show a.tmps.getD 8 undef = .int .i64 ec by simp [Array.getD_eq_getD_getElem?, e8]] at hlit
  generalize a.tmps.getD 16 undef = z16 at hlit
  generalize a.tmps.getD 17 undef = z17 at hlit
  generalize a.tmps.getD 18 undef = z18 at hlit
  generalize a.tmps.getD 19 undef = z19 at hlit
  generalize a.tmps.getD 20 undef = z20 at hlit
  generalize a.tmps.getD 21 undef = z21 at hlit
  generalize a.tmps.getD 22 undef = z22 at hlit
  generalize a.tmps.getD 23 undef = z23 at hlit
  generalize a.tmps.getD 24 undef = z24 at hlit
  generalize a.tmps.getD 25 undef = z25 at hlit
  generalize a.tmps.getD 15 undef = z15 at hlit
  generalize a.tmps.getD 26 undef = z26 at hlit
  generalize a.tmps.getD 27 undef = z27 at hlit
  generalize a.tmps.getD 28 undef = z28 at hlit
  clear e6 e7 e8
  subst hlit
  have hI2 := HI.out.keep HBR.out
  have HB2 := Lib.hid (HBB.out.trans (HBR.out.mono HBB.out.size))
  have HI2 := Lib.hid hI2
  obtain ⟨A2, c2', _, _, _, _, c0', c1', c2', f1', f2'⟩ := cu_cells hI2
  clear hI2 c0 c1 c2 f1 f2
  go_wp2
  go_ret
  exact ⟨rfl, HI2.out.fail _, (World.grownBy.but (grownBy_none HBR.out) _).trans (grownBy_setAt _ _ _ _), HB2.out.setCell hg _⟩
set_option maxRecDepth 100000 in
set_option maxHeartbeats 1000000 in
theorem one_num_ok (w0 w : World) (g : Nat) (l : List Int) (at0 : Int) (x : Int) (nx : Int) (hI : IsCu w0 w g l at0 0) (hB : Below w0.heap.size w0 w)
  (hT : ∀ A c W, Kd.C (Kd.int .u8) W A l.length l → l.length ≤ c → Below w.heap.size w W → Calls Try.prog 83 #[.slice A l.length c, .int .i64 at0] W fun e' W' => e' = .returned (.tuple #[.int .u64 x, .int .i64 nx, .int .i64 0]) ∧ Below W.heap.size W W') :
  Calls Try.prog 116 #[.pointer (some ⟨g, 0, none⟩), .func (.func 83) #[] #[]] w (CuPost w0 w g l (.int .u64 x) nx 0) := by
 have HI := Lib.hid hI
 have HBB := Lib.hid hB
 have HT := Lib.hid hT
 obtain ⟨A, c, hc, hC, hg, hh, c0, c1, c2, f1, f2⟩ := cu_cells hI
 have HH := Lib.hid hh
 have HCC := Lib.hid hC
 clear hI hC hh hB hT
 go_enter Try.func116, Try.ntmps116
 go_wp2_with fail
 refine region_calmA (n := 17) (byList [isV (.func (.func 83) #[] #[]), isV (.pointer (some ⟨g, 0, none⟩)), isV (.pointer (some ⟨g, 0, none⟩)), isV (.pointer (some ⟨g, 0, none⟩)), isV (.slice A l.length c), isV (.pointer (some ⟨g, 0, none⟩)), isV (.pointer (some ⟨g, 0, none⟩)), isV (.pointer (some ⟨g, 1, none⟩)), isV (.int .i64 at0), isV (.tuple #[.int .u64 x, .int .i64 nx, .int .i64 0]), isV (.tuple #[.int .u64 x, .int .i64 nx, .int .i64 0]), isV (.int .u64 x), isV (.int .i64 nx), isV (.int .i64 0), isV (.int .u64 x), isV (.int .i64 nx), isV (.int .i64 0)]) (by kernel_rfl) rfl (byList_lasts ?_) (by kernel_rfl) (by kernel_rfl) (show AllLt 17 _ from ?_) ?_
 ·intro p hp
  simp only [List.mem_cons, List.not_mem_nil, or_false] at hp
  rcases hp with rfl | rfl | rfl | rfl | rfl | rfl | rfl | rfl | rfl | rfl | rfl | rfl | rfl | rfl | rfl | rfl | rfl <;> first | exact isV_lasts | exact isC_lasts
 ·refine allLt_succ (allLt_succ (allLt_succ (allLt_succ (allLt_succ (allLt_succ (allLt_succ (allLt_succ (allLt_succ (allLt_succ (allLt_succ (allLt_succ (allLt_succ (allLt_succ (allLt_succ (allLt_succ (allLt_succ (allLt_zero _) ?_) ?_) ?_) ?_) ?_) ?_) ?_) ?_) ?_) ?_) ?_) ?_) ?_) ?_) ?_) ?_) ?_
  ·refine StepOkA.run (o := ?o0) ?ho0 ?hg0 ?h0
   case ho0 => simp only [List.getElem?_toArray, List.getElem?_cons_succ, List.getElem?_cons_zero]; rfl
   case hg0 => rfl
   case h0 =>
   intro a W hS hB hd
   have e1 : a.tmps[1]? = some (.func (.func 83) #[] #[]) := hS.get rfl rfl
   refine wp_value (c := .func (.func 83) #[] #[]) ?_ rfl
   go_simp
  ·refine StepOkA.run (o := ?o1) ?ho1 ?hg1 ?h1
   case ho1 => simp only [List.getElem?_toArray, List.getElem?_cons_succ, List.getElem?_cons_zero]; rfl
   case hg1 => rfl
   case h1 =>
   intro a W hS hB hd
   have e0 : a.tmps[0]? = some (.pointer (some ⟨g, 0, none⟩)) := hS.get rfl rfl
   refine wp_value (c := .pointer (some ⟨g, 0, none⟩)) ?_ rfl
   go_simp
  ·refine StepOkA.run (o := ?o2) ?ho2 ?hg2 ?h2
   case ho2 => simp only [List.getElem?_toArray, List.getElem?_cons_succ, List.getElem?_cons_zero]; rfl
   case hg2 => rfl
   case h2 =>
   intro a W hS hB hd
   have e17 : a.tmps[17]? = some (.pointer (some ⟨g, 0, none⟩)) := (hd 1 rfl).bool rfl rfl rfl
   refine wp_value (c := .pointer (some ⟨g, 0, none⟩)) ?_ rfl
   go_simp
  ·refine StepOkA.run (o := ?o3) ?ho3 ?hg3 ?h3
   case ho3 => simp only [List.getElem?_toArray, List.getElem?_cons_succ, List.getElem?_cons_zero]; rfl
   case hg3 => rfl
   case h3 =>
   intro a W hS hB hd
   have e18 : a.tmps[18]? = some (.pointer (some ⟨g, 0, none⟩)) := (hd 2 rfl).bool rfl rfl rfl
   refine wp_value (c := .pointer (some ⟨g, 0, none⟩)) ?_ rfl
   go_simp
  ·refine StepOkA.run (o := ?o4) ?ho4 ?hg4 ?h4
   case ho4 => simp only [List.getElem?_toArray, List.getElem?_cons_succ, List.getElem?_cons_zero]; rfl
   case hg4 => rfl
   case h4 =>
   intro a W hS hB hd
   have e19 : a.tmps[19]? = some (.pointer (some ⟨g, 0, none⟩)) := (hd 3 rfl).bool rfl rfl rfl
   refine wp_value (c := .slice A l.length c) ?_ rfl
   have hh := blk_below HH.out hB
   have hcW : W.cell? ⟨g, 0, none⟩ = some (.slice A l.length c) := by simp [World.cell?, hh]
   go_simp
  ·refine StepOkA.run (o := ?o5) ?ho5 ?hg5 ?h5
   case ho5 => simp only [List.getElem?_toArray, List.getElem?_cons_succ, List.getElem?_cons_zero]; rfl
   case hg5 => rfl
   case h5 =>
   intro a W hS hB hd
   have e0 : a.tmps[0]? = some (.pointer (some ⟨g, 0, none⟩)) := hS.get rfl rfl
   refine wp_value (c := .pointer (some ⟨g, 0, none⟩)) ?_ rfl
   go_simp
  ·refine StepOkA.run (o := ?o6) ?ho6 ?hg6 ?h6
   case ho6 => simp only [List.getElem?_toArray, List.getElem?_cons_succ, List.getElem?_cons_zero]; rfl
   case hg6 => rfl
   case h6 =>
   intro a W hS hB hd
   have e21 : a.tmps[21]? = some (.pointer (some ⟨g, 0, none⟩)) := (hd 5 rfl).bool rfl rfl rfl
   refine wp_value (c := .pointer (some ⟨g, 0, none⟩)) ?_ rfl
   go_simp
  ·refine StepOkA.run (o := ?o7) ?ho7 ?hg7 ?h7
   case ho7 => simp only [List.getElem?_toArray, List.getElem?_cons_succ, List.getElem?_cons_zero]; rfl
   case hg7 => rfl
   case h7 =>
   intro a W hS hB hd
   have e22 : a.tmps[22]? = some (.pointer (some ⟨g, 0, none⟩)) := (hd 6 rfl).bool rfl rfl rfl
   refine wp_value (c := .pointer (some ⟨g, 1, none⟩)) ?_ rfl
   go_simp
  ·refine StepOkA.run (o := ?o8) ?ho8 ?hg8 ?h8
   case ho8 => simp only [List.getElem?_toArray, List.getElem?_cons_succ, List.getElem?_cons_zero]; rfl
   case hg8 => rfl
   case h8 =>
   intro a W hS hB hd
   have e23 : a.tmps[23]? = some (.pointer (some ⟨g, 1, none⟩)) := (hd 7 rfl).bool rfl rfl rfl
   refine wp_value (c := .int .i64 at0) ?_ rfl
   have hh := blk_below HH.out hB
   have hcW : W.cell? ⟨g, 1, none⟩ = some (.int .i64 at0) := by simp [World.cell?, hh]
   go_simp
  ·refine StepOkA.run (o := ?o9) ?ho9 ?hg9 ?h9
   case ho9 => simp only [List.getElem?_toArray, List.getElem?_cons_succ, List.getElem?_cons_zero]; rfl
   case hg9 => rfl
   case h9 =>
   intro a W hS hB hd
   have e16 : a.tmps[16]? = some (.func (.func 83) #[] #[]) := (hd 0 rfl).bool rfl rfl rfl
   have e20 : a.tmps[20]? = some (.slice A l.length c) := (hd 4 rfl).bool rfl rfl rfl
   have e24 : a.tmps[24]? = some (.int .i64 at0) := (hd 8 rfl).bool rfl rfl rfl
   refine wp_called_fn (pre := #[]) (post := #[]) Try.func83 (by kernel_rfl) rfl #[.slice A l.length c, .int .i64 at0] rfl (by simp [Act.eval, *]) (by simp [Act.eval, *]) ?_
   refine (HT.out A c W (Kd.C_below HCC.out (HBB.out.trans (hB.mono HBB.out.size))) hc hB).mono ?_
   rintro e9 w9 ⟨rfl, hb9⟩
   exact ⟨_, rfl, rfl, hb9⟩
  ·refine StepOkA.run (o := ?o10) ?ho10 ?hg10 ?h10
   case ho10 => simp only [List.getElem?_toArray, List.getElem?_cons_succ, List.getElem?_cons_zero]; rfl
   case hg10 => rfl
   case h10 =>
   intro a W hS hB hd
   have e25 : a.tmps[25]? = some (.tuple #[.int .u64 x, .int .i64 nx, .int .i64 0]) := (hd 9 rfl).bool rfl rfl rfl
   refine wp_value (c := .tuple #[.int .u64 x, .int .i64 nx, .int .i64 0]) ?_ rfl
   go_simp
  ·refine StepOkA.run (o := ?o11) ?ho11 ?hg11 ?h11
   case ho11 => simp only [List.getElem?_toArray, List.getElem?_cons_succ, List.getElem?_cons_zero]; rfl
   case hg11 => rfl
   case h11 =>
   intro a W hS hB hd
   have e15 : a.tmps[15]? = some (.tuple #[.int .u64 x, .int .i64 nx, .int .i64 0]) := (hd 10 rfl).bool rfl rfl rfl
   refine wp_value (c := .int .u64 x) ?_ rfl
   go_simp
  ·refine StepOkA.run (o := ?o12) ?ho12 ?hg12 ?h12
   case ho12 => simp only [List.getElem?_toArray, List.getElem?_cons_succ, List.getElem?_cons_zero]; rfl
   case hg12 => rfl
   case h12 =>
   intro a W hS hB hd
   have e15 : a.tmps[15]? = some (.tuple #[.int .u64 x, .int .i64 nx, .int .i64 0]) := (hd 10 rfl).bool rfl rfl rfl
   refine wp_value (c := .int .i64 nx) ?_ rfl
   go_simp
  ·refine StepOkA.run (o := ?o13) ?ho13 ?hg13 ?h13
   case ho13 => simp only [List.getElem?_toArray, List.getElem?_cons_succ, List.getElem?_cons_zero]; rfl
   case hg13 => rfl
   case h13 =>
   intro a W hS hB hd
   have e15 : a.tmps[15]? = some (.tuple #[.int .u64 x, .int .i64 nx, .int .i64 0]) := (hd 10 rfl).bool rfl rfl rfl
   refine wp_value (c := .int .i64 0) ?_ rfl
   go_simp
  ·refine StepOkA.run (o := ?o14) ?ho14 ?hg14 ?h14
   case ho14 => simp only [List.getElem?_toArray, List.getElem?_cons_succ, List.getElem?_cons_zero]; rfl
   case hg14 => rfl
   case h14 =>
   intro a W hS hB hd
   have e26 : a.tmps[26]? = some (.int .u64 x) := (hd 11 rfl).bool rfl rfl rfl
   refine wp_value (c := .int .u64 x) ?_ rfl
   go_simp
  ·refine StepOkA.run (o := ?o15) ?ho15 ?hg15 ?h15
   case ho15 => simp only [List.getElem?_toArray, List.getElem?_cons_succ, List.getElem?_cons_zero]; rfl
   case hg15 => rfl
   case h15 =>
   intro a W hS hB hd
   have e27 : a.tmps[27]? = some (.int .i64 nx) := (hd 12 rfl).bool rfl rfl rfl
   refine wp_value (c := .int .i64 nx) ?_ rfl
   go_simp
  ·refine StepOkA.run (o := ?o16) ?ho16 ?hg16 ?h16
   case ho16 => simp only [List.getElem?_toArray, List.getElem?_cons_succ, List.getElem?_cons_zero]; rfl
   case hg16 => rfl
   case h16 =>
   intro a W hS hB hd
   have e28 : a.tmps[28]? = some (.int .i64 0) := (hd 13 rfl).bool rfl rfl rfl
   refine wp_value (c := .int .i64 0) ?_ rfl
   go_simp
 ·intro a W hS hB hh
  have e6 : a.tmps[6]? = some (.int .u64 x) := (hh 14 (by omega)).bool rfl rfl rfl
  have e7 : a.tmps[7]? = some (.int .i64 nx) := (hh 15 (by omega)).bool rfl rfl rfl
  have e8 : a.tmps[8]? = some (.int .i64 0) := (hh 16 (by omega)).bool rfl rfl rfl
  have HBR := Lib.hid hB
  have hlit := same_lit hS
  clear hh hS hB
  simp only [List.filterMap_cons, List.filterMap_nil, List.foldl_cons, List.foldl_nil, List.setIfInBounds_toArray, List.set_cons_zero, List.set_cons_succ] at hlit
  rw [show a.tmps.getD 6 undef = .int .u64 x by simp [Array.getD_eq_getD_getElem?, e6]] at hlit
  rw [show a.tmps.getD 7 undef = .int .i64 nx by simp [Array.getD_eq_getD_getElem?, e7]] at hlit
  rw [show a.tmps.getD 8 undef = .int .i64 0 by simp [Array.getD_eq_getD_getElem?, e8]] at hlit
  generalize a.tmps.getD 16 undef = z16 at hlit
  generalize a.tmps.getD 17 undef = z17 at hlit
  generalize a.tmps.getD 18 undef = z18 at hlit
  generalize a.tmps.getD 19 undef = z19 at hlit
  generalize a.tmps.getD 20 undef = z20 at hlit
  generalize a.tmps.getD 21 undef = z21 at hlit
  generalize a.tmps.getD 22 undef = z22 at hlit
  generalize a.tmps.getD 23 undef = z23 at hlit
  generalize a.tmps.getD 24 undef = z24 at hlit
  generalize a.tmps.getD 25 undef = z25 at hlit
  generalize a.tmps.getD 15 undef = z15 at hlit
  generalize a.tmps.getD 26 undef = z26 at hlit
  generalize a.tmps.getD 27 undef = z27 at hlit
  generalize a.tmps.getD 28 undef = z28 at hlit
  clear e6 e7 e8
  subst hlit
  have hI2 := HI.out.keep HBR.out
  have HB2 := Lib.hid (HBB.out.trans (HBR.out.mono HBB.out.size))
  have HI2 := Lib.hid hI2
  obtain ⟨A2, c2', _, _, _, _, c0', c1', c2', f1', f2'⟩ := cu_cells hI2
  clear hI2 c0 c1 c2 f1 f2
  go_wp2
  go_ret
  exact ⟨rfl, HI2.out.go _, (World.grownBy.but (grownBy_none HBR.out) _).trans (grownBy_setAt _ _ _ _), HB2.out.setCell hg _⟩
set_option maxRecDepth 100000 in
set_option maxHeartbeats 1000000 in
theorem one_text_failed (w0 w : World) (g : Nat) (l : List Int) (at0 e : Int) (tv : Value) (hI : IsCu w0 w g l at0 e) (hB : Below w0.heap.size w0 w) (he : (e != 0) = true) :
  Calls Try.prog 120 #[.pointer (some ⟨g, 0, none⟩), tv] w (CuPost w0 w g l (.string ⟨#[]⟩) at0 e) := by
 have HI := Lib.hid hI
 obtain ⟨A, c, _, _, _, _, c0, c1, c2, _, _⟩ := cu_cells hI
 clear hI
 go_enter Try.func120, Try.ntmps120
 go_wp2_with fail
 go_ret
 exact ⟨rfl, HI.out, World.grownBy.refl _ _, hB⟩
set_option maxRecDepth 100000 in
set_option maxHeartbeats 1000000 in
theorem one_text_err (w0 w : World) (g : Nat) (l : List Int) (at0 : Int) (pb : Addr) (x : ByteArray) (nx ec : Int) (hI : IsCu w0 w g l at0 0) (hB : Below w0.heap.size w0 w) (he : (ec != 0) = true)
  (hT : ∀ A c W, Kd.C (Kd.int .u8) W A l.length l → l.length ≤ c → Below w.heap.size w W → Calls Try.prog 121 #[.slice A l.length c, .int .i64 at0, .pointer (some pb)] W fun e' W' => e' = .returned (.tuple #[.string x, .int .i64 nx, .int .i64 ec]) ∧ Below W.heap.size W W') :
  Calls Try.prog 120 #[.pointer (some ⟨g, 0, none⟩), .func (.func 121) #[] #[.pointer (some pb)]] w (CuPost w0 w g l (.string ⟨#[]⟩) at0 ec) := by
 have HI := Lib.hid hI
 have HBB := Lib.hid hB
 have HT := Lib.hid hT
 obtain ⟨A, c, hc, hC, hg, hh, c0, c1, c2, f1, f2⟩ := cu_cells hI
 have HH := Lib.hid hh
 have HCC := Lib.hid hC
 clear hI hC hh hB hT
 go_enter Try.func120, Try.ntmps120
 go_wp2_with fail
 refine region_calmA (n := 17) (byList [isV (.func (.func 121) #[] #[.pointer (some pb)]), isV (.pointer (some ⟨g, 0, none⟩)), isV (.pointer (some ⟨g, 0, none⟩)), isV (.pointer (some ⟨g, 0, none⟩)), isV (.slice A l.length c), isV (.pointer (some ⟨g, 0, none⟩)), isV (.pointer (some ⟨g, 0, none⟩)), isV (.pointer (some ⟨g, 1, none⟩)), isV (.int .i64 at0), isV (.tuple #[.string x, .int .i64 nx, .int .i64 ec]), isV (.tuple #[.string x, .int .i64 nx, .int .i64 ec]), isV (.string x), isV (.int .i64 nx), isV (.int .i64 ec), isV (.string x), isV (.int .i64 nx), isV (.int .i64 ec)]) (by kernel_rfl) rfl (byList_lasts ?_) (by kernel_rfl) (by kernel_rfl) (show AllLt 17 _ from ?_) ?_
 ·intro p hp
  simp only [List.mem_cons, List.not_mem_nil, or_false] at hp
  rcases hp with rfl | rfl | rfl | rfl | rfl | rfl | rfl | rfl | rfl | rfl | rfl | rfl | rfl | rfl | rfl | rfl | rfl <;> first | exact isV_lasts | exact isC_lasts
 ·refine allLt_succ (allLt_succ (allLt_succ (allLt_succ (allLt_succ (allLt_succ (allLt_succ (allLt_succ (allLt_succ (allLt_succ (allLt_succ (allLt_succ (allLt_succ (allLt_succ (allLt_succ (allLt_succ (allLt_succ (allLt_zero _) ?_) ?_) ?_) ?_) ?_) ?_) ?_) ?_) ?_) ?_) ?_) ?_) ?_) ?_) ?_) ?_) ?_
  ·refine StepOkA.run (o := ?o0) ?ho0 ?hg0 ?h0
   case ho0 => simp only [List.getElem?_toArray, List.getElem?_cons_succ, List.getElem?_cons_zero]; rfl
   case hg0 => rfl
   case h0 =>
   intro a W hS hB hd
   have e1 : a.tmps[1]? = some (.func (.func 121) #[] #[.pointer (some pb)]) := hS.get rfl rfl
   refine wp_value (c := .func (.func 121) #[] #[.pointer (some pb)]) ?_ rfl
   go_simp
  ·refine StepOkA.run (o := ?o1) ?ho1 ?hg1 ?h1
   case ho1 => simp only [List.getElem?_toArray, List.getElem?_cons_succ, List.getElem?_cons_zero]; rfl
   case hg1 => rfl
   case h1 =>
   intro a W hS hB hd
   have e0 : a.tmps[0]? = some (.pointer (some ⟨g, 0, none⟩)) := hS.get rfl rfl
   refine wp_value (c := .pointer (some ⟨g, 0, none⟩)) ?_ rfl
   go_simp
  ·refine StepOkA.run (o := ?o2) ?ho2 ?hg2 ?h2
   case ho2 => simp only [List.getElem?_toArray, List.getElem?_cons_succ, List.getElem?_cons_zero]; rfl
   case hg2 => rfl
   case h2 =>
   intro a W hS hB hd
   have e17 : a.tmps[17]? = some (.pointer (some ⟨g, 0, none⟩)) := (hd 1 rfl).bool rfl rfl rfl
   refine wp_value (c := .pointer (some ⟨g, 0, none⟩)) ?_ rfl
   go_simp
  ·refine StepOkA.run (o := ?o3) ?ho3 ?hg3 ?h3
   case ho3 => simp only [List.getElem?_toArray, List.getElem?_cons_succ, List.getElem?_cons_zero]; rfl
   case hg3 => rfl
   case h3 =>
   intro a W hS hB hd
   have e18 : a.tmps[18]? = some (.pointer (some ⟨g, 0, none⟩)) := (hd 2 rfl).bool rfl rfl rfl
   refine wp_value (c := .pointer (some ⟨g, 0, none⟩)) ?_ rfl
   go_simp
  ·refine StepOkA.run (o := ?o4) ?ho4 ?hg4 ?h4
   case ho4 => simp only [List.getElem?_toArray, List.getElem?_cons_succ, List.getElem?_cons_zero]; rfl
   case hg4 => rfl
   case h4 =>
   intro a W hS hB hd
   have e19 : a.tmps[19]? = some (.pointer (some ⟨g, 0, none⟩)) := (hd 3 rfl).bool rfl rfl rfl
   refine wp_value (c := .slice A l.length c) ?_ rfl
   have hh := blk_below HH.out hB
   have hcW : W.cell? ⟨g, 0, none⟩ = some (.slice A l.length c) := by simp [World.cell?, hh]
   go_simp
  ·refine StepOkA.run (o := ?o5) ?ho5 ?hg5 ?h5
   case ho5 => simp only [List.getElem?_toArray, List.getElem?_cons_succ, List.getElem?_cons_zero]; rfl
   case hg5 => rfl
   case h5 =>
   intro a W hS hB hd
   have e0 : a.tmps[0]? = some (.pointer (some ⟨g, 0, none⟩)) := hS.get rfl rfl
   refine wp_value (c := .pointer (some ⟨g, 0, none⟩)) ?_ rfl
   go_simp
  ·refine StepOkA.run (o := ?o6) ?ho6 ?hg6 ?h6
   case ho6 => simp only [List.getElem?_toArray, List.getElem?_cons_succ, List.getElem?_cons_zero]; rfl
   case hg6 => rfl
   case h6 =>
   intro a W hS hB hd
   have e21 : a.tmps[21]? = some (.pointer (some ⟨g, 0, none⟩)) := (hd 5 rfl).bool rfl rfl rfl
   refine wp_value (c := .pointer (some ⟨g, 0, none⟩)) ?_ rfl
   go_simp
  ·refine StepOkA.run (o := ?o7) ?ho7 ?hg7 ?h7
   case ho7 => simp only [List.getElem?_toArray, List.getElem?_cons_succ, List.getElem?_cons_zero]; rfl
   case hg7 => rfl
   case h7 =>
   intro a W hS hB hd
   have e22 : a.tmps[22]? = some (.pointer (some ⟨g, 0, none⟩)) := (hd 6 rfl).bool rfl rfl rfl
   refine wp_value (c := .pointer (some ⟨g, 1, none⟩)) ?_ rfl
   go_simp
  ·refine StepOkA.run (o := ?o8) ?ho8 ?hg8 ?h8
   case ho8 => simp only [List.getElem?_toArray, List.getElem?_cons_succ, List.getElem?_cons_zero]; rfl
   case hg8 => rfl
   case h8 =>
   intro a W hS hB hd
   have e23 : a.tmps[23]? = some (.pointer (some ⟨g, 1, none⟩)) := (hd 7 rfl).bool rfl rfl rfl
   refine wp_value (c := .int .i64 at0) ?_ rfl
   have hh := blk_below HH.out hB
   have hcW : W.cell? ⟨g, 1, none⟩ = some (.int .i64 at0) := by simp [World.cell?, hh]
   go_simp
  ·refine StepOkA.run (o := ?o9) ?ho9 ?hg9 ?h9
   case ho9 => simp only [List.getElem?_toArray, List.getElem?_cons_succ, List.getElem?_cons_zero]; rfl
   case hg9 => rfl
   case h9 =>
   intro a W hS hB hd
   have e16 : a.tmps[16]? = some (.func (.func 121) #[] #[.pointer (some pb)]) := (hd 0 rfl).bool rfl rfl rfl
   have e20 : a.tmps[20]? = some (.slice A l.length c) := (hd 4 rfl).bool rfl rfl rfl
   have e24 : a.tmps[24]? = some (.int .i64 at0) := (hd 8 rfl).bool rfl rfl rfl
   refine wp_called_fn (pre := #[]) (post := #[.pointer (some pb)]) Try.func121 (by kernel_rfl) rfl #[.slice A l.length c, .int .i64 at0, .pointer (some pb)] rfl (by simp [Act.eval, *]) (by simp [Act.eval, *]) ?_
   refine (HT.out A c W (Kd.C_below HCC.out (HBB.out.trans (hB.mono HBB.out.size))) hc hB).mono ?_
   rintro e9 w9 ⟨rfl, hb9⟩
   exact ⟨_, rfl, rfl, hb9⟩
  ·refine StepOkA.run (o := ?o10) ?ho10 ?hg10 ?h10
   case ho10 => simp only [List.getElem?_toArray, List.getElem?_cons_succ, List.getElem?_cons_zero]; rfl
   case hg10 => rfl
   case h10 =>
   intro a W hS hB hd
   have e25 : a.tmps[25]? = some (.tuple #[.string x, .int .i64 nx, .int .i64 ec]) := (hd 9 rfl).bool rfl rfl rfl
   refine wp_value (c := .tuple #[.string x, .int .i64 nx, .int .i64 ec]) ?_ rfl
   go_simp
  ·refine StepOkA.run (o := ?o11) ?ho11 ?hg11 ?h11
   case ho11 => simp only [List.getElem?_toArray, List.getElem?_cons_succ, List.getElem?_cons_zero]; rfl
   case hg11 => rfl
   case h11 =>
   intro a W hS hB hd
   have e15 : a.tmps[15]? = some (.tuple #[.string x, .int .i64 nx, .int .i64 ec]) := (hd 10 rfl).bool rfl rfl rfl
   refine wp_value (c := .string x) ?_ rfl
   go_simp
  ·refine StepOkA.run (o := ?o12) ?ho12 ?hg12 ?h12
   case ho12 => simp only [List.getElem?_toArray, List.getElem?_cons_succ, List.getElem?_cons_zero]; rfl
   case hg12 => rfl
   case h12 =>
   intro a W hS hB hd
   have e15 : a.tmps[15]? = some (.tuple #[.string x, .int .i64 nx, .int .i64 ec]) := (hd 10 rfl).bool rfl rfl rfl
   refine wp_value (c := .int .i64 nx) ?_ rfl
   go_simp
  ·refine StepOkA.run (o := ?o13) ?ho13 ?hg13 ?h13
   case ho13 => simp only [List.getElem?_toArray, List.getElem?_cons_succ, List.getElem?_cons_zero]; rfl
   case hg13 => rfl
   case h13 =>
   intro a W hS hB hd
   have e15 : a.tmps[15]? = some (.tuple #[.string x, .int .i64 nx, .int .i64 ec]) := (hd 10 rfl).bool rfl rfl rfl
   refine wp_value (c := .int .i64 ec) ?_ rfl
   go_simp
  ·refine StepOkA.run (o := ?o14) ?ho14 ?hg14 ?h14
   case ho14 => simp only [List.getElem?_toArray, List.getElem?_cons_succ, List.getElem?_cons_zero]; rfl
   case hg14 => rfl
   case h14 =>
   intro a W hS hB hd
   have e26 : a.tmps[26]? = some (.string x) := (hd 11 rfl).bool rfl rfl rfl
   refine wp_value (c := .string x) ?_ rfl
   go_simp
  ·refine StepOkA.run (o := ?o15) ?ho15 ?hg15 ?h15
   case ho15 => simp only [List.getElem?_toArray, List.getElem?_cons_succ, List.getElem?_cons_zero]; rfl
   case hg15 => rfl
   case h15 =>
   intro a W hS hB hd
   have e27 : a.tmps[27]? = some (.int .i64 nx) := (hd 12 rfl).bool rfl rfl rfl
   refine wp_value (c := .int .i64 nx) ?_ rfl
   go_simp
  ·refine StepOkA.run (o := ?o16) ?ho16 ?hg16 ?h16
   case ho16 => simp only [List.getElem?_toArray, List.getElem?_cons_succ, List.getElem?_cons_zero]; rfl
   case hg16 => rfl
   case h16 =>
   intro a W hS hB hd
   have e28 : a.tmps[28]? = some (.int .i64 ec) := (hd 13 rfl).bool rfl rfl rfl
   refine wp_value (c := .int .i64 ec) ?_ rfl
   go_simp
 ·intro a W hS hB hh
  have e6 : a.tmps[6]? = some (.string x) := (hh 14 (by omega)).bool rfl rfl rfl
  have e7 : a.tmps[7]? = some (.int .i64 nx) := (hh 15 (by omega)).bool rfl rfl rfl
  have e8 : a.tmps[8]? = some (.int .i64 ec) := (hh 16 (by omega)).bool rfl rfl rfl
  have HBR := Lib.hid hB
  have hlit := same_lit hS
  clear hh hS hB
  simp only [List.filterMap_cons, List.filterMap_nil, List.foldl_cons, List.foldl_nil, List.setIfInBounds_toArray, List.set_cons_zero, List.set_cons_succ] at hlit
  rw [show a.tmps.getD 6 undef = .string x by simp [Array.getD_eq_getD_getElem?, e6]] at hlit
  rw [show a.tmps.getD 7 undef = .int .i64 nx by simp [Array.getD_eq_getD_getElem?, e7]] at hlit
  rw [show a.tmps.getD 8 undef = .int .i64 ec by simp [Array.getD_eq_getD_getElem?, e8]] at hlit
  generalize a.tmps.getD 16 undef = z16 at hlit
  generalize a.tmps.getD 17 undef = z17 at hlit
  generalize a.tmps.getD 18 undef = z18 at hlit
  generalize a.tmps.getD 19 undef = z19 at hlit
  generalize a.tmps.getD 20 undef = z20 at hlit
  generalize a.tmps.getD 21 undef = z21 at hlit
  generalize a.tmps.getD 22 undef = z22 at hlit
  generalize a.tmps.getD 23 undef = z23 at hlit
  generalize a.tmps.getD 24 undef = z24 at hlit
  generalize a.tmps.getD 25 undef = z25 at hlit
  generalize a.tmps.getD 15 undef = z15 at hlit
  generalize a.tmps.getD 26 undef = z26 at hlit
  generalize a.tmps.getD 27 undef = z27 at hlit
  generalize a.tmps.getD 28 undef = z28 at hlit
  clear e6 e7 e8
  subst hlit
  have hI2 := HI.out.keep HBR.out
  have HB2 := Lib.hid (HBB.out.trans (HBR.out.mono HBB.out.size))
  have HI2 := Lib.hid hI2
  obtain ⟨A2, c2', _, _, _, _, c0', c1', c2', f1', f2'⟩ := cu_cells hI2
  clear hI2 c0 c1 c2 f1 f2
  go_wp2
  go_ret
  exact ⟨rfl, HI2.out.fail _, (World.grownBy.but (grownBy_none HBR.out) _).trans (grownBy_setAt _ _ _ _), HB2.out.setCell hg _⟩
set_option maxRecDepth 100000 in
set_option maxHeartbeats 1000000 in
theorem one_text_ok (w0 w : World) (g : Nat) (l : List Int) (at0 : Int) (pb : Addr) (x : ByteArray) (nx : Int) (hI : IsCu w0 w g l at0 0) (hB : Below w0.heap.size w0 w)
  (hT : ∀ A c W, Kd.C (Kd.int .u8) W A l.length l → l.length ≤ c → Below w.heap.size w W → Calls Try.prog 121 #[.slice A l.length c, .int .i64 at0, .pointer (some pb)] W fun e' W' => e' = .returned (.tuple #[.string x, .int .i64 nx, .int .i64 0]) ∧ Below W.heap.size W W') :
  Calls Try.prog 120 #[.pointer (some ⟨g, 0, none⟩), .func (.func 121) #[] #[.pointer (some pb)]] w (CuPost w0 w g l (.string x) nx 0) := by
 have HI := Lib.hid hI
 have HBB := Lib.hid hB
 have HT := Lib.hid hT
 obtain ⟨A, c, hc, hC, hg, hh, c0, c1, c2, f1, f2⟩ := cu_cells hI
 have HH := Lib.hid hh
 have HCC := Lib.hid hC
 clear hI hC hh hB hT
 go_enter Try.func120, Try.ntmps120
 go_wp2_with fail
 refine region_calmA (n := 17) (byList [isV (.func (.func 121) #[] #[.pointer (some pb)]), isV (.pointer (some ⟨g, 0, none⟩)), isV (.pointer (some ⟨g, 0, none⟩)), isV (.pointer (some ⟨g, 0, none⟩)), isV (.slice A l.length c), isV (.pointer (some ⟨g, 0, none⟩)), isV (.pointer (some ⟨g, 0, none⟩)), isV (.pointer (some ⟨g, 1, none⟩)), isV (.int .i64 at0), isV (.tuple #[.string x, .int .i64 nx, .int .i64 0]), isV (.tuple #[.string x, .int .i64 nx, .int .i64 0]), isV (.string x), isV (.int .i64 nx), isV (.int .i64 0), isV (.string x), isV (.int .i64 nx), isV (.int .i64 0)]) (by kernel_rfl) rfl (byList_lasts ?_) (by kernel_rfl) (by kernel_rfl) (show AllLt 17 _ from ?_) ?_
 ·intro p hp
  simp only [List.mem_cons, List.not_mem_nil, or_false] at hp
  rcases hp with rfl | rfl | rfl | rfl | rfl | rfl | rfl | rfl | rfl | rfl | rfl | rfl | rfl | rfl | rfl | rfl | rfl <;> first | exact isV_lasts | exact isC_lasts
 ·refine allLt_succ (allLt_succ (allLt_succ (allLt_succ (allLt_succ (allLt_succ (allLt_succ (allLt_succ (allLt_succ (allLt_succ (allLt_succ (allLt_succ (allLt_succ (allLt_succ (allLt_succ (allLt_succ (allLt_succ (allLt_zero _) ?_) ?_) ?_) ?_) ?_) ?_) ?_) ?_) ?_) ?_) ?_) ?_) ?_) ?_) ?_) ?_) ?_
  ·refine StepOkA.run (o := ?o0) ?ho0 ?hg0 ?h0
   case ho0 => simp only [List.getElem?_toArray, List.getElem?_cons_succ, List.getElem?_cons_zero]; rfl
   case hg0 => rfl
   case h0 =>
   intro a W hS hB hd
   have e1 : a.tmps[1]? = some (.func (.func 121) #[] #[.pointer (some pb)]) := hS.get rfl rfl
   refine wp_value (c := .func (.func 121) #[] #[.pointer (some pb)]) ?_ rfl
   go_simp
  ·refine StepOkA.run (o := ?o1) ?ho1 ?hg1 ?h1
   case ho1 => simp only [List.getElem?_toArray, List.getElem?_cons_succ, List.getElem?_cons_zero]; rfl
   case hg1 => rfl
   case h1 =>
   intro a W hS hB hd
   have e0 : a.tmps[0]? = some (.pointer (some ⟨g, 0, none⟩)) := hS.get rfl rfl
   refine wp_value (c := .pointer (some ⟨g, 0, none⟩)) ?_ rfl
   go_simp
  ·refine StepOkA.run (o := ?o2) ?ho2 ?hg2 ?h2
   case ho2 => simp only [List.getElem?_toArray, List.getElem?_cons_succ, List.getElem?_cons_zero]; rfl
   case hg2 => rfl
   case h2 =>
   intro a W hS hB hd
   have e17 : a.tmps[17]? = some (.pointer (some ⟨g, 0, none⟩)) := (hd 1 rfl).bool rfl rfl rfl
   refine wp_value (c := .pointer (some ⟨g, 0, none⟩)) ?_ rfl
   go_simp
  ·refine StepOkA.run (o := ?o3) ?ho3 ?hg3 ?h3
   case ho3 => simp only [List.getElem?_toArray, List.getElem?_cons_succ, List.getElem?_cons_zero]; rfl
   case hg3 => rfl
   case h3 =>
   intro a W hS hB hd
   have e18 : a.tmps[18]? = some (.pointer (some ⟨g, 0, none⟩)) := (hd 2 rfl).bool rfl rfl rfl
   refine wp_value (c := .pointer (some ⟨g, 0, none⟩)) ?_ rfl
   go_simp
  ·refine StepOkA.run (o := ?o4) ?ho4 ?hg4 ?h4
   case ho4 => simp only [List.getElem?_toArray, List.getElem?_cons_succ, List.getElem?_cons_zero]; rfl
   case hg4 => rfl
   case h4 =>
   intro a W hS hB hd
   have e19 : a.tmps[19]? = some (.pointer (some ⟨g, 0, none⟩)) := (hd 3 rfl).bool rfl rfl rfl
   refine wp_value (c := .slice A l.length c) ?_ rfl
   have hh := blk_below HH.out hB
   have hcW : W.cell? ⟨g, 0, none⟩ = some (.slice A l.length c) := by simp [World.cell?, hh]
   go_simp
  ·refine StepOkA.run (o := ?o5) ?ho5 ?hg5 ?h5
   case ho5 => simp only [List.getElem?_toArray, List.getElem?_cons_succ, List.getElem?_cons_zero]; rfl
   case hg5 => rfl
   case h5 =>
   intro a W hS hB hd
   have e0 : a.tmps[0]? = some (.pointer (some ⟨g, 0, none⟩)) := hS.get rfl rfl
   refine wp_value (c := .pointer (some ⟨g, 0, none⟩)) ?_ rfl
   go_simp
  ·refine StepOkA.run (o := ?o6) ?ho6 ?hg6 ?h6
   case ho6 => simp only [List.getElem?_toArray, List.getElem?_cons_succ, List.getElem?_cons_zero]; rfl
   case hg6 => rfl
   case h6 =>
   intro a W hS hB hd
   have e21 : a.tmps[21]? = some (.pointer (some ⟨g, 0, none⟩)) := (hd 5 rfl).bool rfl rfl rfl
   refine wp_value (c := .pointer (some ⟨g, 0, none⟩)) ?_ rfl
   go_simp
  ·refine StepOkA.run (o := ?o7) ?ho7 ?hg7 ?h7
   case ho7 => simp only [List.getElem?_toArray, List.getElem?_cons_succ, List.getElem?_cons_zero]; rfl
   case hg7 => rfl
   case h7 =>
   intro a W hS hB hd
   have e22 : a.tmps[22]? = some (.pointer (some ⟨g, 0, none⟩)) := (hd 6 rfl).bool rfl rfl rfl
   refine wp_value (c := .pointer (some ⟨g, 1, none⟩)) ?_ rfl
   go_simp
  ·refine StepOkA.run (o := ?o8) ?ho8 ?hg8 ?h8
   case ho8 => simp only [List.getElem?_toArray, List.getElem?_cons_succ, List.getElem?_cons_zero]; rfl
   case hg8 => rfl
   case h8 =>
   intro a W hS hB hd
   have e23 : a.tmps[23]? = some (.pointer (some ⟨g, 1, none⟩)) := (hd 7 rfl).bool rfl rfl rfl
   refine wp_value (c := .int .i64 at0) ?_ rfl
   have hh := blk_below HH.out hB
   have hcW : W.cell? ⟨g, 1, none⟩ = some (.int .i64 at0) := by simp [World.cell?, hh]
   go_simp
  ·refine StepOkA.run (o := ?o9) ?ho9 ?hg9 ?h9
   case ho9 => simp only [List.getElem?_toArray, List.getElem?_cons_succ, List.getElem?_cons_zero]; rfl
   case hg9 => rfl
   case h9 =>
   intro a W hS hB hd
   have e16 : a.tmps[16]? = some (.func (.func 121) #[] #[.pointer (some pb)]) := (hd 0 rfl).bool rfl rfl rfl
   have e20 : a.tmps[20]? = some (.slice A l.length c) := (hd 4 rfl).bool rfl rfl rfl
   have e24 : a.tmps[24]? = some (.int .i64 at0) := (hd 8 rfl).bool rfl rfl rfl
   refine wp_called_fn (pre := #[]) (post := #[.pointer (some pb)]) Try.func121 (by kernel_rfl) rfl #[.slice A l.length c, .int .i64 at0, .pointer (some pb)] rfl (by simp [Act.eval, *]) (by simp [Act.eval, *]) ?_
   refine (HT.out A c W (Kd.C_below HCC.out (HBB.out.trans (hB.mono HBB.out.size))) hc hB).mono ?_
   rintro e9 w9 ⟨rfl, hb9⟩
   exact ⟨_, rfl, rfl, hb9⟩
  ·refine StepOkA.run (o := ?o10) ?ho10 ?hg10 ?h10
   case ho10 => simp only [List.getElem?_toArray, List.getElem?_cons_succ, List.getElem?_cons_zero]; rfl
   case hg10 => rfl
   case h10 =>
   intro a W hS hB hd
   have e25 : a.tmps[25]? = some (.tuple #[.string x, .int .i64 nx, .int .i64 0]) := (hd 9 rfl).bool rfl rfl rfl
   refine wp_value (c := .tuple #[.string x, .int .i64 nx, .int .i64 0]) ?_ rfl
   go_simp
  ·refine StepOkA.run (o := ?o11) ?ho11 ?hg11 ?h11
   case ho11 => simp only [List.getElem?_toArray, List.getElem?_cons_succ, List.getElem?_cons_zero]; rfl
   case hg11 => rfl
   case h11 =>
   intro a W hS hB hd
   have e15 : a.tmps[15]? = some (.tuple #[.string x, .int .i64 nx, .int .i64 0]) := (hd 10 rfl).bool rfl rfl rfl
   refine wp_value (c := .string x) ?_ rfl
   go_simp
  ·refine StepOkA.run (o := ?o12) ?ho12 ?hg12 ?h12
   case ho12 => simp only [List.getElem?_toArray, List.getElem?_cons_succ, List.getElem?_cons_zero]; rfl
   case hg12 => rfl
   case h12 =>
   intro a W hS hB hd
   have e15 : a.tmps[15]? = some (.tuple #[.string x, .int .i64 nx, .int .i64 0]) := (hd 10 rfl).bool rfl rfl rfl
   refine wp_value (c := .int .i64 nx) ?_ rfl
   go_simp
  ·refine StepOkA.run (o := ?o13) ?ho13 ?hg13 ?h13
   case ho13 => simp only [List.getElem?_toArray, List.getElem?_cons_succ, List.getElem?_cons_zero]; rfl
   case hg13 => rfl
   case h13 =>
   intro a W hS hB hd
   have e15 : a.tmps[15]? = some (.tuple #[.string x, .int .i64 nx, .int .i64 0]) := (hd 10 rfl).bool rfl rfl rfl
   refine wp_value (c := .int .i64 0) ?_ rfl
   go_simp
  ·refine StepOkA.run (o := ?o14) ?ho14 ?hg14 ?h14
   case ho14 => simp only [List.getElem?_toArray, List.getElem?_cons_succ, List.getElem?_cons_zero]; rfl
   case hg14 => rfl
   case h14 =>
   intro a W hS hB hd
   have e26 : a.tmps[26]? = some (.string x) := (hd 11 rfl).bool rfl rfl rfl
   refine wp_value (c := .string x) ?_ rfl
   go_simp
  ·refine StepOkA.run (o := ?o15) ?ho15 ?hg15 ?h15
   case ho15 => simp only [List.getElem?_toArray, List.getElem?_cons_succ, List.getElem?_cons_zero]; rfl
   case hg15 => rfl
   case h15 =>
   intro a W hS hB hd
   have e27 : a.tmps[27]? = some (.int .i64 nx) := (hd 12 rfl).bool rfl rfl rfl
   refine wp_value (c := .int .i64 nx) ?_ rfl
   go_simp
  ·refine StepOkA.run (o := ?o16) ?ho16 ?hg16 ?h16
   case ho16 => simp only [List.getElem?_toArray, List.getElem?_cons_succ, List.getElem?_cons_zero]; rfl
   case hg16 => rfl
   case h16 =>
   intro a W hS hB hd
   have e28 : a.tmps[28]? = some (.int .i64 0) := (hd 13 rfl).bool rfl rfl rfl
   refine wp_value (c := .int .i64 0) ?_ rfl
   go_simp
 ·intro a W hS hB hh
  have e6 : a.tmps[6]? = some (.string x) := (hh 14 (by omega)).bool rfl rfl rfl
  have e7 : a.tmps[7]? = some (.int .i64 nx) := (hh 15 (by omega)).bool rfl rfl rfl
  have e8 : a.tmps[8]? = some (.int .i64 0) := (hh 16 (by omega)).bool rfl rfl rfl
  have HBR := Lib.hid hB
  have hlit := same_lit hS
  clear hh hS hB
  simp only [List.filterMap_cons, List.filterMap_nil, List.foldl_cons, List.foldl_nil, List.setIfInBounds_toArray, List.set_cons_zero, List.set_cons_succ] at hlit
  rw [show a.tmps.getD 6 undef = .string x by simp [Array.getD_eq_getD_getElem?, e6]] at hlit
  rw [show a.tmps.getD 7 undef = .int .i64 nx by simp [Array.getD_eq_getD_getElem?, e7]] at hlit
  rw [show a.tmps.getD 8 undef = .int .i64 0 by simp [Array.getD_eq_getD_getElem?, e8]] at hlit
  generalize a.tmps.getD 16 undef = z16 at hlit
  generalize a.tmps.getD 17 undef = z17 at hlit
  generalize a.tmps.getD 18 undef = z18 at hlit
  generalize a.tmps.getD 19 undef = z19 at hlit
  generalize a.tmps.getD 20 undef = z20 at hlit
  generalize a.tmps.getD 21 undef = z21 at hlit
  generalize a.tmps.getD 22 undef = z22 at hlit
  generalize a.tmps.getD 23 undef = z23 at hlit
  generalize a.tmps.getD 24 undef = z24 at hlit
  generalize a.tmps.getD 25 undef = z25 at hlit
  generalize a.tmps.getD 15 undef = z15 at hlit
  generalize a.tmps.getD 26 undef = z26 at hlit
  generalize a.tmps.getD 27 undef = z27 at hlit
  generalize a.tmps.getD 28 undef = z28 at hlit
  clear e6 e7 e8
  subst hlit
  have hI2 := HI.out.keep HBR.out
  have HB2 := Lib.hid (HBB.out.trans (HBR.out.mono HBB.out.size))
  have HI2 := Lib.hid hI2
  obtain ⟨A2, c2', _, _, _, _, c0', c1', c2', f1', f2'⟩ := cu_cells hI2
  clear hI2 c0 c1 c2 f1 f2
  go_wp2
  go_ret
  exact ⟨rfl, HI2.out.go _, (World.grownBy.but (grownBy_none HBR.out) _).trans (grownBy_setAt _ _ _ _), HB2.out.setCell hg _⟩
end Go.Proofs.Ytmeocdkiecknkaa
namespace Go.Proofs.Ytmeocdkiecknkaa
open Go.RowKit Go.Proofs.YtmeocdkiecknkaaW.PrintWords Go.Proofs.Ytmeocdkiecknkaa.GVB
def cuByte (l : List Int) (a e : Int) : Int × Int × Int := if e ≠ 0 then (0, a, e) else if a = (l.length : Int) then (0, a, 2) else (rd l a, a + 1, 0)
def cuNum (l : List Int) (a e : Int) : Int × Int × Int := if e ≠ 0 then (0, a, e) else if (getS l a).2.2 ≠ 0 then (0, a, (getS l a).2.2) else ((getS l a).1, (getS l a).2.1, 0)
def cuText (l : List Int) (lim a e : Int) : ByteArray × Int × Int := if e ≠ 0 then (⟨#[]⟩, a, e) else if (bgetS l a lim).2.2 ≠ 0 then (⟨#[]⟩, a, (bgetS l a lim).2.2) else ((bgetS l a lim).1, (bgetS l a lim).2.1, 0)
section
variable (w0 w : World) (g : Nat) (l : List Int) (at0 e : Int)
set_option maxRecDepth 100000
set_option maxHeartbeats 1000000
theorem byte1_end (A : Option Addr) (c : Nat) (W : World) (hl : l.length ≤ 1000000) :
  Calls Try.prog 115 #[.slice A l.length c, .int .i64 (l.length : Int)] W fun e' W' => e' = .returned (.tuple #[.int .u8 0, .int .i64 0, .int .i64 2]) ∧ Below W.heap.size W W' := by
 go_enter Try.func115, Try.ntmps115
 go_wp2_with fail
 go_ret3
 exact ⟨rfl, Below.refl _ _⟩
theorem byte1_ok (A : Option Addr) (c : Nat) (W : World) (p : Nat) (hl : l.length ≤ 1000000) (hp : p < l.length) (hC : Kd.C (Kd.int .u8) W A l.length l) :
  Calls Try.prog 115 #[.slice A l.length c, .int .i64 (p : Int)] W fun e' W' => e' = .returned (.tuple #[.int .u8 (rd l (p : Int)), .int .i64 ((p : Int) + 1), .int .i64 0]) ∧ Below W.heap.size W W' := by
 obtain ⟨ad, he, hcell⟩ := Kd.at_int hC (p : Int) (by omega) (by omega)
 subst he
 rw [Int.toNat_natCast] at hcell
 generalize rd l (p : Int) = x at *
 have hn : ¬ l.length ≤ p := by omega
 clear hC
 go_enter Try.func115, Try.ntmps115
 go_wp2_with fail
 go_ret3
 exact ⟨rfl, Below.refl _ _⟩
theorem byte_any (hI : IsCu w0 w g l at0 e) (hB : Below w0.heap.size w0 w) (hl : l.length ≤ 1000000) (ha : 0 ≤ at0 ∧ at0 ≤ l.length) :
  Calls Try.prog 98 #[.pointer (some ⟨g, 0, none⟩)] w (CuPost w0 w g l (.int .u8 (cuByte l at0 e).1) (cuByte l at0 e).2.1 (cuByte l at0 e).2.2) := by
 have key : Calls Try.prog 114 #[.pointer (some ⟨g, 0, none⟩), .func (.func 115) #[] #[]] w (CuPost w0 w g l (.int .u8 (cuByte l at0 e).1) (cuByte l at0 e).2.1 (cuByte l at0 e).2.2) := by
  unfold cuByte
  by_cases he : e = 0
  ·subst he
   rw [if_neg (by simp)]
   by_cases h : at0 = (l.length : Int)
   ·rw [if_pos h]
    subst h
    exact one_byte_err w0 w g l _ 0 0 2 hI hB rfl (fun A c W _ _ _ => byte1_end l A c W hl)
   ·rw [if_neg h]
    obtain ⟨p, rfl⟩ := Int.eq_ofNat_of_zero_le ha.1
    exact one_byte_ok w0 w g l _ _ _ hI hB (fun A c W hC _ _ => byte1_ok l A c W p hl (by omega) hC)
  ·rw [if_pos he]
   exact one_byte_failed w0 w g l at0 e _ hI hB (by simpa using he)
 have HK := Lib.hid key
 clear key hI
 go_enter Try.func98, Try.ntmps98
 go_wp2_with fail
 refine HK.out.mono ?_
 rintro en w1 ⟨rfl, h1, h2, h3⟩
 have HP := Lib.hid (And.intro h1 (And.intro h2 h3))
 clear h1 h2 h3
 go_wp2_with fail
 go_ret
 exact ⟨rfl, HP.out⟩
theorem num_any (hI : IsCu w0 w g l at0 e) (hB : Below w0.heap.size w0 w) (hb : ∀ x ∈ l, 0 ≤ x ∧ x < 256) (hl : l.length ≤ 1000000) :
  Calls Try.prog 99 #[.pointer (some ⟨g, 0, none⟩)] w (CuPost w0 w g l (.int .u64 (cuNum l at0 e).1) (cuNum l at0 e).2.1 (cuNum l at0 e).2.2) := by
 have key : Calls Try.prog 116 #[.pointer (some ⟨g, 0, none⟩), .func (.func 83) #[] #[]] w (CuPost w0 w g l (.int .u64 (cuNum l at0 e).1) (cuNum l at0 e).2.1 (cuNum l at0 e).2.2) := by
  have hT : ∀ A c W, Kd.C (Kd.int .u8) W A l.length l → l.length ≤ c → Below w.heap.size w W → Calls Try.prog 83 #[.slice A l.length c, .int .i64 at0] W fun e' W' => e' = .returned (.tuple #[.int .u64 (getS l at0).1, .int .i64 (getS l at0).2.1, .int .i64 (getS l at0).2.2]) ∧ Below W.heap.size W W' :=
   fun A c W hC hc _ => (varint_Get.calls 30 A c l at0 _ _ _ W hC hc (get_is l hb (by omega) at0 30 (Nat.le_refl _))).mono fun e' W' hh => ⟨hh.1, hh.2.below⟩
  unfold cuNum
  by_cases he : e = 0
  ·subst he
   rw [if_neg (by simp)]
   by_cases h : (getS l at0).2.2 = 0
   ·rw [if_neg (by simpa using h)]
    rw [h] at hT
    exact one_num_ok w0 w g l _ _ _ hI hB hT
   ·rw [if_pos h]
    exact one_num_err w0 w g l _ _ _ _ hI hB (by simpa using h) hT
  ·rw [if_pos he]
   exact one_num_failed w0 w g l at0 e _ hI hB (by simpa using he)
 have HK := Lib.hid key
 clear key hI hb
 go_enter Try.func99, Try.ntmps99
 go_wp2_with fail
 refine HK.out.mono ?_
 rintro en w1 ⟨rfl, h1, h2, h3⟩
 have HP := Lib.hid (And.intro h1 (And.intro h2 h3))
 clear h1 h2 h3
 go_wp2_with fail
 go_ret
 exact ⟨rfl, HP.out⟩
theorem text1_any (A : Option Addr) (c : Nat) (W : World) (pb : Addr) (lim : Int) (hC : Kd.C (Kd.int .u8) W A l.length l) (hc : l.length ≤ c) (hb : ∀ x ∈ l, 0 ≤ x ∧ x < 256) (hl : l.length ≤ 1000000) (hlim : -9223372036854775808 ≤ lim ∧ lim ≤ 9223372036854775807) (hp : W.cell? pb = some (.int .i64 lim)) :
  Calls Try.prog 121 #[.slice A l.length c, .int .i64 at0, .pointer (some pb)] W fun e' W' => e' = .returned (.tuple #[.string (bgetS l at0 lim).1, .int .i64 (bgetS l at0 lim).2.1, .int .i64 (bgetS l at0 lim).2.2]) ∧ Below W.heap.size W W' := by
 have HG := Lib.hid (bget_any A c l lim W at0 hC hc hb (by omega) hlim)
 clear hC hb hlim
 go_enter Try.func121, Try.ntmps121
 go_wp2_with fail
 refine HG.out.mono ?_
 rintro en w1 ⟨rfl, h1⟩
 go_wp2_with fail
 go_ret3
 exact ⟨rfl, h1⟩
theorem text_any (lim : Int) (hI : IsCu w0 w g l at0 e) (hB : Below w0.heap.size w0 w) (hb : ∀ x ∈ l, 0 ≤ x ∧ x < 256) (hl : l.length ≤ 1000000) (hlim : -9223372036854775808 ≤ lim ∧ lim ≤ 9223372036854775807) :
  Calls Try.prog 113 #[.pointer (some ⟨g, 0, none⟩), .int .i64 lim] w (CuPost w0 w g l (.string (cuText l lim at0 e).1) (cuText l lim at0 e).2.1 (cuText l lim at0 e).2.2) := by
 obtain ⟨w1, hw1⟩ : ∃ w1, w.alloc (.cells #[.int .i64 lim] 3) = w1 := ⟨_, rfl⟩
 have hBw : Below w.heap.size w w1 := by rw [← hw1]; exact (Below.refl _ _).alloc (Nat.le_refl _) _
 have hB1 : Below w0.heap.size w0 w1 := hB.trans (hBw.mono hB.size)
 have hpb : w1.cell? ⟨w.heap.size, 0, none⟩ = some (.int .i64 lim) := by rw [← hw1]; simp
 have hI1 := hI.keep hBw
 have key : Calls Try.prog 120 #[.pointer (some ⟨g, 0, none⟩), .func (.func 121) #[] #[.pointer (some ⟨w.heap.size, 0, none⟩)]] w1 (CuPost w0 w1 g l (.string (cuText l lim at0 e).1) (cuText l lim at0 e).2.1 (cuText l lim at0 e).2.2) := by
  have hT : ∀ A c W, Kd.C (Kd.int .u8) W A l.length l → l.length ≤ c → Below w1.heap.size w1 W → Calls Try.prog 121 #[.slice A l.length c, .int .i64 at0, .pointer (some ⟨w.heap.size, 0, none⟩)] W fun e' W' => e' = .returned (.tuple #[.string (bgetS l at0 lim).1, .int .i64 (bgetS l at0 lim).2.1, .int .i64 (bgetS l at0 lim).2.2]) ∧ Below W.heap.size W W' :=
   fun A c W hC hc hBW => text1_any l at0 A c W _ lim hC hc hb hl hlim (cell_keep hBW hpb)
  unfold cuText
  by_cases he : e = 0
  ·subst he
   rw [if_neg (by simp)]
   by_cases h : (bgetS l at0 lim).2.2 = 0
   ·rw [if_neg (by simpa using h)]
    rw [h] at hT
    exact one_text_ok w0 w1 g l _ _ _ _ hI1 hB1 hT
   ·rw [if_pos h]
    exact one_text_err w0 w1 g l _ _ _ _ _ hI1 hB1 (by simpa using h) hT
  ·rw [if_pos he]
   exact one_text_failed w0 w1 g l at0 e _ hI1 hB1 (by simpa using he)
 rw [← hw1] at key
 have HK := Lib.hid key
 have HBW := Lib.hid hBw
 have HW1 := Lib.hid hw1
 clear key hI hb hw1 hBw hB1 hpb hI1
 go_enter Try.func113, Try.ntmps113
 go_wp2_with fail
 refine HK.out.mono ?_
 rintro en w2 ⟨rfl, h1, h2, h3⟩
 rw [HW1.out] at h2
 have HP := Lib.hid (And.intro h1 (And.intro ((World.grownBy.but (grownBy_none HBW.out) _).trans h2) h3))
 clear h1 h2 h3
 go_wp2_with fail
 go_ret
 exact ⟨rfl, HP.out⟩
theorem fail_any (ec : Int) (hI : IsCu w0 w g l at0 e) (hB : Below w0.heap.size w0 w) :
  Calls Try.prog 117 #[.pointer (some ⟨g, 0, none⟩), .int .i64 ec] w (CuPost w0 w g l (.tuple #[]) at0 (if e = 0 then ec else e)) := by
 have HI := Lib.hid hI
 obtain ⟨A, c, hc, hC, hg, hh, c0, c1, c2, f1, f2⟩ := cu_cells hI
 clear hI hC hh
 by_cases he : e = 0
 ·subst he
  rw [if_pos rfl]
  go_enter Try.func117, Try.ntmps117
  go_wp2_with fail
  (try simp only [Exit.inBlock, Exit.then])
  first | go_end0 | refine bodyPost_ret (results_none rfl _ _ _) rfl ?_
  exact ⟨rfl, HI.out.fail _, grownBy_setAt _ _ _ _, hB.setCell hg _⟩
 ·have he2 : (e == 0) = false := by simpa using he
  rw [if_neg he]
  go_enter Try.func117, Try.ntmps117
  go_wp2_with fail
  (try simp only [Exit.inBlock, Exit.then])
  first | go_end0 | refine bodyPost_ret (results_none rfl _ _ _) rfl ?_
  exact ⟨rfl, HI.out, World.grownBy.refl _ _, hB⟩
theorem err_any (hI : IsCu w0 w g l at0 e) :
  Calls Try.prog 100 #[.pointer (some ⟨g, 0, none⟩)] w fun en w' => en = .returned (.int .i64 e) ∧ w = w' := by
 obtain ⟨A, c, hc, hC, hg, hh, c0, c1, c2, f1, f2⟩ := cu_cells hI
 clear hI hC hh
 go_enter Try.func100, Try.ntmps100
 go_wp2_with fail
 go_ret
 exact ⟨rfl, rfl⟩
end
end Go.Proofs.Ytmeocdkiecknkaa
namespace Go.Proofs.Ytmeocdkiecknkaa
open Go.RowKit Go.Proofs.YtmeocdkiecknkaaW.PrintWords Go.Proofs.Ytmeocdkiecknkaa.GVB
attribute [local go_sem] Go.Proofs.YtmeocdkiecknkaaW.PrintMore.max2_int
def newAt (l : List Int) (at0 : Int) : Int := if at0 < 0 ∨ (l.length : Int) < at0 then 0 else at0
def newE (l : List Int) (at0 : Int) : Int := if at0 < 0 ∨ (l.length : Int) < at0 then 1 else 0
def CuOwn (base : Nat) (w0 W : World) (g : Nat) (l : List Int) (a e : Int) : Prop :=
 ∃ A c, W.heap[g]? = some (.cells #[.slice A l.length c, .int .i64 a, .int .i64 e] 160 (0, 0)) ∧ w0.heap.size ≤ g ∧ Kd.R (Kd.int .u8) 5 w0 base (fun _ => True) (.slice A l.length c) l
def NewPost (w : World) (l : List Int) (at0 : Int) (en : Ending) (w' : World) : Prop :=
 ∃ g w0, en = .returned (.pointer (some ⟨g, 0, none⟩)) ∧ Below w.heap.size w w0 ∧ IsCu w0 w' g l (newAt l at0) (newE l at0) ∧ Below w0.heap.size w0 w' ∧ w0.grownBy w' none ∧ CuOwn w.heap.size w0 w' g l (newAt l at0) (newE l at0)
set_option maxRecDepth 100000 in
set_option maxHeartbeats 1000000 in
theorem cnew_any (A : Option Addr) (c : Nat) (l : List Int) (at0 : Int) (w : World) (hC : Kd.C (Kd.int .u8) w A l.length l) (hc : l.length ≤ c) (hl : l.length ≤ 1000000) :
  Calls Try.prog 72 #[.slice A l.length c, .int .i64 at0] w (NewPost w l at0) := by
 have HCL := Lib.hid (clone_any A c l w hC hc (by omega))
 clear hC
 by_cases h0 : at0 < 0
 ·have d0 : decide (at0 < 0) = true := decide_eq_true h0
  have e1 : newAt l at0 = 0 := by unfold newAt; rw [if_pos (.inl h0)]
  have e2 : newE l at0 = 1 := by unfold newE; rw [if_pos (.inl h0)]
  have HE := Lib.hid (And.intro e1 e2)
  clear e1 e2
  go_enter Try.func72, Try.ntmps72
  go_wp2_with fail
  refine HCL.out.mono ?_
  rintro en w1 ⟨v, rfl, hR, hb⟩
  obtain ⟨A1, c1, rfl⟩ := Kd.R_slice hR
  have HR := Lib.hid (Kd.R_reads' hR)
  have HO := Lib.hid hR
  have HB := Lib.hid hb
  clear hR hb
  go_wp2_with fail
  go_ret
  have hb1 := (Below.refl w1.heap.size w1).alloc (Nat.le_refl _) (.cells #[.slice A1 l.length c1, .int .i64 0, .int .i64 1] 160)
  refine ⟨w1.heap.size, w1, rfl, HB.out, ⟨A1, c1, ?_, Nat.le_refl _, HR.out.2.2, HR.out.2.1⟩, hb1, grownBy_none hb1, A1, c1, ?_, Nat.le_refl _, HO.out⟩
  all_goals (rw [HE.out.1, HE.out.2]; exact blk_new _ _)
 ·have d0 : decide (at0 < 0) = false := decide_eq_false h0
  by_cases h1 : (l.length : Int) < at0
  ·have d1 : decide ((l.length : Int) < at0) = true := decide_eq_true h1
   have e1 : newAt l at0 = 0 := by unfold newAt; rw [if_pos (.inr h1)]
   have e2 : newE l at0 = 1 := by unfold newE; rw [if_pos (.inr h1)]
   have HE := Lib.hid (And.intro e1 e2)
   clear e1 e2
   go_enter Try.func72, Try.ntmps72
   go_wp2_with fail
   refine HCL.out.mono ?_
   rintro en w1 ⟨v, rfl, hR, hb⟩
   obtain ⟨A1, c1, rfl⟩ := Kd.R_slice hR
   have HR := Lib.hid (Kd.R_reads' hR)
   have HO := Lib.hid hR
   have HB := Lib.hid hb
   clear hR hb
   go_wp2_with fail
   go_ret
   have hb1 := (Below.refl w1.heap.size w1).alloc (Nat.le_refl _) (.cells #[.slice A1 l.length c1, .int .i64 0, .int .i64 1] 160)
   refine ⟨w1.heap.size, w1, rfl, HB.out, ⟨A1, c1, ?_, Nat.le_refl _, HR.out.2.2, HR.out.2.1⟩, hb1, grownBy_none hb1, A1, c1, ?_, Nat.le_refl _, HO.out⟩
   all_goals (rw [HE.out.1, HE.out.2]; exact blk_new _ _)
  ·have d1 : decide ((l.length : Int) < at0) = false := decide_eq_false h1
   have e1 : newAt l at0 = at0 := by unfold newAt; rw [if_neg (by omega)]
   have e2 : newE l at0 = 0 := by unfold newE; rw [if_neg (by omega)]
   have HE := Lib.hid (And.intro e1 e2)
   clear e1 e2
   go_enter Try.func72, Try.ntmps72
   go_wp2_with fail
   refine HCL.out.mono ?_
   rintro en w1 ⟨v, rfl, hR, hb⟩
   obtain ⟨A1, c1, rfl⟩ := Kd.R_slice hR
   have HR := Lib.hid (Kd.R_reads' hR)
   have HO := Lib.hid hR
   have HB := Lib.hid hb
   clear hR hb
   go_wp2_with fail
   go_ret
   have hb1 := (Below.refl w1.heap.size w1).alloc (Nat.le_refl _) (.cells #[.slice A1 l.length c1, .int .i64 at0, .int .i64 0] 160)
   refine ⟨w1.heap.size, w1, rfl, HB.out, ⟨A1, c1, ?_, Nat.le_refl _, HR.out.2.2, HR.out.2.1⟩, hb1, grownBy_none hb1, A1, c1, ?_, Nat.le_refl _, HO.out⟩
   all_goals (rw [HE.out.1, HE.out.2]; exact blk_new _ _)
theorem cuNum_step (l : List Int) (hb : ∀ x ∈ l, 0 ≤ x ∧ x < 256) (a e : Int) (ha : 0 ≤ a ∧ a ≤ l.length) : (cuNum l a e).2.1 ≤ l.length ∧ a ≤ (cuNum l a e).2.1 ∧ ((cuNum l a e).2.2 = 0 → a + 1 ≤ (cuNum l a e).2.1 ∧ e = 0) ∧ 0 ≤ (cuNum l a e).1 ∧ (cuNum l a e).1 < 18446744073709551616 ∧ ((cuNum l a e).2.2 ≠ 0 → (cuNum l a e).1 = 0 ∧ (cuNum l a e).2.1 = a) ∧ (e ≠ 0 → (cuNum l a e).2.2 = e) := by
 unfold cuNum
 by_cases he : e = 0
 ·subst he
  rw [if_neg (by simp)]
  rcases getS_cases2 l hb a with ⟨ec, h1, h2, h3⟩ | ⟨lo, n, p, h1, h2, h3, h4, h5⟩
  ·rw [h1, if_pos (by show ec ≠ 0; omega)]
   dsimp only
   exact ⟨by omega, by omega, fun h => by omega, by omega, by omega, fun _ => ⟨rfl, rfl⟩, fun h => absurd rfl h⟩
  ·rw [h2, if_neg (by simp)]
   dsimp only
   exact ⟨by omega, by omega, fun _ => ⟨by omega, rfl⟩, by omega, by omega, fun h => absurd rfl h, fun h => absurd rfl h⟩
 ·rw [if_pos he]
  dsimp only
  exact ⟨by omega, by omega, fun h => absurd h he, by omega, by omega, fun _ => ⟨rfl, rfl⟩, fun _ => rfl⟩
theorem cuText_step (l : List Int) (hb : ∀ x ∈ l, 0 ≤ x ∧ x < 256) (lim a e : Int) (ha : 0 ≤ a ∧ a ≤ l.length) : (cuText l lim a e).2.1 ≤ l.length ∧ a ≤ (cuText l lim a e).2.1 ∧ ((cuText l lim a e).2.2 = 0 → a + 1 ≤ (cuText l lim a e).2.1 ∧ e = 0) ∧ ((cuText l lim a e).2.2 ≠ 0 → (cuText l lim a e).1 = ⟨#[]⟩ ∧ (cuText l lim a e).2.1 = a) ∧ (e ≠ 0 → (cuText l lim a e).2.2 = e) ∧ (cuText l lim a e).1.size ≤ l.length := by
 unfold cuText
 by_cases he : e = 0
 ·subst he
  rw [if_neg (by simp)]
  rcases bgetS_cases l hb a lim with ⟨ec, h1, h2⟩ | ⟨lo, p, q, h1, h2, h3, h4, h5, h6⟩
  ·rw [h1, if_pos (by show ec ≠ 0; omega)]
   dsimp only
   exact ⟨by omega, by omega, fun h => by omega, fun _ => ⟨rfl, rfl⟩, fun h => absurd rfl h, Nat.zero_le _⟩
  ·rw [h2, if_neg (by simp)]
   dsimp only
   exact ⟨by omega, by omega, fun _ => ⟨by omega, rfl⟩, fun h => absurd rfl h, fun h => absurd rfl h, by rw [strOfNums_size, List.length_drop, List.length_take]; omega⟩
 ·rw [if_pos he]
  dsimp only
  exact ⟨by omega, by omega, fun h => absurd h he, fun _ => ⟨rfl, rfl⟩, fun _ => rfl, Nat.zero_le _⟩
end Go.Proofs.Ytmeocdkiecknkaa
namespace Go.Proofs.Ytmeocdkiecknkaa
open Go.RowKit Go.Proofs.YtmeocdkiecknkaaW.PrintWords Go.Proofs.Ytmeocdkiecknkaa.GVB
theorem bytesOf_byte (s : ByteArray) : ∀ x ∈ bytesOf s, 0 ≤ x ∧ x < 256 := by
 intro x hx
 simp only [bytesOf, List.mem_map] at hx
 obtain ⟨y, _, rfl⟩ := hx
 have := y.toNat_lt
 omega
theorem blob_bytes (s : ByteArray) (hs : s.size < 18446744073709551616) : ∀ x ∈ blob s, 0 ≤ x ∧ x < 256 := by
 intro x hx
 rcases List.mem_append.1 hx with hx | hx
 ·exact ints_bytes _ (vb_bytes _ hs) x hx
 ·exact bytesOf_byte s x hx
theorem nats_app (u v : List Int) : nats (u ++ v) = nats u ++ nats v := by simp [nats]
theorem bget_blob (l : List Int) (s : ByteArray) (u : List Int) (lim : Int) (hs : s.size ≤ 1000000000) (hlim : (s.size : Int) ≤ lim) :
  bgetS (l ++ (blob s ++ u)) (l.length : Int) lim = (s, ((l.length + (blob s).length : Nat) : Int), 0) := by
 have hv := vb_len10 s.size (by omega)
 have hbl := blob_len s
 have hd : (nats (l ++ (blob s ++ u))).drop l.length = vb s.size ++ (nats (bytesOf s) ++ nats u) := by
  rw [nats_app, show l.length = (nats l).length by simp [nats], List.drop_left]
  unfold blob
  rw [nats_app, nats_app, nats_ints, List.append_assoc]
 have hg : getS (l ++ (blob s ++ u)) (l.length : Int) = ((s.size : Int), ((l.length + (vb s.size).length : Nat) : Int), 0) := by
  unfold getS
  rw [if_neg (by simp only [List.length_append]; omega), Int.toNat_natCast, hd, dec_vb0 _ _ (by omega)]
  rfl
 unfold bgetS
 rw [hg, if_neg (by simp), if_neg (by split <;> omega), if_neg (by simp only [List.length_append]; omega)]
 have e1 : (((l.length + (vb s.size).length : Nat) : Int)).toNat = (l ++ ints (vb s.size)).length := by rw [Int.toNat_natCast, List.length_append]; simp [ints]
 have e2 : ((s.size : Int)).toNat = (bytesOf s).length := by rw [Int.toNat_natCast, bytesOf_length]
 have e3 : ((l ++ (blob s ++ u)).take ((l ++ ints (vb s.size)).length + (bytesOf s).length)).drop (l ++ ints (vb s.size)).length = bytesOf s := by
  rw [show l ++ (blob s ++ u) = (l ++ ints (vb s.size)) ++ (bytesOf s ++ u) by unfold blob; simp only [List.append_assoc], List.take_append, List.take_of_length_le (by omega), List.drop_left, Nat.add_sub_cancel_left, List.take_left]
 simp only [e1, e2, e3, bytes_str]
 congr 2
 rw [hbl]
 omega
theorem get_vb (p : List Int) (n : Nat) (u : List Int) (hn : n < 18446744073709551616) : getS (p ++ (ints (vb n) ++ u)) (p.length : Int) = ((n : Int), ((p.length + (vb n).length : Nat) : Int), 0) := by
 have hd : (nats (p ++ (ints (vb n) ++ u))).drop p.length = vb n ++ nats u := by
  rw [nats_app, nats_app, nats_ints, show p.length = (nats p).length by simp [nats], List.drop_left]
 have hv := vb_len10 n hn
 unfold getS
 rw [if_neg (by simp only [List.length_append]; omega), Int.toNat_natCast, hd, dec_vb0 _ _ (by omega)]
 unfold outS
 rw [if_pos rfl]
theorem cuNum_vb (p : List Int) (n : Int) (u : List Int) (hn : 0 ≤ n ∧ n < 18446744073709551616) : cuNum (p ++ (ints (vb n.toNat) ++ u)) (p.length : Int) 0 = (n, (((p ++ ints (vb n.toNat)).length : Nat) : Int), 0) := by
 have h := get_vb p n.toNat u (by omega)
 unfold cuNum
 rw [h, if_neg (by simp), if_neg (by simp)]
 simp only [Prod.mk.injEq, and_true]
 exact ⟨by omega, by rw [List.length_append]; simp [ints]⟩
theorem cuText_blob (p : List Int) (s : ByteArray) (u : List Int) (lim : Int) (hs : s.size ≤ 1000000000) (hlim : (s.size : Int) ≤ lim) : cuText (p ++ (blob s ++ u)) lim (p.length : Int) 0 = (s, (((p ++ blob s).length : Nat) : Int), 0) := by
 have h := bget_blob p s u lim hs hlim
 unfold cuText
 rw [h, if_neg (by simp), if_neg (by simp)]
 simp only [Prod.mk.injEq, and_true, true_and]
 rw [List.length_append]
end Go.Proofs.Ytmeocdkiecknkaa
