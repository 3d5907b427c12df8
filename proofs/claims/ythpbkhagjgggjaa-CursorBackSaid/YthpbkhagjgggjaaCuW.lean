/- What the cursor's one does: of bytes, of numbers, of texts. -/
import Derived.Test.YthpbkhagjgggjaaCuP
set_option linter.unusedVariables false
set_option linter.unusedSimpArgs false
namespace Go.Proofs.Ythpbkhagjgggjaa
open Go.RowKit Go.Proofs.YthpbkhagjgggjaaW.PrintWords Go.Proofs.Ythpbkhagjgggjaa.GVB

theorem cu_cells {w0 W : World} {g : Nat} {l : List Int} {a e : Int} (h : IsCu w0 W g l a e) : ∃ A c, l.length ≤ c ∧ Kd.C (Kd.int .u8) w0 A l.length l ∧ w0.heap.size ≤ g ∧ W.heap[g]? = some (.cells #[.slice A l.length c, .int .i64 a, .int .i64 e] 99 (0, 0)) ∧ W.cell? ⟨g, 0, none⟩ = some (.slice A l.length c) ∧ W.cell? ⟨g, 1, none⟩ = some (.int .i64 a) ∧ W.cell? ⟨g, 2, none⟩ = some (.int .i64 e) ∧ W.frozen? ⟨g, 1, none⟩ = false ∧ W.frozen? ⟨g, 2, none⟩ = false := by
  obtain ⟨A, c, h1, h2, h3, h4⟩ := h
  exact ⟨A, c, h4, h3, h2, h1, by simp [World.cell?, h1], by simp [World.cell?, h1], by simp [World.cell?, h1], by simp [World.frozen?, h1], by simp [World.frozen?, h1]⟩
theorem IsCu.fail {w0 W : World} {g : Nat} {l : List Int} {a e : Int} (h : IsCu w0 W g l a e) (ec : Int) : IsCu w0 (W.setCell ⟨g, 2, none⟩ (.int .i64 ec)) g l a ec := by
  obtain ⟨A, c, h1, h2, h3, h4⟩ := h
  exact ⟨A, c, by simpa using blk_set h1 2 (.int .i64 ec), h2, h3, h4⟩
theorem IsCu.go {w0 W : World} {g : Nat} {l : List Int} {a e : Int} (h : IsCu w0 W g l a e) (n : Int) : IsCu w0 (W.setCell ⟨g, 1, none⟩ (.int .i64 n)) g l n e := by
  obtain ⟨A, c, h1, h2, h3, h4⟩ := h
  exact ⟨A, c, by simpa using blk_set h1 1 (.int .i64 n), h2, h3, h4⟩
theorem grownBy_setAt (W : World) (b i : Nat) (v : Value) : W.grownBy (W.setCell ⟨b, i, none⟩ v) (some b) :=
  ⟨rfl, rfl, rfl, by simp [World.setCell], fun k _ hk => Below.heap_setCell W ⟨b, i, none⟩ v k (fun e => hk (by rw [e]))⟩
set_option maxRecDepth 100000 in
set_option maxHeartbeats 1000000 in
theorem one_byte_failed (w0 w : World) (g : Nat) (l : List Int) (at0 e : Int) (tv : Value) (hI : IsCu w0 w g l at0 e) (hB : Below w0.heap.size w0 w) (he : (e != 0) = true) :
    Calls Try.prog 75 #[.pointer (some ⟨g, 0, none⟩), tv] w (CuPost w0 w g l (.int .u8 0) at0 e) := by
  have HI := Lib.hid hI
  obtain ⟨A, c, _, _, _, _, c0, c1, c2, _, _⟩ := cu_cells hI
  clear hI
  go_enter Try.func75, Try.ntmps75
  go_wp2_with fail
  go_ret
  exact ⟨rfl, HI.out, World.grownBy.refl _ _, hB⟩
set_option maxRecDepth 100000 in
set_option maxHeartbeats 1000000 in
theorem one_byte_err (w0 w : World) (g : Nat) (l : List Int) (at0 : Int) (x : Int) (nx ec : Int) (hI : IsCu w0 w g l at0 0) (hB : Below w0.heap.size w0 w) (he : (ec != 0) = true)
    (hT : ∀ A c W, Kd.C (Kd.int .u8) W A l.length l → l.length ≤ c → Below w.heap.size w W → Calls Try.prog 76 #[.slice A l.length c, .int .i64 at0] W fun e' W' => e' = .returned (.tuple #[.int .u8 x, .int .i64 nx, .int .i64 ec]) ∧ Below W.heap.size W W') :
    Calls Try.prog 75 #[.pointer (some ⟨g, 0, none⟩), .func (.func 76) #[] #[]] w (CuPost w0 w g l (.int .u8 0) at0 ec) := by
  have HI := Lib.hid hI
  have HBB := Lib.hid hB
  have HT := Lib.hid hT
  obtain ⟨A, c, hc, hC, hg, hh, c0, c1, c2, f1, f2⟩ := cu_cells hI
  have HH := Lib.hid hh
  have HCC := Lib.hid hC
  clear hI hC hh hB hT
  go_enter Try.func75, Try.ntmps75
  go_wp2_with fail
  refine region_calmA (n := 17) (byList [isV (.func (.func 76) #[] #[]), isV (.pointer (some ⟨g, 0, none⟩)), isV (.pointer (some ⟨g, 0, none⟩)), isV (.pointer (some ⟨g, 0, none⟩)), isV (.slice A l.length c), isV (.pointer (some ⟨g, 0, none⟩)), isV (.pointer (some ⟨g, 0, none⟩)), isV (.pointer (some ⟨g, 1, none⟩)), isV (.int .i64 at0), isV (.tuple #[.int .u8 x, .int .i64 nx, .int .i64 ec]), isV (.tuple #[.int .u8 x, .int .i64 nx, .int .i64 ec]), isV (.int .u8 x), isV (.int .i64 nx), isV (.int .i64 ec), isV (.int .u8 x), isV (.int .i64 nx), isV (.int .i64 ec)]) (by kernel_rfl) rfl (byList_lasts ?_) (by kernel_rfl) (by kernel_rfl) (show AllLt 17 _ from ?_) ?_
  · intro p hp
    simp only [List.mem_cons, List.not_mem_nil, or_false] at hp
    rcases hp with rfl | rfl | rfl | rfl | rfl | rfl | rfl | rfl | rfl | rfl | rfl | rfl | rfl | rfl | rfl | rfl | rfl <;> first | exact isV_lasts | exact isC_lasts
  · refine allLt_succ (allLt_succ (allLt_succ (allLt_succ (allLt_succ (allLt_succ (allLt_succ (allLt_succ (allLt_succ (allLt_succ (allLt_succ (allLt_succ (allLt_succ (allLt_succ (allLt_succ (allLt_succ (allLt_succ (allLt_zero _) ?_) ?_) ?_) ?_) ?_) ?_) ?_) ?_) ?_) ?_) ?_) ?_) ?_) ?_) ?_) ?_) ?_
    · refine StepOkA.run (o := ?o0) ?ho0 ?hg0 ?h0
      case ho0 => simp only [List.getElem?_toArray, List.getElem?_cons_succ, List.getElem?_cons_zero]; rfl
      case hg0 => rfl
      case h0 =>
      intro a W hS hB hd
      have e1 : a.tmps[1]? = some (.func (.func 76) #[] #[]) := hS.get rfl rfl
      refine wp_value (c := .func (.func 76) #[] #[]) ?_ rfl
      go_simp
    · refine StepOkA.run (o := ?o1) ?ho1 ?hg1 ?h1
      case ho1 => simp only [List.getElem?_toArray, List.getElem?_cons_succ, List.getElem?_cons_zero]; rfl
      case hg1 => rfl
      case h1 =>
      intro a W hS hB hd
      have e0 : a.tmps[0]? = some (.pointer (some ⟨g, 0, none⟩)) := hS.get rfl rfl
      refine wp_value (c := .pointer (some ⟨g, 0, none⟩)) ?_ rfl
      go_simp
    · refine StepOkA.run (o := ?o2) ?ho2 ?hg2 ?h2
      case ho2 => simp only [List.getElem?_toArray, List.getElem?_cons_succ, List.getElem?_cons_zero]; rfl
      case hg2 => rfl
      case h2 =>
      intro a W hS hB hd
      have e17 : a.tmps[17]? = some (.pointer (some ⟨g, 0, none⟩)) := (hd 1 rfl).bool rfl rfl rfl
      refine wp_value (c := .pointer (some ⟨g, 0, none⟩)) ?_ rfl
      go_simp
    · refine StepOkA.run (o := ?o3) ?ho3 ?hg3 ?h3
      case ho3 => simp only [List.getElem?_toArray, List.getElem?_cons_succ, List.getElem?_cons_zero]; rfl
      case hg3 => rfl
      case h3 =>
      intro a W hS hB hd
      have e18 : a.tmps[18]? = some (.pointer (some ⟨g, 0, none⟩)) := (hd 2 rfl).bool rfl rfl rfl
      refine wp_value (c := .pointer (some ⟨g, 0, none⟩)) ?_ rfl
      go_simp
    · refine StepOkA.run (o := ?o4) ?ho4 ?hg4 ?h4
      case ho4 => simp only [List.getElem?_toArray, List.getElem?_cons_succ, List.getElem?_cons_zero]; rfl
      case hg4 => rfl
      case h4 =>
      intro a W hS hB hd
      have e19 : a.tmps[19]? = some (.pointer (some ⟨g, 0, none⟩)) := (hd 3 rfl).bool rfl rfl rfl
      refine wp_value (c := .slice A l.length c) ?_ rfl
      have hh := blk_below HH.out hB
      have hcW : W.cell? ⟨g, 0, none⟩ = some (.slice A l.length c) := by simp [World.cell?, hh]
      go_simp
    · refine StepOkA.run (o := ?o5) ?ho5 ?hg5 ?h5
      case ho5 => simp only [List.getElem?_toArray, List.getElem?_cons_succ, List.getElem?_cons_zero]; rfl
      case hg5 => rfl
      case h5 =>
      intro a W hS hB hd
      have e0 : a.tmps[0]? = some (.pointer (some ⟨g, 0, none⟩)) := hS.get rfl rfl
      refine wp_value (c := .pointer (some ⟨g, 0, none⟩)) ?_ rfl
      go_simp
    · refine StepOkA.run (o := ?o6) ?ho6 ?hg6 ?h6
      case ho6 => simp only [List.getElem?_toArray, List.getElem?_cons_succ, List.getElem?_cons_zero]; rfl
      case hg6 => rfl
      case h6 =>
      intro a W hS hB hd
      have e21 : a.tmps[21]? = some (.pointer (some ⟨g, 0, none⟩)) := (hd 5 rfl).bool rfl rfl rfl
      refine wp_value (c := .pointer (some ⟨g, 0, none⟩)) ?_ rfl
      go_simp
    · refine StepOkA.run (o := ?o7) ?ho7 ?hg7 ?h7
      case ho7 => simp only [List.getElem?_toArray, List.getElem?_cons_succ, List.getElem?_cons_zero]; rfl
      case hg7 => rfl
      case h7 =>
      intro a W hS hB hd
      have e22 : a.tmps[22]? = some (.pointer (some ⟨g, 0, none⟩)) := (hd 6 rfl).bool rfl rfl rfl
      refine wp_value (c := .pointer (some ⟨g, 1, none⟩)) ?_ rfl
      go_simp
    · refine StepOkA.run (o := ?o8) ?ho8 ?hg8 ?h8
      case ho8 => simp only [List.getElem?_toArray, List.getElem?_cons_succ, List.getElem?_cons_zero]; rfl
      case hg8 => rfl
      case h8 =>
      intro a W hS hB hd
      have e23 : a.tmps[23]? = some (.pointer (some ⟨g, 1, none⟩)) := (hd 7 rfl).bool rfl rfl rfl
      refine wp_value (c := .int .i64 at0) ?_ rfl
      have hh := blk_below HH.out hB
      have hcW : W.cell? ⟨g, 1, none⟩ = some (.int .i64 at0) := by simp [World.cell?, hh]
      go_simp
    · refine StepOkA.run (o := ?o9) ?ho9 ?hg9 ?h9
      case ho9 => simp only [List.getElem?_toArray, List.getElem?_cons_succ, List.getElem?_cons_zero]; rfl
      case hg9 => rfl
      case h9 =>
      intro a W hS hB hd
      have e16 : a.tmps[16]? = some (.func (.func 76) #[] #[]) := (hd 0 rfl).bool rfl rfl rfl
      have e20 : a.tmps[20]? = some (.slice A l.length c) := (hd 4 rfl).bool rfl rfl rfl
      have e24 : a.tmps[24]? = some (.int .i64 at0) := (hd 8 rfl).bool rfl rfl rfl
      refine wp_called_fn (pre := #[]) (post := #[]) Try.func76 (by kernel_rfl) rfl #[.slice A l.length c, .int .i64 at0] rfl (by simp [Act.eval, *]) (by simp [Act.eval, *]) ?_
      refine (HT.out A c W (Kd.C_below HCC.out (HBB.out.trans (hB.mono HBB.out.size))) hc hB).mono ?_
      rintro e9 w9 ⟨rfl, hb9⟩
      exact ⟨_, rfl, rfl, hb9⟩
    · refine StepOkA.run (o := ?o10) ?ho10 ?hg10 ?h10
      case ho10 => simp only [List.getElem?_toArray, List.getElem?_cons_succ, List.getElem?_cons_zero]; rfl
      case hg10 => rfl
      case h10 =>
      intro a W hS hB hd
      have e25 : a.tmps[25]? = some (.tuple #[.int .u8 x, .int .i64 nx, .int .i64 ec]) := (hd 9 rfl).bool rfl rfl rfl
      refine wp_value (c := .tuple #[.int .u8 x, .int .i64 nx, .int .i64 ec]) ?_ rfl
      go_simp
    · refine StepOkA.run (o := ?o11) ?ho11 ?hg11 ?h11
      case ho11 => simp only [List.getElem?_toArray, List.getElem?_cons_succ, List.getElem?_cons_zero]; rfl
      case hg11 => rfl
      case h11 =>
      intro a W hS hB hd
      have e15 : a.tmps[15]? = some (.tuple #[.int .u8 x, .int .i64 nx, .int .i64 ec]) := (hd 10 rfl).bool rfl rfl rfl
      refine wp_value (c := .int .u8 x) ?_ rfl
      go_simp
    · refine StepOkA.run (o := ?o12) ?ho12 ?hg12 ?h12
      case ho12 => simp only [List.getElem?_toArray, List.getElem?_cons_succ, List.getElem?_cons_zero]; rfl
      case hg12 => rfl
      case h12 =>
      intro a W hS hB hd
      have e15 : a.tmps[15]? = some (.tuple #[.int .u8 x, .int .i64 nx, .int .i64 ec]) := (hd 10 rfl).bool rfl rfl rfl
      refine wp_value (c := .int .i64 nx) ?_ rfl
      go_simp
    · refine StepOkA.run (o := ?o13) ?ho13 ?hg13 ?h13
      case ho13 => simp only [List.getElem?_toArray, List.getElem?_cons_succ, List.getElem?_cons_zero]; rfl
      case hg13 => rfl
      case h13 =>
      intro a W hS hB hd
      have e15 : a.tmps[15]? = some (.tuple #[.int .u8 x, .int .i64 nx, .int .i64 ec]) := (hd 10 rfl).bool rfl rfl rfl
      refine wp_value (c := .int .i64 ec) ?_ rfl
      go_simp
    · refine StepOkA.run (o := ?o14) ?ho14 ?hg14 ?h14
      case ho14 => simp only [List.getElem?_toArray, List.getElem?_cons_succ, List.getElem?_cons_zero]; rfl
      case hg14 => rfl
      case h14 =>
      intro a W hS hB hd
      have e26 : a.tmps[26]? = some (.int .u8 x) := (hd 11 rfl).bool rfl rfl rfl
      refine wp_value (c := .int .u8 x) ?_ rfl
      go_simp
    · refine StepOkA.run (o := ?o15) ?ho15 ?hg15 ?h15
      case ho15 => simp only [List.getElem?_toArray, List.getElem?_cons_succ, List.getElem?_cons_zero]; rfl
      case hg15 => rfl
      case h15 =>
      intro a W hS hB hd
      have e27 : a.tmps[27]? = some (.int .i64 nx) := (hd 12 rfl).bool rfl rfl rfl
      refine wp_value (c := .int .i64 nx) ?_ rfl
      go_simp
    · refine StepOkA.run (o := ?o16) ?ho16 ?hg16 ?h16
      case ho16 => simp only [List.getElem?_toArray, List.getElem?_cons_succ, List.getElem?_cons_zero]; rfl
      case hg16 => rfl
      case h16 =>
      intro a W hS hB hd
      have e28 : a.tmps[28]? = some (.int .i64 ec) := (hd 13 rfl).bool rfl rfl rfl
      refine wp_value (c := .int .i64 ec) ?_ rfl
      go_simp
  · intro a W hS hB hh
    have e6 : a.tmps[6]? = some (.int .u8 x) := (hh 14 (by omega)).bool rfl rfl rfl
    have e7 : a.tmps[7]? = some (.int .i64 nx) := (hh 15 (by omega)).bool rfl rfl rfl
    have e8 : a.tmps[8]? = some (.int .i64 ec) := (hh 16 (by omega)).bool rfl rfl rfl
    have HBR := Lib.hid hB
    have hlit := same_lit hS
    clear hh hS hB
    simp only [List.filterMap_cons, List.filterMap_nil, List.foldl_cons, List.foldl_nil, List.setIfInBounds_toArray, List.set_cons_zero, List.set_cons_succ] at hlit
    rw [show a.tmps.getD 6 undef = .int .u8 x by simp [Array.getD_eq_getD_getElem?, e6]] at hlit
    rw [show a.tmps.getD 7 undef = .int .i64 nx by simp [Array.getD_eq_getD_getElem?, e7]] at hlit
    rw [show a.tmps.getD 8 undef = .int .i64 ec by simp [Array.getD_eq_getD_getElem?, e8]] at hlit
    generalize a.tmps.getD 16 undef = z16 at hlit
    generalize a.tmps.getD 17 undef = z17 at hlit
    generalize a.tmps.getD 18 undef = z18 at hlit
    generalize a.tmps.getD 19 undef = z19 at hlit
    generalize a.tmps.getD 20 undef = z20 at hlit
    generalize a.tmps.getD 21 undef = z21 at hlit
    generalize a.tmps.getD 22 undef = z22 at hlit
    generalize a.tmps.getD 23 undef = z23 at hlit
    generalize a.tmps.getD 24 undef = z24 at hlit
    generalize a.tmps.getD 25 undef = z25 at hlit
    generalize a.tmps.getD 15 undef = z15 at hlit
    generalize a.tmps.getD 26 undef = z26 at hlit
    generalize a.tmps.getD 27 undef = z27 at hlit
    generalize a.tmps.getD 28 undef = z28 at hlit
    clear e6 e7 e8
    subst hlit
    have hI2 := HI.out.keep HBR.out
    have HB2 := Lib.hid (HBB.out.trans (HBR.out.mono HBB.out.size))
    have HI2 := Lib.hid hI2
    obtain ⟨A2, c2', _, _, _, _, c0', c1', c2', f1', f2'⟩ := cu_cells hI2
    clear hI2 c0 c1 c2 f1 f2
    go_wp2
    go_ret
    exact ⟨rfl, HI2.out.fail _, (World.grownBy.but (grownBy_none HBR.out) _).trans (grownBy_setAt _ _ _ _), HB2.out.setCell hg _⟩
set_option maxRecDepth 100000 in
set_option maxHeartbeats 1000000 in
theorem one_byte_ok (w0 w : World) (g : Nat) (l : List Int) (at0 : Int) (x : Int) (nx : Int) (hI : IsCu w0 w g l at0 0) (hB : Below w0.heap.size w0 w)
    (hT : ∀ A c W, Kd.C (Kd.int .u8) W A l.length l → l.length ≤ c → Below w.heap.size w W → Calls Try.prog 76 #[.slice A l.length c, .int .i64 at0] W fun e' W' => e' = .returned (.tuple #[.int .u8 x, .int .i64 nx, .int .i64 0]) ∧ Below W.heap.size W W') :
    Calls Try.prog 75 #[.pointer (some ⟨g, 0, none⟩), .func (.func 76) #[] #[]] w (CuPost w0 w g l (.int .u8 x) nx 0) := by
  have HI := Lib.hid hI
  have HBB := Lib.hid hB
  have HT := Lib.hid hT
  obtain ⟨A, c, hc, hC, hg, hh, c0, c1, c2, f1, f2⟩ := cu_cells hI
  have HH := Lib.hid hh
  have HCC := Lib.hid hC
  clear hI hC hh hB hT
  go_enter Try.func75, Try.ntmps75
  go_wp2_with fail
  refine region_calmA (n := 17) (byList [isV (.func (.func 76) #[] #[]), isV (.pointer (some ⟨g, 0, none⟩)), isV (.pointer (some ⟨g, 0, none⟩)), isV (.pointer (some ⟨g, 0, none⟩)), isV (.slice A l.length c), isV (.pointer (some ⟨g, 0, none⟩)), isV (.pointer (some ⟨g, 0, none⟩)), isV (.pointer (some ⟨g, 1, none⟩)), isV (.int .i64 at0), isV (.tuple #[.int .u8 x, .int .i64 nx, .int .i64 0]), isV (.tuple #[.int .u8 x, .int .i64 nx, .int .i64 0]), isV (.int .u8 x), isV (.int .i64 nx), isV (.int .i64 0), isV (.int .u8 x), isV (.int .i64 nx), isV (.int .i64 0)]) (by kernel_rfl) rfl (byList_lasts ?_) (by kernel_rfl) (by kernel_rfl) (show AllLt 17 _ from ?_) ?_
  · intro p hp
    simp only [List.mem_cons, List.not_mem_nil, or_false] at hp
    rcases hp with rfl | rfl | rfl | rfl | rfl | rfl | rfl | rfl | rfl | rfl | rfl | rfl | rfl | rfl | rfl | rfl | rfl <;> first | exact isV_lasts | exact isC_lasts
  · refine allLt_succ (allLt_succ (allLt_succ (allLt_succ (allLt_succ (allLt_succ (allLt_succ (allLt_succ (allLt_succ (allLt_succ (allLt_succ (allLt_succ (allLt_succ (allLt_succ (allLt_succ (allLt_succ (allLt_succ (allLt_zero _) ?_) ?_) ?_) ?_) ?_) ?_) ?_) ?_) ?_) ?_) ?_) ?_) ?_) ?_) ?_) ?_) ?_
    · refine StepOkA.run (o := ?o0) ?ho0 ?hg0 ?h0
      case ho0 => simp only [List.getElem?_toArray, List.getElem?_cons_succ, List.getElem?_cons_zero]; rfl
      case hg0 => rfl
      case h0 =>
      intro a W hS hB hd
      have e1 : a.tmps[1]? = some (.func (.func 76) #[] #[]) := hS.get rfl rfl
      refine wp_value (c := .func (.func 76) #[] #[]) ?_ rfl
      go_simp
    · refine StepOkA.run (o := ?o1) ?ho1 ?hg1 ?h1
      case ho1 => simp only [List.getElem?_toArray, List.getElem?_cons_succ, List.getElem?_cons_zero]; rfl
      case hg1 => rfl
      case h1 =>
      intro a W hS hB hd
      have e0 : a.tmps[0]? = some (.pointer (some ⟨g, 0, none⟩)) := hS.get rfl rfl
      refine wp_value (c := .pointer (some ⟨g, 0, none⟩)) ?_ rfl
      go_simp
    · refine StepOkA.run (o := ?o2) ?ho2 ?hg2 ?h2
      case ho2 => simp only [List.getElem?_toArray, List.getElem?_cons_succ, List.getElem?_cons_zero]; rfl
      case hg2 => rfl
      case h2 =>
      intro a W hS hB hd
      have e17 : a.tmps[17]? = some (.pointer (some ⟨g, 0, none⟩)) := (hd 1 rfl).bool rfl rfl rfl
      refine wp_value (c := .pointer (some ⟨g, 0, none⟩)) ?_ rfl
      go_simp
    · refine StepOkA.run (o := ?o3) ?ho3 ?hg3 ?h3
      case ho3 => simp only [List.getElem?_toArray, List.getElem?_cons_succ, List.getElem?_cons_zero]; rfl
      case hg3 => rfl
      case h3 =>
      intro a W hS hB hd
      have e18 : a.tmps[18]? = some (.pointer (some ⟨g, 0, none⟩)) := (hd 2 rfl).bool rfl rfl rfl
      refine wp_value (c := .pointer (some ⟨g, 0, none⟩)) ?_ rfl
      go_simp
    · refine StepOkA.run (o := ?o4) ?ho4 ?hg4 ?h4
      case ho4 => simp only [List.getElem?_toArray, List.getElem?_cons_succ, List.getElem?_cons_zero]; rfl
      case hg4 => rfl
      case h4 =>
      intro a W hS hB hd
      have e19 : a.tmps[19]? = some (.pointer (some ⟨g, 0, none⟩)) := (hd 3 rfl).bool rfl rfl rfl
      refine wp_value (c := .slice A l.length c) ?_ rfl
      have hh := blk_below HH.out hB
      have hcW : W.cell? ⟨g, 0, none⟩ = some (.slice A l.length c) := by simp [World.cell?, hh]
      go_simp
    · refine StepOkA.run (o := ?o5) ?ho5 ?hg5 ?h5
      case ho5 => simp only [List.getElem?_toArray, List.getElem?_cons_succ, List.getElem?_cons_zero]; rfl
      case hg5 => rfl
      case h5 =>
      intro a W hS hB hd
      have e0 : a.tmps[0]? = some (.pointer (some ⟨g, 0, none⟩)) := hS.get rfl rfl
      refine wp_value (c := .pointer (some ⟨g, 0, none⟩)) ?_ rfl
      go_simp
    · refine StepOkA.run (o := ?o6) ?ho6 ?hg6 ?h6
      case ho6 => simp only [List.getElem?_toArray, List.getElem?_cons_succ, List.getElem?_cons_zero]; rfl
      case hg6 => rfl
      case h6 =>
      intro a W hS hB hd
      have e21 : a.tmps[21]? = some (.pointer (some ⟨g, 0, none⟩)) := (hd 5 rfl).bool rfl rfl rfl
      refine wp_value (c := .pointer (some ⟨g, 0, none⟩)) ?_ rfl
      go_simp
    · refine StepOkA.run (o := ?o7) ?ho7 ?hg7 ?h7
      case ho7 => simp only [List.getElem?_toArray, List.getElem?_cons_succ, List.getElem?_cons_zero]; rfl
      case hg7 => rfl
      case h7 =>
      intro a W hS hB hd
      have e22 : a.tmps[22]? = some (.pointer (some ⟨g, 0, none⟩)) := (hd 6 rfl).bool rfl rfl rfl
      refine wp_value (c := .pointer (some ⟨g, 1, none⟩)) ?_ rfl
      go_simp
    · refine StepOkA.run (o := ?o8) ?ho8 ?hg8 ?h8
      case ho8 => simp only [List.getElem?_toArray, List.getElem?_cons_succ, List.getElem?_cons_zero]; rfl
      case hg8 => rfl
      case h8 =>
      intro a W hS hB hd
      have e23 : a.tmps[23]? = some (.pointer (some ⟨g, 1, none⟩)) := (hd 7 rfl).bool rfl rfl rfl
      refine wp_value (c := .int .i64 at0) ?_ rfl
      have hh := blk_below HH.out hB
      have hcW : W.cell? ⟨g, 1, none⟩ = some (.int .i64 at0) := by simp [World.cell?, hh]
      go_simp
    · refine StepOkA.run (o := ?o9) ?ho9 ?hg9 ?h9
      case ho9 => simp only [List.getElem?_toArray, List.getElem?_cons_succ, List.getElem?_cons_zero]; rfl
      case hg9 => rfl
      case h9 =>
      intro a W hS hB hd
      have e16 : a.tmps[16]? = some (.func (.func 76) #[] #[]) := (hd 0 rfl).bool rfl rfl rfl
      have e20 : a.tmps[20]? = some (.slice A l.length c) := (hd 4 rfl).bool rfl rfl rfl
      have e24 : a.tmps[24]? = some (.int .i64 at0) := (hd 8 rfl).bool rfl rfl rfl
      refine wp_called_fn (pre := #[]) (post := #[]) Try.func76 (by kernel_rfl) rfl #[.slice A l.length c, .int .i64 at0] rfl (by simp [Act.eval, *]) (by simp [Act.eval, *]) ?_
      refine (HT.out A c W (Kd.C_below HCC.out (HBB.out.trans (hB.mono HBB.out.size))) hc hB).mono ?_
      rintro e9 w9 ⟨rfl, hb9⟩
      exact ⟨_, rfl, rfl, hb9⟩
    · refine StepOkA.run (o := ?o10) ?ho10 ?hg10 ?h10
      case ho10 => simp only [List.getElem?_toArray, List.getElem?_cons_succ, List.getElem?_cons_zero]; rfl
      case hg10 => rfl
      case h10 =>
      intro a W hS hB hd
      have e25 : a.tmps[25]? = some (.tuple #[.int .u8 x, .int .i64 nx, .int .i64 0]) := (hd 9 rfl).bool rfl rfl rfl
      refine wp_value (c := .tuple #[.int .u8 x, .int .i64 nx, .int .i64 0]) ?_ rfl
      go_simp
    · refine StepOkA.run (o := ?o11) ?ho11 ?hg11 ?h11
      case ho11 => simp only [List.getElem?_toArray, List.getElem?_cons_succ, List.getElem?_cons_zero]; rfl
      case hg11 => rfl
      case h11 =>
      intro a W hS hB hd
      have e15 : a.tmps[15]? = some (.tuple #[.int .u8 x, .int .i64 nx, .int .i64 0]) := (hd 10 rfl).bool rfl rfl rfl
      refine wp_value (c := .int .u8 x) ?_ rfl
      go_simp
    · refine StepOkA.run (o := ?o12) ?ho12 ?hg12 ?h12
      case ho12 => simp only [List.getElem?_toArray, List.getElem?_cons_succ, List.getElem?_cons_zero]; rfl
      case hg12 => rfl
      case h12 =>
      intro a W hS hB hd
      have e15 : a.tmps[15]? = some (.tuple #[.int .u8 x, .int .i64 nx, .int .i64 0]) := (hd 10 rfl).bool rfl rfl rfl
      refine wp_value (c := .int .i64 nx) ?_ rfl
      go_simp
    · refine StepOkA.run (o := ?o13) ?ho13 ?hg13 ?h13
      case ho13 => simp only [List.getElem?_toArray, List.getElem?_cons_succ, List.getElem?_cons_zero]; rfl
      case hg13 => rfl
      case h13 =>
      intro a W hS hB hd
      have e15 : a.tmps[15]? = some (.tuple #[.int .u8 x, .int .i64 nx, .int .i64 0]) := (hd 10 rfl).bool rfl rfl rfl
      refine wp_value (c := .int .i64 0) ?_ rfl
      go_simp
    · refine StepOkA.run (o := ?o14) ?ho14 ?hg14 ?h14
      case ho14 => simp only [List.getElem?_toArray, List.getElem?_cons_succ, List.getElem?_cons_zero]; rfl
      case hg14 => rfl
      case h14 =>
      intro a W hS hB hd
      have e26 : a.tmps[26]? = some (.int .u8 x) := (hd 11 rfl).bool rfl rfl rfl
      refine wp_value (c := .int .u8 x) ?_ rfl
      go_simp
    · refine StepOkA.run (o := ?o15) ?ho15 ?hg15 ?h15
      case ho15 => simp only [List.getElem?_toArray, List.getElem?_cons_succ, List.getElem?_cons_zero]; rfl
      case hg15 => rfl
      case h15 =>
      intro a W hS hB hd
      have e27 : a.tmps[27]? = some (.int .i64 nx) := (hd 12 rfl).bool rfl rfl rfl
      refine wp_value (c := .int .i64 nx) ?_ rfl
      go_simp
    · refine StepOkA.run (o := ?o16) ?ho16 ?hg16 ?h16
      case ho16 => simp only [List.getElem?_toArray, List.getElem?_cons_succ, List.getElem?_cons_zero]; rfl
      case hg16 => rfl
      case h16 =>
      intro a W hS hB hd
      have e28 : a.tmps[28]? = some (.int .i64 0) := (hd 13 rfl).bool rfl rfl rfl
      refine wp_value (c := .int .i64 0) ?_ rfl
      go_simp
  · intro a W hS hB hh
    have e6 : a.tmps[6]? = some (.int .u8 x) := (hh 14 (by omega)).bool rfl rfl rfl
    have e7 : a.tmps[7]? = some (.int .i64 nx) := (hh 15 (by omega)).bool rfl rfl rfl
    have e8 : a.tmps[8]? = some (.int .i64 0) := (hh 16 (by omega)).bool rfl rfl rfl
    have HBR := Lib.hid hB
    have hlit := same_lit hS
    clear hh hS hB
    simp only [List.filterMap_cons, List.filterMap_nil, List.foldl_cons, List.foldl_nil, List.setIfInBounds_toArray, List.set_cons_zero, List.set_cons_succ] at hlit
    rw [show a.tmps.getD 6 undef = .int .u8 x by simp [Array.getD_eq_getD_getElem?, e6]] at hlit
    rw [show a.tmps.getD 7 undef = .int .i64 nx by simp [Array.getD_eq_getD_getElem?, e7]] at hlit
    rw [show a.tmps.getD 8 undef = .int .i64 0 by simp [Array.getD_eq_getD_getElem?, e8]] at hlit
    generalize a.tmps.getD 16 undef = z16 at hlit
    generalize a.tmps.getD 17 undef = z17 at hlit
    generalize a.tmps.getD 18 undef = z18 at hlit
    generalize a.tmps.getD 19 undef = z19 at hlit
    generalize a.tmps.getD 20 undef = z20 at hlit
    generalize a.tmps.getD 21 undef = z21 at hlit
    generalize a.tmps.getD 22 undef = z22 at hlit
    generalize a.tmps.getD 23 undef = z23 at hlit
    generalize a.tmps.getD 24 undef = z24 at hlit
    generalize a.tmps.getD 25 undef = z25 at hlit
    generalize a.tmps.getD 15 undef = z15 at hlit
    generalize a.tmps.getD 26 undef = z26 at hlit
    generalize a.tmps.getD 27 undef = z27 at hlit
    generalize a.tmps.getD 28 undef = z28 at hlit
    clear e6 e7 e8
    subst hlit
    have hI2 := HI.out.keep HBR.out
    have HB2 := Lib.hid (HBB.out.trans (HBR.out.mono HBB.out.size))
    have HI2 := Lib.hid hI2
    obtain ⟨A2, c2', _, _, _, _, c0', c1', c2', f1', f2'⟩ := cu_cells hI2
    clear hI2 c0 c1 c2 f1 f2
    go_wp2
    go_ret
    exact ⟨rfl, HI2.out.go _, (World.grownBy.but (grownBy_none HBR.out) _).trans (grownBy_setAt _ _ _ _), HB2.out.setCell hg _⟩
set_option maxRecDepth 100000 in
set_option maxHeartbeats 1000000 in
theorem one_num_failed (w0 w : World) (g : Nat) (l : List Int) (at0 e : Int) (tv : Value) (hI : IsCu w0 w g l at0 e) (hB : Below w0.heap.size w0 w) (he : (e != 0) = true) :
    Calls Try.prog 77 #[.pointer (some ⟨g, 0, none⟩), tv] w (CuPost w0 w g l (.int .u64 0) at0 e) := by
  have HI := Lib.hid hI
  obtain ⟨A, c, _, _, _, _, c0, c1, c2, _, _⟩ := cu_cells hI
  clear hI
  go_enter Try.func77, Try.ntmps77
  go_wp2_with fail
  go_ret
  exact ⟨rfl, HI.out, World.grownBy.refl _ _, hB⟩
set_option maxRecDepth 100000 in
set_option maxHeartbeats 1000000 in
theorem one_num_err (w0 w : World) (g : Nat) (l : List Int) (at0 : Int) (x : Int) (nx ec : Int) (hI : IsCu w0 w g l at0 0) (hB : Below w0.heap.size w0 w) (he : (ec != 0) = true)
    (hT : ∀ A c W, Kd.C (Kd.int .u8) W A l.length l → l.length ≤ c → Below w.heap.size w W → Calls Try.prog 78 #[.slice A l.length c, .int .i64 at0] W fun e' W' => e' = .returned (.tuple #[.int .u64 x, .int .i64 nx, .int .i64 ec]) ∧ Below W.heap.size W W') :
    Calls Try.prog 77 #[.pointer (some ⟨g, 0, none⟩), .func (.func 78) #[] #[]] w (CuPost w0 w g l (.int .u64 0) at0 ec) := by
  have HI := Lib.hid hI
  have HBB := Lib.hid hB
  have HT := Lib.hid hT
  obtain ⟨A, c, hc, hC, hg, hh, c0, c1, c2, f1, f2⟩ := cu_cells hI
  have HH := Lib.hid hh
  have HCC := Lib.hid hC
  clear hI hC hh hB hT
  go_enter Try.func77, Try.ntmps77
  go_wp2_with fail
  refine region_calmA (n := 17) (byList [isV (.func (.func 78) #[] #[]), isV (.pointer (some ⟨g, 0, none⟩)), isV (.pointer (some ⟨g, 0, none⟩)), isV (.pointer (some ⟨g, 0, none⟩)), isV (.slice A l.length c), isV (.pointer (some ⟨g, 0, none⟩)), isV (.pointer (some ⟨g, 0, none⟩)), isV (.pointer (some ⟨g, 1, none⟩)), isV (.int .i64 at0), isV (.tuple #[.int .u64 x, .int .i64 nx, .int .i64 ec]), isV (.tuple #[.int .u64 x, .int .i64 nx, .int .i64 ec]), isV (.int .u64 x), isV (.int .i64 nx), isV (.int .i64 ec), isV (.int .u64 x), isV (.int .i64 nx), isV (.int .i64 ec)]) (by kernel_rfl) rfl (byList_lasts ?_) (by kernel_rfl) (by kernel_rfl) (show AllLt 17 _ from ?_) ?_
  · intro p hp
    simp only [List.mem_cons, List.not_mem_nil, or_false] at hp
    rcases hp with rfl | rfl | rfl | rfl | rfl | rfl | rfl | rfl | rfl | rfl | rfl | rfl | rfl | rfl | rfl | rfl | rfl <;> first | exact isV_lasts | exact isC_lasts
  · refine allLt_succ (allLt_succ (allLt_succ (allLt_succ (allLt_succ (allLt_succ (allLt_succ (allLt_succ (allLt_succ (allLt_succ (allLt_succ (allLt_succ (allLt_succ (allLt_succ (allLt_succ (allLt_succ (allLt_succ (allLt_zero _) ?_) ?_) ?_) ?_) ?_) ?_) ?_) ?_) ?_) ?_) ?_) ?_) ?_) ?_) ?_) ?_) ?_
    · refine StepOkA.run (o := ?o0) ?ho0 ?hg0 ?h0
      case ho0 => simp only [List.getElem?_toArray, List.getElem?_cons_succ, List.getElem?_cons_zero]; rfl
      case hg0 => rfl
      case h0 =>
      intro a W hS hB hd
      have e1 : a.tmps[1]? = some (.func (.func 78) #[] #[]) := hS.get rfl rfl
      refine wp_value (c := .func (.func 78) #[] #[]) ?_ rfl
      go_simp
    · refine StepOkA.run (o := ?o1) ?ho1 ?hg1 ?h1
      case ho1 => simp only [List.getElem?_toArray, List.getElem?_cons_succ, List.getElem?_cons_zero]; rfl
      case hg1 => rfl
      case h1 =>
      intro a W hS hB hd
      have e0 : a.tmps[0]? = some (.pointer (some ⟨g, 0, none⟩)) := hS.get rfl rfl
      refine wp_value (c := .pointer (some ⟨g, 0, none⟩)) ?_ rfl
      go_simp
    · refine StepOkA.run (o := ?o2) ?ho2 ?hg2 ?h2
      case ho2 => simp only [List.getElem?_toArray, List.getElem?_cons_succ, List.getElem?_cons_zero]; rfl
      case hg2 => rfl
      case h2 =>
      intro a W hS hB hd
      have e17 : a.tmps[17]? = some (.pointer (some ⟨g, 0, none⟩)) := (hd 1 rfl).bool rfl rfl rfl
      refine wp_value (c := .pointer (some ⟨g, 0, none⟩)) ?_ rfl
      go_simp
    · refine StepOkA.run (o := ?o3) ?ho3 ?hg3 ?h3
      case ho3 => simp only [List.getElem?_toArray, List.getElem?_cons_succ, List.getElem?_cons_zero]; rfl
      case hg3 => rfl
      case h3 =>
      intro a W hS hB hd
      have e18 : a.tmps[18]? = some (.pointer (some ⟨g, 0, none⟩)) := (hd 2 rfl).bool rfl rfl rfl
      refine wp_value (c := .pointer (some ⟨g, 0, none⟩)) ?_ rfl
      go_simp
    · refine StepOkA.run (o := ?o4) ?ho4 ?hg4 ?h4
      case ho4 => simp only [List.getElem?_toArray, List.getElem?_cons_succ, List.getElem?_cons_zero]; rfl
      case hg4 => rfl
      case h4 =>
      intro a W hS hB hd
      have e19 : a.tmps[19]? = some (.pointer (some ⟨g, 0, none⟩)) := (hd 3 rfl).bool rfl rfl rfl
      refine wp_value (c := .slice A l.length c) ?_ rfl
      have hh := blk_below HH.out hB
      have hcW : W.cell? ⟨g, 0, none⟩ = some (.slice A l.length c) := by simp [World.cell?, hh]
      go_simp
    · refine StepOkA.run (o := ?o5) ?ho5 ?hg5 ?h5
      case ho5 => simp only [List.getElem?_toArray, List.getElem?_cons_succ, List.getElem?_cons_zero]; rfl
      case hg5 => rfl
      case h5 =>
      intro a W hS hB hd
      have e0 : a.tmps[0]? = some (.pointer (some ⟨g, 0, none⟩)) := hS.get rfl rfl
      refine wp_value (c := .pointer (some ⟨g, 0, none⟩)) ?_ rfl
      go_simp
    · refine StepOkA.run (o := ?o6) ?ho6 ?hg6 ?h6
      case ho6 => simp only [List.getElem?_toArray, List.getElem?_cons_succ, List.getElem?_cons_zero]; rfl
      case hg6 => rfl
      case h6 =>
      intro a W hS hB hd
      have e21 : a.tmps[21]? = some (.pointer (some ⟨g, 0, none⟩)) := (hd 5 rfl).bool rfl rfl rfl
      refine wp_value (c := .pointer (some ⟨g, 0, none⟩)) ?_ rfl
      go_simp
    · refine StepOkA.run (o := ?o7) ?ho7 ?hg7 ?h7
      case ho7 => simp only [List.getElem?_toArray, List.getElem?_cons_succ, List.getElem?_cons_zero]; rfl
      case hg7 => rfl
      case h7 =>
      intro a W hS hB hd
      have e22 : a.tmps[22]? = some (.pointer (some ⟨g, 0, none⟩)) := (hd 6 rfl).bool rfl rfl rfl
      refine wp_value (c := .pointer (some ⟨g, 1, none⟩)) ?_ rfl
      go_simp
    · refine StepOkA.run (o := ?o8) ?ho8 ?hg8 ?h8
      case ho8 => simp only [List.getElem?_toArray, List.getElem?_cons_succ, List.getElem?_cons_zero]; rfl
      case hg8 => rfl
      case h8 =>
      intro a W hS hB hd
      have e23 : a.tmps[23]? = some (.pointer (some ⟨g, 1, none⟩)) := (hd 7 rfl).bool rfl rfl rfl
      refine wp_value (c := .int .i64 at0) ?_ rfl
      have hh := blk_below HH.out hB
      have hcW : W.cell? ⟨g, 1, none⟩ = some (.int .i64 at0) := by simp [World.cell?, hh]
      go_simp
    · refine StepOkA.run (o := ?o9) ?ho9 ?hg9 ?h9
      case ho9 => simp only [List.getElem?_toArray, List.getElem?_cons_succ, List.getElem?_cons_zero]; rfl
      case hg9 => rfl
      case h9 =>
      intro a W hS hB hd
      have e16 : a.tmps[16]? = some (.func (.func 78) #[] #[]) := (hd 0 rfl).bool rfl rfl rfl
      have e20 : a.tmps[20]? = some (.slice A l.length c) := (hd 4 rfl).bool rfl rfl rfl
      have e24 : a.tmps[24]? = some (.int .i64 at0) := (hd 8 rfl).bool rfl rfl rfl
      refine wp_called_fn (pre := #[]) (post := #[]) Try.func78 (by kernel_rfl) rfl #[.slice A l.length c, .int .i64 at0] rfl (by simp [Act.eval, *]) (by simp [Act.eval, *]) ?_
      refine (HT.out A c W (Kd.C_below HCC.out (HBB.out.trans (hB.mono HBB.out.size))) hc hB).mono ?_
      rintro e9 w9 ⟨rfl, hb9⟩
      exact ⟨_, rfl, rfl, hb9⟩
    · refine StepOkA.run (o := ?o10) ?ho10 ?hg10 ?h10
      case ho10 => simp only [List.getElem?_toArray, List.getElem?_cons_succ, List.getElem?_cons_zero]; rfl
      case hg10 => rfl
      case h10 =>
      intro a W hS hB hd
      have e25 : a.tmps[25]? = some (.tuple #[.int .u64 x, .int .i64 nx, .int .i64 ec]) := (hd 9 rfl).bool rfl rfl rfl
      refine wp_value (c := .tuple #[.int .u64 x, .int .i64 nx, .int .i64 ec]) ?_ rfl
      go_simp
    · refine StepOkA.run (o := ?o11) ?ho11 ?hg11 ?h11
      case ho11 => simp only [List.getElem?_toArray, List.getElem?_cons_succ, List.getElem?_cons_zero]; rfl
      case hg11 => rfl
      case h11 =>
      intro a W hS hB hd
      have e15 : a.tmps[15]? = some (.tuple #[.int .u64 x, .int .i64 nx, .int .i64 ec]) := (hd 10 rfl).bool rfl rfl rfl
      refine wp_value (c := .int .u64 x) ?_ rfl
      go_simp
    · refine StepOkA.run (o := ?o12) ?ho12 ?hg12 ?h12
      case ho12 => simp only [List.getElem?_toArray, List.getElem?_cons_succ, List.getElem?_cons_zero]; rfl
      case hg12 => rfl
      case h12 =>
      intro a W hS hB hd
      have e15 : a.tmps[15]? = some (.tuple #[.int .u64 x, .int .i64 nx, .int .i64 ec]) := (hd 10 rfl).bool rfl rfl rfl
      refine wp_value (c := .int .i64 nx) ?_ rfl
      go_simp
    · refine StepOkA.run (o := ?o13) ?ho13 ?hg13 ?h13
      case ho13 => simp only [List.getElem?_toArray, List.getElem?_cons_succ, List.getElem?_cons_zero]; rfl
      case hg13 => rfl
      case h13 =>
      intro a W hS hB hd
      have e15 : a.tmps[15]? = some (.tuple #[.int .u64 x, .int .i64 nx, .int .i64 ec]) := (hd 10 rfl).bool rfl rfl rfl
      refine wp_value (c := .int .i64 ec) ?_ rfl
      go_simp
    · refine StepOkA.run (o := ?o14) ?ho14 ?hg14 ?h14
      case ho14 => simp only [List.getElem?_toArray, List.getElem?_cons_succ, List.getElem?_cons_zero]; rfl
      case hg14 => rfl
      case h14 =>
      intro a W hS hB hd
      have e26 : a.tmps[26]? = some (.int .u64 x) := (hd 11 rfl).bool rfl rfl rfl
      refine wp_value (c := .int .u64 x) ?_ rfl
      go_simp
    · refine StepOkA.run (o := ?o15) ?ho15 ?hg15 ?h15
      case ho15 => simp only [List.getElem?_toArray, List.getElem?_cons_succ, List.getElem?_cons_zero]; rfl
      case hg15 => rfl
      case h15 =>
      intro a W hS hB hd
      have e27 : a.tmps[27]? = some (.int .i64 nx) := (hd 12 rfl).bool rfl rfl rfl
      refine wp_value (c := .int .i64 nx) ?_ rfl
      go_simp
    · refine StepOkA.run (o := ?o16) ?ho16 ?hg16 ?h16
      case ho16 => simp only [List.getElem?_toArray, List.getElem?_cons_succ, List.getElem?_cons_zero]; rfl
      case hg16 => rfl
      case h16 =>
      intro a W hS hB hd
      have e28 : a.tmps[28]? = some (.int .i64 ec) := (hd 13 rfl).bool rfl rfl rfl
      refine wp_value (c := .int .i64 ec) ?_ rfl
      go_simp
  · intro a W hS hB hh
    have e6 : a.tmps[6]? = some (.int .u64 x) := (hh 14 (by omega)).bool rfl rfl rfl
    have e7 : a.tmps[7]? = some (.int .i64 nx) := (hh 15 (by omega)).bool rfl rfl rfl
    have e8 : a.tmps[8]? = some (.int .i64 ec) := (hh 16 (by omega)).bool rfl rfl rfl
    have HBR := Lib.hid hB
    have hlit := same_lit hS
    clear hh hS hB
    simp only [List.filterMap_cons, List.filterMap_nil, List.foldl_cons, List.foldl_nil, List.setIfInBounds_toArray, List.set_cons_zero, List.set_cons_succ] at hlit
    rw [show a.tmps.getD 6 undef = .int .u64 x by simp [Array.getD_eq_getD_getElem?, e6]] at hlit
    rw [show a.tmps.getD 7 undef = .int .i64 nx by simp [Array.getD_eq_getD_getElem?, e7]] at hlit
    rw [show a.tmps.getD 8 undef = .int .i64 ec by simp [Array.getD_eq_getD_getElem?, e8]] at hlit
    generalize a.tmps.getD 16 undef = z16 at hlit
    generalize a.tmps.getD 17 undef = z17 at hlit
    generalize a.tmps.getD 18 undef = z18 at hlit
    generalize a.tmps.getD 19 undef = z19 at hlit
    generalize a.tmps.getD 20 undef = z20 at hlit
    generalize a.tmps.getD 21 undef = z21 at hlit
    generalize a.tmps.getD 22 undef = z22 at hlit
    generalize a.tmps.getD 23 undef = z23 at hlit
    generalize a.tmps.getD 24 undef = z24 at hlit
    generalize a.tmps.getD 25 undef = z25 at hlit
    generalize a.tmps.getD 15 undef = z15 at hlit
    generalize a.tmps.getD 26 undef = z26 at hlit
    generalize a.tmps.getD 27 undef = z27 at hlit
    generalize a.tmps.getD 28 undef = z28 at hlit
    clear e6 e7 e8
    subst hlit
    have hI2 := HI.out.keep HBR.out
    have HB2 := Lib.hid (HBB.out.trans (HBR.out.mono HBB.out.size))
    have HI2 := Lib.hid hI2
    obtain ⟨A2, c2', _, _, _, _, c0', c1', c2', f1', f2'⟩ := cu_cells hI2
    clear hI2 c0 c1 c2 f1 f2
    go_wp2
    go_ret
    exact ⟨rfl, HI2.out.fail _, (World.grownBy.but (grownBy_none HBR.out) _).trans (grownBy_setAt _ _ _ _), HB2.out.setCell hg _⟩
set_option maxRecDepth 100000 in
set_option maxHeartbeats 1000000 in
theorem one_num_ok (w0 w : World) (g : Nat) (l : List Int) (at0 : Int) (x : Int) (nx : Int) (hI : IsCu w0 w g l at0 0) (hB : Below w0.heap.size w0 w)
    (hT : ∀ A c W, Kd.C (Kd.int .u8) W A l.length l → l.length ≤ c → Below w.heap.size w W → Calls Try.prog 78 #[.slice A l.length c, .int .i64 at0] W fun e' W' => e' = .returned (.tuple #[.int .u64 x, .int .i64 nx, .int .i64 0]) ∧ Below W.heap.size W W') :
    Calls Try.prog 77 #[.pointer (some ⟨g, 0, none⟩), .func (.func 78) #[] #[]] w (CuPost w0 w g l (.int .u64 x) nx 0) := by
  have HI := Lib.hid hI
  have HBB := Lib.hid hB
  have HT := Lib.hid hT
  obtain ⟨A, c, hc, hC, hg, hh, c0, c1, c2, f1, f2⟩ := cu_cells hI
  have HH := Lib.hid hh
  have HCC := Lib.hid hC
  clear hI hC hh hB hT
  go_enter Try.func77, Try.ntmps77
  go_wp2_with fail
  refine region_calmA (n := 17) (byList [isV (.func (.func 78) #[] #[]), isV (.pointer (some ⟨g, 0, none⟩)), isV (.pointer (some ⟨g, 0, none⟩)), isV (.pointer (some ⟨g, 0, none⟩)), isV (.slice A l.length c), isV (.pointer (some ⟨g, 0, none⟩)), isV (.pointer (some ⟨g, 0, none⟩)), isV (.pointer (some ⟨g, 1, none⟩)), isV (.int .i64 at0), isV (.tuple #[.int .u64 x, .int .i64 nx, .int .i64 0]), isV (.tuple #[.int .u64 x, .int .i64 nx, .int .i64 0]), isV (.int .u64 x), isV (.int .i64 nx), isV (.int .i64 0), isV (.int .u64 x), isV (.int .i64 nx), isV (.int .i64 0)]) (by kernel_rfl) rfl (byList_lasts ?_) (by kernel_rfl) (by kernel_rfl) (show AllLt 17 _ from ?_) ?_
  · intro p hp
    simp only [List.mem_cons, List.not_mem_nil, or_false] at hp
    rcases hp with rfl | rfl | rfl | rfl | rfl | rfl | rfl | rfl | rfl | rfl | rfl | rfl | rfl | rfl | rfl | rfl | rfl <;> first | exact isV_lasts | exact isC_lasts
  · refine allLt_succ (allLt_succ (allLt_succ (allLt_succ (allLt_succ (allLt_succ (allLt_succ (allLt_succ (allLt_succ (allLt_succ (allLt_succ (allLt_succ (allLt_succ (allLt_succ (allLt_succ (allLt_succ (allLt_succ (allLt_zero _) ?_) ?_) ?_) ?_) ?_) ?_) ?_) ?_) ?_) ?_) ?_) ?_) ?_) ?_) ?_) ?_) ?_
    · refine StepOkA.run (o := ?o0) ?ho0 ?hg0 ?h0
      case ho0 => simp only [List.getElem?_toArray, List.getElem?_cons_succ, List.getElem?_cons_zero]; rfl
      case hg0 => rfl
      case h0 =>
      intro a W hS hB hd
      have e1 : a.tmps[1]? = some (.func (.func 78) #[] #[]) := hS.get rfl rfl
      refine wp_value (c := .func (.func 78) #[] #[]) ?_ rfl
      go_simp
    · refine StepOkA.run (o := ?o1) ?ho1 ?hg1 ?h1
      case ho1 => simp only [List.getElem?_toArray, List.getElem?_cons_succ, List.getElem?_cons_zero]; rfl
      case hg1 => rfl
      case h1 =>
      intro a W hS hB hd
      have e0 : a.tmps[0]? = some (.pointer (some ⟨g, 0, none⟩)) := hS.get rfl rfl
      refine wp_value (c := .pointer (some ⟨g, 0, none⟩)) ?_ rfl
      go_simp
    · refine StepOkA.run (o := ?o2) ?ho2 ?hg2 ?h2
      case ho2 => simp only [List.getElem?_toArray, List.getElem?_cons_succ, List.getElem?_cons_zero]; rfl
      case hg2 => rfl
      case h2 =>
      intro a W hS hB hd
      have e17 : a.tmps[17]? = some (.pointer (some ⟨g, 0, none⟩)) := (hd 1 rfl).bool rfl rfl rfl
      refine wp_value (c := .pointer (some ⟨g, 0, none⟩)) ?_ rfl
      go_simp
    · refine StepOkA.run (o := ?o3) ?ho3 ?hg3 ?h3
      case ho3 => simp only [List.getElem?_toArray, List.getElem?_cons_succ, List.getElem?_cons_zero]; rfl
      case hg3 => rfl
      case h3 =>
      intro a W hS hB hd
      have e18 : a.tmps[18]? = some (.pointer (some ⟨g, 0, none⟩)) := (hd 2 rfl).bool rfl rfl rfl
      refine wp_value (c := .pointer (some ⟨g, 0, none⟩)) ?_ rfl
      go_simp
    · refine StepOkA.run (o := ?o4) ?ho4 ?hg4 ?h4
      case ho4 => simp only [List.getElem?_toArray, List.getElem?_cons_succ, List.getElem?_cons_zero]; rfl
      case hg4 => rfl
      case h4 =>
      intro a W hS hB hd
      have e19 : a.tmps[19]? = some (.pointer (some ⟨g, 0, none⟩)) := (hd 3 rfl).bool rfl rfl rfl
      refine wp_value (c := .slice A l.length c) ?_ rfl
      have hh := blk_below HH.out hB
      have hcW : W.cell? ⟨g, 0, none⟩ = some (.slice A l.length c) := by simp [World.cell?, hh]
      go_simp
    · refine StepOkA.run (o := ?o5) ?ho5 ?hg5 ?h5
      case ho5 => simp only [List.getElem?_toArray, List.getElem?_cons_succ, List.getElem?_cons_zero]; rfl
      case hg5 => rfl
      case h5 =>
      intro a W hS hB hd
      have e0 : a.tmps[0]? = some (.pointer (some ⟨g, 0, none⟩)) := hS.get rfl rfl
      refine wp_value (c := .pointer (some ⟨g, 0, none⟩)) ?_ rfl
      go_simp
    · refine StepOkA.run (o := ?o6) ?ho6 ?hg6 ?h6
      case ho6 => simp only [List.getElem?_toArray, List.getElem?_cons_succ, List.getElem?_cons_zero]; rfl
      case hg6 => rfl
      case h6 =>
      intro a W hS hB hd
      have e21 : a.tmps[21]? = some (.pointer (some ⟨g, 0, none⟩)) := (hd 5 rfl).bool rfl rfl rfl
      refine wp_value (c := .pointer (some ⟨g, 0, none⟩)) ?_ rfl
      go_simp
    · refine StepOkA.run (o := ?o7) ?ho7 ?hg7 ?h7
      case ho7 => simp only [List.getElem?_toArray, List.getElem?_cons_succ, List.getElem?_cons_zero]; rfl
      case hg7 => rfl
      case h7 =>
      intro a W hS hB hd
      have e22 : a.tmps[22]? = some (.pointer (some ⟨g, 0, none⟩)) := (hd 6 rfl).bool rfl rfl rfl
      refine wp_value (c := .pointer (some ⟨g, 1, none⟩)) ?_ rfl
      go_simp
    · refine StepOkA.run (o := ?o8) ?ho8 ?hg8 ?h8
      case ho8 => simp only [List.getElem?_toArray, List.getElem?_cons_succ, List.getElem?_cons_zero]; rfl
      case hg8 => rfl
      case h8 =>
      intro a W hS hB hd
      have e23 : a.tmps[23]? = some (.pointer (some ⟨g, 1, none⟩)) := (hd 7 rfl).bool rfl rfl rfl
      refine wp_value (c := .int .i64 at0) ?_ rfl
      have hh := blk_below HH.out hB
      have hcW : W.cell? ⟨g, 1, none⟩ = some (.int .i64 at0) := by simp [World.cell?, hh]
      go_simp
    · refine StepOkA.run (o := ?o9) ?ho9 ?hg9 ?h9
      case ho9 => simp only [List.getElem?_toArray, List.getElem?_cons_succ, List.getElem?_cons_zero]; rfl
      case hg9 => rfl
      case h9 =>
      intro a W hS hB hd
      have e16 : a.tmps[16]? = some (.func (.func 78) #[] #[]) := (hd 0 rfl).bool rfl rfl rfl
      have e20 : a.tmps[20]? = some (.slice A l.length c) := (hd 4 rfl).bool rfl rfl rfl
      have e24 : a.tmps[24]? = some (.int .i64 at0) := (hd 8 rfl).bool rfl rfl rfl
      refine wp_called_fn (pre := #[]) (post := #[]) Try.func78 (by kernel_rfl) rfl #[.slice A l.length c, .int .i64 at0] rfl (by simp [Act.eval, *]) (by simp [Act.eval, *]) ?_
      refine (HT.out A c W (Kd.C_below HCC.out (HBB.out.trans (hB.mono HBB.out.size))) hc hB).mono ?_
      rintro e9 w9 ⟨rfl, hb9⟩
      exact ⟨_, rfl, rfl, hb9⟩
    · refine StepOkA.run (o := ?o10) ?ho10 ?hg10 ?h10
      case ho10 => simp only [List.getElem?_toArray, List.getElem?_cons_succ, List.getElem?_cons_zero]; rfl
      case hg10 => rfl
      case h10 =>
      intro a W hS hB hd
      have e25 : a.tmps[25]? = some (.tuple #[.int .u64 x, .int .i64 nx, .int .i64 0]) := (hd 9 rfl).bool rfl rfl rfl
      refine wp_value (c := .tuple #[.int .u64 x, .int .i64 nx, .int .i64 0]) ?_ rfl
      go_simp
    · refine StepOkA.run (o := ?o11) ?ho11 ?hg11 ?h11
      case ho11 => simp only [List.getElem?_toArray, List.getElem?_cons_succ, List.getElem?_cons_zero]; rfl
      case hg11 => rfl
      case h11 =>
      intro a W hS hB hd
      have e15 : a.tmps[15]? = some (.tuple #[.int .u64 x, .int .i64 nx, .int .i64 0]) := (hd 10 rfl).bool rfl rfl rfl
      refine wp_value (c := .int .u64 x) ?_ rfl
      go_simp
    · refine StepOkA.run (o := ?o12) ?ho12 ?hg12 ?h12
      case ho12 => simp only [List.getElem?_toArray, List.getElem?_cons_succ, List.getElem?_cons_zero]; rfl
      case hg12 => rfl
      case h12 =>
      intro a W hS hB hd
      have e15 : a.tmps[15]? = some (.tuple #[.int .u64 x, .int .i64 nx, .int .i64 0]) := (hd 10 rfl).bool rfl rfl rfl
      refine wp_value (c := .int .i64 nx) ?_ rfl
      go_simp
    · refine StepOkA.run (o := ?o13) ?ho13 ?hg13 ?h13
      case ho13 => simp only [List.getElem?_toArray, List.getElem?_cons_succ, List.getElem?_cons_zero]; rfl
      case hg13 => rfl
      case h13 =>
      intro a W hS hB hd
      have e15 : a.tmps[15]? = some (.tuple #[.int .u64 x, .int .i64 nx, .int .i64 0]) := (hd 10 rfl).bool rfl rfl rfl
      refine wp_value (c := .int .i64 0) ?_ rfl
      go_simp
    · refine StepOkA.run (o := ?o14) ?ho14 ?hg14 ?h14
      case ho14 => simp only [List.getElem?_toArray, List.getElem?_cons_succ, List.getElem?_cons_zero]; rfl
      case hg14 => rfl
      case h14 =>
      intro a W hS hB hd
      have e26 : a.tmps[26]? = some (.int .u64 x) := (hd 11 rfl).bool rfl rfl rfl
      refine wp_value (c := .int .u64 x) ?_ rfl
      go_simp
    · refine StepOkA.run (o := ?o15) ?ho15 ?hg15 ?h15
      case ho15 => simp only [List.getElem?_toArray, List.getElem?_cons_succ, List.getElem?_cons_zero]; rfl
      case hg15 => rfl
      case h15 =>
      intro a W hS hB hd
      have e27 : a.tmps[27]? = some (.int .i64 nx) := (hd 12 rfl).bool rfl rfl rfl
      refine wp_value (c := .int .i64 nx) ?_ rfl
      go_simp
    · refine StepOkA.run (o := ?o16) ?ho16 ?hg16 ?h16
      case ho16 => simp only [List.getElem?_toArray, List.getElem?_cons_succ, List.getElem?_cons_zero]; rfl
      case hg16 => rfl
      case h16 =>
      intro a W hS hB hd
      have e28 : a.tmps[28]? = some (.int .i64 0) := (hd 13 rfl).bool rfl rfl rfl
      refine wp_value (c := .int .i64 0) ?_ rfl
      go_simp
  · intro a W hS hB hh
    have e6 : a.tmps[6]? = some (.int .u64 x) := (hh 14 (by omega)).bool rfl rfl rfl
    have e7 : a.tmps[7]? = some (.int .i64 nx) := (hh 15 (by omega)).bool rfl rfl rfl
    have e8 : a.tmps[8]? = some (.int .i64 0) := (hh 16 (by omega)).bool rfl rfl rfl
    have HBR := Lib.hid hB
    have hlit := same_lit hS
    clear hh hS hB
    simp only [List.filterMap_cons, List.filterMap_nil, List.foldl_cons, List.foldl_nil, List.setIfInBounds_toArray, List.set_cons_zero, List.set_cons_succ] at hlit
    rw [show a.tmps.getD 6 undef = .int .u64 x by simp [Array.getD_eq_getD_getElem?, e6]] at hlit
    rw [show a.tmps.getD 7 undef = .int .i64 nx by simp [Array.getD_eq_getD_getElem?, e7]] at hlit
    rw [show a.tmps.getD 8 undef = .int .i64 0 by simp [Array.getD_eq_getD_getElem?, e8]] at hlit
    generalize a.tmps.getD 16 undef = z16 at hlit
    generalize a.tmps.getD 17 undef = z17 at hlit
    generalize a.tmps.getD 18 undef = z18 at hlit
    generalize a.tmps.getD 19 undef = z19 at hlit
    generalize a.tmps.getD 20 undef = z20 at hlit
    generalize a.tmps.getD 21 undef = z21 at hlit
    generalize a.tmps.getD 22 undef = z22 at hlit
    generalize a.tmps.getD 23 undef = z23 at hlit
    generalize a.tmps.getD 24 undef = z24 at hlit
    generalize a.tmps.getD 25 undef = z25 at hlit
    generalize a.tmps.getD 15 undef = z15 at hlit
    generalize a.tmps.getD 26 undef = z26 at hlit
    generalize a.tmps.getD 27 undef = z27 at hlit
    generalize a.tmps.getD 28 undef = z28 at hlit
    clear e6 e7 e8
    subst hlit
    have hI2 := HI.out.keep HBR.out
    have HB2 := Lib.hid (HBB.out.trans (HBR.out.mono HBB.out.size))
    have HI2 := Lib.hid hI2
    obtain ⟨A2, c2', _, _, _, _, c0', c1', c2', f1', f2'⟩ := cu_cells hI2
    clear hI2 c0 c1 c2 f1 f2
    go_wp2
    go_ret
    exact ⟨rfl, HI2.out.go _, (World.grownBy.but (grownBy_none HBR.out) _).trans (grownBy_setAt _ _ _ _), HB2.out.setCell hg _⟩
set_option maxRecDepth 100000 in
set_option maxHeartbeats 1000000 in
theorem one_text_failed (w0 w : World) (g : Nat) (l : List Int) (at0 e : Int) (tv : Value) (hI : IsCu w0 w g l at0 e) (hB : Below w0.heap.size w0 w) (he : (e != 0) = true) :
    Calls Try.prog 79 #[.pointer (some ⟨g, 0, none⟩), tv] w (CuPost w0 w g l (.string ⟨#[]⟩) at0 e) := by
  have HI := Lib.hid hI
  obtain ⟨A, c, _, _, _, _, c0, c1, c2, _, _⟩ := cu_cells hI
  clear hI
  go_enter Try.func79, Try.ntmps79
  go_wp2_with fail
  go_ret
  exact ⟨rfl, HI.out, World.grownBy.refl _ _, hB⟩
set_option maxRecDepth 100000 in
set_option maxHeartbeats 1000000 in
theorem one_text_err (w0 w : World) (g : Nat) (l : List Int) (at0 : Int) (pb : Addr) (x : ByteArray) (nx ec : Int) (hI : IsCu w0 w g l at0 0) (hB : Below w0.heap.size w0 w) (he : (ec != 0) = true)
    (hT : ∀ A c W, Kd.C (Kd.int .u8) W A l.length l → l.length ≤ c → Below w.heap.size w W → Calls Try.prog 80 #[.slice A l.length c, .int .i64 at0, .pointer (some pb)] W fun e' W' => e' = .returned (.tuple #[.string x, .int .i64 nx, .int .i64 ec]) ∧ Below W.heap.size W W') :
    Calls Try.prog 79 #[.pointer (some ⟨g, 0, none⟩), .func (.func 80) #[] #[.pointer (some pb)]] w (CuPost w0 w g l (.string ⟨#[]⟩) at0 ec) := by
  have HI := Lib.hid hI
  have HBB := Lib.hid hB
  have HT := Lib.hid hT
  obtain ⟨A, c, hc, hC, hg, hh, c0, c1, c2, f1, f2⟩ := cu_cells hI
  have HH := Lib.hid hh
  have HCC := Lib.hid hC
  clear hI hC hh hB hT
  go_enter Try.func79, Try.ntmps79
  go_wp2_with fail
  refine region_calmA (n := 17) (byList [isV (.func (.func 80) #[] #[.pointer (some pb)]), isV (.pointer (some ⟨g, 0, none⟩)), isV (.pointer (some ⟨g, 0, none⟩)), isV (.pointer (some ⟨g, 0, none⟩)), isV (.slice A l.length c), isV (.pointer (some ⟨g, 0, none⟩)), isV (.pointer (some ⟨g, 0, none⟩)), isV (.pointer (some ⟨g, 1, none⟩)), isV (.int .i64 at0), isV (.tuple #[.string x, .int .i64 nx, .int .i64 ec]), isV (.tuple #[.string x, .int .i64 nx, .int .i64 ec]), isV (.string x), isV (.int .i64 nx), isV (.int .i64 ec), isV (.string x), isV (.int .i64 nx), isV (.int .i64 ec)]) (by kernel_rfl) rfl (byList_lasts ?_) (by kernel_rfl) (by kernel_rfl) (show AllLt 17 _ from ?_) ?_
  · intro p hp
    simp only [List.mem_cons, List.not_mem_nil, or_false] at hp
    rcases hp with rfl | rfl | rfl | rfl | rfl | rfl | rfl | rfl | rfl | rfl | rfl | rfl | rfl | rfl | rfl | rfl | rfl <;> first | exact isV_lasts | exact isC_lasts
  · refine allLt_succ (allLt_succ (allLt_succ (allLt_succ (allLt_succ (allLt_succ (allLt_succ (allLt_succ (allLt_succ (allLt_succ (allLt_succ (allLt_succ (allLt_succ (allLt_succ (allLt_succ (allLt_succ (allLt_succ (allLt_zero _) ?_) ?_) ?_) ?_) ?_) ?_) ?_) ?_) ?_) ?_) ?_) ?_) ?_) ?_) ?_) ?_) ?_
    · refine StepOkA.run (o := ?o0) ?ho0 ?hg0 ?h0
      case ho0 => simp only [List.getElem?_toArray, List.getElem?_cons_succ, List.getElem?_cons_zero]; rfl
      case hg0 => rfl
      case h0 =>
      intro a W hS hB hd
      have e1 : a.tmps[1]? = some (.func (.func 80) #[] #[.pointer (some pb)]) := hS.get rfl rfl
      refine wp_value (c := .func (.func 80) #[] #[.pointer (some pb)]) ?_ rfl
      go_simp
    · refine StepOkA.run (o := ?o1) ?ho1 ?hg1 ?h1
      case ho1 => simp only [List.getElem?_toArray, List.getElem?_cons_succ, List.getElem?_cons_zero]; rfl
      case hg1 => rfl
      case h1 =>
      intro a W hS hB hd
      have e0 : a.tmps[0]? = some (.pointer (some ⟨g, 0, none⟩)) := hS.get rfl rfl
      refine wp_value (c := .pointer (some ⟨g, 0, none⟩)) ?_ rfl
      go_simp
    · refine StepOkA.run (o := ?o2) ?ho2 ?hg2 ?h2
      case ho2 => simp only [List.getElem?_toArray, List.getElem?_cons_succ, List.getElem?_cons_zero]; rfl
      case hg2 => rfl
      case h2 =>
      intro a W hS hB hd
      have e17 : a.tmps[17]? = some (.pointer (some ⟨g, 0, none⟩)) := (hd 1 rfl).bool rfl rfl rfl
      refine wp_value (c := .pointer (some ⟨g, 0, none⟩)) ?_ rfl
      go_simp
    · refine StepOkA.run (o := ?o3) ?ho3 ?hg3 ?h3
      case ho3 => simp only [List.getElem?_toArray, List.getElem?_cons_succ, List.getElem?_cons_zero]; rfl
      case hg3 => rfl
      case h3 =>
      intro a W hS hB hd
      have e18 : a.tmps[18]? = some (.pointer (some ⟨g, 0, none⟩)) := (hd 2 rfl).bool rfl rfl rfl
      refine wp_value (c := .pointer (some ⟨g, 0, none⟩)) ?_ rfl
      go_simp
    · refine StepOkA.run (o := ?o4) ?ho4 ?hg4 ?h4
      case ho4 => simp only [List.getElem?_toArray, List.getElem?_cons_succ, List.getElem?_cons_zero]; rfl
      case hg4 => rfl
      case h4 =>
      intro a W hS hB hd
      have e19 : a.tmps[19]? = some (.pointer (some ⟨g, 0, none⟩)) := (hd 3 rfl).bool rfl rfl rfl
      refine wp_value (c := .slice A l.length c) ?_ rfl
      have hh := blk_below HH.out hB
      have hcW : W.cell? ⟨g, 0, none⟩ = some (.slice A l.length c) := by simp [World.cell?, hh]
      go_simp
    · refine StepOkA.run (o := ?o5) ?ho5 ?hg5 ?h5
      case ho5 => simp only [List.getElem?_toArray, List.getElem?_cons_succ, List.getElem?_cons_zero]; rfl
      case hg5 => rfl
      case h5 =>
      intro a W hS hB hd
      have e0 : a.tmps[0]? = some (.pointer (some ⟨g, 0, none⟩)) := hS.get rfl rfl
      refine wp_value (c := .pointer (some ⟨g, 0, none⟩)) ?_ rfl
      go_simp
    · refine StepOkA.run (o := ?o6) ?ho6 ?hg6 ?h6
      case ho6 => simp only [List.getElem?_toArray, List.getElem?_cons_succ, List.getElem?_cons_zero]; rfl
      case hg6 => rfl
      case h6 =>
      intro a W hS hB hd
      have e21 : a.tmps[21]? = some (.pointer (some ⟨g, 0, none⟩)) := (hd 5 rfl).bool rfl rfl rfl
      refine wp_value (c := .pointer (some ⟨g, 0, none⟩)) ?_ rfl
      go_simp
    · refine StepOkA.run (o := ?o7) ?ho7 ?hg7 ?h7
      case ho7 => simp only [List.getElem?_toArray, List.getElem?_cons_succ, List.getElem?_cons_zero]; rfl
      case hg7 => rfl
      case h7 =>
      intro a W hS hB hd
      have e22 : a.tmps[22]? = some (.pointer (some ⟨g, 0, none⟩)) := (hd 6 rfl).bool rfl rfl rfl
      refine wp_value (c := .pointer (some ⟨g, 1, none⟩)) ?_ rfl
      go_simp
    · refine StepOkA.run (o := ?o8) ?ho8 ?hg8 ?h8
      case ho8 => simp only [List.getElem?_toArray, List.getElem?_cons_succ, List.getElem?_cons_zero]; rfl
      case hg8 => rfl
      case h8 =>
      intro a W hS hB hd
      have e23 : a.tmps[23]? = some (.pointer (some ⟨g, 1, none⟩)) := (hd 7 rfl).bool rfl rfl rfl
      refine wp_value (c := .int .i64 at0) ?_ rfl
      have hh := blk_below HH.out hB
      have hcW : W.cell? ⟨g, 1, none⟩ = some (.int .i64 at0) := by simp [World.cell?, hh]
      go_simp
    · refine StepOkA.run (o := ?o9) ?ho9 ?hg9 ?h9
      case ho9 => simp only [List.getElem?_toArray, List.getElem?_cons_succ, List.getElem?_cons_zero]; rfl
      case hg9 => rfl
      case h9 =>
      intro a W hS hB hd
      have e16 : a.tmps[16]? = some (.func (.func 80) #[] #[.pointer (some pb)]) := (hd 0 rfl).bool rfl rfl rfl
      have e20 : a.tmps[20]? = some (.slice A l.length c) := (hd 4 rfl).bool rfl rfl rfl
      have e24 : a.tmps[24]? = some (.int .i64 at0) := (hd 8 rfl).bool rfl rfl rfl
      refine wp_called_fn (pre := #[]) (post := #[.pointer (some pb)]) Try.func80 (by kernel_rfl) rfl #[.slice A l.length c, .int .i64 at0, .pointer (some pb)] rfl (by simp [Act.eval, *]) (by simp [Act.eval, *]) ?_
      refine (HT.out A c W (Kd.C_below HCC.out (HBB.out.trans (hB.mono HBB.out.size))) hc hB).mono ?_
      rintro e9 w9 ⟨rfl, hb9⟩
      exact ⟨_, rfl, rfl, hb9⟩
    · refine StepOkA.run (o := ?o10) ?ho10 ?hg10 ?h10
      case ho10 => simp only [List.getElem?_toArray, List.getElem?_cons_succ, List.getElem?_cons_zero]; rfl
      case hg10 => rfl
      case h10 =>
      intro a W hS hB hd
      have e25 : a.tmps[25]? = some (.tuple #[.string x, .int .i64 nx, .int .i64 ec]) := (hd 9 rfl).bool rfl rfl rfl
      refine wp_value (c := .tuple #[.string x, .int .i64 nx, .int .i64 ec]) ?_ rfl
      go_simp
    · refine StepOkA.run (o := ?o11) ?ho11 ?hg11 ?h11
      case ho11 => simp only [List.getElem?_toArray, List.getElem?_cons_succ, List.getElem?_cons_zero]; rfl
      case hg11 => rfl
      case h11 =>
      intro a W hS hB hd
      have e15 : a.tmps[15]? = some (.tuple #[.string x, .int .i64 nx, .int .i64 ec]) := (hd 10 rfl).bool rfl rfl rfl
      refine wp_value (c := .string x) ?_ rfl
      go_simp
    · refine StepOkA.run (o := ?o12) ?ho12 ?hg12 ?h12
      case ho12 => simp only [List.getElem?_toArray, List.getElem?_cons_succ, List.getElem?_cons_zero]; rfl
      case hg12 => rfl
      case h12 =>
      intro a W hS hB hd
      have e15 : a.tmps[15]? = some (.tuple #[.string x, .int .i64 nx, .int .i64 ec]) := (hd 10 rfl).bool rfl rfl rfl
      refine wp_value (c := .int .i64 nx) ?_ rfl
      go_simp
    · refine StepOkA.run (o := ?o13) ?ho13 ?hg13 ?h13
      case ho13 => simp only [List.getElem?_toArray, List.getElem?_cons_succ, List.getElem?_cons_zero]; rfl
      case hg13 => rfl
      case h13 =>
      intro a W hS hB hd
      have e15 : a.tmps[15]? = some (.tuple #[.string x, .int .i64 nx, .int .i64 ec]) := (hd 10 rfl).bool rfl rfl rfl
      refine wp_value (c := .int .i64 ec) ?_ rfl
      go_simp
    · refine StepOkA.run (o := ?o14) ?ho14 ?hg14 ?h14
      case ho14 => simp only [List.getElem?_toArray, List.getElem?_cons_succ, List.getElem?_cons_zero]; rfl
      case hg14 => rfl
      case h14 =>
      intro a W hS hB hd
      have e26 : a.tmps[26]? = some (.string x) := (hd 11 rfl).bool rfl rfl rfl
      refine wp_value (c := .string x) ?_ rfl
      go_simp
    · refine StepOkA.run (o := ?o15) ?ho15 ?hg15 ?h15
      case ho15 => simp only [List.getElem?_toArray, List.getElem?_cons_succ, List.getElem?_cons_zero]; rfl
      case hg15 => rfl
      case h15 =>
      intro a W hS hB hd
      have e27 : a.tmps[27]? = some (.int .i64 nx) := (hd 12 rfl).bool rfl rfl rfl
      refine wp_value (c := .int .i64 nx) ?_ rfl
      go_simp
    · refine StepOkA.run (o := ?o16) ?ho16 ?hg16 ?h16
      case ho16 => simp only [List.getElem?_toArray, List.getElem?_cons_succ, List.getElem?_cons_zero]; rfl
      case hg16 => rfl
      case h16 =>
      intro a W hS hB hd
      have e28 : a.tmps[28]? = some (.int .i64 ec) := (hd 13 rfl).bool rfl rfl rfl
      refine wp_value (c := .int .i64 ec) ?_ rfl
      go_simp
  · intro a W hS hB hh
    have e6 : a.tmps[6]? = some (.string x) := (hh 14 (by omega)).bool rfl rfl rfl
    have e7 : a.tmps[7]? = some (.int .i64 nx) := (hh 15 (by omega)).bool rfl rfl rfl
    have e8 : a.tmps[8]? = some (.int .i64 ec) := (hh 16 (by omega)).bool rfl rfl rfl
    have HBR := Lib.hid hB
    have hlit := same_lit hS
    clear hh hS hB
    simp only [List.filterMap_cons, List.filterMap_nil, List.foldl_cons, List.foldl_nil, List.setIfInBounds_toArray, List.set_cons_zero, List.set_cons_succ] at hlit
    rw [show a.tmps.getD 6 undef = .string x by simp [Array.getD_eq_getD_getElem?, e6]] at hlit
    rw [show a.tmps.getD 7 undef = .int .i64 nx by simp [Array.getD_eq_getD_getElem?, e7]] at hlit
    rw [show a.tmps.getD 8 undef = .int .i64 ec by simp [Array.getD_eq_getD_getElem?, e8]] at hlit
    generalize a.tmps.getD 16 undef = z16 at hlit
    generalize a.tmps.getD 17 undef = z17 at hlit
    generalize a.tmps.getD 18 undef = z18 at hlit
    generalize a.tmps.getD 19 undef = z19 at hlit
    generalize a.tmps.getD 20 undef = z20 at hlit
    generalize a.tmps.getD 21 undef = z21 at hlit
    generalize a.tmps.getD 22 undef = z22 at hlit
    generalize a.tmps.getD 23 undef = z23 at hlit
    generalize a.tmps.getD 24 undef = z24 at hlit
    generalize a.tmps.getD 25 undef = z25 at hlit
    generalize a.tmps.getD 15 undef = z15 at hlit
    generalize a.tmps.getD 26 undef = z26 at hlit
    generalize a.tmps.getD 27 undef = z27 at hlit
    generalize a.tmps.getD 28 undef = z28 at hlit
    clear e6 e7 e8
    subst hlit
    have hI2 := HI.out.keep HBR.out
    have HB2 := Lib.hid (HBB.out.trans (HBR.out.mono HBB.out.size))
    have HI2 := Lib.hid hI2
    obtain ⟨A2, c2', _, _, _, _, c0', c1', c2', f1', f2'⟩ := cu_cells hI2
    clear hI2 c0 c1 c2 f1 f2
    go_wp2
    go_ret
    exact ⟨rfl, HI2.out.fail _, (World.grownBy.but (grownBy_none HBR.out) _).trans (grownBy_setAt _ _ _ _), HB2.out.setCell hg _⟩
set_option maxRecDepth 100000 in
set_option maxHeartbeats 1000000 in
theorem one_text_ok (w0 w : World) (g : Nat) (l : List Int) (at0 : Int) (pb : Addr) (x : ByteArray) (nx : Int) (hI : IsCu w0 w g l at0 0) (hB : Below w0.heap.size w0 w)
    (hT : ∀ A c W, Kd.C (Kd.int .u8) W A l.length l → l.length ≤ c → Below w.heap.size w W → Calls Try.prog 80 #[.slice A l.length c, .int .i64 at0, .pointer (some pb)] W fun e' W' => e' = .returned (.tuple #[.string x, .int .i64 nx, .int .i64 0]) ∧ Below W.heap.size W W') :
    Calls Try.prog 79 #[.pointer (some ⟨g, 0, none⟩), .func (.func 80) #[] #[.pointer (some pb)]] w (CuPost w0 w g l (.string x) nx 0) := by
  have HI := Lib.hid hI
  have HBB := Lib.hid hB
  have HT := Lib.hid hT
  obtain ⟨A, c, hc, hC, hg, hh, c0, c1, c2, f1, f2⟩ := cu_cells hI
  have HH := Lib.hid hh
  have HCC := Lib.hid hC
  clear hI hC hh hB hT
  go_enter Try.func79, Try.ntmps79
  go_wp2_with fail
  refine region_calmA (n := 17) (byList [isV (.func (.func 80) #[] #[.pointer (some pb)]), isV (.pointer (some ⟨g, 0, none⟩)), isV (.pointer (some ⟨g, 0, none⟩)), isV (.pointer (some ⟨g, 0, none⟩)), isV (.slice A l.length c), isV (.pointer (some ⟨g, 0, none⟩)), isV (.pointer (some ⟨g, 0, none⟩)), isV (.pointer (some ⟨g, 1, none⟩)), isV (.int .i64 at0), isV (.tuple #[.string x, .int .i64 nx, .int .i64 0]), isV (.tuple #[.string x, .int .i64 nx, .int .i64 0]), isV (.string x), isV (.int .i64 nx), isV (.int .i64 0), isV (.string x), isV (.int .i64 nx), isV (.int .i64 0)]) (by kernel_rfl) rfl (byList_lasts ?_) (by kernel_rfl) (by kernel_rfl) (show AllLt 17 _ from ?_) ?_
  · intro p hp
    simp only [List.mem_cons, List.not_mem_nil, or_false] at hp
    rcases hp with rfl | rfl | rfl | rfl | rfl | rfl | rfl | rfl | rfl | rfl | rfl | rfl | rfl | rfl | rfl | rfl | rfl <;> first | exact isV_lasts | exact isC_lasts
  · refine allLt_succ (allLt_succ (allLt_succ (allLt_succ (allLt_succ (allLt_succ (allLt_succ (allLt_succ (allLt_succ (allLt_succ (allLt_succ (allLt_succ (allLt_succ (allLt_succ (allLt_succ (allLt_succ (allLt_succ (allLt_zero _) ?_) ?_) ?_) ?_) ?_) ?_) ?_) ?_) ?_) ?_) ?_) ?_) ?_) ?_) ?_) ?_) ?_
    · refine StepOkA.run (o := ?o0) ?ho0 ?hg0 ?h0
      case ho0 => simp only [List.getElem?_toArray, List.getElem?_cons_succ, List.getElem?_cons_zero]; rfl
      case hg0 => rfl
      case h0 =>
      intro a W hS hB hd
      have e1 : a.tmps[1]? = some (.func (.func 80) #[] #[.pointer (some pb)]) := hS.get rfl rfl
      refine wp_value (c := .func (.func 80) #[] #[.pointer (some pb)]) ?_ rfl
      go_simp
    · refine StepOkA.run (o := ?o1) ?ho1 ?hg1 ?h1
      case ho1 => simp only [List.getElem?_toArray, List.getElem?_cons_succ, List.getElem?_cons_zero]; rfl
      case hg1 => rfl
      case h1 =>
      intro a W hS hB hd
      have e0 : a.tmps[0]? = some (.pointer (some ⟨g, 0, none⟩)) := hS.get rfl rfl
      refine wp_value (c := .pointer (some ⟨g, 0, none⟩)) ?_ rfl
      go_simp
    · refine StepOkA.run (o := ?o2) ?ho2 ?hg2 ?h2
      case ho2 => simp only [List.getElem?_toArray, List.getElem?_cons_succ, List.getElem?_cons_zero]; rfl
      case hg2 => rfl
      case h2 =>
      intro a W hS hB hd
      have e17 : a.tmps[17]? = some (.pointer (some ⟨g, 0, none⟩)) := (hd 1 rfl).bool rfl rfl rfl
      refine wp_value (c := .pointer (some ⟨g, 0, none⟩)) ?_ rfl
      go_simp
    · refine StepOkA.run (o := ?o3) ?ho3 ?hg3 ?h3
      case ho3 => simp only [List.getElem?_toArray, List.getElem?_cons_succ, List.getElem?_cons_zero]; rfl
      case hg3 => rfl
      case h3 =>
      intro a W hS hB hd
      have e18 : a.tmps[18]? = some (.pointer (some ⟨g, 0, none⟩)) := (hd 2 rfl).bool rfl rfl rfl
      refine wp_value (c := .pointer (some ⟨g, 0, none⟩)) ?_ rfl
      go_simp
    · refine StepOkA.run (o := ?o4) ?ho4 ?hg4 ?h4
      case ho4 => simp only [List.getElem?_toArray, List.getElem?_cons_succ, List.getElem?_cons_zero]; rfl
      case hg4 => rfl
      case h4 =>
      intro a W hS hB hd
      have e19 : a.tmps[19]? = some (.pointer (some ⟨g, 0, none⟩)) := (hd 3 rfl).bool rfl rfl rfl
      refine wp_value (c := .slice A l.length c) ?_ rfl
      have hh := blk_below HH.out hB
      have hcW : W.cell? ⟨g, 0, none⟩ = some (.slice A l.length c) := by simp [World.cell?, hh]
      go_simp
    · refine StepOkA.run (o := ?o5) ?ho5 ?hg5 ?h5
      case ho5 => simp only [List.getElem?_toArray, List.getElem?_cons_succ, List.getElem?_cons_zero]; rfl
      case hg5 => rfl
      case h5 =>
      intro a W hS hB hd
      have e0 : a.tmps[0]? = some (.pointer (some ⟨g, 0, none⟩)) := hS.get rfl rfl
      refine wp_value (c := .pointer (some ⟨g, 0, none⟩)) ?_ rfl
      go_simp
    · refine StepOkA.run (o := ?o6) ?ho6 ?hg6 ?h6
      case ho6 => simp only [List.getElem?_toArray, List.getElem?_cons_succ, List.getElem?_cons_zero]; rfl
      case hg6 => rfl
      case h6 =>
      intro a W hS hB hd
      have e21 : a.tmps[21]? = some (.pointer (some ⟨g, 0, none⟩)) := (hd 5 rfl).bool rfl rfl rfl
      refine wp_value (c := .pointer (some ⟨g, 0, none⟩)) ?_ rfl
      go_simp
    · refine StepOkA.run (o := ?o7) ?ho7 ?hg7 ?h7
      case ho7 => simp only [List.getElem?_toArray, List.getElem?_cons_succ, List.getElem?_cons_zero]; rfl
      case hg7 => rfl
      case h7 =>
      intro a W hS hB hd
      have e22 : a.tmps[22]? = some (.pointer (some ⟨g, 0, none⟩)) := (hd 6 rfl).bool rfl rfl rfl
      refine wp_value (c := .pointer (some ⟨g, 1, none⟩)) ?_ rfl
      go_simp
    · refine StepOkA.run (o := ?o8) ?ho8 ?hg8 ?h8
      case ho8 => simp only [List.getElem?_toArray, List.getElem?_cons_succ, List.getElem?_cons_zero]; rfl
      case hg8 => rfl
      case h8 =>
      intro a W hS hB hd
      have e23 : a.tmps[23]? = some (.pointer (some ⟨g, 1, none⟩)) := (hd 7 rfl).bool rfl rfl rfl
      refine wp_value (c := .int .i64 at0) ?_ rfl
      have hh := blk_below HH.out hB
      have hcW : W.cell? ⟨g, 1, none⟩ = some (.int .i64 at0) := by simp [World.cell?, hh]
      go_simp
    · refine StepOkA.run (o := ?o9) ?ho9 ?hg9 ?h9
      case ho9 => simp only [List.getElem?_toArray, List.getElem?_cons_succ, List.getElem?_cons_zero]; rfl
      case hg9 => rfl
      case h9 =>
      intro a W hS hB hd
      have e16 : a.tmps[16]? = some (.func (.func 80) #[] #[.pointer (some pb)]) := (hd 0 rfl).bool rfl rfl rfl
      have e20 : a.tmps[20]? = some (.slice A l.length c) := (hd 4 rfl).bool rfl rfl rfl
      have e24 : a.tmps[24]? = some (.int .i64 at0) := (hd 8 rfl).bool rfl rfl rfl
      refine wp_called_fn (pre := #[]) (post := #[.pointer (some pb)]) Try.func80 (by kernel_rfl) rfl #[.slice A l.length c, .int .i64 at0, .pointer (some pb)] rfl (by simp [Act.eval, *]) (by simp [Act.eval, *]) ?_
      refine (HT.out A c W (Kd.C_below HCC.out (HBB.out.trans (hB.mono HBB.out.size))) hc hB).mono ?_
      rintro e9 w9 ⟨rfl, hb9⟩
      exact ⟨_, rfl, rfl, hb9⟩
    · refine StepOkA.run (o := ?o10) ?ho10 ?hg10 ?h10
      case ho10 => simp only [List.getElem?_toArray, List.getElem?_cons_succ, List.getElem?_cons_zero]; rfl
      case hg10 => rfl
      case h10 =>
      intro a W hS hB hd
      have e25 : a.tmps[25]? = some (.tuple #[.string x, .int .i64 nx, .int .i64 0]) := (hd 9 rfl).bool rfl rfl rfl
      refine wp_value (c := .tuple #[.string x, .int .i64 nx, .int .i64 0]) ?_ rfl
      go_simp
    · refine StepOkA.run (o := ?o11) ?ho11 ?hg11 ?h11
      case ho11 => simp only [List.getElem?_toArray, List.getElem?_cons_succ, List.getElem?_cons_zero]; rfl
      case hg11 => rfl
      case h11 =>
      intro a W hS hB hd
      have e15 : a.tmps[15]? = some (.tuple #[.string x, .int .i64 nx, .int .i64 0]) := (hd 10 rfl).bool rfl rfl rfl
      refine wp_value (c := .string x) ?_ rfl
      go_simp
    · refine StepOkA.run (o := ?o12) ?ho12 ?hg12 ?h12
      case ho12 => simp only [List.getElem?_toArray, List.getElem?_cons_succ, List.getElem?_cons_zero]; rfl
      case hg12 => rfl
      case h12 =>
      intro a W hS hB hd
      have e15 : a.tmps[15]? = some (.tuple #[.string x, .int .i64 nx, .int .i64 0]) := (hd 10 rfl).bool rfl rfl rfl
      refine wp_value (c := .int .i64 nx) ?_ rfl
      go_simp
    · refine StepOkA.run (o := ?o13) ?ho13 ?hg13 ?h13
      case ho13 => simp only [List.getElem?_toArray, List.getElem?_cons_succ, List.getElem?_cons_zero]; rfl
      case hg13 => rfl
      case h13 =>
      intro a W hS hB hd
      have e15 : a.tmps[15]? = some (.tuple #[.string x, .int .i64 nx, .int .i64 0]) := (hd 10 rfl).bool rfl rfl rfl
      refine wp_value (c := .int .i64 0) ?_ rfl
      go_simp
    · refine StepOkA.run (o := ?o14) ?ho14 ?hg14 ?h14
      case ho14 => simp only [List.getElem?_toArray, List.getElem?_cons_succ, List.getElem?_cons_zero]; rfl
      case hg14 => rfl
      case h14 =>
      intro a W hS hB hd
      have e26 : a.tmps[26]? = some (.string x) := (hd 11 rfl).bool rfl rfl rfl
      refine wp_value (c := .string x) ?_ rfl
      go_simp
    · refine StepOkA.run (o := ?o15) ?ho15 ?hg15 ?h15
      case ho15 => simp only [List.getElem?_toArray, List.getElem?_cons_succ, List.getElem?_cons_zero]; rfl
      case hg15 => rfl
      case h15 =>
      intro a W hS hB hd
      have e27 : a.tmps[27]? = some (.int .i64 nx) := (hd 12 rfl).bool rfl rfl rfl
      refine wp_value (c := .int .i64 nx) ?_ rfl
      go_simp
    · refine StepOkA.run (o := ?o16) ?ho16 ?hg16 ?h16
      case ho16 => simp only [List.getElem?_toArray, List.getElem?_cons_succ, List.getElem?_cons_zero]; rfl
      case hg16 => rfl
      case h16 =>
      intro a W hS hB hd
      have e28 : a.tmps[28]? = some (.int .i64 0) := (hd 13 rfl).bool rfl rfl rfl
      refine wp_value (c := .int .i64 0) ?_ rfl
      go_simp
  · intro a W hS hB hh
    have e6 : a.tmps[6]? = some (.string x) := (hh 14 (by omega)).bool rfl rfl rfl
    have e7 : a.tmps[7]? = some (.int .i64 nx) := (hh 15 (by omega)).bool rfl rfl rfl
    have e8 : a.tmps[8]? = some (.int .i64 0) := (hh 16 (by omega)).bool rfl rfl rfl
    have HBR := Lib.hid hB
    have hlit := same_lit hS
    clear hh hS hB
    simp only [List.filterMap_cons, List.filterMap_nil, List.foldl_cons, List.foldl_nil, List.setIfInBounds_toArray, List.set_cons_zero, List.set_cons_succ] at hlit
    rw [show a.tmps.getD 6 undef = .string x by simp [Array.getD_eq_getD_getElem?, e6]] at hlit
    rw [show a.tmps.getD 7 undef = .int .i64 nx by simp [Array.getD_eq_getD_getElem?, e7]] at hlit
    rw [show a.tmps.getD 8 undef = .int .i64 0 by simp [Array.getD_eq_getD_getElem?, e8]] at hlit
    generalize a.tmps.getD 16 undef = z16 at hlit
    generalize a.tmps.getD 17 undef = z17 at hlit
    generalize a.tmps.getD 18 undef = z18 at hlit
    generalize a.tmps.getD 19 undef = z19 at hlit
    generalize a.tmps.getD 20 undef = z20 at hlit
    generalize a.tmps.getD 21 undef = z21 at hlit
    generalize a.tmps.getD 22 undef = z22 at hlit
    generalize a.tmps.getD 23 undef = z23 at hlit
    generalize a.tmps.getD 24 undef = z24 at hlit
    generalize a.tmps.getD 25 undef = z25 at hlit
    generalize a.tmps.getD 15 undef = z15 at hlit
    generalize a.tmps.getD 26 undef = z26 at hlit
    generalize a.tmps.getD 27 undef = z27 at hlit
    generalize a.tmps.getD 28 undef = z28 at hlit
    clear e6 e7 e8
    subst hlit
    have hI2 := HI.out.keep HBR.out
    have HB2 := Lib.hid (HBB.out.trans (HBR.out.mono HBB.out.size))
    have HI2 := Lib.hid hI2
    obtain ⟨A2, c2', _, _, _, _, c0', c1', c2', f1', f2'⟩ := cu_cells hI2
    clear hI2 c0 c1 c2 f1 f2
    go_wp2
    go_ret
    exact ⟨rfl, HI2.out.go _, (World.grownBy.but (grownBy_none HBR.out) _).trans (grownBy_setAt _ _ _ _), HB2.out.setCell hg _⟩
end Go.Proofs.Ythpbkhagjgggjaa
