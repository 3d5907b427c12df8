/- Whatever is taken is the document's; what is written into the bytes behind New is of no account: the law CursorPlays returns true, and writes nothing that was there (up to 500 bytes, 40 calls). -/
import Derived.Test.YthpbkhagjgggjaaCuY
set_option linter.unusedVariables false
set_option linter.unusedSimpArgs false
namespace Go.Proofs.Ythpbkhagjgggjaa.WCursorPlays
open Go.RowKit Go.Proofs.YthpbkhagjgggjaaW.PrintWords Go.Proofs.Ythpbkhagjgggjaa.GVB

theorem rnew_is (l : List Int) (at0 : Int) : tephraref04_New.f (strOfNums l) at0 = some (strOfNums l, newAt l at0, newE l at0) := by
  have hs : (strOfNums l).size = l.length := strOfNums_size l
  unfold tephraref04_New.f newAt newE
  rw [hs]
  by_cases h0 : at0 < 0
  · rw [if_pos h0, if_pos (.inl h0), if_pos (.inl h0)]
  · by_cases h1 : at0 > (l.length : Int)
    · rw [if_neg h0, if_pos h1, if_pos (.inr h1), if_pos (.inr h1)]
    · rw [if_neg h0, if_neg h1, if_neg (by omega), if_neg (by omega)]
theorem plays_great (A : Option Addr) (c : Nat) (l : List Int) (at0 : Int) (B : Option Addr) (d : Nat) (ts : List Take4) (w : World) (hg : 500 < (l.length : Int) ∨ ¬ 500 < (l.length : Int) ∧ 40 < (ts.length : Int)) (h1 : l.length ≤ 9223372036854775807) (h2 : ts.length ≤ 9223372036854775807) :
    Calls Try.prog 4 #[.slice A l.length c, .int .i64 at0, .slice B ts.length d] w fun e w' => e = .returned (.bool true) ∧ Below w.heap.size w w' := by
  rcases hg with h | ⟨h, h'⟩
  · have d0 : decide (500 < (l.length : Int)) = true := decide_eq_true h
    go_enter Try.func4, Try.ntmps4
    go_wp2_with (go_at_call 15; refine (fixed4_any _).mono ?_; rintro e w1 ⟨rfl, hb⟩)
    go_ret
    exact ⟨rfl, hb⟩
  · have d0 : decide (500 < (l.length : Int)) = false := decide_eq_false h
    have d1 : decide (40 < (ts.length : Int)) = true := decide_eq_true h'
    go_enter Try.func4, Try.ntmps4
    go_wp2_with (go_at_call 15; refine (fixed4_any _).mono ?_; rintro e w1 ⟨rfl, hb⟩)
    go_ret
    exact ⟨rfl, hb⟩
set_option maxRecDepth 100000 in
set_option maxHeartbeats 8000000 in
theorem plays_main (A : Option Addr) (c : Nat) (l : List Int) (at0 : Int) (B : Option Addr) (d : Nat) (ts : List Take4) (w : World) (hC : Kd.C (Kd.int .u8) w A l.length l) (hc : l.length ≤ c) (hb : ∀ x ∈ l, 0 ≤ x ∧ x < 256) (hl : l.length ≤ 500) (hT : Kd.C kdTake w B ts.length ts) (hok : ∀ t ∈ ts, okTake t) (hts : ts.length ≤ 40) :
    Calls Try.prog 4 #[.slice A l.length c, .int .i64 at0, .slice B ts.length d] w fun e w' => e = .returned (.bool true) ∧ Below w.heap.size w w' := by
  have d0 : decide (500 < (l.length : Int)) = false := decide_eq_false (by omega)
  have d1 : decide (40 < (ts.length : Int)) = false := decide_eq_false (by omega)
  have HTS := Lib.hid (fun (W : World) (h : Below w.heap.size w W) => Kd.C_below hT h)
  have HOK := Lib.hid hok
  have HBY := Lib.hid hb
  have HL := Lib.hid (show l.length ≤ 1000000 by omega)
  have HRN := Lib.hid (rnew_is l at0)
  have HC := Lib.hid hC
  have hna := newAt_in l at0
  clear hC hT hok hb
  go_enter Try.func4, Try.ntmps4
  go_wp2_with (at_builtin; refine Halt.mk ?_)
  have HO := Lib.hid (R_block .u8 (w.alloc (.cells #[] 5)) w.heap.size w.heap.size 5 [] (fun _ => True) (heap_new _ _) (Nat.le_refl _) (by simp) trivial)
  have hb3 := (Below.refl w.heap.size w).alloc (Nat.le_refl _) (.cells #[] 5)
  refine Halt.of ?_
  refine Kd.R_append_rows (Kd.int .u8) (w0 := w) w.heap.size rfl (.tmp 23) (.tmp 24) 25 5 (.int .u8 0) 1 rfl Try.underlying25 info_u8 rfl (by decide) (by omega) _ [] l _ _ _ (fun _ => True) (fun _ => False) rfl rfl HO.out (Kd.C_below HC.out hb3) (fun _ _ h => h) (fun _ h => h.elim) (fun _ _ => trivial) hb3 hb3.size (by simp; omega) ?_
  intro v1 w1 hO1 hb1 _ _
  clear HO hb3
  rw [List.nil_append] at hO1
  obtain ⟨A1, c1, rfl⟩ := Kd.R_slice hO1
  have HO1 := Lib.hid (And.intro hO1 (And.intro (Kd.R_reads' hO1).2.2 (Kd.R_reads' hO1).2.1))
  have HB1 := Lib.hid hb1
  clear hO1 hb1
  go_wp2_with fail
  refine region_last (n := 9) (byList [isV (.slice A1 l.length c1), isV (.int .i64 at0), (isNew w1 l (newAt l at0) (newE l at0)), isV (.slice A l.length c), isV (.string (strOfNums l)), isV (.int .i64 at0), isV (.agg #[.string (strOfNums l), .int .i64 (newAt l at0), .int .i64 (newE l at0)]), (isPair w1 l (newAt l at0) (newE l at0)), (isBox w1)]) (by kernel_rfl) rfl (byList_lasts ?_) (by kernel_rfl) (by kernel_rfl) ?_ (by intro o ho; simp only [List.getElem?_toArray, List.getElem?_cons_succ, List.getElem?_cons_zero, Option.some.injEq] at ho; subst ho; rfl) (show AllLt 9 _ from ?_) ?_
  · intro p hp
    simp only [List.mem_cons, List.not_mem_nil, or_false] at hp
    rcases hp with rfl | rfl | rfl | rfl | rfl | rfl | rfl | rfl | rfl <;> first | exact isV_lasts | exact isC_lasts | exact isNew_lasts | exact isPair_lasts | exact isBox_lasts
  · intro j hj
    have hj9 : j = 0 ∨ j = 1 ∨ j = 2 ∨ j = 3 ∨ j = 4 ∨ j = 5 ∨ j = 6 ∨ j = 7 ∨ j = 8 := by omega
    rcases hj9 with rfl | rfl | rfl | rfl | rfl | rfl | rfl | rfl | rfl <;> first | rfl | kernel_rfl
  · refine allLt_succ (allLt_succ (allLt_succ (allLt_succ (allLt_succ (allLt_succ (allLt_succ (allLt_succ (allLt_succ (allLt_zero _) ?_) ?_) ?_) ?_) ?_) ?_) ?_) ?_) ?_
    · refine StepOkA.run (o := ?o0) ?ho0 ?hg0 ?h0
      case ho0 => simp only [List.getElem?_toArray, List.getElem?_cons_succ, List.getElem?_cons_zero]; rfl
      case hg0 => rfl
      case h0 =>
      intro a W hS hB hd
      have e7 : a.tmps[7]? = some (.slice A1 l.length c1) := hS.get rfl rfl
      refine wp_value (c := .slice A1 l.length c1) ?_ rfl
      go_simp
    · refine StepOkA.run (o := ?o1) ?ho1 ?hg1 ?h1
      case ho1 => simp only [List.getElem?_toArray, List.getElem?_cons_succ, List.getElem?_cons_zero]; rfl
      case hg1 => rfl
      case h1 =>
      intro a W hS hB hd
      have e1 : a.tmps[1]? = some (.int .i64 at0) := hS.get rfl rfl
      refine wp_value (c := .int .i64 at0) ?_ rfl
      go_simp
    · refine StepOkA.run (o := ?o2) ?ho2 ?hg2 ?h2
      case ho2 => simp only [List.getElem?_toArray, List.getElem?_cons_succ, List.getElem?_cons_zero]; rfl
      case hg2 => rfl
      case h2 =>
      intro a W hS hB hd
      have e26 : a.tmps[26]? = some (.slice A1 l.length c1) := (hd 0 rfl).bool rfl rfl rfl
      have e27 : a.tmps[27]? = some (.int .i64 at0) := (hd 1 rfl).bool rfl rfl rfl
      refine wp_called Try.func17 (by kernel_rfl) rfl #[.slice A1 l.length c1, .int .i64 at0] rfl (by simp [Act.eval, *]) ?_
      refine (new_any A1 c1 l at0 W (Kd.C_below HO1.out.2.1 hB) HO1.out.2.2 HL.out).mono ?_
      rintro e9 w9 ⟨g, wz, rfl, hbz, hI, hBz, hgz, hO⟩
      exact ⟨_, rfl, ⟨g, wz, rfl, hB.trans (hbz.mono hB.size), hO.lower hB.size, hBz⟩, hbz.trans (hBz.mono hbz.size)⟩
    · refine StepOkA.run (o := ?o3) ?ho3 ?hg3 ?h3
      case ho3 => simp only [List.getElem?_toArray, List.getElem?_cons_succ, List.getElem?_cons_zero]; rfl
      case hg3 => rfl
      case h3 =>
      intro a W hS hB hd
      have e0 : a.tmps[0]? = some (.slice A l.length c) := hS.get rfl rfl
      refine wp_value (c := .slice A l.length c) ?_ rfl
      go_simp
    · refine StepOkA.run (o := ?o4) ?ho4 ?hg4 ?h4
      case ho4 => simp only [List.getElem?_toArray, List.getElem?_cons_succ, List.getElem?_cons_zero]; rfl
      case hg4 => rfl
      case h4 =>
      intro a W hS hB hd
      have e29 : a.tmps[29]? = some (.slice A l.length c) := (hd 3 rfl).bool rfl rfl rfl
      refine wp_value (c := .string (strOfNums l)) ?_ rfl
      have hcv := Kd.C_string (P := Try.prog) (w := W) (src := 25) (dst := 9) (e := 5) (A := A) (n := l.length) (c := c) (xs := l) Try.underlying25 Try.underlying5 Try.underlying9 (Kd.C_below HC.out (HB1.out.trans (hB.mono HB1.out.size)))
      go_simp
    · refine StepOkA.run (o := ?o5) ?ho5 ?hg5 ?h5
      case ho5 => simp only [List.getElem?_toArray, List.getElem?_cons_succ, List.getElem?_cons_zero]; rfl
      case hg5 => rfl
      case h5 =>
      intro a W hS hB hd
      have e1 : a.tmps[1]? = some (.int .i64 at0) := hS.get rfl rfl
      refine wp_value (c := .int .i64 at0) ?_ rfl
      go_simp
    · refine StepOkA.run (o := ?o6) ?ho6 ?hg6 ?h6
      case ho6 => simp only [List.getElem?_toArray, List.getElem?_cons_succ, List.getElem?_cons_zero]; rfl
      case hg6 => rfl
      case h6 =>
      intro a W hS hB hd
      have e30 : a.tmps[30]? = some (.string (strOfNums l)) := (hd 4 rfl).bool rfl rfl rfl
      have e31 : a.tmps[31]? = some (.int .i64 at0) := (hd 5 rfl).bool rfl rfl rfl
      refine wp_called Try.func24 (by kernel_rfl) rfl #[.string (strOfNums l), .int .i64 at0] rfl (by simp [Act.eval, *]) ?_
      refine (tephraref04_New.calls _ _ _ _ _ W HRN.out).mono ?_
      rintro e9 w9 ⟨rfl, hb9⟩
      exact ⟨_, rfl, rfl, hb9⟩
    · refine StepOkA.run (o := ?o7) ?ho7 ?hg7 ?h7
      case ho7 => simp only [List.getElem?_toArray, List.getElem?_cons_succ, List.getElem?_cons_zero]; rfl
      case hg7 => rfl
      case h7 =>
      intro a W hS hB hd
      obtain ⟨u28, e28, p28⟩ := (hd 2 rfl).get rfl rfl
      replace p28 : (isNew w1 l (newAt l at0) (newE l at0)) u28 W := p28
      have e32 : a.tmps[32]? = some (.agg #[.string (strOfNums l), .int .i64 (newAt l at0), .int .i64 (newE l at0)]) := (hd 6 rfl).bool rfl rfl rfl
      obtain ⟨g, wz, rfl, h1, h2, h3⟩ := p28
      refine wp_pred (c := .agg #[.pointer (some ⟨g, 0, none⟩), .string (strOfNums l), .int .i64 (newAt l at0), .int .i64 (newE l at0)]) ?_ ⟨g, wz, rfl, h1, h2, h3⟩
      go_simp
    · refine StepOkA.run (o := ?o8) ?ho8 ?hg8 ?h8
      case ho8 => simp only [List.getElem?_toArray, List.getElem?_cons_succ, List.getElem?_cons_zero]; rfl
      case hg8 => rfl
      case h8 =>
      intro a W hS hB hd
      refine wp_new (v := .pointer (some ⟨W.heap.size, 0, none⟩)) (W' := W.alloc (.cells #[.pointer none, .string ⟨#[]⟩, .int .i64 0, .int .i64 0] 42)) ?_ ⟨_, rfl, hB.size, blk_new _ _⟩ ((Below.refl _ _).alloc (Nat.le_refl _) _)
      go_simp
  · intro o a W ho hS hB hh
    simp only [List.getElem?_toArray, List.getElem?_cons_succ, List.getElem?_cons_zero, Option.some.injEq] at ho
    subst ho
    obtain ⟨u8, e8, p8⟩ := (hh 8 (by omega)).get rfl rfl
    obtain ⟨u33, e33, p33⟩ := (hh 7 (by omega)).get rfl rfl
    replace p8 : isBox w1 u8 W := p8
    replace p33 : isPair w1 l (newAt l at0) (newE l at0) u33 W := p33
    obtain ⟨b8, rfl, hb8, hk8⟩ := p8
    obtain ⟨g, wz, rfl, hz1, hz2, hz3⟩ := p33
    have c0 : W.cell? ⟨b8, 0, none⟩ = some (.pointer none) := (blk_cell hk8 0).trans rfl
    have c1' : W.cell? ⟨b8, 1, none⟩ = some (.string ⟨#[]⟩) := (blk_cell hk8 1).trans rfl
    have c2 : W.cell? ⟨b8, 2, none⟩ = some (.int .i64 0) := (blk_cell hk8 2).trans rfl
    have c3 : W.cell? ⟨b8, 3, none⟩ = some (.int .i64 0) := (blk_cell hk8 3).trans rfl
    have f0 := blk_frozen hk8 0
    have f1 := blk_frozen hk8 1
    have f2 := blk_frozen hk8 2
    have f3 := blk_frozen hk8 3
    refine wp_skip (W' := (((W.setCell ⟨b8, 0, none⟩ (.pointer (some ⟨g, 0, none⟩))).setCell ⟨b8, 1, none⟩ (.string (strOfNums l))).setCell ⟨b8, 2, none⟩ (.int .i64 (newAt l at0))).setCell ⟨b8, 3, none⟩ (.int .i64 (newE l at0))) ?_ rfl ?_
    · go_simp
    clear c0 c1' c2 c3 f0 f1 f2 f3 e33
    have hgb : g ≠ b8 := by obtain ⟨_, _, h, _⟩ := hz2; exact blk_ne h hk8 (by decide)
    obtain ⟨hnr, hnu⟩ : NotRow wz b8 ∧ NoU8 wz b8 := by
      by_cases hlt : b8 < wz.heap.size
      · have h9 := (hz3.block b8 hlt).symm.trans hk8
        exact ⟨.inr ⟨_, _, by decide, h9⟩, .inr ⟨_, _, no_u8_box, h9⟩⟩
      · have h9 : wz.heap[b8]? = none := Array.getElem?_eq_none (by omega)
        exact ⟨.inl h9, .inl h9⟩
    obtain ⟨w2, hw2⟩ : ∃ w2, (((W.setCell ⟨b8, 0, none⟩ (.pointer (some ⟨g, 0, none⟩))).setCell ⟨b8, 1, none⟩ (.string (strOfNums l))).setCell ⟨b8, 2, none⟩ (.int .i64 (newAt l at0))).setCell ⟨b8, 3, none⟩ (.int .i64 (newE l at0)) = w2 := ⟨_, rfl⟩
    obtain ⟨w0, hw0⟩ : ∃ w0, (((wz.setCell ⟨b8, 0, none⟩ (.pointer (some ⟨g, 0, none⟩))).setCell ⟨b8, 1, none⟩ (.string (strOfNums l))).setCell ⟨b8, 2, none⟩ (.int .i64 (newAt l at0))).setCell ⟨b8, 3, none⟩ (.int .i64 (newE l at0)) = w0 := ⟨_, rfl⟩
    have HK := Lib.hid (show w2.heap[b8]? = some (.cells #[.pointer (some ⟨g, 0, none⟩), .string (strOfNums l), .int .i64 (newAt l at0), .int .i64 (newE l at0)] 42 (0, 0)) from hw2 ▸ blk_put4' hk8 _ _ _ _)
    have HCO := Lib.hid (show CuOwn w1.heap.size w0 w2 g l (newAt l at0) (newE l at0) by rw [← hw2, ← hw0]; exact hz2.mut4 hgb hnr _ _ _ _)
    have HBZ := Lib.hid (show Below w0.heap.size w0 w2 by rw [← hw2, ← hw0]; exact below_mut4 hz3 _ _ _ _)
    have HNU := Lib.hid (show NoU8 w0 b8 by rw [← hw0]; exact hnu.put4 (by simp) (by simp) (by simp) (by simp))
    have hb12 : Below w1.heap.size w1 w2 := by rw [← hw2]; exact below_put4' hB hb8 _ _ _ _
    have HB2 := Lib.hid (HB1.out.trans (hb12.mono HB1.out.size))
    have HR2 := Lib.hid (Kd.R_below HO1.out.1 hb12)
    have HLT := Lib.hid (Kd.R_lt HO1.out.1)
    have HGW := Lib.hid (show w.heap.size ≤ g by obtain ⟨_, _, _, h, _⟩ := hz2; have := hz1.size; have := HB1.out.size; omega)
    have HG1 := Lib.hid (show w1.heap.size ≤ g by obtain ⟨_, _, _, h, _⟩ := hz2; have := hz1.size; omega)
    have HGB := Lib.hid (And.intro hgb hb8)
    rw [hw2]
    clear hk8 hz1 hz2 hz3 hgb hnr hnu hw2 hw0 hb12 hb8 HRN
    have HBR := Lib.hid hB
    have hlit := same_lit hS
    clear hh hS hB
    simp only [List.filterMap_cons, List.filterMap_nil, List.foldl_cons, List.foldl_nil, List.setIfInBounds_toArray, List.set_cons_zero, List.set_cons_succ] at hlit
    rw [show a.tmps.getD 8 undef = .pointer (some ⟨b8, 0, none⟩) by simp [Array.getD_eq_getD_getElem?, e8]] at hlit
    generalize a.tmps.getD 26 undef = z26 at hlit
    generalize a.tmps.getD 27 undef = z27 at hlit
    generalize a.tmps.getD 28 undef = z28 at hlit
    generalize a.tmps.getD 29 undef = z29 at hlit
    generalize a.tmps.getD 30 undef = z30 at hlit
    generalize a.tmps.getD 31 undef = z31 at hlit
    generalize a.tmps.getD 32 undef = z32 at hlit
    generalize a.tmps.getD 33 undef = z33 at hlit
    clear e8
    subst hlit
    obtain ⟨pa, hpa⟩ : ∃ pa, newAt l at0 = pa := ⟨_, rfl⟩
    obtain ⟨pe, hpe⟩ : ∃ pe, newE l at0 = pe := ⟨_, rfl⟩
    rw [hpa] at hna
    rw [hpa, hpe] at HK HCO
    have x0 := (blk_cell HK.out 0).trans rfl
    clear hpa hpe HBR
    go_wp2_with fail
    clear x0
    go_loopw [39] (fun u wr => ∃ (i : Nat) (xs : List Int) (w0 : World), i ≤ l.length ∧ u = .int .i64 i ∧ xs.length = l.length ∧ Hid (Kd.R (Kd.int .u8) 5 wr w.heap.size (fun _ => True) (.slice A1 l.length c1) xs) ∧ Hid (CuOwn w1.heap.size w0 wr g l pa pe) ∧ Hid (Below w0.heap.size w0 wr) ∧ Hid (NoU8 w0 b8) ∧ Hid (wr.heap[b8]? = some (.cells #[.pointer (some ⟨g, 0, none⟩), .string (strOfNums l), .int .i64 pa, .int .i64 pe] 42 (0, 0))) ∧ Hid (Below w.heap.size w wr)) (fun v _ => l.length - (intOf v).toNat)
    case atStart => exact ⟨0, l, w0, by omega, rfl, rfl, HR2, HCO, HBZ, HNU, HK, HB2⟩
    case round =>
      obtain ⟨i, xs, w0, hi, rfl, hxl, HR, HC0, HBZ, HNU, HK, HB⟩ := hrel
      by_cases hlt : i < l.length
      · obtain ⟨bo, cp, hA, hbase, hbl, _⟩ := Kd.R_form HR.out (by omega)
        rw [hxl] at hA
        injection hA with hA1 hA2 hA3
        subst hA1
        have hbo := HLT.out bo (by simp [Value.ownBlock])
        obtain ⟨hcl, hfr⟩ := Kd.R_celln (0 : Int) HR.out (i : Int) (by omega) (by omega)
        rw [Int.toNat_natCast] at hcl hfr
        generalize rdOf (0 : Int) xs (i : Int) = x at hcl
        have HF := Lib.hid (And.intro hbo (And.intro hxl hbase))
        clear hbo hxl hbase hbl hA3 hA2
        go_wp2
        go_roundw
        case rel =>
          obtain ⟨hbo, hxl, hbase⟩ := HF.out
          have hgo : g ≠ bo := by have := HGW.out; obtain ⟨_, _, _, h, _⟩ := HC0.out; have := HG1.out; omega
          have hbb : b8 ≠ bo := by have := HGB.out.2; omega
          refine ⟨i + 1, xs.set i ((x + 1) % 256), w0.setCell ⟨bo, i, none⟩ (.int .u8 ((x + 1) % 256)), by omega, by go_num, by rw [List.length_set]; exact hxl, ?_, HC0.out.mut ⟨bo, i, none⟩ _ hgo (fun cs h => absurd h (by show ¬ w1.heap.size ≤ bo; omega)), below_mut HBZ.out _ _, NoU8.far HNU.out _ _ hbb, (Below.heap_setCell _ _ _ _ hbb).trans HK.out, HB.out.setCell (p := ⟨bo, i, none⟩) hbase _⟩
          have := Kd.R_putn HR.out (i : Int) ((x + 1) % 256)
          rw [Int.toNat_natCast] at this
          exact this
        case measure => simp [intOf]; omega
      · obtain rfl : i = l.length := by omega
        have HIC := Lib.hid HC0.out.is
        go_wp2_with fail
        go_loopw [51] (fun u wr => ∃ (i : Nat) (pa pe : Int) (w0 : World), i ≤ ts.length ∧ u = .int .i64 i ∧ 0 ≤ pa ∧ pa ≤ (l.length : Int) ∧ Hid (IsCu w0 wr g l pa pe) ∧ Hid (Below w0.heap.size w0 wr) ∧ Hid (NoU8 w0 b8) ∧ Hid (wr.heap[b8]? = some (.cells #[.pointer (some ⟨g, 0, none⟩), .string (strOfNums l), .int .i64 pa, .int .i64 pe] 42 (0, 0))) ∧ Hid (Below w.heap.size w wr)) (fun v _ => ts.length - (intOf v).toNat)
        case atStart => exact ⟨0, pa, pe, w0, by omega, rfl, hna.1, hna.2, HIC, HBZ, HNU, HK, HB⟩
        case round =>
          obtain ⟨i, pa, pe, w0, hi, rfl, hp1, hp2, HI, HBZ, HNU, HK, HB⟩ := hrel
          by_cases hlt : i < ts.length
          · obtain ⟨ad, he, hc0, hc1, hc2⟩ := take_at (HTS.out _ HB.out) i hlt
            subst he
            have hw := HOK.out ts[i] (List.getElem_mem _)
            generalize ts[i] = t at *
            obtain ⟨kd, most, each⟩ := t
            have hw2 : -9223372036854775808 ≤ most ∧ most ≤ 9223372036854775807 := by have := hw.2.1; simp [Lit.wf, IntKind.min, IntKind.max, IntKind.signed, IntKind.bits] at this; omega
            have hw3 : -9223372036854775808 ≤ each ∧ each ≤ 9223372036854775807 := by have := hw.2.2; simp [Lit.wf, IntKind.min, IntKind.max, IntKind.signed, IntKind.bits] at this; omega
            dsimp only at hc0 hc1 hc2
            obtain ⟨wA, hwA⟩ : ∃ wA, wr.alloc (.cells #[.int .i64 kd, .int .i64 most, .int .i64 each] 44) = wA := ⟨_, rfl⟩
            have hbA : Below wr.heap.size wr wA := by rw [← hwA]; exact (Below.refl _ _).alloc (Nat.le_refl _) _
            have nA := blk_new wr (.cells #[.int .i64 kd, .int .i64 most, .int .i64 each] 44 (0, 0))
            rw [hwA] at nA
            have kA := blk_below HK.out hbA
            have n0 := (blk_cell nA 0).trans rfl
            have n1 := (blk_cell nA 1).trans rfl
            have n2 := (blk_cell nA 2).trans rfl
            have y0 := (blk_cell kA 0).trans rfl
            have y1 := (blk_cell kA 1).trans rfl
            have y2 := (blk_cell kA 2).trans rfl
            have y3 := (blk_cell kA 3).trans rfl
            have HSTEP := Lib.hid (step_any w0 wA g l pa pe kd most each (HI.out.keep hbA) (HBZ.out.trans (hbA.mono HBZ.out.size)) HBY.out HL.out ⟨hp1, hp2⟩ hw2 hw3)
            have HXA := Lib.hid (And.intro kA (HB.out.trans (hbA.mono HB.out.size)))
            clear hbA nA kA hw hw2 hw3
            go_wp2_with fail
            refine HSTEP.out.mono ?_
            rintro en w3 ⟨aa, ee, ha1, ha2, hst⟩
            unfold StepPost at hst
            obtain ⟨rfl, hI3, hg3, hB3⟩ := hst
            clear n0 n1 n2 y0 y1 y2 y3 hc0 hc1 hc2 hwA
            have hk3 := blk_grown HXA.out.1 hg3 (by have := HGB.out.1; intro h; cases h; exact this rfl)
            have hbw3 := HXA.out.2.grown hg3 HXA.out.2.size (fun k hk => by cases hk; exact HGW.out)
            obtain ⟨wB, hwB⟩ : ∃ wB, w3.alloc (.cells #[.pointer (some ⟨g, 0, none⟩), .string (strOfNums l), .int .i64 aa, .int .i64 ee] 42) = wB := ⟨_, rfl⟩
            have hbB : Below w3.heap.size w3 wB := by rw [← hwB]; exact (Below.refl _ _).alloc (Nat.le_refl _) _
            have nB := blk_new w3 (.cells #[.pointer (some ⟨g, 0, none⟩), .string (strOfNums l), .int .i64 aa, .int .i64 ee] 42 (0, 0))
            rw [hwB] at nB
            have kB := blk_below hk3 hbB
            have m0 := (blk_cell nB 0).trans rfl
            have m1 := (blk_cell nB 1).trans rfl
            have m2 := (blk_cell nB 2).trans rfl
            have m3 := (blk_cell nB 3).trans rfl
            have y0 := (blk_cell kB 0).trans rfl
            have y1 := (blk_cell kB 1).trans rfl
            have y2 := (blk_cell kB 2).trans rfl
            have y3 := (blk_cell kB 3).trans rfl
            have z0 := blk_frozen kB 0
            have z1 := blk_frozen kB 1
            have z2 := blk_frozen kB 2
            have z3 := blk_frozen kB 3
            have HH := Lib.hid (And.intro (hI3.keep hbB) (And.intro (hB3.trans (hbB.mono hB3.size)) (And.intro (hbw3.trans (hbB.mono hbw3.size)) kB)))
            have HAA := Lib.hid (And.intro ha1 ha2)
            clear hI3 hg3 hB3 hk3 hbw3 hbB nB kB ha1 ha2
            go_wp2
            go_roundw
            case rel => exact ⟨i + 1, aa, ee, (((w0.setCell ⟨b8, 0, none⟩ (.pointer (some ⟨g, 0, none⟩))).setCell ⟨b8, 1, none⟩ (.string (strOfNums l))).setCell ⟨b8, 2, none⟩ (.int .i64 aa)).setCell ⟨b8, 3, none⟩ (.int .i64 ee), by omega, by go_num, HAA.out.1, HAA.out.2, HH.out.1.mut4 HGB.out.1 HNU.out (by simp) (by simp) (by simp), below_mut4 HH.out.2.1 _ _ _ _, HNU.out.put4 (by simp) (by simp) (by simp) (by simp), blk_put4' HH.out.2.2.2 _ _ _ _, below_put4' HH.out.2.2.1 (by have := HGB.out.2; have := HB1.out.size; omega) _ _ _ _⟩
            case measure => simp [intOf]; omega
          · obtain rfl : i = ts.length := by omega
            go_wp2_with fail
            refine (fixed4_any _).mono ?_
            rintro en w6 ⟨rfl, hb6⟩
            have HB6 := Lib.hid (HB.out.trans (hb6.mono HB.out.size))
            clear hb6
            go_wp2_with fail
            go_ret
            exact ⟨rfl, HB6.out⟩
theorem walk (a0 : Option Addr) (len0 cap0 : Nat) (z0 : List Int) (a1 : Int) (v2 : Value) (x2 : Option Addr × Nat × List Take4) (w : World) (w0 : (a0 = none ∧ len0 = 0 ∧ cap0 = 0 ∧ z0 = []) ∨ ∃ x, a0 = some x ∧ len0 ≤ cap0 ∧ cap0 ≤ maxLen ∧ z0.length = cap0 ∧ (∀ i, i < z0.length → w.cell? (x.add i) = some (.int .u8 (z0.getD i 0))) ∧ ∀ n ∈ z0, (Lit.int .u8 n).wf = true) (y0 : len0 * 1 ≤ 140737488351232) (w1 : (Lit.int .i64 a1).wf = true) (w2 : IsRows kdTake okTake w v2 x2) :
    Calls Try.prog 4 #[.slice a0 len0 cap0, .int .i64 a1, v2] w fun e w' => e = .returned (.bool true) ∧ Below w.heap.size w w' := by
  obtain ⟨l, rfl, hr, hm, hb, hc⟩ := ReadsInt.ofRowC w0
  have hr := Kd.C_of_reads (d := (0 : Int)) (h1 := fun _ => rfl) hr
  have hb := bytes_of_wf hb
  obtain ⟨B, d, ts⟩ := x2
  obtain ⟨rfl, hd, hT, hm2, ho⟩ := w2
  by_cases hle : 500 < (l.length : Int) ∨ ¬ 500 < (l.length : Int) ∧ 40 < (ts.length : Int)
  · exact plays_great a0 cap0 l a1 B d ts w hle (by have := hr.2.1; omega) (by simp only [maxLen] at hm2; omega)
  · exact plays_main a0 cap0 l a1 B d ts w hr hc hb (by omega) hT ho (by omega)
end Go.Proofs.Ythpbkhagjgggjaa.WCursorPlays
