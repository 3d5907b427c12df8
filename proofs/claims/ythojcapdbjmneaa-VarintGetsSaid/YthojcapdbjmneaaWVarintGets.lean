/- What is read of bytes at a place is what the reference reads, and Put makes the same bytes: the law VarintGets returns true, and writes nothing that was there. -/
import Derived.Test.YthojcapdbjmneaaVarQ
set_option linter.unusedVariables false
set_option linter.unusedSimpArgs false
namespace Go.Proofs.Ythojcapdbjmneaa.WVarintGets
open Go.RowKit Go.Proofs.Ythojcapdbjmneaa.GVB Go.Proofs.YthojcapdbjmneaaW.PrintWords

set_option maxHeartbeats 1000000 in
theorem gets_ok (k : Nat) (A0 : Option Addr) (c0 : Nat) (l : List Int) (lo hi n : Nat) (w : World) (hr0 : Kd.C (Kd.int .u8) w A0 l.length l) (hc0 : l.length ≤ c0) (hle : l.length ≤ 200)
    (hg : varint_Get.f k l (lo : Int) = some ((n : Int), (hi : Int), 0)) (hf : tephraref01_Get.f k (strOfNums l) (lo : Int) = some ((n : Int), (hi : Int), 0)) (h1' : lo ≤ hi) (h2' : hi ≤ l.length) (hx : (l.take hi).drop lo = ints (vb n)) (hn : n < 18446744073709551616) :
    Calls Try.prog 3 #[.slice A0 l.length c0, .int .i64 (lo : Int)] w fun e w' => e = .returned (.bool true) ∧ Below w.heap.size w w' := by
  have HN := Lib.hid (show (ints (vb n)).length = hi - lo by rw [← hx]; simp; omega)
  have HG := Lib.hid hg
  have HF := Lib.hid hf
  have HX := Lib.hid hx
  have HC := Lib.hid hr0
  have HL := Lib.hid hc0
  clear hg hf hx hr0 hc0
  have hd0 : decide (200 < (l.length : Int)) = false := decide_eq_false (by omega)
  go_enter Try.func3, Try.ntmps3
  go_wp2_with fail
  refine (varint_Get.calls k _ _ l lo n hi 0 _ HC.out HL.out HG.out).mono ?_
  rintro e w1 ⟨rfl, hd⟩
  have hb1 := hd.below
  clear hd
  have hcv := Kd.C_string (P := Try.prog) (A := A0) (c := c0) Try.underlying22 Try.underlying5 Try.underlying9 (Kd.C_below HC.out hb1)
  go_wp2_with fail
  refine (tephraref01_Get.calls k _ lo n hi 0 _ HF.out).mono ?_
  rintro e w2 ⟨rfl, hd⟩
  have hb2 := hb1.trans (hd.below.mono hb1.size)
  clear hd hcv hb1
  go_wp2_with fail
  refine region_calm (n := 17) (byList [isV (.bool true), isV (.bool true), isV (.int .i64 0), isV (.bool false), isV (.bool false), isV (.int .u64 (n : Int)), (isC (Kd.int .u8) (ints (vb n))), isV (.string (strOfNums (ints (vb n)))), isV (.slice A0 l.length c0), isV (.int .i64 (lo : Int)), isV (.int .i64 (hi : Int)), (isC (Kd.int .u8) (ints (vb n))), isV (.string (strOfNums (ints (vb n)))), isV (.bool true), isV (.bool true), isV (.bool true), isV (.bool true)]) (by kernel_rfl) rfl (byList_lasts ?_) (by kernel_rfl) (by kernel_rfl) (by kernel_rfl) (show AllLt 17 _ from ?_) ?_
  · intro p hp
    simp only [List.mem_cons, List.not_mem_nil, or_false] at hp
    rcases hp with rfl | rfl | rfl | rfl | rfl | rfl | rfl | rfl | rfl | rfl | rfl | rfl | rfl | rfl | rfl | rfl | rfl <;> first | exact isV_lasts | exact isC_lasts
  · refine allLt_succ (allLt_succ (allLt_succ (allLt_succ (allLt_succ (allLt_succ (allLt_succ (allLt_succ (allLt_succ (allLt_succ (allLt_succ (allLt_succ (allLt_succ (allLt_succ (allLt_succ (allLt_succ (allLt_succ (allLt_zero _) ?_) ?_) ?_) ?_) ?_) ?_) ?_) ?_) ?_) ?_) ?_) ?_) ?_) ?_) ?_) ?_) ?_
    · refine StepOk.run (o := ?o0) ?ho0 ?hg0 ?h0
      case ho0 => simp only [List.getElem?_toArray, List.getElem?_cons_succ, List.getElem?_cons_zero]; rfl
      case hg0 => rfl
      case h0 =>
      intro a W hS hB hd
      refine wp_called Try.func15 (by kernel_rfl) rfl #[] rfl (by simp [Act.eval, *]) ?_
      refine (tephralaw01_fixed.calls 30 true _ (fixed_is 30 (by decide))).mono ?_
      rintro e w9 ⟨rfl, hb9⟩
      exact ⟨_, rfl, rfl, hb9⟩
    · refine StepOk.run (o := ?o1) ?ho1 ?hg1 ?h1
      case ho1 => simp only [List.getElem?_toArray, List.getElem?_cons_succ, List.getElem?_cons_zero]; rfl
      case hg1 => rfl
      case h1 =>
      intro a W hS hB hd
      have e43 : a.tmps[43]? = some (.bool true) := (hd 0 rfl).bool rfl rfl rfl
      refine wp_value (c := .bool true) ?_ rfl
      go_simp
    · refine StepOk.on (o := ?o2) (g := 1) (u := true) ?ho2 ?hg2 rfl rfl ?hw2 rfl ?h2
      case ho2 => simp only [List.getElem?_toArray, List.getElem?_cons_succ, List.getElem?_cons_zero]; rfl
      case hg2 => rfl
      case hw2 => rfl
      case h2 =>
      intro a W hS hB hd
      have e7 : a.tmps[7]? = some (.int .i64 0) := hS.get rfl rfl
      refine wp_value (c := .int .i64 0) ?_ rfl
      go_simp
    · refine StepOk.on (o := ?o3) (g := 1) (u := true) ?ho3 ?hg3 rfl rfl ?hw3 rfl ?h3
      case ho3 => simp only [List.getElem?_toArray, List.getElem?_cons_succ, List.getElem?_cons_zero]; rfl
      case hg3 => rfl
      case hw3 => rfl
      case h3 =>
      intro a W hS hB hd
      have e45 : a.tmps[45]? = some (.int .i64 0) := (hd 2 rfl).bool rfl rfl rfl
      refine wp_value (c := .bool false) ?_ rfl
      go_simp
    · refine StepOk.on (o := ?o4) (g := 1) (u := true) ?ho4 ?hg4 rfl rfl ?hw4 rfl ?h4
      case ho4 => simp only [List.getElem?_toArray, List.getElem?_cons_succ, List.getElem?_cons_zero]; rfl
      case hg4 => rfl
      case hw4 => rfl
      case h4 =>
      intro a W hS hB hd
      have e46 : a.tmps[46]? = some (.bool false) := (hd 3 rfl).bool rfl rfl rfl
      refine wp_value (c := .bool false) ?_ rfl
      go_simp
    · refine StepOk.on (o := ?o5) (g := 4) (u := false) ?ho5 ?hg5 rfl rfl ?hw5 rfl ?h5
      case ho5 => simp only [List.getElem?_toArray, List.getElem?_cons_succ, List.getElem?_cons_zero]; rfl
      case hg5 => rfl
      case hw5 => rfl
      case h5 =>
      intro a W hS hB hd
      have e5 : a.tmps[5]? = some (.int .u64 (n : Int)) := hS.get rfl rfl
      refine wp_value (c := .int .u64 (n : Int)) ?_ rfl
      go_simp
    · refine StepOk.on (o := ?o6) (g := 4) (u := false) ?ho6 ?hg6 rfl rfl ?hw6 rfl ?h6
      case ho6 => simp only [List.getElem?_toArray, List.getElem?_cons_succ, List.getElem?_cons_zero]; rfl
      case hg6 => rfl
      case hw6 => rfl
      case h6 =>
      intro a W hS hB hd
      have e48 : a.tmps[48]? = some (.int .u64 (n : Int)) := (hd 5 rfl).bool rfl rfl rfl
      refine wp_called Try.func18 (by kernel_rfl) rfl #[.slice none 0 0, .int .u64 (n : Int)] rfl (by simp [Act.eval, *]) ?_
      refine (put_any none 0 [] n W (Kd.C_nil _ _) (Nat.le_refl _) (by decide) hn).mono ?_
      rintro e w9 ⟨v, rfl, ho9, hb9⟩
      obtain ⟨A9, c9, rfl⟩ := Kd.R_slice ho9
      exact ⟨_, rfl, ⟨A9, c9, rfl, (Kd.R_reads' ho9).2⟩, hb9⟩
    · refine StepOk.on (o := ?o7) (g := 4) (u := false) ?ho7 ?hg7 rfl rfl ?hw7 rfl ?h7
      case ho7 => simp only [List.getElem?_toArray, List.getElem?_cons_succ, List.getElem?_cons_zero]; rfl
      case hg7 => rfl
      case hw7 => rfl
      case h7 =>
      intro a W hS hB hd
      obtain ⟨u49, e49, p49⟩ := (hd 6 rfl).get rfl rfl
      replace p49 : (isC (Kd.int .u8) (ints (vb n))) u49 W := p49
      obtain ⟨A49, c49, rfl, hl49, hC49⟩ := p49
      refine wp_value (c := .string (strOfNums (ints (vb n)))) ?_ rfl
      have hcv := Kd.C_string (P := Try.prog) (A := A49) (c := c49) Try.underlying22 Try.underlying5 Try.underlying9 hC49
      go_simp
    · refine StepOk.on (o := ?o8) (g := 4) (u := false) ?ho8 ?hg8 rfl rfl ?hw8 rfl ?h8
      case ho8 => simp only [List.getElem?_toArray, List.getElem?_cons_succ, List.getElem?_cons_zero]; rfl
      case hg8 => rfl
      case hw8 => rfl
      case h8 =>
      intro a W hS hB hd
      have e0 : a.tmps[0]? = some (.slice A0 l.length c0) := hS.get rfl rfl
      refine wp_value (c := .slice A0 l.length c0) ?_ rfl
      go_simp
    · refine StepOk.on (o := ?o9) (g := 4) (u := false) ?ho9 ?hg9 rfl rfl ?hw9 rfl ?h9
      case ho9 => simp only [List.getElem?_toArray, List.getElem?_cons_succ, List.getElem?_cons_zero]; rfl
      case hg9 => rfl
      case hw9 => rfl
      case h9 =>
      intro a W hS hB hd
      have e1 : a.tmps[1]? = some (.int .i64 (lo : Int)) := hS.get rfl rfl
      refine wp_value (c := .int .i64 (lo : Int)) ?_ rfl
      go_simp
    · refine StepOk.on (o := ?o10) (g := 4) (u := false) ?ho10 ?hg10 rfl rfl ?hw10 rfl ?h10
      case ho10 => simp only [List.getElem?_toArray, List.getElem?_cons_succ, List.getElem?_cons_zero]; rfl
      case hg10 => rfl
      case hw10 => rfl
      case h10 =>
      intro a W hS hB hd
      have e6 : a.tmps[6]? = some (.int .i64 (hi : Int)) := hS.get rfl rfl
      refine wp_value (c := .int .i64 (hi : Int)) ?_ rfl
      go_simp
    · refine StepOk.on (o := ?o11) (g := 4) (u := false) ?ho11 ?hg11 rfl rfl ?hw11 rfl ?h11
      case ho11 => simp only [List.getElem?_toArray, List.getElem?_cons_succ, List.getElem?_cons_zero]; rfl
      case hg11 => rfl
      case hw11 => rfl
      case h11 =>
      intro a W hS hB hd
      have e51 : a.tmps[51]? = some (.slice A0 l.length c0) := (hd 8 rfl).bool rfl rfl rfl
      have e52 : a.tmps[52]? = some (.int .i64 (lo : Int)) := (hd 9 rfl).bool rfl rfl rfl
      have e53 : a.tmps[53]? = some (.int .i64 (hi : Int)) := (hd 10 rfl).bool rfl rfl rfl
      have hC := Kd.C_mid (lo := lo) (hi := hi) (c := c0) (Kd.C_below HC.out (hb2.trans (hB.mono hb2.size))) h1' h2' HL.out
      rw [HX.out] at hC
      refine wp_pred (c := .slice (if c0 = lo then A0 else A0.map (·.add (lo * 1))) (ints (vb n)).length (c0 - lo)) ?_ ⟨_, _, rfl, (by have := HN.out; have := HL.out; omega), hC⟩
      have h3 : hi ≤ c0 := by have := HL.out; omega
      rw [HN.out]
      go_simp
    · refine StepOk.on (o := ?o12) (g := 4) (u := false) ?ho12 ?hg12 rfl rfl ?hw12 rfl ?h12
      case ho12 => simp only [List.getElem?_toArray, List.getElem?_cons_succ, List.getElem?_cons_zero]; rfl
      case hg12 => rfl
      case hw12 => rfl
      case h12 =>
      intro a W hS hB hd
      obtain ⟨u54, e54, p54⟩ := (hd 11 rfl).get rfl rfl
      replace p54 : (isC (Kd.int .u8) (ints (vb n))) u54 W := p54
      obtain ⟨A54, c54, rfl, hl54, hC54⟩ := p54
      refine wp_value (c := .string (strOfNums (ints (vb n)))) ?_ rfl
      have hcv := Kd.C_string (P := Try.prog) (A := A54) (c := c54) Try.underlying22 Try.underlying5 Try.underlying9 hC54
      go_simp
    · refine StepOk.on (o := ?o13) (g := 4) (u := false) ?ho13 ?hg13 rfl rfl ?hw13 rfl ?h13
      case ho13 => simp only [List.getElem?_toArray, List.getElem?_cons_succ, List.getElem?_cons_zero]; rfl
      case hg13 => rfl
      case hw13 => rfl
      case h13 =>
      intro a W hS hB hd
      have e50 : a.tmps[50]? = some (.string (strOfNums (ints (vb n)))) := (hd 7 rfl).bool rfl rfl rfl
      have e55 : a.tmps[55]? = some (.string (strOfNums (ints (vb n)))) := (hd 12 rfl).bool rfl rfl rfl
      refine wp_value (c := .bool true) ?_ rfl
      go_simp
    · refine StepOk.on (o := ?o14) (g := 1) (u := true) ?ho14 ?hg14 rfl rfl ?hw14 rfl ?h14
      case ho14 => simp only [List.getElem?_toArray, List.getElem?_cons_succ, List.getElem?_cons_zero]; rfl
      case hg14 => rfl
      case hw14 => rfl
      case h14 =>
      intro a W hS hB hd
      have e47 : a.tmps[47]? = some (.bool false) := (hd 4 rfl).bool rfl rfl rfl
      have e56 : a.tmps[56]? = some (.bool true) := (hd 13 rfl).bool rfl rfl rfl
      refine wp_value (c := .bool true) ?_ rfl
      go_simp
    · refine StepOk.run (o := ?o15) ?ho15 ?hg15 ?h15
      case ho15 => simp only [List.getElem?_toArray, List.getElem?_cons_succ, List.getElem?_cons_zero]; rfl
      case hg15 => rfl
      case h15 =>
      intro a W hS hB hd
      have e44 : a.tmps[44]? = some (.bool true) := (hd 1 rfl).bool rfl rfl rfl
      have e57 : a.tmps[57]? = some (.bool true) := (hd 14 rfl).bool rfl rfl rfl
      refine wp_value (c := .bool true) ?_ rfl
      go_simp
    · refine StepOk.run (o := ?o16) ?ho16 ?hg16 ?h16
      case ho16 => simp only [List.getElem?_toArray, List.getElem?_cons_succ, List.getElem?_cons_zero]; rfl
      case hg16 => rfl
      case h16 =>
      intro a W hS hB hd
      have e58 : a.tmps[58]? = some (.bool true) := (hd 15 rfl).bool rfl rfl rfl
      refine wp_value (c := .bool true) ?_ rfl
      go_simp
  · intro a W hS hB hh
    go_wp2
    have hr := (hh 16 (by omega)).bool rfl rfl rfl
    exact bodyPost_ret (v := .bool true) (by simp [results, Try.results3, hr, go_sem]) hS.2.1 ⟨rfl, hb2.trans (hB.mono hb2.size)⟩
set_option maxHeartbeats 1000000 in
theorem gets_err (k : Nat) (A0 : Option Addr) (c0 : Nat) (l : List Int) (a ec : Int) (w : World) (hr0 : Kd.C (Kd.int .u8) w A0 l.length l) (hc0 : l.length ≤ c0) (hle : l.length ≤ 200)
    (hg : varint_Get.f k l a = some (0, 0, ec)) (hf : tephraref01_Get.f k (strOfNums l) a = some (0, 0, ec)) (he : (ec != 0) = true) :
    Calls Try.prog 3 #[.slice A0 l.length c0, .int .i64 a] w fun e w' => e = .returned (.bool true) ∧ Below w.heap.size w w' := by
  have HG := Lib.hid hg
  have HF := Lib.hid hf
  have HC := Lib.hid hr0
  have HL := Lib.hid hc0
  clear hg hf hr0 hc0
  have hd0 : decide (200 < (l.length : Int)) = false := decide_eq_false (by omega)
  go_enter Try.func3, Try.ntmps3
  go_wp2_with fail
  refine (varint_Get.calls k _ _ l a 0 0 ec _ HC.out HL.out HG.out).mono ?_
  rintro e w1 ⟨rfl, hd⟩
  have hb1 := hd.below
  clear hd
  have hcv := Kd.C_string (P := Try.prog) (A := A0) (c := c0) Try.underlying22 Try.underlying5 Try.underlying9 (Kd.C_below HC.out hb1)
  go_wp2_with fail
  refine (tephraref01_Get.calls k _ a 0 0 ec _ HF.out).mono ?_
  rintro e w2 ⟨rfl, hd⟩
  have hb2 := hb1.trans (hd.below.mono hb1.size)
  clear hd hcv hb1
  go_wp2_with fail
  refine region_calm (n := 17) (byList [isV (.bool true), isV (.bool true), isV (.int .i64 ec), isV (.bool true), isV (.bool true), isV (undef), isV (undef), isV (undef), isV (undef), isV (undef), isV (undef), isV (undef), isV (undef), isV (undef), isV (.bool true), isV (.bool true), isV (.bool true)]) (by kernel_rfl) rfl (byList_lasts ?_) (by kernel_rfl) (by kernel_rfl) (by kernel_rfl) (show AllLt 17 _ from ?_) ?_
  · intro p hp
    simp only [List.mem_cons, List.not_mem_nil, or_false] at hp
    rcases hp with rfl | rfl | rfl | rfl | rfl | rfl | rfl | rfl | rfl | rfl | rfl | rfl | rfl | rfl | rfl | rfl | rfl <;> first | exact isV_lasts | exact isC_lasts
  · refine allLt_succ (allLt_succ (allLt_succ (allLt_succ (allLt_succ (allLt_succ (allLt_succ (allLt_succ (allLt_succ (allLt_succ (allLt_succ (allLt_succ (allLt_succ (allLt_succ (allLt_succ (allLt_succ (allLt_succ (allLt_zero _) ?_) ?_) ?_) ?_) ?_) ?_) ?_) ?_) ?_) ?_) ?_) ?_) ?_) ?_) ?_) ?_) ?_
    · refine StepOk.run (o := ?o0) ?ho0 ?hg0 ?h0
      case ho0 => simp only [List.getElem?_toArray, List.getElem?_cons_succ, List.getElem?_cons_zero]; rfl
      case hg0 => rfl
      case h0 =>
      intro a W hS hB hd
      refine wp_called Try.func15 (by kernel_rfl) rfl #[] rfl (by simp [Act.eval, *]) ?_
      refine (tephralaw01_fixed.calls 30 true _ (fixed_is 30 (by decide))).mono ?_
      rintro e w9 ⟨rfl, hb9⟩
      exact ⟨_, rfl, rfl, hb9⟩
    · refine StepOk.run (o := ?o1) ?ho1 ?hg1 ?h1
      case ho1 => simp only [List.getElem?_toArray, List.getElem?_cons_succ, List.getElem?_cons_zero]; rfl
      case hg1 => rfl
      case h1 =>
      intro a W hS hB hd
      have e43 : a.tmps[43]? = some (.bool true) := (hd 0 rfl).bool rfl rfl rfl
      refine wp_value (c := .bool true) ?_ rfl
      go_simp
    · refine StepOk.on (o := ?o2) (g := 1) (u := true) ?ho2 ?hg2 rfl rfl ?hw2 rfl ?h2
      case ho2 => simp only [List.getElem?_toArray, List.getElem?_cons_succ, List.getElem?_cons_zero]; rfl
      case hg2 => rfl
      case hw2 => rfl
      case h2 =>
      intro a W hS hB hd
      have e7 : a.tmps[7]? = some (.int .i64 ec) := hS.get rfl rfl
      refine wp_value (c := .int .i64 ec) ?_ rfl
      go_simp
    · refine StepOk.on (o := ?o3) (g := 1) (u := true) ?ho3 ?hg3 rfl rfl ?hw3 rfl ?h3
      case ho3 => simp only [List.getElem?_toArray, List.getElem?_cons_succ, List.getElem?_cons_zero]; rfl
      case hg3 => rfl
      case hw3 => rfl
      case h3 =>
      intro a W hS hB hd
      have e45 : a.tmps[45]? = some (.int .i64 ec) := (hd 2 rfl).bool rfl rfl rfl
      refine wp_value (c := .bool true) ?_ rfl
      go_simp
    · refine StepOk.on (o := ?o4) (g := 1) (u := true) ?ho4 ?hg4 rfl rfl ?hw4 rfl ?h4
      case ho4 => simp only [List.getElem?_toArray, List.getElem?_cons_succ, List.getElem?_cons_zero]; rfl
      case hg4 => rfl
      case hw4 => rfl
      case h4 =>
      intro a W hS hB hd
      have e46 : a.tmps[46]? = some (.bool true) := (hd 3 rfl).bool rfl rfl rfl
      refine wp_value (c := .bool true) ?_ rfl
      go_simp
    · refine StepOk.off (o := ?o5) (g := 4) (u := false) ?ho5 ?hg5 rfl rfl ?hw5 rfl rfl
      case ho5 => simp only [List.getElem?_toArray, List.getElem?_cons_succ, List.getElem?_cons_zero]; rfl
      case hg5 => rfl
      case hw5 => rfl
    · refine StepOk.off (o := ?o6) (g := 4) (u := false) ?ho6 ?hg6 rfl rfl ?hw6 rfl rfl
      case ho6 => simp only [List.getElem?_toArray, List.getElem?_cons_succ, List.getElem?_cons_zero]; rfl
      case hg6 => rfl
      case hw6 => rfl
    · refine StepOk.off (o := ?o7) (g := 4) (u := false) ?ho7 ?hg7 rfl rfl ?hw7 rfl rfl
      case ho7 => simp only [List.getElem?_toArray, List.getElem?_cons_succ, List.getElem?_cons_zero]; rfl
      case hg7 => rfl
      case hw7 => rfl
    · refine StepOk.off (o := ?o8) (g := 4) (u := false) ?ho8 ?hg8 rfl rfl ?hw8 rfl rfl
      case ho8 => simp only [List.getElem?_toArray, List.getElem?_cons_succ, List.getElem?_cons_zero]; rfl
      case hg8 => rfl
      case hw8 => rfl
    · refine StepOk.off (o := ?o9) (g := 4) (u := false) ?ho9 ?hg9 rfl rfl ?hw9 rfl rfl
      case ho9 => simp only [List.getElem?_toArray, List.getElem?_cons_succ, List.getElem?_cons_zero]; rfl
      case hg9 => rfl
      case hw9 => rfl
    · refine StepOk.off (o := ?o10) (g := 4) (u := false) ?ho10 ?hg10 rfl rfl ?hw10 rfl rfl
      case ho10 => simp only [List.getElem?_toArray, List.getElem?_cons_succ, List.getElem?_cons_zero]; rfl
      case hg10 => rfl
      case hw10 => rfl
    · refine StepOk.off (o := ?o11) (g := 4) (u := false) ?ho11 ?hg11 rfl rfl ?hw11 rfl rfl
      case ho11 => simp only [List.getElem?_toArray, List.getElem?_cons_succ, List.getElem?_cons_zero]; rfl
      case hg11 => rfl
      case hw11 => rfl
    · refine StepOk.off (o := ?o12) (g := 4) (u := false) ?ho12 ?hg12 rfl rfl ?hw12 rfl rfl
      case ho12 => simp only [List.getElem?_toArray, List.getElem?_cons_succ, List.getElem?_cons_zero]; rfl
      case hg12 => rfl
      case hw12 => rfl
    · refine StepOk.off (o := ?o13) (g := 4) (u := false) ?ho13 ?hg13 rfl rfl ?hw13 rfl rfl
      case ho13 => simp only [List.getElem?_toArray, List.getElem?_cons_succ, List.getElem?_cons_zero]; rfl
      case hg13 => rfl
      case hw13 => rfl
    · refine StepOk.on (o := ?o14) (g := 1) (u := true) ?ho14 ?hg14 rfl rfl ?hw14 rfl ?h14
      case ho14 => simp only [List.getElem?_toArray, List.getElem?_cons_succ, List.getElem?_cons_zero]; rfl
      case hg14 => rfl
      case hw14 => rfl
      case h14 =>
      intro a W hS hB hd
      have e47 : a.tmps[47]? = some (.bool true) := (hd 4 rfl).bool rfl rfl rfl
      have e56 : a.tmps[56]? = some (undef) := (hd 13 rfl).bool rfl rfl rfl
      refine wp_value (c := .bool true) ?_ rfl
      go_simp
    · refine StepOk.run (o := ?o15) ?ho15 ?hg15 ?h15
      case ho15 => simp only [List.getElem?_toArray, List.getElem?_cons_succ, List.getElem?_cons_zero]; rfl
      case hg15 => rfl
      case h15 =>
      intro a W hS hB hd
      have e44 : a.tmps[44]? = some (.bool true) := (hd 1 rfl).bool rfl rfl rfl
      have e57 : a.tmps[57]? = some (.bool true) := (hd 14 rfl).bool rfl rfl rfl
      refine wp_value (c := .bool true) ?_ rfl
      go_simp
    · refine StepOk.run (o := ?o16) ?ho16 ?hg16 ?h16
      case ho16 => simp only [List.getElem?_toArray, List.getElem?_cons_succ, List.getElem?_cons_zero]; rfl
      case hg16 => rfl
      case h16 =>
      intro a W hS hB hd
      have e58 : a.tmps[58]? = some (.bool true) := (hd 15 rfl).bool rfl rfl rfl
      refine wp_value (c := .bool true) ?_ rfl
      go_simp
  · intro a W hS hB hh
    go_wp2
    have hr := (hh 16 (by omega)).bool rfl rfl rfl
    exact bodyPost_ret (v := .bool true) (by simp [results, Try.results3, hr, go_sem]) hS.2.1 ⟨rfl, hb2.trans (hB.mono hb2.size)⟩
set_option maxHeartbeats 400000 in
theorem gets_great (A0 : Option Addr) (c0 : Nat) (l : List Int) (a : Int) (w : World) (hle : 200 < (l.length : Int)) (hm : l.length ≤ 9223372036854775807) :
    Calls Try.prog 3 #[.slice A0 l.length c0, .int .i64 a] w fun e w' => e = .returned (.bool true) ∧ Below w.heap.size w w' := by
  go_enter Try.func3, Try.ntmps3
  have hd : decide (200 < (l.length : Int)) = true := decide_eq_true hle
  go_wp2_with (go_at_call 15; refine (tephralaw01_fixed.calls 30 true _ (fixed_is 30 (by decide))).mono ?_; rintro e w1 ⟨rfl, hb⟩)
  go_ret
  exact ⟨rfl, hb⟩
theorem walk (a0 : Option Addr) (len0 cap0 : Nat) (z0 : List Int) (a1 : Int) (w : World) (w0 : (a0 = none ∧ len0 = 0 ∧ cap0 = 0 ∧ z0 = []) ∨ ∃ x, a0 = some x ∧ len0 ≤ cap0 ∧ cap0 ≤ maxLen ∧ z0.length = cap0 ∧ (∀ i, i < z0.length → w.cell? (x.add i) = some (.int .u8 (z0.getD i 0))) ∧ ∀ n ∈ z0, (Lit.int .u8 n).wf = true) (y0 : len0 * 1 ≤ 140737488351232) (w1 : (Lit.int .i64 a1).wf = true) :
    Calls Try.prog 3 #[.slice a0 len0 cap0, .int .i64 a1] w fun e w' => e = .returned (.bool true) ∧ Below w.heap.size w w' := by
  obtain ⟨l, rfl, hr, hm, hb, hc⟩ := ReadsInt.ofRowC w0
  have hr := Kd.C_of_reads (d := (0 : Int)) (h1 := fun _ => rfl) hr
  have hb := bytes_of_wf hb
  by_cases hle : 200 < (l.length : Int)
  · exact gets_great a0 cap0 l a1 w hle (by have := hr.2.1; omega)
  · have h1 := get_is l hb (by omega) a1 30 (by decide)
    have h2 := ref_is l hb (by omega) a1 30 (by decide)
    unfold getS at h1 h2
    split at h1
    · rename_i h
      rw [if_pos h] at h2
      exact gets_err 30 a0 cap0 l a1 1 w hr hc (by omega) h1 h2 rfl
    · rename_i h
      rw [if_neg h] at h2
      obtain ⟨lo, hlo⟩ : ∃ lo : Nat, a1 = (lo : Int) := ⟨a1.toNat, by omega⟩
      subst hlo
      rw [Int.toNat_natCast] at h1 h2
      obtain ⟨⟨n, c, ec⟩, hd⟩ : ∃ d, dec 10 0 0 ((nats l).drop lo) = d := ⟨_, rfl⟩
      rw [hd] at h1 h2
      unfold outS at h1 h2
      have hbn : ∀ x ∈ (nats l).drop lo, x < 256 := by
        intro x hx
        have := List.mem_of_mem_drop hx
        simp only [nats, List.mem_map] at this
        obtain ⟨y, hy, rfl⟩ := this
        have := hb y hy
        omega
      by_cases he : ec = 0
      · subst he
        rw [if_pos rfl] at h1 h2
        obtain ⟨ht, hcl, hcp⟩ := vb_of_dec0 _ n c hbn hd
        have hn := dec_lt 10 0 0 _ n c rfl (by simp) hbn hd
        rw [List.length_drop] at hcl
        have hln : (nats l).length = l.length := by simp [nats]
        refine gets_ok 30 a0 cap0 l lo (lo + c) n w hr hc (by omega) h1 h2 (by omega) (by omega) ?_ hn
        rw [← ht]
        have hl : ints (nats l) = l := by
          unfold ints nats
          rw [List.map_map]
          conv => rhs; rw [← List.map_id l]
          apply List.map_congr_left
          intro x hx
          have := hb x hx
          simp; omega
        conv => lhs; rw [← hl]
        rw [List.drop_take, show lo + c - lo = c by omega]
        simp [ints]
      · rw [if_neg he] at h1 h2
        exact gets_err 30 a0 cap0 l lo ec w hr hc (by omega) h1 h2 (by simp; omega)
end Go.Proofs.Ythojcapdbjmneaa.WVarintGets
