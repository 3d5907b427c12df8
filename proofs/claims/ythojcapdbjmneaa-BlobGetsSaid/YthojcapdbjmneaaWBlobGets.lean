/- What is read of bytes at a place is what the reference reads, and Put makes the same bytes: the law BlobGets returns true, and writes nothing that was there. -/
import Derived.Test.YthojcapdbjmneaaBlob3
set_option linter.unusedVariables false
set_option linter.unusedSimpArgs false
namespace Go.Proofs.Ythojcapdbjmneaa.WBlobGets
open Go.RowKit Go.Proofs.Ythojcapdbjmneaa.GVB Go.Proofs.YthojcapdbjmneaaW.PrintWords

set_option maxHeartbeats 1000000 in
theorem gets_ok (A0 : Option Addr) (c0 : Nat) (l : List Int) (lo hi : Nat) (sv : ByteArray) (lim : Int) (w : World) (hr0 : Kd.C (Kd.int .u8) w A0 l.length l) (hc0 : l.length ≤ c0) (hle : l.length ≤ 300)
    (hb : ∀ x ∈ l, 0 ≤ x ∧ x < 256) (hlim : -9223372036854775808 ≤ lim ∧ lim ≤ 9223372036854775807)
    (hg : bgetS l (lo : Int) lim = (sv, (hi : Int), 0)) (h1' : lo ≤ hi) (h2' : hi ≤ l.length) (hx : (l.take hi).drop lo = blob sv) :
    Calls Try.prog 8 #[.slice A0 l.length c0, .int .i64 (lo : Int), .int .i64 lim] w fun e w' => e = .returned (.bool true) ∧ Below w.heap.size w w' := by
  have HN := Lib.hid (show (blob sv).length = hi - lo by rw [← hx]; simp; omega)
  have HZ := Lib.hid (show ([] : List Int).length + (blob sv).length ≤ 140737488355000 by rw [HN.out]; simp; omega)
  have HX := Lib.hid hx
  have HC := Lib.hid hr0
  have HL := Lib.hid hc0
  have HG := Lib.hid (fun W h => bget_any A0 c0 l lim W (lo : Int) h hc0 hb (by omega) hlim)
  have HF := Lib.hid (fun W => bref_any l lim W (lo : Int) hb (by omega) hlim)
  rw [hg] at HG HF
  clear hg hx hr0 hc0 hb
  have hd0 : decide (300 < (l.length : Int)) = false := decide_eq_false (by omega)
  go_enter Try.func8, Try.ntmps8
  go_wp2_with fail
  refine (HG.out _ HC.out).mono ?_
  rintro e w1 ⟨rfl, hb1⟩
  have hcv := Kd.C_string (P := Try.prog) (A := A0) (c := c0) Try.underlying22 Try.underlying5 Try.underlying9 (Kd.C_below HC.out hb1)
  go_wp2_with fail
  refine (HF.out _).mono ?_
  rintro e w2 ⟨rfl, hb2⟩
  have hb2 := hb1.trans (hb2.mono hb1.size)
  clear hcv hb1
  go_wp2_with fail
  refine region_calm (n := 17) (byList [isV (.bool true), isV (.bool true), isV (.int .i64 0), isV (.bool false), isV (.bool false), isV (.string sv), (isC (Kd.int .u8) (blob sv)), isV (.string (strOfNums (blob sv))), isV (.slice A0 l.length c0), isV (.int .i64 (lo : Int)), isV (.int .i64 (hi : Int)), (isC (Kd.int .u8) (blob sv)), isV (.string (strOfNums (blob sv))), isV (.bool true), isV (.bool true), isV (.bool true), isV (.bool true)]) (by kernel_rfl) rfl (byList_lasts ?_) (by kernel_rfl) (by kernel_rfl) (by kernel_rfl) (show AllLt 17 _ from ?_) ?_
  · intro p hp
    simp only [List.mem_cons, List.not_mem_nil, or_false] at hp
    rcases hp with rfl | rfl | rfl | rfl | rfl | rfl | rfl | rfl | rfl | rfl | rfl | rfl | rfl | rfl | rfl | rfl | rfl <;> first | exact isV_lasts | exact isC_lasts
  · refine allLt_succ (allLt_succ (allLt_succ (allLt_succ (allLt_succ (allLt_succ (allLt_succ (allLt_succ (allLt_succ (allLt_succ (allLt_succ (allLt_succ (allLt_succ (allLt_succ (allLt_succ (allLt_succ (allLt_succ (allLt_zero _) ?_) ?_) ?_) ?_) ?_) ?_) ?_) ?_) ?_) ?_) ?_) ?_) ?_) ?_) ?_) ?_) ?_
    · refine StepOk.run (o := ?o0) ?ho0 ?hg0 ?h0
      case ho0 => simp only [List.getElem?_toArray, List.getElem?_cons_succ, List.getElem?_cons_zero]; rfl
      case hg0 => rfl
      case h0 =>
      intro a W hS hB hd
      refine wp_called Try.func21 (by kernel_rfl) rfl #[] rfl (by simp [Act.eval, *]) ?_
      refine (fixed2_any _).mono ?_
      rintro e w9 ⟨rfl, hb9⟩
      exact ⟨_, rfl, rfl, hb9⟩
    · refine StepOk.run (o := ?o1) ?ho1 ?hg1 ?h1
      case ho1 => simp only [List.getElem?_toArray, List.getElem?_cons_succ, List.getElem?_cons_zero]; rfl
      case hg1 => rfl
      case h1 =>
      intro a W hS hB hd
      have e47 : a.tmps[47]? = some (.bool true) := (hd 0 rfl).bool rfl rfl rfl
      refine wp_value (c := .bool true) ?_ rfl
      go_simp
    · refine StepOk.on (o := ?o2) (g := 1) (u := true) ?ho2 ?hg2 rfl rfl ?hw2 rfl ?h2
      case ho2 => simp only [List.getElem?_toArray, List.getElem?_cons_succ, List.getElem?_cons_zero]; rfl
      case hg2 => rfl
      case hw2 => rfl
      case h2 =>
      intro a W hS hB hd
      have e9 : a.tmps[9]? = some (.int .i64 0) := hS.get rfl rfl
      refine wp_value (c := .int .i64 0) ?_ rfl
      go_simp
    · refine StepOk.on (o := ?o3) (g := 1) (u := true) ?ho3 ?hg3 rfl rfl ?hw3 rfl ?h3
      case ho3 => simp only [List.getElem?_toArray, List.getElem?_cons_succ, List.getElem?_cons_zero]; rfl
      case hg3 => rfl
      case hw3 => rfl
      case h3 =>
      intro a W hS hB hd
      have e49 : a.tmps[49]? = some (.int .i64 0) := (hd 2 rfl).bool rfl rfl rfl
      refine wp_value (c := .bool false) ?_ rfl
      go_simp
    · refine StepOk.on (o := ?o4) (g := 1) (u := true) ?ho4 ?hg4 rfl rfl ?hw4 rfl ?h4
      case ho4 => simp only [List.getElem?_toArray, List.getElem?_cons_succ, List.getElem?_cons_zero]; rfl
      case hg4 => rfl
      case hw4 => rfl
      case h4 =>
      intro a W hS hB hd
      have e50 : a.tmps[50]? = some (.bool false) := (hd 3 rfl).bool rfl rfl rfl
      refine wp_value (c := .bool false) ?_ rfl
      go_simp
    · refine StepOk.on (o := ?o5) (g := 4) (u := false) ?ho5 ?hg5 rfl rfl ?hw5 rfl ?h5
      case ho5 => simp only [List.getElem?_toArray, List.getElem?_cons_succ, List.getElem?_cons_zero]; rfl
      case hg5 => rfl
      case hw5 => rfl
      case h5 =>
      intro a W hS hB hd
      have e7 : a.tmps[7]? = some (.string sv) := hS.get rfl rfl
      refine wp_value (c := .string sv) ?_ rfl
      go_simp
    · refine StepOk.on (o := ?o6) (g := 4) (u := false) ?ho6 ?hg6 rfl rfl ?hw6 rfl ?h6
      case ho6 => simp only [List.getElem?_toArray, List.getElem?_cons_succ, List.getElem?_cons_zero]; rfl
      case hg6 => rfl
      case hw6 => rfl
      case h6 =>
      intro a W hS hB hd
      have e52 : a.tmps[52]? = some (.string sv) := (hd 5 rfl).bool rfl rfl rfl
      refine wp_called Try.func22 (by kernel_rfl) rfl #[.slice none 0 0, .string sv] rfl (by simp [Act.eval, *]) ?_
      refine (bput_any none 0 [] sv W (Kd.C_nil _ _) (Nat.le_refl _) HZ.out).mono ?_
      rintro e w9 ⟨v, rfl, ho9, hb9⟩
      obtain ⟨A9, c9, rfl⟩ := Kd.R_slice ho9
      exact ⟨_, rfl, ⟨A9, c9, rfl, (Kd.R_reads' ho9).2⟩, hb9⟩
    · refine StepOk.on (o := ?o7) (g := 4) (u := false) ?ho7 ?hg7 rfl rfl ?hw7 rfl ?h7
      case ho7 => simp only [List.getElem?_toArray, List.getElem?_cons_succ, List.getElem?_cons_zero]; rfl
      case hg7 => rfl
      case hw7 => rfl
      case h7 =>
      intro a W hS hB hd
      obtain ⟨u53, e53, p53⟩ := (hd 6 rfl).get rfl rfl
      replace p53 : (isC (Kd.int .u8) (blob sv)) u53 W := p53
      obtain ⟨A53, c53, rfl, hl53, hC53⟩ := p53
      refine wp_value (c := .string (strOfNums (blob sv))) ?_ rfl
      have hcv := Kd.C_string (P := Try.prog) (A := A53) (c := c53) Try.underlying22 Try.underlying5 Try.underlying9 hC53
      go_simp
    · refine StepOk.on (o := ?o8) (g := 4) (u := false) ?ho8 ?hg8 rfl rfl ?hw8 rfl ?h8
      case ho8 => simp only [List.getElem?_toArray, List.getElem?_cons_succ, List.getElem?_cons_zero]; rfl
      case hg8 => rfl
      case hw8 => rfl
      case h8 =>
      intro a W hS hB hd
      have e0 : a.tmps[0]? = some (.slice A0 l.length c0) := hS.get rfl rfl
      refine wp_value (c := .slice A0 l.length c0) ?_ rfl
      go_simp
    · refine StepOk.on (o := ?o9) (g := 4) (u := false) ?ho9 ?hg9 rfl rfl ?hw9 rfl ?h9
      case ho9 => simp only [List.getElem?_toArray, List.getElem?_cons_succ, List.getElem?_cons_zero]; rfl
      case hg9 => rfl
      case hw9 => rfl
      case h9 =>
      intro a W hS hB hd
      have e1 : a.tmps[1]? = some (.int .i64 (lo : Int)) := hS.get rfl rfl
      refine wp_value (c := .int .i64 (lo : Int)) ?_ rfl
      go_simp
    · refine StepOk.on (o := ?o10) (g := 4) (u := false) ?ho10 ?hg10 rfl rfl ?hw10 rfl ?h10
      case ho10 => simp only [List.getElem?_toArray, List.getElem?_cons_succ, List.getElem?_cons_zero]; rfl
      case hg10 => rfl
      case hw10 => rfl
      case h10 =>
      intro a W hS hB hd
      have e8 : a.tmps[8]? = some (.int .i64 (hi : Int)) := hS.get rfl rfl
      refine wp_value (c := .int .i64 (hi : Int)) ?_ rfl
      go_simp
    · refine StepOk.on (o := ?o11) (g := 4) (u := false) ?ho11 ?hg11 rfl rfl ?hw11 rfl ?h11
      case ho11 => simp only [List.getElem?_toArray, List.getElem?_cons_succ, List.getElem?_cons_zero]; rfl
      case hg11 => rfl
      case hw11 => rfl
      case h11 =>
      intro a W hS hB hd
      have e55 : a.tmps[55]? = some (.slice A0 l.length c0) := (hd 8 rfl).bool rfl rfl rfl
      have e56 : a.tmps[56]? = some (.int .i64 (lo : Int)) := (hd 9 rfl).bool rfl rfl rfl
      have e57 : a.tmps[57]? = some (.int .i64 (hi : Int)) := (hd 10 rfl).bool rfl rfl rfl
      have hC := Kd.C_mid (lo := lo) (hi := hi) (c := c0) (Kd.C_below HC.out (hb2.trans (hB.mono hb2.size))) h1' h2' HL.out
      rw [HX.out] at hC
      refine wp_pred (c := .slice (if c0 = lo then A0 else A0.map (·.add (lo * 1))) (blob sv).length (c0 - lo)) ?_ ⟨_, _, rfl, (by have := HN.out; have := HL.out; omega), hC⟩
      have h3 : hi ≤ c0 := by have := HL.out; omega
      rw [HN.out]
      go_simp
    · refine StepOk.on (o := ?o12) (g := 4) (u := false) ?ho12 ?hg12 rfl rfl ?hw12 rfl ?h12
      case ho12 => simp only [List.getElem?_toArray, List.getElem?_cons_succ, List.getElem?_cons_zero]; rfl
      case hg12 => rfl
      case hw12 => rfl
      case h12 =>
      intro a W hS hB hd
      obtain ⟨u58, e58, p58⟩ := (hd 11 rfl).get rfl rfl
      replace p58 : (isC (Kd.int .u8) (blob sv)) u58 W := p58
      obtain ⟨A58, c58, rfl, hl58, hC58⟩ := p58
      refine wp_value (c := .string (strOfNums (blob sv))) ?_ rfl
      have hcv := Kd.C_string (P := Try.prog) (A := A58) (c := c58) Try.underlying22 Try.underlying5 Try.underlying9 hC58
      go_simp
    · refine StepOk.on (o := ?o13) (g := 4) (u := false) ?ho13 ?hg13 rfl rfl ?hw13 rfl ?h13
      case ho13 => simp only [List.getElem?_toArray, List.getElem?_cons_succ, List.getElem?_cons_zero]; rfl
      case hg13 => rfl
      case hw13 => rfl
      case h13 =>
      intro a W hS hB hd
      have e54 : a.tmps[54]? = some (.string (strOfNums (blob sv))) := (hd 7 rfl).bool rfl rfl rfl
      have e59 : a.tmps[59]? = some (.string (strOfNums (blob sv))) := (hd 12 rfl).bool rfl rfl rfl
      refine wp_value (c := .bool true) ?_ rfl
      go_simp
    · refine StepOk.on (o := ?o14) (g := 1) (u := true) ?ho14 ?hg14 rfl rfl ?hw14 rfl ?h14
      case ho14 => simp only [List.getElem?_toArray, List.getElem?_cons_succ, List.getElem?_cons_zero]; rfl
      case hg14 => rfl
      case hw14 => rfl
      case h14 =>
      intro a W hS hB hd
      have e51 : a.tmps[51]? = some (.bool false) := (hd 4 rfl).bool rfl rfl rfl
      have e60 : a.tmps[60]? = some (.bool true) := (hd 13 rfl).bool rfl rfl rfl
      refine wp_value (c := .bool true) ?_ rfl
      go_simp
    · refine StepOk.run (o := ?o15) ?ho15 ?hg15 ?h15
      case ho15 => simp only [List.getElem?_toArray, List.getElem?_cons_succ, List.getElem?_cons_zero]; rfl
      case hg15 => rfl
      case h15 =>
      intro a W hS hB hd
      have e48 : a.tmps[48]? = some (.bool true) := (hd 1 rfl).bool rfl rfl rfl
      have e61 : a.tmps[61]? = some (.bool true) := (hd 14 rfl).bool rfl rfl rfl
      refine wp_value (c := .bool true) ?_ rfl
      go_simp
    · refine StepOk.run (o := ?o16) ?ho16 ?hg16 ?h16
      case ho16 => simp only [List.getElem?_toArray, List.getElem?_cons_succ, List.getElem?_cons_zero]; rfl
      case hg16 => rfl
      case h16 =>
      intro a W hS hB hd
      have e62 : a.tmps[62]? = some (.bool true) := (hd 15 rfl).bool rfl rfl rfl
      refine wp_value (c := .bool true) ?_ rfl
      go_simp
  · intro a W hS hB hh
    go_wp2
    have hr := (hh 16 (by omega)).bool rfl rfl rfl
    exact bodyPost_ret (v := .bool true) (by simp [results, Try.results8, hr, go_sem]) hS.2.1 ⟨rfl, hb2.trans (hB.mono hb2.size)⟩
set_option maxHeartbeats 1000000 in
theorem gets_err (A0 : Option Addr) (c0 : Nat) (l : List Int) (a lim ec : Int) (w : World) (hr0 : Kd.C (Kd.int .u8) w A0 l.length l) (hc0 : l.length ≤ c0) (hle : l.length ≤ 300)
    (hb : ∀ x ∈ l, 0 ≤ x ∧ x < 256) (hlim : -9223372036854775808 ≤ lim ∧ lim ≤ 9223372036854775807)
    (hg : bgetS l a lim = (⟨#[]⟩, 0, ec)) (he : (ec != 0) = true) :
    Calls Try.prog 8 #[.slice A0 l.length c0, .int .i64 a, .int .i64 lim] w fun e w' => e = .returned (.bool true) ∧ Below w.heap.size w w' := by
  have HC := Lib.hid hr0
  have HL := Lib.hid hc0
  have HG := Lib.hid (fun W h => bget_any A0 c0 l lim W a h hc0 hb (by omega) hlim)
  have HF := Lib.hid (fun W => bref_any l lim W a hb (by omega) hlim)
  rw [hg] at HG HF
  clear hg hr0 hc0 hb
  have hd0 : decide (300 < (l.length : Int)) = false := decide_eq_false (by omega)
  go_enter Try.func8, Try.ntmps8
  go_wp2_with fail
  refine (HG.out _ HC.out).mono ?_
  rintro e w1 ⟨rfl, hb1⟩
  have hcv := Kd.C_string (P := Try.prog) (A := A0) (c := c0) Try.underlying22 Try.underlying5 Try.underlying9 (Kd.C_below HC.out hb1)
  go_wp2_with fail
  refine (HF.out _).mono ?_
  rintro e w2 ⟨rfl, hb2⟩
  have hb2 := hb1.trans (hb2.mono hb1.size)
  clear hcv hb1
  go_wp2_with fail
  refine region_calm (n := 17) (byList [isV (.bool true), isV (.bool true), isV (.int .i64 ec), isV (.bool true), isV (.bool true), isV (undef), isV (undef), isV (undef), isV (undef), isV (undef), isV (undef), isV (undef), isV (undef), isV (undef), isV (.bool true), isV (.bool true), isV (.bool true)]) (by kernel_rfl) rfl (byList_lasts ?_) (by kernel_rfl) (by kernel_rfl) (by kernel_rfl) (show AllLt 17 _ from ?_) ?_
  · intro p hp
    simp only [List.mem_cons, List.not_mem_nil, or_false] at hp
    rcases hp with rfl | rfl | rfl | rfl | rfl | rfl | rfl | rfl | rfl | rfl | rfl | rfl | rfl | rfl | rfl | rfl | rfl <;> first | exact isV_lasts | exact isC_lasts
  · refine allLt_succ (allLt_succ (allLt_succ (allLt_succ (allLt_succ (allLt_succ (allLt_succ (allLt_succ (allLt_succ (allLt_succ (allLt_succ (allLt_succ (allLt_succ (allLt_succ (allLt_succ (allLt_succ (allLt_succ (allLt_zero _) ?_) ?_) ?_) ?_) ?_) ?_) ?_) ?_) ?_) ?_) ?_) ?_) ?_) ?_) ?_) ?_) ?_
    · refine StepOk.run (o := ?o0) ?ho0 ?hg0 ?h0
      case ho0 => simp only [List.getElem?_toArray, List.getElem?_cons_succ, List.getElem?_cons_zero]; rfl
      case hg0 => rfl
      case h0 =>
      intro a W hS hB hd
      refine wp_called Try.func21 (by kernel_rfl) rfl #[] rfl (by simp [Act.eval, *]) ?_
      refine (fixed2_any _).mono ?_
      rintro e w9 ⟨rfl, hb9⟩
      exact ⟨_, rfl, rfl, hb9⟩
    · refine StepOk.run (o := ?o1) ?ho1 ?hg1 ?h1
      case ho1 => simp only [List.getElem?_toArray, List.getElem?_cons_succ, List.getElem?_cons_zero]; rfl
      case hg1 => rfl
      case h1 =>
      intro a W hS hB hd
      have e47 : a.tmps[47]? = some (.bool true) := (hd 0 rfl).bool rfl rfl rfl
      refine wp_value (c := .bool true) ?_ rfl
      go_simp
    · refine StepOk.on (o := ?o2) (g := 1) (u := true) ?ho2 ?hg2 rfl rfl ?hw2 rfl ?h2
      case ho2 => simp only [List.getElem?_toArray, List.getElem?_cons_succ, List.getElem?_cons_zero]; rfl
      case hg2 => rfl
      case hw2 => rfl
      case h2 =>
      intro a W hS hB hd
      have e9 : a.tmps[9]? = some (.int .i64 ec) := hS.get rfl rfl
      refine wp_value (c := .int .i64 ec) ?_ rfl
      go_simp
    · refine StepOk.on (o := ?o3) (g := 1) (u := true) ?ho3 ?hg3 rfl rfl ?hw3 rfl ?h3
      case ho3 => simp only [List.getElem?_toArray, List.getElem?_cons_succ, List.getElem?_cons_zero]; rfl
      case hg3 => rfl
      case hw3 => rfl
      case h3 =>
      intro a W hS hB hd
      have e49 : a.tmps[49]? = some (.int .i64 ec) := (hd 2 rfl).bool rfl rfl rfl
      refine wp_value (c := .bool true) ?_ rfl
      go_simp
    · refine StepOk.on (o := ?o4) (g := 1) (u := true) ?ho4 ?hg4 rfl rfl ?hw4 rfl ?h4
      case ho4 => simp only [List.getElem?_toArray, List.getElem?_cons_succ, List.getElem?_cons_zero]; rfl
      case hg4 => rfl
      case hw4 => rfl
      case h4 =>
      intro a W hS hB hd
      have e50 : a.tmps[50]? = some (.bool true) := (hd 3 rfl).bool rfl rfl rfl
      refine wp_value (c := .bool true) ?_ rfl
      go_simp
    · refine StepOk.off (o := ?o5) (g := 4) (u := false) ?ho5 ?hg5 rfl rfl ?hw5 rfl rfl
      case ho5 => simp only [List.getElem?_toArray, List.getElem?_cons_succ, List.getElem?_cons_zero]; rfl
      case hg5 => rfl
      case hw5 => rfl
    · refine StepOk.off (o := ?o6) (g := 4) (u := false) ?ho6 ?hg6 rfl rfl ?hw6 rfl rfl
      case ho6 => simp only [List.getElem?_toArray, List.getElem?_cons_succ, List.getElem?_cons_zero]; rfl
      case hg6 => rfl
      case hw6 => rfl
    · refine StepOk.off (o := ?o7) (g := 4) (u := false) ?ho7 ?hg7 rfl rfl ?hw7 rfl rfl
      case ho7 => simp only [List.getElem?_toArray, List.getElem?_cons_succ, List.getElem?_cons_zero]; rfl
      case hg7 => rfl
      case hw7 => rfl
    · refine StepOk.off (o := ?o8) (g := 4) (u := false) ?ho8 ?hg8 rfl rfl ?hw8 rfl rfl
      case ho8 => simp only [List.getElem?_toArray, List.getElem?_cons_succ, List.getElem?_cons_zero]; rfl
      case hg8 => rfl
      case hw8 => rfl
    · refine StepOk.off (o := ?o9) (g := 4) (u := false) ?ho9 ?hg9 rfl rfl ?hw9 rfl rfl
      case ho9 => simp only [List.getElem?_toArray, List.getElem?_cons_succ, List.getElem?_cons_zero]; rfl
      case hg9 => rfl
      case hw9 => rfl
    · refine StepOk.off (o := ?o10) (g := 4) (u := false) ?ho10 ?hg10 rfl rfl ?hw10 rfl rfl
      case ho10 => simp only [List.getElem?_toArray, List.getElem?_cons_succ, List.getElem?_cons_zero]; rfl
      case hg10 => rfl
      case hw10 => rfl
    · refine StepOk.off (o := ?o11) (g := 4) (u := false) ?ho11 ?hg11 rfl rfl ?hw11 rfl rfl
      case ho11 => simp only [List.getElem?_toArray, List.getElem?_cons_succ, List.getElem?_cons_zero]; rfl
      case hg11 => rfl
      case hw11 => rfl
    · refine StepOk.off (o := ?o12) (g := 4) (u := false) ?ho12 ?hg12 rfl rfl ?hw12 rfl rfl
      case ho12 => simp only [List.getElem?_toArray, List.getElem?_cons_succ, List.getElem?_cons_zero]; rfl
      case hg12 => rfl
      case hw12 => rfl
    · refine StepOk.off (o := ?o13) (g := 4) (u := false) ?ho13 ?hg13 rfl rfl ?hw13 rfl rfl
      case ho13 => simp only [List.getElem?_toArray, List.getElem?_cons_succ, List.getElem?_cons_zero]; rfl
      case hg13 => rfl
      case hw13 => rfl
    · refine StepOk.on (o := ?o14) (g := 1) (u := true) ?ho14 ?hg14 rfl rfl ?hw14 rfl ?h14
      case ho14 => simp only [List.getElem?_toArray, List.getElem?_cons_succ, List.getElem?_cons_zero]; rfl
      case hg14 => rfl
      case hw14 => rfl
      case h14 =>
      intro a W hS hB hd
      have e51 : a.tmps[51]? = some (.bool true) := (hd 4 rfl).bool rfl rfl rfl
      have e60 : a.tmps[60]? = some (undef) := (hd 13 rfl).bool rfl rfl rfl
      refine wp_value (c := .bool true) ?_ rfl
      go_simp
    · refine StepOk.run (o := ?o15) ?ho15 ?hg15 ?h15
      case ho15 => simp only [List.getElem?_toArray, List.getElem?_cons_succ, List.getElem?_cons_zero]; rfl
      case hg15 => rfl
      case h15 =>
      intro a W hS hB hd
      have e48 : a.tmps[48]? = some (.bool true) := (hd 1 rfl).bool rfl rfl rfl
      have e61 : a.tmps[61]? = some (.bool true) := (hd 14 rfl).bool rfl rfl rfl
      refine wp_value (c := .bool true) ?_ rfl
      go_simp
    · refine StepOk.run (o := ?o16) ?ho16 ?hg16 ?h16
      case ho16 => simp only [List.getElem?_toArray, List.getElem?_cons_succ, List.getElem?_cons_zero]; rfl
      case hg16 => rfl
      case h16 =>
      intro a W hS hB hd
      have e62 : a.tmps[62]? = some (.bool true) := (hd 15 rfl).bool rfl rfl rfl
      refine wp_value (c := .bool true) ?_ rfl
      go_simp
  · intro a W hS hB hh
    go_wp2
    have hr := (hh 16 (by omega)).bool rfl rfl rfl
    exact bodyPost_ret (v := .bool true) (by simp [results, Try.results8, hr, go_sem]) hS.2.1 ⟨rfl, hb2.trans (hB.mono hb2.size)⟩
set_option maxHeartbeats 400000 in
theorem gets_great (A0 : Option Addr) (c0 : Nat) (l : List Int) (a lim : Int) (w : World) (hle : 300 < (l.length : Int)) (hm : l.length ≤ 9223372036854775807) :
    Calls Try.prog 8 #[.slice A0 l.length c0, .int .i64 a, .int .i64 lim] w fun e w' => e = .returned (.bool true) ∧ Below w.heap.size w w' := by
  go_enter Try.func8, Try.ntmps8
  have hd : decide (300 < (l.length : Int)) = true := decide_eq_true hle
  go_wp2_with (go_at_call 21; refine (fixed2_any _).mono ?_; rintro e w1 ⟨rfl, hb⟩)
  go_ret
  exact ⟨rfl, hb⟩
theorem bytesOf_str (l : List Int) (hb : ∀ x ∈ l, 0 ≤ x ∧ x < 256) : bytesOf (strOfNums l) = l := by
  unfold bytesOf
  rw [strOfNums_data, List.map_map]
  conv => rhs; rw [← List.map_id l]
  apply List.map_congr_left
  intro x hx
  have := hb x hx
  simp; omega
theorem walk (a0 : Option Addr) (len0 cap0 : Nat) (z0 : List Int) (a1 : Int) (a2 : Int) (w : World) (w0 : (a0 = none ∧ len0 = 0 ∧ cap0 = 0 ∧ z0 = []) ∨ ∃ x, a0 = some x ∧ len0 ≤ cap0 ∧ cap0 ≤ maxLen ∧ z0.length = cap0 ∧ (∀ i, i < z0.length → w.cell? (x.add i) = some (.int .u8 (z0.getD i 0))) ∧ ∀ n ∈ z0, (Lit.int .u8 n).wf = true) (y0 : len0 * 1 ≤ 140737488351232) (w1 : (Lit.int .i64 a1).wf = true) (w2 : (Lit.int .i64 a2).wf = true) :
    Calls Try.prog 8 #[.slice a0 len0 cap0, .int .i64 a1, .int .i64 a2] w fun e w' => e = .returned (.bool true) ∧ Below w.heap.size w w' := by
  obtain ⟨l, rfl, hr, hm, hb, hc⟩ := ReadsInt.ofRowC w0
  have hr := Kd.C_of_reads (d := (0 : Int)) (h1 := fun _ => rfl) hr
  have hb := bytes_of_wf hb
  have hlim : -9223372036854775808 ≤ a2 ∧ a2 ≤ 9223372036854775807 := by simp [Lit.wf, IntKind.min, IntKind.max, IntKind.signed, IntKind.bits] at w2; omega
  by_cases hle : 300 < (l.length : Int)
  · exact gets_great a0 cap0 l a1 a2 w hle (by have := hr.2.1; omega)
  · rcases getS_cases l hb a1 with ⟨ec, h1, h2⟩ | ⟨lo, n, p, ha, h1, h2, h3, h4, h5⟩
    · have e : bgetS l a1 a2 = (⟨#[]⟩, 0, ec) := by
        unfold bgetS
        rw [h1, if_pos (by show ec ≠ 0; omega)]
      exact gets_err a0 cap0 l a1 a2 ec w hr hc (by omega) hb hlim e (by simp; omega)
    · subst ha
      by_cases c5 : (if a2 < 0 then 0 else a2) < (n : Int)
      · have e : bgetS l lo a2 = (⟨#[]⟩, 0, 5) := by
          unfold bgetS
          rw [h1, if_neg (by simp), if_pos c5]
        exact gets_err a0 cap0 l lo a2 5 w hr hc (by omega) hb hlim e rfl
      · by_cases c2 : (l.length : Int) - (p : Int) < (n : Int)
        · have e : bgetS l lo a2 = (⟨#[]⟩, 0, 2) := by
            unfold bgetS
            rw [h1, if_neg (by simp), if_neg c5, if_pos c2]
          exact gets_err a0 cap0 l lo a2 2 w hr hc (by omega) hb hlim e rfl
        · have e : bgetS l lo a2 = (strOfNums ((l.take (p + n)).drop p), ((p + n : Nat) : Int), 0) := by
            unfold bgetS
            rw [h1, if_neg (by simp), if_neg c5, if_neg c2]
            simp
          refine gets_ok a0 cap0 l lo (p + n) _ a2 w hr hc (by omega) hb hlim e (by omega) (by omega) ?_
          have hmem : ∀ x ∈ (l.take (p + n)).drop p, 0 ≤ x ∧ x < 256 := fun x hx => hb x (List.mem_of_mem_take (List.mem_of_mem_drop hx))
          unfold blob
          rw [bytesOf_str _ hmem, strOfNums_size, show ((l.take (p + n)).drop p).length = n by simp; omega, ← h5]
          have e1 : l.take (p + n) = l.take p ++ (l.drop p).take n := List.take_add
          have e2 : (l.take (p + n)).drop p = (l.drop p).take n := by rw [List.drop_take]; congr 1; omega
          rw [e2, e1, List.drop_append_of_le_length (by simp; omega)]
end Go.Proofs.Ythojcapdbjmneaa.WBlobGets
