/- What Put appends is the document's bytes, they are read back, Size is their count: the law VarintPuts returns true, and writes nothing that was there. -/
import Derived.Test.YthojcapdbjmneaaVarQ
set_option linter.unusedVariables false
set_option linter.unusedSimpArgs false
namespace Go.Proofs.Ythojcapdbjmneaa.WVarintPuts
open Go.RowKit Go.Proofs.Ythojcapdbjmneaa.GVB Go.Proofs.YthojcapdbjmneaaW.PrintWords

set_option maxHeartbeats 2000000 in
set_option maxRecDepth 100000 in
theorem puts_main (A0 : Option Addr) (c0 : Nat) (l : List Int) (m : Nat) (w : World) (hr0 : Kd.C (Kd.int .u8) w A0 l.length l) (hc0 : l.length ≤ c0) (hle : l.length ≤ 200)
    (hb : ∀ x ∈ l, 0 ≤ x ∧ x < 256) (hm : m < 18446744073709551616) :
    Calls Try.prog 5 #[.slice A0 l.length c0, .int .u64 (m : Int)] w fun e w' => e = .returned (.bool true) ∧ Below w.heap.size w w' := by
  have hv := vb_len10 m hm
  obtain ⟨r, HRD⟩ : ∃ r, Hid (l ++ ints (vb m) = r) := ⟨_, rfl⟩
  have hrl : r.length = l.length + (vb m).length := by rw [← HRD.out, List.length_append]; simp [ints]
  have HSL := Lib.hid (show (strOfNums (ints (vb m))).size = (vb m).length by rw [strOfNums_size]; simp [ints])
  have HSR := Lib.hid (show strOfNums r = strOfNums l ++ strOfNums (ints (vb m)) by rw [← HRD.out, strOfNums_app])
  have HSZ := Lib.hid (show (strOfNums l).size + (strOfNums (ints (vb m))).size ≤ 9223372036854775807 by rw [HSL.out, strOfNums_size]; omega)
  have HZ := Lib.hid (show varint_Size.f (m : Int) = some ((vb m).length : Int) by rw [size_is _ ⟨by omega, by omega⟩, Int.toNat_natCast])
  have hbr : ∀ x ∈ r, 0 ≤ x ∧ x < 256 := by
    rw [← HRD.out]
    intro x hx
    rcases List.mem_append.1 hx with hx | hx
    · exact hb x hx
    · exact ints_bytes _ (vb_bytes m hm) x hx
  have HG := Lib.hid (show varint_Get.f 30 r (l.length : Int) = some ((m : Int), (r.length : Int), 0) by
    rw [get_is r hbr (by omega) _ 30 (by decide)]
    unfold getS
    rw [if_neg (by omega), Int.toNat_natCast, ← HRD.out]
    have : (nats (l ++ ints (vb m))).drop l.length = vb m ++ [] := by
      have e : nats (l ++ ints (vb m)) = nats l ++ nats (ints (vb m)) := by simp [nats]
      rw [e, nats_ints, List.append_nil, show l.length = (nats l).length by simp [nats], List.drop_left]
    rw [this, dec_vb0 m [] (by omega)]
    unfold outS
    rw [if_pos rfl, List.length_append]
    simp [ints])
  have HC := Lib.hid hr0
  have HL := Lib.hid hc0
  have hrl2 : r.length ≤ 210 := by omega
  have HRL := Lib.hid hrl
  clear hr0 hc0 hbr hb hrl
  have hd0 : decide (200 < (l.length : Int)) = false := decide_eq_false (by omega)
  have hcv := Kd.C_string (P := Try.prog) (A := A0) (c := c0) Try.underlying22 Try.underlying5 Try.underlying9 HC.out
  go_enter Try.func5, Try.ntmps5
  go_wp2_with fail
  clear hcv
  refine (put_any A0 c0 l m _ HC.out HL.out (by omega) hm).mono ?_
  rintro e w1 ⟨v1, rfl, ho, hb1⟩
  rw [HRD.out] at ho
  obtain ⟨A6, c6, rfl⟩ := Kd.R_slice ho
  have HO := Lib.hid (Kd.R_reads' ho)
  clear ho
  go_wp2_with fail
  refine (varint_Get.calls 30 _ _ r l.length m r.length 0 _ HO.out.2.2 HO.out.2.1 HG.out).mono ?_
  rintro e w2 ⟨rfl, hd⟩
  have HR := Lib.hid (Kd.C_below HO.out.2.2 hd.below)
  have hb2 := hb1.trans (hd.below.mono hb1.size)
  clear hd hb1
  go_wp2_with fail
  refine region_calm (n := 40) (byList [isV (.bool true), isV (.bool true), isV (.slice A6 r.length c6), isV (.string (strOfNums r)), isV (.string (strOfNums l)), isV (.int .u64 (m : Int)), isV (.string (strOfNums (ints (vb m)))), isV (.string (strOfNums r)), isV (.bool true), isV (.bool true), isV (.bool true), isV (.int .u64 (m : Int)), isV (.int .i64 ((vb m).length : Int)), isV (.int .u64 (m : Int)), isV (.string (strOfNums (ints (vb m)))), isV (.int .i64 ((vb m).length : Int)), isV (.bool true), isV (.bool true), isV (.bool true), isV (.int .u64 (m : Int)), isV (.int .u64 (m : Int)), isV (.bool true), isV (.bool true), isV (.bool true), isV (.int .i64 (r.length : Int)), isV (.slice A6 r.length c6), isV (.int .i64 (r.length : Int)), isV (.bool true), isV (.bool true), isV (.bool true), isV (.int .i64 0), isV (.bool true), isV (.bool true), isV (.bool true), isV (.slice A0 l.length c0), isV (.string (strOfNums l)), isV (.string (strOfNums l)), isV (.bool true), isV (.bool true), isV (.bool true)]) (by kernel_rfl) rfl (byList_lasts ?_) (by kernel_rfl) (by kernel_rfl) (by kernel_rfl) (show AllLt 40 _ from ?_) ?_
  · intro p hp
    simp only [List.mem_cons, List.not_mem_nil, or_false] at hp
    rcases hp with rfl | rfl | rfl | rfl | rfl | rfl | rfl | rfl | rfl | rfl | rfl | rfl | rfl | rfl | rfl | rfl | rfl | rfl | rfl | rfl | rfl | rfl | rfl | rfl | rfl | rfl | rfl | rfl | rfl | rfl | rfl | rfl | rfl | rfl | rfl | rfl | rfl | rfl | rfl | rfl <;> first | exact isV_lasts | exact isC_lasts
  · refine allLt_succ (allLt_succ (allLt_succ (allLt_succ (allLt_succ (allLt_succ (allLt_succ (allLt_succ (allLt_succ (allLt_succ (allLt_succ (allLt_succ (allLt_succ (allLt_succ (allLt_succ (allLt_succ (allLt_succ (allLt_succ (allLt_succ (allLt_succ (allLt_succ (allLt_succ (allLt_succ (allLt_succ (allLt_succ (allLt_succ (allLt_succ (allLt_succ (allLt_succ (allLt_succ (allLt_succ (allLt_succ (allLt_succ (allLt_succ (allLt_succ (allLt_succ (allLt_succ (allLt_succ (allLt_succ (allLt_succ (allLt_zero _) ?_) ?_) ?_) ?_) ?_) ?_) ?_) ?_) ?_) ?_) ?_) ?_) ?_) ?_) ?_) ?_) ?_) ?_) ?_) ?_) ?_) ?_) ?_) ?_) ?_) ?_) ?_) ?_) ?_) ?_) ?_) ?_) ?_) ?_) ?_) ?_) ?_) ?_) ?_) ?_
    · refine StepOk.run (o := ?o0) ?ho0 ?hg0 ?h0
      case ho0 => simp only [List.getElem?_toArray, List.getElem?_cons_succ, List.getElem?_cons_zero]; rfl
      case hg0 => rfl
      case h0 =>
      intro a W hS hB hd
      refine wp_called Try.func15 (by kernel_rfl) rfl #[] rfl (by simp [Act.eval, *]) ?_
      refine (tephralaw01_fixed.calls 30 true _ (fixed_is 30 (by decide))).mono ?_
      rintro e w9 ⟨rfl, hb9⟩
      exact ⟨_, rfl, rfl, hb9⟩
    · refine StepOk.run (o := ?o1) ?ho1 ?hg1 ?h1
      case ho1 => simp only [List.getElem?_toArray, List.getElem?_cons_succ, List.getElem?_cons_zero]; rfl
      case hg1 => rfl
      case h1 =>
      intro a W hS hB hd
      have e27 : a.tmps[27]? = some (.bool true) := (hd 0 rfl).bool rfl rfl rfl
      refine wp_value (c := .bool true) ?_ rfl
      go_simp
    · refine StepOk.on (o := ?o2) (g := 1) (u := true) ?ho2 ?hg2 rfl rfl ?hw2 rfl ?h2
      case ho2 => simp only [List.getElem?_toArray, List.getElem?_cons_succ, List.getElem?_cons_zero]; rfl
      case hg2 => rfl
      case hw2 => rfl
      case h2 =>
      intro a W hS hB hd
      have e6 : a.tmps[6]? = some (.slice A6 r.length c6) := hS.get rfl rfl
      refine wp_value (c := .slice A6 r.length c6) ?_ rfl
      go_simp
    · refine StepOk.on (o := ?o3) (g := 1) (u := true) ?ho3 ?hg3 rfl rfl ?hw3 rfl ?h3
      case ho3 => simp only [List.getElem?_toArray, List.getElem?_cons_succ, List.getElem?_cons_zero]; rfl
      case hg3 => rfl
      case hw3 => rfl
      case h3 =>
      intro a W hS hB hd
      have e29 : a.tmps[29]? = some (.slice A6 r.length c6) := (hd 2 rfl).bool rfl rfl rfl
      refine wp_value (c := .string (strOfNums r)) ?_ rfl
      have hcv := Kd.C_string (P := Try.prog) (A := A6) (c := c6) Try.underlying22 Try.underlying5 Try.underlying9 (Kd.C_below HR.out hB)
      go_simp
    · refine StepOk.on (o := ?o4) (g := 1) (u := true) ?ho4 ?hg4 rfl rfl ?hw4 rfl ?h4
      case ho4 => simp only [List.getElem?_toArray, List.getElem?_cons_succ, List.getElem?_cons_zero]; rfl
      case hg4 => rfl
      case hw4 => rfl
      case h4 =>
      intro a W hS hB hd
      have e5 : a.tmps[5]? = some (.string (strOfNums l)) := hS.get rfl rfl
      refine wp_value (c := .string (strOfNums l)) ?_ rfl
      go_simp
    · refine StepOk.on (o := ?o5) (g := 1) (u := true) ?ho5 ?hg5 rfl rfl ?hw5 rfl ?h5
      case ho5 => simp only [List.getElem?_toArray, List.getElem?_cons_succ, List.getElem?_cons_zero]; rfl
      case hg5 => rfl
      case hw5 => rfl
      case h5 =>
      intro a W hS hB hd
      have e1 : a.tmps[1]? = some (.int .u64 (m : Int)) := hS.get rfl rfl
      refine wp_value (c := .int .u64 (m : Int)) ?_ rfl
      go_simp
    · refine StepOk.on (o := ?o6) (g := 1) (u := true) ?ho6 ?hg6 rfl rfl ?hw6 rfl ?h6
      case ho6 => simp only [List.getElem?_toArray, List.getElem?_cons_succ, List.getElem?_cons_zero]; rfl
      case hg6 => rfl
      case hw6 => rfl
      case h6 =>
      intro a W hS hB hd
      have e32 : a.tmps[32]? = some (.int .u64 (m : Int)) := (hd 5 rfl).bool rfl rfl rfl
      refine wp_called Try.func19 (by kernel_rfl) rfl #[.int .u64 (m : Int)] rfl (by simp [Act.eval, *]) ?_
      refine (refput_any m hm W).mono ?_
      rintro e w9 ⟨rfl, hb9⟩
      exact ⟨_, rfl, rfl, hb9⟩
    · refine StepOk.on (o := ?o7) (g := 1) (u := true) ?ho7 ?hg7 rfl rfl ?hw7 rfl ?h7
      case ho7 => simp only [List.getElem?_toArray, List.getElem?_cons_succ, List.getElem?_cons_zero]; rfl
      case hg7 => rfl
      case hw7 => rfl
      case h7 =>
      intro a W hS hB hd
      have e31 : a.tmps[31]? = some (.string (strOfNums l)) := (hd 4 rfl).bool rfl rfl rfl
      have e33 : a.tmps[33]? = some (.string (strOfNums (ints (vb m)))) := (hd 6 rfl).bool rfl rfl rfl
      refine wp_value (c := .string (strOfNums r)) ?_ rfl
      have hsz := HSZ.out
      rw [HSR.out]
      go_simp
    · refine StepOk.on (o := ?o8) (g := 1) (u := true) ?ho8 ?hg8 rfl rfl ?hw8 rfl ?h8
      case ho8 => simp only [List.getElem?_toArray, List.getElem?_cons_succ, List.getElem?_cons_zero]; rfl
      case hg8 => rfl
      case hw8 => rfl
      case h8 =>
      intro a W hS hB hd
      have e30 : a.tmps[30]? = some (.string (strOfNums r)) := (hd 3 rfl).bool rfl rfl rfl
      have e34 : a.tmps[34]? = some (.string (strOfNums r)) := (hd 7 rfl).bool rfl rfl rfl
      refine wp_value (c := .bool true) ?_ rfl
      go_simp
    · refine StepOk.run (o := ?o9) ?ho9 ?hg9 ?h9
      case ho9 => simp only [List.getElem?_toArray, List.getElem?_cons_succ, List.getElem?_cons_zero]; rfl
      case hg9 => rfl
      case h9 =>
      intro a W hS hB hd
      have e28 : a.tmps[28]? = some (.bool true) := (hd 1 rfl).bool rfl rfl rfl
      have e35 : a.tmps[35]? = some (.bool true) := (hd 8 rfl).bool rfl rfl rfl
      refine wp_value (c := .bool true) ?_ rfl
      go_simp
    · refine StepOk.run (o := ?o10) ?ho10 ?hg10 ?h10
      case ho10 => simp only [List.getElem?_toArray, List.getElem?_cons_succ, List.getElem?_cons_zero]; rfl
      case hg10 => rfl
      case h10 =>
      intro a W hS hB hd
      have e36 : a.tmps[36]? = some (.bool true) := (hd 9 rfl).bool rfl rfl rfl
      refine wp_value (c := .bool true) ?_ rfl
      go_simp
    · refine StepOk.on (o := ?o11) (g := 10) (u := true) ?ho11 ?hg11 rfl rfl ?hw11 rfl ?h11
      case ho11 => simp only [List.getElem?_toArray, List.getElem?_cons_succ, List.getElem?_cons_zero]; rfl
      case hg11 => rfl
      case hw11 => rfl
      case h11 =>
      intro a W hS hB hd
      have e1 : a.tmps[1]? = some (.int .u64 (m : Int)) := hS.get rfl rfl
      refine wp_value (c := .int .u64 (m : Int)) ?_ rfl
      go_simp
    · refine StepOk.on (o := ?o12) (g := 10) (u := true) ?ho12 ?hg12 rfl rfl ?hw12 rfl ?h12
      case ho12 => simp only [List.getElem?_toArray, List.getElem?_cons_succ, List.getElem?_cons_zero]; rfl
      case hg12 => rfl
      case hw12 => rfl
      case h12 =>
      intro a W hS hB hd
      have e38 : a.tmps[38]? = some (.int .u64 (m : Int)) := (hd 11 rfl).bool rfl rfl rfl
      refine wp_called Try.func20 (by kernel_rfl) rfl #[.int .u64 (m : Int)] rfl (by simp [Act.eval, *]) ?_
      refine (varint_Size.calls m _ W HZ.out).mono ?_
      rintro e w9 ⟨rfl, hb9⟩
      exact ⟨_, rfl, rfl, hb9⟩
    · refine StepOk.on (o := ?o13) (g := 10) (u := true) ?ho13 ?hg13 rfl rfl ?hw13 rfl ?h13
      case ho13 => simp only [List.getElem?_toArray, List.getElem?_cons_succ, List.getElem?_cons_zero]; rfl
      case hg13 => rfl
      case hw13 => rfl
      case h13 =>
      intro a W hS hB hd
      have e1 : a.tmps[1]? = some (.int .u64 (m : Int)) := hS.get rfl rfl
      refine wp_value (c := .int .u64 (m : Int)) ?_ rfl
      go_simp
    · refine StepOk.on (o := ?o14) (g := 10) (u := true) ?ho14 ?hg14 rfl rfl ?hw14 rfl ?h14
      case ho14 => simp only [List.getElem?_toArray, List.getElem?_cons_succ, List.getElem?_cons_zero]; rfl
      case hg14 => rfl
      case hw14 => rfl
      case h14 =>
      intro a W hS hB hd
      have e40 : a.tmps[40]? = some (.int .u64 (m : Int)) := (hd 13 rfl).bool rfl rfl rfl
      refine wp_called Try.func19 (by kernel_rfl) rfl #[.int .u64 (m : Int)] rfl (by simp [Act.eval, *]) ?_
      refine (refput_any m hm W).mono ?_
      rintro e w9 ⟨rfl, hb9⟩
      exact ⟨_, rfl, rfl, hb9⟩
    · refine StepOk.on (o := ?o15) (g := 10) (u := true) ?ho15 ?hg15 rfl rfl ?hw15 rfl ?h15
      case ho15 => simp only [List.getElem?_toArray, List.getElem?_cons_succ, List.getElem?_cons_zero]; rfl
      case hg15 => rfl
      case hw15 => rfl
      case h15 =>
      intro a W hS hB hd
      have e41 : a.tmps[41]? = some (.string (strOfNums (ints (vb m)))) := (hd 14 rfl).bool rfl rfl rfl
      refine wp_value (c := .int .i64 ((vb m).length : Int)) ?_ rfl
      rw [← HSL.out]
      go_simp
    · refine StepOk.on (o := ?o16) (g := 10) (u := true) ?ho16 ?hg16 rfl rfl ?hw16 rfl ?h16
      case ho16 => simp only [List.getElem?_toArray, List.getElem?_cons_succ, List.getElem?_cons_zero]; rfl
      case hg16 => rfl
      case hw16 => rfl
      case h16 =>
      intro a W hS hB hd
      have e39 : a.tmps[39]? = some (.int .i64 ((vb m).length : Int)) := (hd 12 rfl).bool rfl rfl rfl
      have e42 : a.tmps[42]? = some (.int .i64 ((vb m).length : Int)) := (hd 15 rfl).bool rfl rfl rfl
      refine wp_value (c := .bool true) ?_ rfl
      go_simp
    · refine StepOk.run (o := ?o17) ?ho17 ?hg17 ?h17
      case ho17 => simp only [List.getElem?_toArray, List.getElem?_cons_succ, List.getElem?_cons_zero]; rfl
      case hg17 => rfl
      case h17 =>
      intro a W hS hB hd
      have e37 : a.tmps[37]? = some (.bool true) := (hd 10 rfl).bool rfl rfl rfl
      have e43 : a.tmps[43]? = some (.bool true) := (hd 16 rfl).bool rfl rfl rfl
      refine wp_value (c := .bool true) ?_ rfl
      go_simp
    · refine StepOk.run (o := ?o18) ?ho18 ?hg18 ?h18
      case ho18 => simp only [List.getElem?_toArray, List.getElem?_cons_succ, List.getElem?_cons_zero]; rfl
      case hg18 => rfl
      case h18 =>
      intro a W hS hB hd
      have e44 : a.tmps[44]? = some (.bool true) := (hd 17 rfl).bool rfl rfl rfl
      refine wp_value (c := .bool true) ?_ rfl
      go_simp
    · refine StepOk.on (o := ?o19) (g := 18) (u := true) ?ho19 ?hg19 rfl rfl ?hw19 rfl ?h19
      case ho19 => simp only [List.getElem?_toArray, List.getElem?_cons_succ, List.getElem?_cons_zero]; rfl
      case hg19 => rfl
      case hw19 => rfl
      case h19 =>
      intro a W hS hB hd
      have e7 : a.tmps[7]? = some (.int .u64 (m : Int)) := hS.get rfl rfl
      refine wp_value (c := .int .u64 (m : Int)) ?_ rfl
      go_simp
    · refine StepOk.on (o := ?o20) (g := 18) (u := true) ?ho20 ?hg20 rfl rfl ?hw20 rfl ?h20
      case ho20 => simp only [List.getElem?_toArray, List.getElem?_cons_succ, List.getElem?_cons_zero]; rfl
      case hg20 => rfl
      case hw20 => rfl
      case h20 =>
      intro a W hS hB hd
      have e1 : a.tmps[1]? = some (.int .u64 (m : Int)) := hS.get rfl rfl
      refine wp_value (c := .int .u64 (m : Int)) ?_ rfl
      go_simp
    · refine StepOk.on (o := ?o21) (g := 18) (u := true) ?ho21 ?hg21 rfl rfl ?hw21 rfl ?h21
      case ho21 => simp only [List.getElem?_toArray, List.getElem?_cons_succ, List.getElem?_cons_zero]; rfl
      case hg21 => rfl
      case hw21 => rfl
      case h21 =>
      intro a W hS hB hd
      have e46 : a.tmps[46]? = some (.int .u64 (m : Int)) := (hd 19 rfl).bool rfl rfl rfl
      have e47 : a.tmps[47]? = some (.int .u64 (m : Int)) := (hd 20 rfl).bool rfl rfl rfl
      refine wp_value (c := .bool true) ?_ rfl
      go_simp
    · refine StepOk.run (o := ?o22) ?ho22 ?hg22 ?h22
      case ho22 => simp only [List.getElem?_toArray, List.getElem?_cons_succ, List.getElem?_cons_zero]; rfl
      case hg22 => rfl
      case h22 =>
      intro a W hS hB hd
      have e45 : a.tmps[45]? = some (.bool true) := (hd 18 rfl).bool rfl rfl rfl
      have e48 : a.tmps[48]? = some (.bool true) := (hd 21 rfl).bool rfl rfl rfl
      refine wp_value (c := .bool true) ?_ rfl
      go_simp
    · refine StepOk.run (o := ?o23) ?ho23 ?hg23 ?h23
      case ho23 => simp only [List.getElem?_toArray, List.getElem?_cons_succ, List.getElem?_cons_zero]; rfl
      case hg23 => rfl
      case h23 =>
      intro a W hS hB hd
      have e49 : a.tmps[49]? = some (.bool true) := (hd 22 rfl).bool rfl rfl rfl
      refine wp_value (c := .bool true) ?_ rfl
      go_simp
    · refine StepOk.on (o := ?o24) (g := 23) (u := true) ?ho24 ?hg24 rfl rfl ?hw24 rfl ?h24
      case ho24 => simp only [List.getElem?_toArray, List.getElem?_cons_succ, List.getElem?_cons_zero]; rfl
      case hg24 => rfl
      case hw24 => rfl
      case h24 =>
      intro a W hS hB hd
      have e8 : a.tmps[8]? = some (.int .i64 (r.length : Int)) := hS.get rfl rfl
      refine wp_value (c := .int .i64 (r.length : Int)) ?_ rfl
      go_simp
    · refine StepOk.on (o := ?o25) (g := 23) (u := true) ?ho25 ?hg25 rfl rfl ?hw25 rfl ?h25
      case ho25 => simp only [List.getElem?_toArray, List.getElem?_cons_succ, List.getElem?_cons_zero]; rfl
      case hg25 => rfl
      case hw25 => rfl
      case h25 =>
      intro a W hS hB hd
      have e6 : a.tmps[6]? = some (.slice A6 r.length c6) := hS.get rfl rfl
      refine wp_value (c := .slice A6 r.length c6) ?_ rfl
      go_simp
    · refine StepOk.on (o := ?o26) (g := 23) (u := true) ?ho26 ?hg26 rfl rfl ?hw26 rfl ?h26
      case ho26 => simp only [List.getElem?_toArray, List.getElem?_cons_succ, List.getElem?_cons_zero]; rfl
      case hg26 => rfl
      case hw26 => rfl
      case h26 =>
      intro a W hS hB hd
      have e52 : a.tmps[52]? = some (.slice A6 r.length c6) := (hd 25 rfl).bool rfl rfl rfl
      refine wp_value (c := .int .i64 (r.length : Int)) ?_ rfl
      go_simp
    · refine StepOk.on (o := ?o27) (g := 23) (u := true) ?ho27 ?hg27 rfl rfl ?hw27 rfl ?h27
      case ho27 => simp only [List.getElem?_toArray, List.getElem?_cons_succ, List.getElem?_cons_zero]; rfl
      case hg27 => rfl
      case hw27 => rfl
      case h27 =>
      intro a W hS hB hd
      have e51 : a.tmps[51]? = some (.int .i64 (r.length : Int)) := (hd 24 rfl).bool rfl rfl rfl
      have e53 : a.tmps[53]? = some (.int .i64 (r.length : Int)) := (hd 26 rfl).bool rfl rfl rfl
      refine wp_value (c := .bool true) ?_ rfl
      go_simp
    · refine StepOk.run (o := ?o28) ?ho28 ?hg28 ?h28
      case ho28 => simp only [List.getElem?_toArray, List.getElem?_cons_succ, List.getElem?_cons_zero]; rfl
      case hg28 => rfl
      case h28 =>
      intro a W hS hB hd
      have e50 : a.tmps[50]? = some (.bool true) := (hd 23 rfl).bool rfl rfl rfl
      have e54 : a.tmps[54]? = some (.bool true) := (hd 27 rfl).bool rfl rfl rfl
      refine wp_value (c := .bool true) ?_ rfl
      go_simp
    · refine StepOk.run (o := ?o29) ?ho29 ?hg29 ?h29
      case ho29 => simp only [List.getElem?_toArray, List.getElem?_cons_succ, List.getElem?_cons_zero]; rfl
      case hg29 => rfl
      case h29 =>
      intro a W hS hB hd
      have e55 : a.tmps[55]? = some (.bool true) := (hd 28 rfl).bool rfl rfl rfl
      refine wp_value (c := .bool true) ?_ rfl
      go_simp
    · refine StepOk.on (o := ?o30) (g := 29) (u := true) ?ho30 ?hg30 rfl rfl ?hw30 rfl ?h30
      case ho30 => simp only [List.getElem?_toArray, List.getElem?_cons_succ, List.getElem?_cons_zero]; rfl
      case hg30 => rfl
      case hw30 => rfl
      case h30 =>
      intro a W hS hB hd
      have e9 : a.tmps[9]? = some (.int .i64 0) := hS.get rfl rfl
      refine wp_value (c := .int .i64 0) ?_ rfl
      go_simp
    · refine StepOk.on (o := ?o31) (g := 29) (u := true) ?ho31 ?hg31 rfl rfl ?hw31 rfl ?h31
      case ho31 => simp only [List.getElem?_toArray, List.getElem?_cons_succ, List.getElem?_cons_zero]; rfl
      case hg31 => rfl
      case hw31 => rfl
      case h31 =>
      intro a W hS hB hd
      have e57 : a.tmps[57]? = some (.int .i64 0) := (hd 30 rfl).bool rfl rfl rfl
      refine wp_value (c := .bool true) ?_ rfl
      go_simp
    · refine StepOk.run (o := ?o32) ?ho32 ?hg32 ?h32
      case ho32 => simp only [List.getElem?_toArray, List.getElem?_cons_succ, List.getElem?_cons_zero]; rfl
      case hg32 => rfl
      case h32 =>
      intro a W hS hB hd
      have e56 : a.tmps[56]? = some (.bool true) := (hd 29 rfl).bool rfl rfl rfl
      have e58 : a.tmps[58]? = some (.bool true) := (hd 31 rfl).bool rfl rfl rfl
      refine wp_value (c := .bool true) ?_ rfl
      go_simp
    · refine StepOk.run (o := ?o33) ?ho33 ?hg33 ?h33
      case ho33 => simp only [List.getElem?_toArray, List.getElem?_cons_succ, List.getElem?_cons_zero]; rfl
      case hg33 => rfl
      case h33 =>
      intro a W hS hB hd
      have e59 : a.tmps[59]? = some (.bool true) := (hd 32 rfl).bool rfl rfl rfl
      refine wp_value (c := .bool true) ?_ rfl
      go_simp
    · refine StepOk.on (o := ?o34) (g := 33) (u := true) ?ho34 ?hg34 rfl rfl ?hw34 rfl ?h34
      case ho34 => simp only [List.getElem?_toArray, List.getElem?_cons_succ, List.getElem?_cons_zero]; rfl
      case hg34 => rfl
      case hw34 => rfl
      case h34 =>
      intro a W hS hB hd
      have e0 : a.tmps[0]? = some (.slice A0 l.length c0) := hS.get rfl rfl
      refine wp_value (c := .slice A0 l.length c0) ?_ rfl
      go_simp
    · refine StepOk.on (o := ?o35) (g := 33) (u := true) ?ho35 ?hg35 rfl rfl ?hw35 rfl ?h35
      case ho35 => simp only [List.getElem?_toArray, List.getElem?_cons_succ, List.getElem?_cons_zero]; rfl
      case hg35 => rfl
      case hw35 => rfl
      case h35 =>
      intro a W hS hB hd
      have e61 : a.tmps[61]? = some (.slice A0 l.length c0) := (hd 34 rfl).bool rfl rfl rfl
      refine wp_value (c := .string (strOfNums l)) ?_ rfl
      have hcv := Kd.C_string (P := Try.prog) (A := A0) (c := c0) Try.underlying22 Try.underlying5 Try.underlying9 (Kd.C_below HC.out (hb2.trans (hB.mono hb2.size)))
      go_simp
    · refine StepOk.on (o := ?o36) (g := 33) (u := true) ?ho36 ?hg36 rfl rfl ?hw36 rfl ?h36
      case ho36 => simp only [List.getElem?_toArray, List.getElem?_cons_succ, List.getElem?_cons_zero]; rfl
      case hg36 => rfl
      case hw36 => rfl
      case h36 =>
      intro a W hS hB hd
      have e5 : a.tmps[5]? = some (.string (strOfNums l)) := hS.get rfl rfl
      refine wp_value (c := .string (strOfNums l)) ?_ rfl
      go_simp
    · refine StepOk.on (o := ?o37) (g := 33) (u := true) ?ho37 ?hg37 rfl rfl ?hw37 rfl ?h37
      case ho37 => simp only [List.getElem?_toArray, List.getElem?_cons_succ, List.getElem?_cons_zero]; rfl
      case hg37 => rfl
      case hw37 => rfl
      case h37 =>
      intro a W hS hB hd
      have e62 : a.tmps[62]? = some (.string (strOfNums l)) := (hd 35 rfl).bool rfl rfl rfl
      have e63 : a.tmps[63]? = some (.string (strOfNums l)) := (hd 36 rfl).bool rfl rfl rfl
      refine wp_value (c := .bool true) ?_ rfl
      go_simp
    · refine StepOk.run (o := ?o38) ?ho38 ?hg38 ?h38
      case ho38 => simp only [List.getElem?_toArray, List.getElem?_cons_succ, List.getElem?_cons_zero]; rfl
      case hg38 => rfl
      case h38 =>
      intro a W hS hB hd
      have e60 : a.tmps[60]? = some (.bool true) := (hd 33 rfl).bool rfl rfl rfl
      have e64 : a.tmps[64]? = some (.bool true) := (hd 37 rfl).bool rfl rfl rfl
      refine wp_value (c := .bool true) ?_ rfl
      go_simp
    · refine StepOk.run (o := ?o39) ?ho39 ?hg39 ?h39
      case ho39 => simp only [List.getElem?_toArray, List.getElem?_cons_succ, List.getElem?_cons_zero]; rfl
      case hg39 => rfl
      case h39 =>
      intro a W hS hB hd
      have e65 : a.tmps[65]? = some (.bool true) := (hd 38 rfl).bool rfl rfl rfl
      refine wp_value (c := .bool true) ?_ rfl
      go_simp
  · intro a W hS hB hh
    go_wp2
    have hr := (hh 39 (by omega)).bool rfl rfl rfl
    exact bodyPost_ret (v := .bool true) (by simp [results, Try.results5, hr, go_sem]) hS.2.1 ⟨rfl, hb2.trans (hB.mono hb2.size)⟩
set_option maxHeartbeats 400000 in
theorem puts_great (A0 : Option Addr) (c0 : Nat) (l : List Int) (a : Int) (w : World) (hle : 200 < (l.length : Int)) (hm : l.length ≤ 9223372036854775807) :
    Calls Try.prog 5 #[.slice A0 l.length c0, .int .u64 a] w fun e w' => e = .returned (.bool true) ∧ Below w.heap.size w w' := by
  go_enter Try.func5, Try.ntmps5
  have hd : decide (200 < (l.length : Int)) = true := decide_eq_true hle
  go_wp2_with (go_at_call 15; refine (tephralaw01_fixed.calls 30 true _ (fixed_is 30 (by decide))).mono ?_; rintro e w1 ⟨rfl, hb⟩)
  go_ret
  exact ⟨rfl, hb⟩
theorem walk (a0 : Option Addr) (len0 cap0 : Nat) (z0 : List Int) (a1 : Int) (w : World) (w0 : (a0 = none ∧ len0 = 0 ∧ cap0 = 0 ∧ z0 = []) ∨ ∃ x, a0 = some x ∧ len0 ≤ cap0 ∧ cap0 ≤ maxLen ∧ z0.length = cap0 ∧ (∀ i, i < z0.length → w.cell? (x.add i) = some (.int .u8 (z0.getD i 0))) ∧ ∀ n ∈ z0, (Lit.int .u8 n).wf = true) (y0 : len0 * 1 ≤ 140737488351232) (w1 : (Lit.int .u64 a1).wf = true) :
    Calls Try.prog 5 #[.slice a0 len0 cap0, .int .u64 a1] w fun e w' => e = .returned (.bool true) ∧ Below w.heap.size w w' := by
  obtain ⟨l, rfl, hr, hm, hb, hc⟩ := ReadsInt.ofRowC w0
  have hr := Kd.C_of_reads (d := (0 : Int)) (h1 := fun _ => rfl) hr
  have hb := bytes_of_wf hb
  have ha : 0 ≤ a1 ∧ a1 < 18446744073709551616 := by
    simp [Lit.wf, IntKind.min, IntKind.max, IntKind.signed, IntKind.bits] at w1; omega
  by_cases hle : 200 < (l.length : Int)
  · exact puts_great a0 cap0 l a1 w hle (by have := hr.2.1; omega)
  · have e : a1 = (a1.toNat : Int) := (Int.toNat_of_nonneg ha.1).symm
    have := puts_main a0 cap0 l a1.toNat w hr hc (by omega) hb (by omega)
    rw [← e] at this
    exact this
end Go.Proofs.Ythojcapdbjmneaa.WVarintPuts
