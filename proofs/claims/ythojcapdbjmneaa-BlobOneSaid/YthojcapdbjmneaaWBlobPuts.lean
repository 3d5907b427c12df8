/- What blob.Put appends is the document's bytes and is read back: the law BlobPuts returns true, and writes nothing that was there. -/
import Derived.Test.YthojcapdbjmneaaBlob3
set_option linter.unusedVariables false
set_option linter.unusedSimpArgs false
namespace Go.Proofs.Ythojcapdbjmneaa.WBlobPuts
open Go.RowKit Go.Proofs.Ythojcapdbjmneaa.GVB Go.Proofs.YthojcapdbjmneaaW.PrintWords

theorem bytesOf_byte (s : ByteArray) : ∀ x ∈ bytesOf s, 0 ≤ x ∧ x < 256 := by
  intro x hx
  simp only [bytesOf, List.mem_map] at hx
  obtain ⟨y, _, rfl⟩ := hx
  have := y.toNat_lt
  omega
theorem blob_bytes (s : ByteArray) (hs : s.size < 18446744073709551616) : ∀ x ∈ blob s, 0 ≤ x ∧ x < 256 := by
  intro x hx
  rcases List.mem_append.1 hx with hx | hx
  · exact ints_bytes _ (vb_bytes _ hs) x hx
  · exact bytesOf_byte s x hx
theorem nats_app (u v : List Int) : nats (u ++ v) = nats u ++ nats v := by simp [nats]
/-- a blob behind others is read as it -/
theorem bget_blob (l : List Int) (s : ByteArray) (u : List Int) (lim : Int) (hs : s.size ≤ 1000000000) (hlim : (s.size : Int) ≤ lim) :
    bgetS (l ++ (blob s ++ u)) (l.length : Int) lim = (s, ((l.length + (blob s).length : Nat) : Int), 0) := by
  have hv := vb_len10 s.size (by omega)
  have hbl := blob_len s
  have hd : (nats (l ++ (blob s ++ u))).drop l.length = vb s.size ++ (nats (bytesOf s) ++ nats u) := by
    rw [nats_app, show l.length = (nats l).length by simp [nats], List.drop_left]
    unfold blob
    rw [nats_app, nats_app, nats_ints, List.append_assoc]
  have hg : getS (l ++ (blob s ++ u)) (l.length : Int) = ((s.size : Int), ((l.length + (vb s.size).length : Nat) : Int), 0) := by
    unfold getS
    rw [if_neg (by simp only [List.length_append]; omega), Int.toNat_natCast, hd, dec_vb0 _ _ (by omega)]
    rfl
  unfold bgetS
  rw [hg, if_neg (by simp), if_neg (by split <;> omega), if_neg (by simp only [List.length_append]; omega)]
  have e1 : (((l.length + (vb s.size).length : Nat) : Int)).toNat = (l ++ ints (vb s.size)).length := by rw [Int.toNat_natCast, List.length_append]; simp [ints]
  have e2 : ((s.size : Int)).toNat = (bytesOf s).length := by rw [Int.toNat_natCast, bytesOf_length]
  have e3 : ((l ++ (blob s ++ u)).take ((l ++ ints (vb s.size)).length + (bytesOf s).length)).drop (l ++ ints (vb s.size)).length = bytesOf s := by
    rw [show l ++ (blob s ++ u) = (l ++ ints (vb s.size)) ++ (bytesOf s ++ u) by unfold blob; simp only [List.append_assoc], List.take_append, List.take_of_length_le (by omega), List.drop_left, Nat.add_sub_cancel_left, List.take_left]
  simp only [e1, e2, e3, bytes_str]
  congr 2
  rw [hbl]
  omega
set_option maxHeartbeats 2000000 in
set_option maxRecDepth 100000 in
theorem puts_main (A0 : Option Addr) (c0 : Nat) (l : List Int) (s : ByteArray) (w : World) (hr0 : Kd.C (Kd.int .u8) w A0 l.length l) (hc0 : l.length ≤ c0) (hle : l.length ≤ 300) (hs' : s.size ≤ 300)
    (hb : ∀ x ∈ l, 0 ≤ x ∧ x < 256) :
    Calls Try.prog 7 #[.slice A0 l.length c0, .string s] w fun e w' => e = .returned (.bool true) ∧ Below w.heap.size w w' := by
  have hv := vb_len10 s.size (by omega)
  have hbl := blob_len s
  have hs : s.size ≤ 1000000000 := by omega
  obtain ⟨r, HRD⟩ : ∃ r, Hid (l ++ blob s = r) := ⟨_, rfl⟩
  have hrl : r.length = l.length + (blob s).length := by rw [← HRD.out, List.length_append]
  have HSR := Lib.hid (show strOfNums r = strOfNums l ++ strOfNums (blob s) by rw [← HRD.out, strOfNums_app])
  have HSZ := Lib.hid (show (strOfNums l).size + (strOfNums (blob s)).size ≤ 9223372036854775807 by rw [strOfNums_size, strOfNums_size]; omega)
  have HLB := Lib.hid (show l.length + (blob s).length ≤ 140737488355000 by omega)
  have hbr : ∀ x ∈ r, 0 ≤ x ∧ x < 256 := by
    rw [← HRD.out]
    intro x hx
    rcases List.mem_append.1 hx with hx | hx
    · exact hb x hx
    · exact blob_bytes s (by omega) x hx
  have hg : bgetS r (l.length : Int) (s.size : Int) = (s, (r.length : Int), 0) := by
    have := bget_blob l s [] (s.size : Int) hs (by omega)
    rw [List.append_nil, HRD.out, ← hrl] at this
    exact this
  have HG := Lib.hid (fun A c W h h2 => bget_any A c r (s.size : Int) W (l.length : Int) h h2 hbr (by omega) (by omega))
  rw [hg] at HG
  have HC := Lib.hid hr0
  have HL := Lib.hid hc0
  have hrl2 : r.length ≤ 700 := by omega
  clear hr0 hc0 hbr hb hg hrl hbl hv
  have hd0 : decide (300 < (l.length : Int)) = false := decide_eq_false (by omega)
  have hd1 : decide (300 < (s.size : Int)) = false := decide_eq_false (by omega)
  have hcv := Kd.C_string (P := Try.prog) (A := A0) (c := c0) Try.underlying22 Try.underlying5 Try.underlying9 HC.out
  go_enter Try.func7, Try.ntmps7
  go_wp2_with fail
  clear hcv
  refine (bput_any A0 c0 l s _ HC.out HL.out HLB.out).mono ?_
  rintro e w1 ⟨v1, rfl, ho, hb1⟩
  rw [HRD.out] at ho
  obtain ⟨A6, c6, rfl⟩ := Kd.R_slice ho
  have HO := Lib.hid (Kd.R_reads' ho)
  clear ho
  go_wp2_with fail
  refine (HG.out _ _ _ HO.out.2.2 HO.out.2.1).mono ?_
  rintro e w2 ⟨rfl, hd⟩
  have HR := Lib.hid (Kd.C_below HO.out.2.2 hd)
  have hb2 := hb1.trans (hd.mono hb1.size)
  clear hd hb1
  go_wp2_with fail
  refine region_calm (n := 32) (byList [isV (.bool true), isV (.bool true), isV (.slice A6 r.length c6), isV (.string (strOfNums r)), isV (.string (strOfNums l)), isV (.string s), isV (.string (strOfNums (blob s))), isV (.string (strOfNums r)), isV (.bool true), isV (.bool true), isV (.bool true), isV (.string s), isV (.string s), isV (.bool true), isV (.bool true), isV (.bool true), isV (.int .i64 (r.length : Int)), isV (.slice A6 r.length c6), isV (.int .i64 (r.length : Int)), isV (.bool true), isV (.bool true), isV (.bool true), isV (.int .i64 0), isV (.bool true), isV (.bool true), isV (.bool true), isV (.slice A0 l.length c0), isV (.string (strOfNums l)), isV (.string (strOfNums l)), isV (.bool true), isV (.bool true), isV (.bool true)]) (by kernel_rfl) rfl (byList_lasts ?_) (by kernel_rfl) (by kernel_rfl) (by kernel_rfl) (show AllLt 32 _ from ?_) ?_
  · intro p hp
    simp only [List.mem_cons, List.not_mem_nil, or_false] at hp
    rcases hp with rfl | rfl | rfl | rfl | rfl | rfl | rfl | rfl | rfl | rfl | rfl | rfl | rfl | rfl | rfl | rfl | rfl | rfl | rfl | rfl | rfl | rfl | rfl | rfl | rfl | rfl | rfl | rfl | rfl | rfl | rfl | rfl <;> first | exact isV_lasts | exact isC_lasts
  · refine allLt_succ (allLt_succ (allLt_succ (allLt_succ (allLt_succ (allLt_succ (allLt_succ (allLt_succ (allLt_succ (allLt_succ (allLt_succ (allLt_succ (allLt_succ (allLt_succ (allLt_succ (allLt_succ (allLt_succ (allLt_succ (allLt_succ (allLt_succ (allLt_succ (allLt_succ (allLt_succ (allLt_succ (allLt_succ (allLt_succ (allLt_succ (allLt_succ (allLt_succ (allLt_succ (allLt_succ (allLt_succ (allLt_zero _) ?_) ?_) ?_) ?_) ?_) ?_) ?_) ?_) ?_) ?_) ?_) ?_) ?_) ?_) ?_) ?_) ?_) ?_) ?_) ?_) ?_) ?_) ?_) ?_) ?_) ?_) ?_) ?_) ?_) ?_) ?_) ?_
    · refine StepOk.run (o := ?o0) ?ho0 ?hg0 ?h0
      case ho0 => simp only [List.getElem?_toArray, List.getElem?_cons_succ, List.getElem?_cons_zero]; rfl
      case hg0 => rfl
      case h0 =>
      intro a W hS hB hd
      refine wp_called Try.func21 (by kernel_rfl) rfl #[] rfl (by simp [Act.eval, *]) ?_
      refine (fixed2_any _).mono ?_
      rintro e w9 ⟨rfl, hb9⟩
      exact ⟨_, rfl, rfl, hb9⟩
    · refine StepOk.run (o := ?o1) ?ho1 ?hg1 ?h1
      case ho1 => simp only [List.getElem?_toArray, List.getElem?_cons_succ, List.getElem?_cons_zero]; rfl
      case hg1 => rfl
      case h1 =>
      intro a W hS hB hd
      have e34 : a.tmps[34]? = some (.bool true) := (hd 0 rfl).bool rfl rfl rfl
      refine wp_value (c := .bool true) ?_ rfl
      go_simp
    · refine StepOk.on (o := ?o2) (g := 1) (u := true) ?ho2 ?hg2 rfl rfl ?hw2 rfl ?h2
      case ho2 => simp only [List.getElem?_toArray, List.getElem?_cons_succ, List.getElem?_cons_zero]; rfl
      case hg2 => rfl
      case hw2 => rfl
      case h2 =>
      intro a W hS hB hd
      have e6 : a.tmps[6]? = some (.slice A6 r.length c6) := hS.get rfl rfl
      refine wp_value (c := .slice A6 r.length c6) ?_ rfl
      go_simp
    · refine StepOk.on (o := ?o3) (g := 1) (u := true) ?ho3 ?hg3 rfl rfl ?hw3 rfl ?h3
      case ho3 => simp only [List.getElem?_toArray, List.getElem?_cons_succ, List.getElem?_cons_zero]; rfl
      case hg3 => rfl
      case hw3 => rfl
      case h3 =>
      intro a W hS hB hd
      have e36 : a.tmps[36]? = some (.slice A6 r.length c6) := (hd 2 rfl).bool rfl rfl rfl
      refine wp_value (c := .string (strOfNums r)) ?_ rfl
      have hcv := Kd.C_string (P := Try.prog) (A := A6) (c := c6) Try.underlying22 Try.underlying5 Try.underlying9 (Kd.C_below HR.out hB)
      go_simp
    · refine StepOk.on (o := ?o4) (g := 1) (u := true) ?ho4 ?hg4 rfl rfl ?hw4 rfl ?h4
      case ho4 => simp only [List.getElem?_toArray, List.getElem?_cons_succ, List.getElem?_cons_zero]; rfl
      case hg4 => rfl
      case hw4 => rfl
      case h4 =>
      intro a W hS hB hd
      have e5 : a.tmps[5]? = some (.string (strOfNums l)) := hS.get rfl rfl
      refine wp_value (c := .string (strOfNums l)) ?_ rfl
      go_simp
    · refine StepOk.on (o := ?o5) (g := 1) (u := true) ?ho5 ?hg5 rfl rfl ?hw5 rfl ?h5
      case ho5 => simp only [List.getElem?_toArray, List.getElem?_cons_succ, List.getElem?_cons_zero]; rfl
      case hg5 => rfl
      case hw5 => rfl
      case h5 =>
      intro a W hS hB hd
      have e1 : a.tmps[1]? = some (.string s) := hS.get rfl rfl
      refine wp_value (c := .string s) ?_ rfl
      go_simp
    · refine StepOk.on (o := ?o6) (g := 1) (u := true) ?ho6 ?hg6 rfl rfl ?hw6 rfl ?h6
      case ho6 => simp only [List.getElem?_toArray, List.getElem?_cons_succ, List.getElem?_cons_zero]; rfl
      case hg6 => rfl
      case hw6 => rfl
      case h6 =>
      intro a W hS hB hd
      have e39 : a.tmps[39]? = some (.string s) := (hd 5 rfl).bool rfl rfl rfl
      refine wp_called Try.func24 (by kernel_rfl) rfl #[.string s] rfl (by simp [Act.eval, *]) ?_
      refine (rbput_any s hs W).mono ?_
      rintro e w9 ⟨rfl, hb9⟩
      exact ⟨_, rfl, rfl, hb9⟩
    · refine StepOk.on (o := ?o7) (g := 1) (u := true) ?ho7 ?hg7 rfl rfl ?hw7 rfl ?h7
      case ho7 => simp only [List.getElem?_toArray, List.getElem?_cons_succ, List.getElem?_cons_zero]; rfl
      case hg7 => rfl
      case hw7 => rfl
      case h7 =>
      intro a W hS hB hd
      have e38 : a.tmps[38]? = some (.string (strOfNums l)) := (hd 4 rfl).bool rfl rfl rfl
      have e40 : a.tmps[40]? = some (.string (strOfNums (blob s))) := (hd 6 rfl).bool rfl rfl rfl
      refine wp_value (c := .string (strOfNums r)) ?_ rfl
      have hsz := HSZ.out
      rw [HSR.out]
      go_simp
    · refine StepOk.on (o := ?o8) (g := 1) (u := true) ?ho8 ?hg8 rfl rfl ?hw8 rfl ?h8
      case ho8 => simp only [List.getElem?_toArray, List.getElem?_cons_succ, List.getElem?_cons_zero]; rfl
      case hg8 => rfl
      case hw8 => rfl
      case h8 =>
      intro a W hS hB hd
      have e37 : a.tmps[37]? = some (.string (strOfNums r)) := (hd 3 rfl).bool rfl rfl rfl
      have e41 : a.tmps[41]? = some (.string (strOfNums r)) := (hd 7 rfl).bool rfl rfl rfl
      refine wp_value (c := .bool true) ?_ rfl
      go_simp
    · refine StepOk.run (o := ?o9) ?ho9 ?hg9 ?h9
      case ho9 => simp only [List.getElem?_toArray, List.getElem?_cons_succ, List.getElem?_cons_zero]; rfl
      case hg9 => rfl
      case h9 =>
      intro a W hS hB hd
      have e35 : a.tmps[35]? = some (.bool true) := (hd 1 rfl).bool rfl rfl rfl
      have e42 : a.tmps[42]? = some (.bool true) := (hd 8 rfl).bool rfl rfl rfl
      refine wp_value (c := .bool true) ?_ rfl
      go_simp
    · refine StepOk.run (o := ?o10) ?ho10 ?hg10 ?h10
      case ho10 => simp only [List.getElem?_toArray, List.getElem?_cons_succ, List.getElem?_cons_zero]; rfl
      case hg10 => rfl
      case h10 =>
      intro a W hS hB hd
      have e43 : a.tmps[43]? = some (.bool true) := (hd 9 rfl).bool rfl rfl rfl
      refine wp_value (c := .bool true) ?_ rfl
      go_simp
    · refine StepOk.on (o := ?o11) (g := 10) (u := true) ?ho11 ?hg11 rfl rfl ?hw11 rfl ?h11
      case ho11 => simp only [List.getElem?_toArray, List.getElem?_cons_succ, List.getElem?_cons_zero]; rfl
      case hg11 => rfl
      case hw11 => rfl
      case h11 =>
      intro a W hS hB hd
      have e7 : a.tmps[7]? = some (.string s) := hS.get rfl rfl
      refine wp_value (c := .string s) ?_ rfl
      go_simp
    · refine StepOk.on (o := ?o12) (g := 10) (u := true) ?ho12 ?hg12 rfl rfl ?hw12 rfl ?h12
      case ho12 => simp only [List.getElem?_toArray, List.getElem?_cons_succ, List.getElem?_cons_zero]; rfl
      case hg12 => rfl
      case hw12 => rfl
      case h12 =>
      intro a W hS hB hd
      have e1 : a.tmps[1]? = some (.string s) := hS.get rfl rfl
      refine wp_value (c := .string s) ?_ rfl
      go_simp
    · refine StepOk.on (o := ?o13) (g := 10) (u := true) ?ho13 ?hg13 rfl rfl ?hw13 rfl ?h13
      case ho13 => simp only [List.getElem?_toArray, List.getElem?_cons_succ, List.getElem?_cons_zero]; rfl
      case hg13 => rfl
      case hw13 => rfl
      case h13 =>
      intro a W hS hB hd
      have e45 : a.tmps[45]? = some (.string s) := (hd 11 rfl).bool rfl rfl rfl
      have e46 : a.tmps[46]? = some (.string s) := (hd 12 rfl).bool rfl rfl rfl
      refine wp_value (c := .bool true) ?_ rfl
      go_simp
    · refine StepOk.run (o := ?o14) ?ho14 ?hg14 ?h14
      case ho14 => simp only [List.getElem?_toArray, List.getElem?_cons_succ, List.getElem?_cons_zero]; rfl
      case hg14 => rfl
      case h14 =>
      intro a W hS hB hd
      have e44 : a.tmps[44]? = some (.bool true) := (hd 10 rfl).bool rfl rfl rfl
      have e47 : a.tmps[47]? = some (.bool true) := (hd 13 rfl).bool rfl rfl rfl
      refine wp_value (c := .bool true) ?_ rfl
      go_simp
    · refine StepOk.run (o := ?o15) ?ho15 ?hg15 ?h15
      case ho15 => simp only [List.getElem?_toArray, List.getElem?_cons_succ, List.getElem?_cons_zero]; rfl
      case hg15 => rfl
      case h15 =>
      intro a W hS hB hd
      have e48 : a.tmps[48]? = some (.bool true) := (hd 14 rfl).bool rfl rfl rfl
      refine wp_value (c := .bool true) ?_ rfl
      go_simp
    · refine StepOk.on (o := ?o16) (g := 15) (u := true) ?ho16 ?hg16 rfl rfl ?hw16 rfl ?h16
      case ho16 => simp only [List.getElem?_toArray, List.getElem?_cons_succ, List.getElem?_cons_zero]; rfl
      case hg16 => rfl
      case hw16 => rfl
      case h16 =>
      intro a W hS hB hd
      have e8 : a.tmps[8]? = some (.int .i64 (r.length : Int)) := hS.get rfl rfl
      refine wp_value (c := .int .i64 (r.length : Int)) ?_ rfl
      go_simp
    · refine StepOk.on (o := ?o17) (g := 15) (u := true) ?ho17 ?hg17 rfl rfl ?hw17 rfl ?h17
      case ho17 => simp only [List.getElem?_toArray, List.getElem?_cons_succ, List.getElem?_cons_zero]; rfl
      case hg17 => rfl
      case hw17 => rfl
      case h17 =>
      intro a W hS hB hd
      have e6 : a.tmps[6]? = some (.slice A6 r.length c6) := hS.get rfl rfl
      refine wp_value (c := .slice A6 r.length c6) ?_ rfl
      go_simp
    · refine StepOk.on (o := ?o18) (g := 15) (u := true) ?ho18 ?hg18 rfl rfl ?hw18 rfl ?h18
      case ho18 => simp only [List.getElem?_toArray, List.getElem?_cons_succ, List.getElem?_cons_zero]; rfl
      case hg18 => rfl
      case hw18 => rfl
      case h18 =>
      intro a W hS hB hd
      have e51 : a.tmps[51]? = some (.slice A6 r.length c6) := (hd 17 rfl).bool rfl rfl rfl
      refine wp_value (c := .int .i64 (r.length : Int)) ?_ rfl
      go_simp
    · refine StepOk.on (o := ?o19) (g := 15) (u := true) ?ho19 ?hg19 rfl rfl ?hw19 rfl ?h19
      case ho19 => simp only [List.getElem?_toArray, List.getElem?_cons_succ, List.getElem?_cons_zero]; rfl
      case hg19 => rfl
      case hw19 => rfl
      case h19 =>
      intro a W hS hB hd
      have e50 : a.tmps[50]? = some (.int .i64 (r.length : Int)) := (hd 16 rfl).bool rfl rfl rfl
      have e52 : a.tmps[52]? = some (.int .i64 (r.length : Int)) := (hd 18 rfl).bool rfl rfl rfl
      refine wp_value (c := .bool true) ?_ rfl
      go_simp
    · refine StepOk.run (o := ?o20) ?ho20 ?hg20 ?h20
      case ho20 => simp only [List.getElem?_toArray, List.getElem?_cons_succ, List.getElem?_cons_zero]; rfl
      case hg20 => rfl
      case h20 =>
      intro a W hS hB hd
      have e49 : a.tmps[49]? = some (.bool true) := (hd 15 rfl).bool rfl rfl rfl
      have e53 : a.tmps[53]? = some (.bool true) := (hd 19 rfl).bool rfl rfl rfl
      refine wp_value (c := .bool true) ?_ rfl
      go_simp
    · refine StepOk.run (o := ?o21) ?ho21 ?hg21 ?h21
      case ho21 => simp only [List.getElem?_toArray, List.getElem?_cons_succ, List.getElem?_cons_zero]; rfl
      case hg21 => rfl
      case h21 =>
      intro a W hS hB hd
      have e54 : a.tmps[54]? = some (.bool true) := (hd 20 rfl).bool rfl rfl rfl
      refine wp_value (c := .bool true) ?_ rfl
      go_simp
    · refine StepOk.on (o := ?o22) (g := 21) (u := true) ?ho22 ?hg22 rfl rfl ?hw22 rfl ?h22
      case ho22 => simp only [List.getElem?_toArray, List.getElem?_cons_succ, List.getElem?_cons_zero]; rfl
      case hg22 => rfl
      case hw22 => rfl
      case h22 =>
      intro a W hS hB hd
      have e9 : a.tmps[9]? = some (.int .i64 0) := hS.get rfl rfl
      refine wp_value (c := .int .i64 0) ?_ rfl
      go_simp
    · refine StepOk.on (o := ?o23) (g := 21) (u := true) ?ho23 ?hg23 rfl rfl ?hw23 rfl ?h23
      case ho23 => simp only [List.getElem?_toArray, List.getElem?_cons_succ, List.getElem?_cons_zero]; rfl
      case hg23 => rfl
      case hw23 => rfl
      case h23 =>
      intro a W hS hB hd
      have e56 : a.tmps[56]? = some (.int .i64 0) := (hd 22 rfl).bool rfl rfl rfl
      refine wp_value (c := .bool true) ?_ rfl
      go_simp
    · refine StepOk.run (o := ?o24) ?ho24 ?hg24 ?h24
      case ho24 => simp only [List.getElem?_toArray, List.getElem?_cons_succ, List.getElem?_cons_zero]; rfl
      case hg24 => rfl
      case h24 =>
      intro a W hS hB hd
      have e55 : a.tmps[55]? = some (.bool true) := (hd 21 rfl).bool rfl rfl rfl
      have e57 : a.tmps[57]? = some (.bool true) := (hd 23 rfl).bool rfl rfl rfl
      refine wp_value (c := .bool true) ?_ rfl
      go_simp
    · refine StepOk.run (o := ?o25) ?ho25 ?hg25 ?h25
      case ho25 => simp only [List.getElem?_toArray, List.getElem?_cons_succ, List.getElem?_cons_zero]; rfl
      case hg25 => rfl
      case h25 =>
      intro a W hS hB hd
      have e58 : a.tmps[58]? = some (.bool true) := (hd 24 rfl).bool rfl rfl rfl
      refine wp_value (c := .bool true) ?_ rfl
      go_simp
    · refine StepOk.on (o := ?o26) (g := 25) (u := true) ?ho26 ?hg26 rfl rfl ?hw26 rfl ?h26
      case ho26 => simp only [List.getElem?_toArray, List.getElem?_cons_succ, List.getElem?_cons_zero]; rfl
      case hg26 => rfl
      case hw26 => rfl
      case h26 =>
      intro a W hS hB hd
      have e0 : a.tmps[0]? = some (.slice A0 l.length c0) := hS.get rfl rfl
      refine wp_value (c := .slice A0 l.length c0) ?_ rfl
      go_simp
    · refine StepOk.on (o := ?o27) (g := 25) (u := true) ?ho27 ?hg27 rfl rfl ?hw27 rfl ?h27
      case ho27 => simp only [List.getElem?_toArray, List.getElem?_cons_succ, List.getElem?_cons_zero]; rfl
      case hg27 => rfl
      case hw27 => rfl
      case h27 =>
      intro a W hS hB hd
      have e60 : a.tmps[60]? = some (.slice A0 l.length c0) := (hd 26 rfl).bool rfl rfl rfl
      refine wp_value (c := .string (strOfNums l)) ?_ rfl
      have hcv := Kd.C_string (P := Try.prog) (A := A0) (c := c0) Try.underlying22 Try.underlying5 Try.underlying9 (Kd.C_below HC.out (hb2.trans (hB.mono hb2.size)))
      go_simp
    · refine StepOk.on (o := ?o28) (g := 25) (u := true) ?ho28 ?hg28 rfl rfl ?hw28 rfl ?h28
      case ho28 => simp only [List.getElem?_toArray, List.getElem?_cons_succ, List.getElem?_cons_zero]; rfl
      case hg28 => rfl
      case hw28 => rfl
      case h28 =>
      intro a W hS hB hd
      have e5 : a.tmps[5]? = some (.string (strOfNums l)) := hS.get rfl rfl
      refine wp_value (c := .string (strOfNums l)) ?_ rfl
      go_simp
    · refine StepOk.on (o := ?o29) (g := 25) (u := true) ?ho29 ?hg29 rfl rfl ?hw29 rfl ?h29
      case ho29 => simp only [List.getElem?_toArray, List.getElem?_cons_succ, List.getElem?_cons_zero]; rfl
      case hg29 => rfl
      case hw29 => rfl
      case h29 =>
      intro a W hS hB hd
      have e61 : a.tmps[61]? = some (.string (strOfNums l)) := (hd 27 rfl).bool rfl rfl rfl
      have e62 : a.tmps[62]? = some (.string (strOfNums l)) := (hd 28 rfl).bool rfl rfl rfl
      refine wp_value (c := .bool true) ?_ rfl
      go_simp
    · refine StepOk.run (o := ?o30) ?ho30 ?hg30 ?h30
      case ho30 => simp only [List.getElem?_toArray, List.getElem?_cons_succ, List.getElem?_cons_zero]; rfl
      case hg30 => rfl
      case h30 =>
      intro a W hS hB hd
      have e59 : a.tmps[59]? = some (.bool true) := (hd 25 rfl).bool rfl rfl rfl
      have e63 : a.tmps[63]? = some (.bool true) := (hd 29 rfl).bool rfl rfl rfl
      refine wp_value (c := .bool true) ?_ rfl
      go_simp
    · refine StepOk.run (o := ?o31) ?ho31 ?hg31 ?h31
      case ho31 => simp only [List.getElem?_toArray, List.getElem?_cons_succ, List.getElem?_cons_zero]; rfl
      case hg31 => rfl
      case h31 =>
      intro a W hS hB hd
      have e64 : a.tmps[64]? = some (.bool true) := (hd 30 rfl).bool rfl rfl rfl
      refine wp_value (c := .bool true) ?_ rfl
      go_simp
  · intro a W hS hB hh
    go_wp2
    have hr := (hh 31 (by omega)).bool rfl rfl rfl
    exact bodyPost_ret (v := .bool true) (by simp [results, Try.results7, hr, go_sem]) hS.2.1 ⟨rfl, hb2.trans (hB.mono hb2.size)⟩
set_option maxHeartbeats 400000 in
theorem puts_great (A0 : Option Addr) (c0 : Nat) (l : List Int) (s : ByteArray) (w : World) (hle : 300 < (l.length : Int) ∨ (¬ 300 < (l.length : Int) ∧ 300 < (s.size : Int))) (hm : l.length ≤ 9223372036854775807) (hs : s.size ≤ 9223372036854775807) :
    Calls Try.prog 7 #[.slice A0 l.length c0, .string s] w fun e w' => e = .returned (.bool true) ∧ Below w.heap.size w w' := by
  rcases hle with h | ⟨h, h2⟩
  · have hd : decide (300 < (l.length : Int)) = true := decide_eq_true h
    go_enter Try.func7, Try.ntmps7
    go_wp2_with (go_at_call 21; refine (fixed2_any _).mono ?_; rintro e w1 ⟨rfl, hb⟩)
    go_ret
    exact ⟨rfl, hb⟩
  · have hd : decide (300 < (l.length : Int)) = false := decide_eq_false h
    have hd2 : decide (300 < (s.size : Int)) = true := decide_eq_true h2
    go_enter Try.func7, Try.ntmps7
    go_wp2_with (go_at_call 21; refine (fixed2_any _).mono ?_; rintro e w1 ⟨rfl, hb⟩)
    go_ret
    exact ⟨rfl, hb⟩
theorem walk (a0 : Option Addr) (len0 cap0 : Nat) (z0 : List Int) (a1 : ByteArray) (w : World) (w0 : (a0 = none ∧ len0 = 0 ∧ cap0 = 0 ∧ z0 = []) ∨ ∃ x, a0 = some x ∧ len0 ≤ cap0 ∧ cap0 ≤ maxLen ∧ z0.length = cap0 ∧ (∀ i, i < z0.length → w.cell? (x.add i) = some (.int .u8 (z0.getD i 0))) ∧ ∀ n ∈ z0, (Lit.int .u8 n).wf = true) (y0 : len0 * 1 ≤ 140737488351232) (w1 : a1.size ≤ 140737488351232) :
    Calls Try.prog 7 #[.slice a0 len0 cap0, .string a1] w fun e w' => e = .returned (.bool true) ∧ Below w.heap.size w w' := by
  obtain ⟨l, rfl, hr, hm, hb, hc⟩ := ReadsInt.ofRowC w0
  have hr := Kd.C_of_reads (d := (0 : Int)) (h1 := fun _ => rfl) hr
  have hb := bytes_of_wf hb
  by_cases hle : 300 < (l.length : Int) ∨ (¬ 300 < (l.length : Int) ∧ 300 < (a1.size : Int))
  · exact puts_great a0 cap0 l a1 w hle (by have := hr.2.1; omega) (by omega)
  · exact puts_main a0 cap0 l a1 w hr hc (by omega) (by omega) hb
end Go.Proofs.Ythojcapdbjmneaa.WBlobPuts
