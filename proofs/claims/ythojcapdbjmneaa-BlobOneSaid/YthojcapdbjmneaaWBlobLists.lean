/- What blob.List appends is the document's bytes; cut off anywhere the texts before the cut are read: the law BlobLists returns true, and writes nothing that was there. -/
import Derived.Test.YthojcapdbjmneaaBlob4
import Derived.Test.YthojcapdbjmneaaWBlobPuts
import Derived.Test.YthojcapdbjmneaaDeep
import Derived.Test.YthojcapdbjmneaaLit
set_option linter.unusedVariables false
set_option linter.unusedSimpArgs false
namespace Go.Proofs.Ythojcapdbjmneaa.WBlobLists
open Go.RowKit Go.Proofs.Ythojcapdbjmneaa.GVB Go.Proofs.YthojcapdbjmneaaW.PrintWords Go.Proofs.Ythojcapdbjmneaa.WBlobPuts

theorem blobs_len : ∀ (ts : List ByteArray), (∀ s ∈ ts, s.size ≤ 100) → (blobs ts).length ≤ 110 * ts.length := by
  intro ts
  induction ts with
  | nil => intro _; simp [blobs]
  | cons s ts ih =>
    intro h
    have h1 := h s (by simp)
    have h2 := ih (fun u hu => h u (by simp [hu]))
    have h3 := vb_len10 s.size (by omega)
    have : blobs (s :: ts) = blob s ++ blobs ts := rfl
    rw [this, List.length_append, blob_len, List.length_cons]; omega
/-- cut off within a blob it is too short -/
theorem bget_cut (pre : List Int) (s : ByteArray) (j : Nat) (hs : s.size ≤ 100) (hj : j < (blob s).length) :
    bgetS (pre ++ (blob s).take j) (pre.length : Int) 100 = (⟨#[]⟩, 0, 2) := by
  have hv := vb_len10 s.size (by omega)
  have hbl := blob_len s
  have hd : (nats (pre ++ (blob s).take j)).drop pre.length = (vb s.size ++ nats (bytesOf s)).take j := by
    rw [nats_app, show pre.length = (nats pre).length by simp [nats], List.drop_left]
    unfold blob
    rw [show nats ((ints (vb s.size) ++ bytesOf s).take j) = (nats (ints (vb s.size) ++ bytesOf s)).take j by simp [nats], nats_app, nats_ints]
  unfold bgetS
  by_cases h : j < (vb s.size).length
  · have hg : getS (pre ++ (blob s).take j) (pre.length : Int) = (0, 0, 2) := by
      unfold getS
      rw [if_neg (by simp only [List.length_append]; omega), Int.toNat_natCast, hd, List.take_append_of_le_length (by omega), dec_cut0 _ j (by omega) h]
      rfl
    rw [hg, if_pos (by decide)]
  · have hg : getS (pre ++ (blob s).take j) (pre.length : Int) = ((s.size : Int), ((pre.length + (vb s.size).length : Nat) : Int), 0) := by
      unfold getS
      rw [if_neg (by simp only [List.length_append]; omega), Int.toNat_natCast, hd, List.take_append, List.take_of_length_le (by omega), dec_vb0 _ _ (by omega)]
      rfl
    rw [hg, if_neg (by simp), if_neg (by simp; omega), if_pos (by simp only [List.length_append, List.length_take]; omega)]
/-- what is read of the first c numbers, at a text's place -/
theorem bget_at (ts : List ByteArray) (hs : ∀ s ∈ ts, s.size ≤ 100) (i c : Nat) (hi : i < ts.length) (s : ByteArray) (hsd : ts[i] = s) (hc : 1 + (blobs (ts.take i)).length ≤ c) :
    bgetS (([120] ++ blobs ts).take c) ((1 + (blobs (ts.take i)).length : Nat) : Int) 100 = if 1 + (blobs (ts.take i)).length + (blob s).length ≤ c then (s, ((1 + (blobs (ts.take i)).length + (blob s).length : Nat) : Int), 0) else (⟨#[]⟩, 0, 2) := by
  have h100 : s.size ≤ 100 := hsd ▸ hs ts[i] (List.getElem_mem _)
  have hcut := blobs_cut ts i hi
  rw [hsd] at hcut
  obtain ⟨pre, hpre⟩ : ∃ pre, [120] ++ blobs (ts.take i) = pre := ⟨_, rfl⟩
  have hpl : pre.length = 1 + (blobs (ts.take i)).length := by rw [← hpre, List.length_append]; rfl
  rw [hcut, ← List.append_assoc, hpre, ← hpl, List.take_append, List.take_of_length_le (by omega)]
  split
  · rw [List.take_append, List.take_of_length_le (by omega)]
    exact bget_blob pre s _ 100 (by omega) (by omega)
  · rw [List.take_append_of_le_length (by omega)]
    exact bget_cut pre s _ h100 (by omega)
attribute [local go_sem] Go.Proofs.YthojcapdbjmneaaW.PrintMore.min2_int
set_option maxHeartbeats 4000000 in
set_option maxRecDepth 100000 in
theorem lists_main (B : Option Addr) (cb : Nat) (ts : List ByteArray) (q : Nat) (w : World) (hs : Kd.C Kd.string w B ts.length ts) (hsc : ts.length ≤ cb) (hsz : ∀ s ∈ ts, s.size ≤ maxLen) (hle : ts.length ≤ 30) (hq : q < 65536) :
    Calls Try.prog 9 #[.slice B ts.length cb, .int .u16 (q : Int)] w fun e w' => e = .returned (.bool true) ∧ Below w.heap.size w w' := by
  have HS := Lib.hid hs
  have HM := Lib.hid (fun s h => by have := hsz s h; simp only [maxLen] at this; exact this : ∀ s ∈ ts, s.size ≤ 9223372036854775807)
  clear hs hsz
  have hd0 : decide (30 < (ts.length : Int)) = false := decide_eq_false (by omega)
  go_enter Try.func9, Try.ntmps9
  go_wp2_with fail
  go_loopw [21] (fun u21 wr => ∃ (i : Nat), i ≤ ts.length ∧ u21 = .int .i64 i ∧ (∀ s ∈ ts.take i, s.size ≤ 100) ∧ Below w.heap.size w wr) (fun v _ => ts.length - (intOf v).toNat)
  case atStart => exact ⟨0, by omega, rfl, by simp, Below.refl _ _⟩
  case round =>
    obtain ⟨i, hi, rfl, hsm, hbl⟩ := hrel
    by_cases hlt : i < ts.length
    · have hcell := Kd.at_string (Kd.C_below HS.out hbl) (i : Int) (by omega) (by omega)
      obtain ⟨ad, rfl, hcell⟩ := hcell
      rw [Int.toNat_natCast] at hcell
      have hsx := HM.out ts[i] (List.getElem_mem _)
      have hst : ts.take (i + 1) = ts.take i ++ [ts[i]] := List.take_succ_eq_append_getElem hlt
      obtain ⟨s, hsd⟩ : ∃ s, ts[i] = s := ⟨_, rfl⟩
      have hz : rdOf ByteArray.empty ts (i : Int) = s := by simp [rdOf, hlt, hsd]
      rw [hz] at hcell
      rw [hsd] at hsx hst
      have HST := Lib.hid hst
      have HSM := Lib.hid hsm
      clear hz hst hsm
      by_cases h100 : 100 < s.size
      · have b1 : decide (100 < (s.size : Int)) = true := decide_eq_true (by omega)
        go_wp2_with fail
        refine (fixed2_any _).mono ?_
        rintro e w1 ⟨rfl, hb1⟩
        go_wp2_with fail
        go_ret
        exact ⟨rfl, hbl.trans (hb1.mono hbl.size)⟩
      · have b1 : decide (100 < (s.size : Int)) = false := decide_eq_false (by omega)
        go_wp2
        go_roundw
        case rel =>
          refine ⟨i + 1, by omega, by go_num, ?_, hbl⟩
          rw [HST.out]
          intro u hu
          rcases List.mem_append.1 hu with hu | hu
          · exact HSM.out u hu
          · simp at hu; subst hu; omega
        case measure => simp [intOf]; omega
    · obtain rfl : i = ts.length := by omega
      rw [List.take_of_length_le (Nat.le_refl _)] at hsm
      have hbl3 := blobs_len ts hsm
      have HSM := Lib.hid hsm
      have HZ := Lib.hid (fun s h => by have := hsm s h; omega : ∀ s ∈ ts, s.size ≤ 1000000000)
      have HLB := Lib.hid (show (blobs ts).length ≤ 140737488355000 by omega)
      have HL2 := Lib.hid (show ([120] : List Int).length + (blobs ts).length ≤ 140737488355000 by simp; omega)
      obtain ⟨r, HRD⟩ : ∃ r, Hid ([120] ++ blobs ts = r) := ⟨_, Lib.hid rfl⟩
      have HRL := Lib.hid (show r.length = 1 + (blobs ts).length by rw [← HRD.out, List.length_append]; rfl)
      have hrl2 : r.length ≤ 4000 := by have := HRL.out; omega
      have hrl1 : 1 ≤ r.length := by have := HRL.out; omega
      have HNE := Lib.hid (show r ≠ [] by intro e; rw [e] at hrl1; simp at hrl1)
      have HSR := Lib.hid (show strOfNums r = ⟨#[120]⟩ ++ strOfNums (blobs ts) by rw [← HRD.out, strOfNums_app]; rfl)
      have HSZ := Lib.hid (show (⟨#[120]⟩ : ByteArray).size + (strOfNums (blobs ts)).size ≤ 9223372036854775807 by rw [strOfNums_size]; show 1 + _ ≤ _; omega)
      clear hsm hbl3
      have kc := fun (w : World) (C : Array Value) (n c : Nat) => Lib.run_convert_bytes_const (P := Try.prog) w 22 5 C n c Try.underlying22 Try.underlying5
      go_wp2_with fail
      have hC1 := C_block .u8 (wr.alloc (.cells #[.int .u8 120] 5 (1, 2))) wr.heap.size 5 (1, 2) [120] (heap_new _ _) (by simp)
      have hb0 := hbl.alloc hbl.size (.cells #[.int .u8 120] 5 (1, 2))
      refine (list_any (some ⟨wr.heap.size, 0, none⟩) 1 [120] B cb ts _ hC1 (Nat.le_refl _) (Kd.C_below HS.out hb0) hsc HL2.out).mono ?_
      rintro e w1 ⟨v7, rfl, ho, hb1⟩
      rw [HRD.out] at ho
      obtain ⟨A7, c7, rfl⟩ := Kd.R_slice ho
      have HO := Lib.hid (Kd.R_reads' ho)
      have HR := Lib.hid HO.out.2.2
      have hb2 := hb0.trans (hb1.mono hb0.size)
      clear ho hC1 hb0 hb1 hbl
      go_wp2_with fail
      refine region_calm (n := 11) (byList [isV (.slice A7 r.length c7), isV (.int .i64 (r.length : Int)), isV (.bool false), isV (.bool false), isV (.slice A7 r.length c7), isV (.string (strOfNums r)), isV (.slice B ts.length cb), isV (.string (strOfNums (blobs ts))), isV (.string (strOfNums r)), isV (.bool false), isV (.bool false)]) (by kernel_rfl) rfl (byList_lasts ?_) (by kernel_rfl) (by kernel_rfl) (by kernel_rfl) (show AllLt 11 _ from ?_) ?_
      · intro p hp
        simp only [List.mem_cons, List.not_mem_nil, or_false] at hp
        rcases hp with rfl | rfl | rfl | rfl | rfl | rfl | rfl | rfl | rfl | rfl | rfl <;> first | exact isV_lasts | exact isC_lasts
      · refine allLt_succ (allLt_succ (allLt_succ (allLt_succ (allLt_succ (allLt_succ (allLt_succ (allLt_succ (allLt_succ (allLt_succ (allLt_succ (allLt_zero _) ?_) ?_) ?_) ?_) ?_) ?_) ?_) ?_) ?_) ?_) ?_
        · refine StepOk.run (o := ?o0) ?ho0 ?hg0 ?h0
          case ho0 => simp only [List.getElem?_toArray, List.getElem?_cons_succ, List.getElem?_cons_zero]; rfl
          case hg0 => rfl
          case h0 =>
          intro a W hS hB hd
          have e7 : a.tmps[7]? = some (.slice A7 r.length c7) := hS.get rfl rfl
          refine wp_value (c := .slice A7 r.length c7) ?_ rfl
          go_simp
        · refine StepOk.run (o := ?o1) ?ho1 ?hg1 ?h1
          case ho1 => simp only [List.getElem?_toArray, List.getElem?_cons_succ, List.getElem?_cons_zero]; rfl
          case hg1 => rfl
          case h1 =>
          intro a W hS hB hd
          have e34 : a.tmps[34]? = some (.slice A7 r.length c7) := (hd 0 rfl).bool rfl rfl rfl
          refine wp_value (c := .int .i64 (r.length : Int)) ?_ rfl
          go_simp
        · refine StepOk.run (o := ?o2) ?ho2 ?hg2 ?h2
          case ho2 => simp only [List.getElem?_toArray, List.getElem?_cons_succ, List.getElem?_cons_zero]; rfl
          case hg2 => rfl
          case h2 =>
          intro a W hS hB hd
          have e35 : a.tmps[35]? = some (.int .i64 (r.length : Int)) := (hd 1 rfl).bool rfl rfl rfl
          refine wp_value (c := .bool false) ?_ rfl
          go_simp
          exact HNE.out
        · refine StepOk.run (o := ?o3) ?ho3 ?hg3 ?h3
          case ho3 => simp only [List.getElem?_toArray, List.getElem?_cons_succ, List.getElem?_cons_zero]; rfl
          case hg3 => rfl
          case h3 =>
          intro a W hS hB hd
          have e36 : a.tmps[36]? = some (.bool false) := (hd 2 rfl).bool rfl rfl rfl
          refine wp_value (c := .bool false) ?_ rfl
          go_simp
        · refine StepOk.on (o := ?o4) (g := 3) (u := false) ?ho4 ?hg4 rfl rfl ?hw4 rfl ?h4
          case ho4 => simp only [List.getElem?_toArray, List.getElem?_cons_succ, List.getElem?_cons_zero]; rfl
          case hg4 => rfl
          case hw4 => rfl
          case h4 =>
          intro a W hS hB hd
          have e7 : a.tmps[7]? = some (.slice A7 r.length c7) := hS.get rfl rfl
          refine wp_value (c := .slice A7 r.length c7) ?_ rfl
          go_simp
        · refine StepOk.on (o := ?o5) (g := 3) (u := false) ?ho5 ?hg5 rfl rfl ?hw5 rfl ?h5
          case ho5 => simp only [List.getElem?_toArray, List.getElem?_cons_succ, List.getElem?_cons_zero]; rfl
          case hg5 => rfl
          case hw5 => rfl
          case h5 =>
          intro a W hS hB hd
          have e38 : a.tmps[38]? = some (.slice A7 r.length c7) := (hd 4 rfl).bool rfl rfl rfl
          refine wp_value (c := .string (strOfNums r)) ?_ rfl
          have hcv := Kd.C_string (P := Try.prog) (A := A7) (c := c7) Try.underlying22 Try.underlying5 Try.underlying9 (Kd.C_below HR.out hB)
          go_simp
        · refine StepOk.on (o := ?o6) (g := 3) (u := false) ?ho6 ?hg6 rfl rfl ?hw6 rfl ?h6
          case ho6 => simp only [List.getElem?_toArray, List.getElem?_cons_succ, List.getElem?_cons_zero]; rfl
          case hg6 => rfl
          case hw6 => rfl
          case h6 =>
          intro a W hS hB hd
          have e0 : a.tmps[0]? = some (.slice B ts.length cb) := hS.get rfl rfl
          refine wp_value (c := .slice B ts.length cb) ?_ rfl
          go_simp
        · refine StepOk.on (o := ?o7) (g := 3) (u := false) ?ho7 ?hg7 rfl rfl ?hw7 rfl ?h7
          case ho7 => simp only [List.getElem?_toArray, List.getElem?_cons_succ, List.getElem?_cons_zero]; rfl
          case hg7 => rfl
          case hw7 => rfl
          case h7 =>
          intro a W hS hB hd
          have e40 : a.tmps[40]? = some (.slice B ts.length cb) := (hd 6 rfl).bool rfl rfl rfl
          refine wp_called Try.func27 (by kernel_rfl) rfl #[.slice B ts.length cb] rfl (by simp [Act.eval, *]) ?_
          refine (rlist_any B cb ts W (Kd.C_below HS.out (hb2.trans (hB.mono hb2.size))) hsc HZ.out HLB.out).mono ?_
          rintro e w9 ⟨rfl, hb9⟩
          exact ⟨_, rfl, rfl, hb9⟩
        · refine StepOk.on (o := ?o8) (g := 3) (u := false) ?ho8 ?hg8 rfl rfl ?hw8 rfl ?h8
          case ho8 => simp only [List.getElem?_toArray, List.getElem?_cons_succ, List.getElem?_cons_zero]; rfl
          case hg8 => rfl
          case hw8 => rfl
          case h8 =>
          intro a W hS hB hd
          have e41 : a.tmps[41]? = some (.string (strOfNums (blobs ts))) := (hd 7 rfl).bool rfl rfl rfl
          refine wp_value (c := .string (strOfNums r)) ?_ rfl
          have hsz : 1 + (strOfNums (blobs ts)).size ≤ 9223372036854775807 := HSZ.out
          rw [HSR.out]
          go_simp
        · refine StepOk.on (o := ?o9) (g := 3) (u := false) ?ho9 ?hg9 rfl rfl ?hw9 rfl ?h9
          case ho9 => simp only [List.getElem?_toArray, List.getElem?_cons_succ, List.getElem?_cons_zero]; rfl
          case hg9 => rfl
          case hw9 => rfl
          case h9 =>
          intro a W hS hB hd
          have e39 : a.tmps[39]? = some (.string (strOfNums r)) := (hd 5 rfl).bool rfl rfl rfl
          have e42 : a.tmps[42]? = some (.string (strOfNums r)) := (hd 8 rfl).bool rfl rfl rfl
          refine wp_value (c := .bool false) ?_ rfl
          go_simp
        · refine StepOk.run (o := ?o10) ?ho10 ?hg10 ?h10
          case ho10 => simp only [List.getElem?_toArray, List.getElem?_cons_succ, List.getElem?_cons_zero]; rfl
          case hg10 => rfl
          case h10 =>
          intro a W hS hB hd
          have e37 : a.tmps[37]? = some (.bool false) := (hd 3 rfl).bool rfl rfl rfl
          have e43 : a.tmps[43]? = some (.bool false) := (hd 9 rfl).bool rfl rfl rfl
          refine wp_value (c := .bool false) ?_ rfl
          go_simp
      · intro a W hS hB hh
        have e44 : a.tmps[44]? = some (.bool false) := (hh 10 (by omega)).bool rfl rfl rfl
        have HR2 := Lib.hid (Kd.C_below HR.out hB)
        have hb3 := hb2.trans (hB.mono hb2.size)
        have hlit := same_lit hS
        clear hh hS hB hb2
        simp only [List.filterMap_cons, List.filterMap_nil, List.foldl_cons, List.foldl_nil, List.setIfInBounds_toArray, List.set_cons_zero, List.set_cons_succ] at hlit
        rw [show a.tmps.getD 44 undef = .bool false by simp [Array.getD_eq_getD_getElem?, e44]] at hlit
        generalize a.tmps.getD 34 undef = z34 at hlit
        generalize a.tmps.getD 35 undef = z35 at hlit
        generalize a.tmps.getD 36 undef = z36 at hlit
        generalize a.tmps.getD 37 undef = z37 at hlit
        generalize a.tmps.getD 38 undef = z38 at hlit
        generalize a.tmps.getD 39 undef = z39 at hlit
        generalize a.tmps.getD 40 undef = z40 at hlit
        generalize a.tmps.getD 41 undef = z41 at hlit
        generalize a.tmps.getD 42 undef = z42 at hlit
        generalize a.tmps.getD 43 undef = z43 at hlit
        clear e44
        subst hlit
        obtain ⟨m, hm, hm1, hm2⟩ : ∃ m : Nat, (if (r.length : Int) - 1 < (q : Int) then (r.length : Int) - 1 else (q : Int)) = (m : Int) ∧ 1 + m ≤ r.length ∧ m ≤ 4000 := by
          split
          · exact ⟨r.length - 1, by omega, by omega, by omega⟩
          · exact ⟨q, rfl, by omega, by omega⟩
        obtain ⟨c, hc⟩ : ∃ c : Nat, (1 : Int) + (m : Int) = (c : Int) := ⟨1 + m, by omega⟩
        have hcm : c ≤ 4001 := by omega
        have HCR := Lib.hid (show c ≤ r.length ∧ 1 ≤ c by omega)
        have hBG := fun i hi s hsd => bget_at ts HSM.out i c hi s hsd
        rw [HRD.out] at hBG
        have hCT := Kd.C_take (m := c) HR2.out (by omega)
        have hbr : ∀ x ∈ r.take c, 0 ≤ x ∧ x < 256 := by
          intro x hx
          have hx := List.mem_of_mem_take hx
          rw [← HRD.out] at hx
          rcases List.mem_append.1 hx with hx | hx
          · simp at hx; subst hx; decide
          · simp only [blobs, List.mem_flatMap] at hx
            obtain ⟨s, hs, hx⟩ := hx
            exact blob_bytes s (by have := HZ.out s hs; omega) x hx
        have hlen : (r.take c).length = c := by rw [List.length_take]; omega
        obtain ⟨rc, hrc⟩ : ∃ rc, r.take c = rc := ⟨_, rfl⟩
        rw [hrc] at hBG hCT hbr hlen
        have hc7 : c ≤ c7 := by have := HO.out.2.1; omega
        clear hrc hm1 hm2
        subst hlen
        have HBG := Lib.hid hBG
        have HCT := Lib.hid hCT
        have HBR := Lib.hid hbr
        clear hBG hCT hbr
        go_wp2_with fail
        go_loopw [9, 54] (fun u9 u54 wq => ∃ (i o : Nat), i ≤ ts.length ∧ u54 = .int .i64 i ∧ u9 = .int .i64 o ∧ o = 1 + (blobs (ts.take i)).length ∧ o ≤ rc.length ∧ Below W.heap.size W wq) (fun _ v _ => ts.length - (intOf v).toNat)
        case atStart => exact ⟨0, 1, by omega, rfl, rfl, rfl, HCR.out.2, Below.refl _ _⟩
        case round =>
          obtain ⟨i, o, hi, rfl, rfl, ho, hoc, hbl⟩ := hrel
          have hb4 := hb3.trans (hbl.mono hb3.size)
          by_cases hlt : i < ts.length
          · have hcell := Kd.at_string (Kd.C_below HS.out hb4) (i : Int) (by omega) (by omega)
            obtain ⟨ad, rfl, hcell⟩ := hcell
            rw [Int.toNat_natCast] at hcell
            have hst := congrArg List.length (blobs_step ts i hlt)
            obtain ⟨s, hsd⟩ : ∃ s, ts[i] = s := ⟨_, rfl⟩
            have hz : rdOf ByteArray.empty ts (i : Int) = s := by simp [rdOf, hlt, hsd]
            rw [hz] at hcell
            have hg := HBG.out i hlt s hsd (by omega)
            rw [← ho] at hg
            have hs1 : s.size ≤ 100 := hsd ▸ HSM.out ts[i] (List.getElem_mem _)
            rw [hsd, List.length_append] at hst
            obtain ⟨z, hzz⟩ : ∃ z, (strOfNums (blob s)).size = z := ⟨_, rfl⟩
            have hzb : (blob s).length = z := by rw [← hzz, strOfNums_size]
            have hz1 : z ≤ 110 := by
              have := vb_len10 s.size (by omega)
              rw [← hzb, blob_len]; omega
            obtain ⟨o2, ho2⟩ : ∃ o2 : Nat, (o : Int) + (z : Int) = (o2 : Int) := ⟨o + z, by omega⟩
            have HST := Lib.hid (show o2 = 1 + (blobs (ts.take (i + 1))).length by omega)
            have HRP := Lib.hid (fun W => rbput_any s (by omega) W)
            have HGET := Lib.hid (fun W h => bget_any A7 c7 rc 100 W (o : Int) h hc7 HBR.out (by omega) (by omega))
            have ho2n : o + z = o2 := by omega
            rw [hzb, ho2n] at hg
            rw [hg] at HGET
            have hcm4 : rc.length ≤ 4001 := by omega
            have ho2b : o2 ≤ 5000 := by omega
            clear hst hz hg hzb
            have HON := Lib.hid ho2n
            by_cases hfit : o2 ≤ rc.length
            · have hnf : ¬ rc.length < o2 := by omega
              rw [if_pos hfit] at HGET
              have HO2 := Lib.hid ho
              clear ho ho2n hoc
              go_wp2_with fail
              refine (HGET.out _ (Kd.C_below HCT.out hbl)).mono ?_
              rintro e w4 ⟨rfl, hb5⟩
              have hb6 := hbl.trans (hb5.mono hbl.size)
              clear hb5
              go_wp2_with fail
              refine (HRP.out _).mono ?_
              rintro e w5 ⟨rfl, hb7⟩
              have hb8 := hb6.trans (hb7.mono hb6.size)
              clear hb6 hb7
              go_wp2_with fail
              refine (HRP.out _).mono ?_
              rintro e w6 ⟨rfl, hb9⟩
              have hb10 := hb8.trans (hb9.mono hb8.size)
              clear hb8 hb9
              go_wp2
              go_roundw
              case rel => exact ⟨i + 1, o2, by omega, by go_num, rfl, HST.out, hfit, hb10⟩
              case measure => simp [intOf]; omega
            · have hnf : rc.length < o2 := by omega
              rw [if_neg hfit] at HGET
              have HO2 := Lib.hid ho
              clear ho ho2n hoc hfit
              go_wp2_with fail
              refine (HGET.out _ (Kd.C_below HCT.out hbl)).mono ?_
              rintro e w4 ⟨rfl, hb5⟩
              have hb6 := hbl.trans (hb5.mono hbl.size)
              clear hb5
              go_wp2_with fail
              refine (HRP.out _).mono ?_
              rintro e w5 ⟨rfl, hb7⟩
              have hb8 := hb6.trans (hb7.mono hb6.size)
              clear hb6 hb7
              go_wp2_with fail
              refine (fixed2_any _).mono ?_
              rintro e w6 ⟨rfl, hb9⟩
              have hb10 := hb8.trans (hb9.mono hb8.size)
              clear hb8 hb9
              go_wp2_with fail
              go_ret
              exact ⟨rfl, hb3.trans (hb10.mono hb3.size)⟩
          · obtain rfl : i = ts.length := by omega
            rw [List.take_of_length_le (Nat.le_refl _), ← HRL.out] at ho
            go_wp2_with fail
            refine (fixed2_any _).mono ?_
            rintro e w6 ⟨rfl, hb9⟩
            have hb10 := hb4.trans (hb9.mono hb4.size)
            go_wp2_with fail
            go_ret
            exact ⟨by subst ho; simp, hb10⟩
set_option maxHeartbeats 400000 in
theorem lists_great (B : Option Addr) (cb : Nat) (ts : List ByteArray) (q : Nat) (w : World) (hle : 30 < (ts.length : Int)) (hm : ts.length ≤ 9223372036854775807) :
    Calls Try.prog 9 #[.slice B ts.length cb, .int .u16 (q : Int)] w fun e w' => e = .returned (.bool true) ∧ Below w.heap.size w w' := by
  have hd : decide (30 < (ts.length : Int)) = true := decide_eq_true hle
  go_enter Try.func9, Try.ntmps9
  go_wp2_with (go_at_call 21; refine (fixed2_any _).mono ?_; rintro e w1 ⟨rfl, hb⟩)
  go_ret
  exact ⟨rfl, hb⟩
theorem walk (v0 : Value) (x0 : Option Addr × Nat × List ByteArray) (a1 : Int) (w : World) (w0 : IsStrs w v0 x0) (w1 : (Lit.int .u16 a1).wf = true) :
    Calls Try.prog 9 #[v0, .int .u16 a1] w fun e w' => e = .returned (.bool true) ∧ Below w.heap.size w w' := by
  obtain ⟨B, cb, ts⟩ := x0
  obtain ⟨rfl, hsc, hs, hsz⟩ := w0
  have ha : 0 ≤ a1 ∧ a1 < 65536 := by simp [Lit.wf, IntKind.min, IntKind.max, IntKind.signed, IntKind.bits] at w1; omega
  have e : a1 = (a1.toNat : Int) := (Int.toNat_of_nonneg ha.1).symm
  by_cases hle : 30 < (ts.length : Int)
  · have := lists_great B cb ts a1.toNat w hle hs.2.1
    rw [← e] at this
    exact this
  · have := lists_main B cb ts a1.toNat w hs hsc hsz (by omega) (by omega)
    rw [← e] at this
    exact this
end Go.Proofs.Ythojcapdbjmneaa.WBlobLists
