/- A text has one number, unlike texts have unlike ones; behind a cut those cut away are fresh: the law InternOne returns true, and writes nothing that was there. -/
import Derived.Test.YthpbkhagjgggjaaWIntern
import Derived.Lib.Strings
set_option linter.unusedVariables false
set_option linter.unusedSimpArgs false
namespace Go.Proofs.Ythpbkhagjgggjaa
open Go.RowKit Go.Proofs.YthpbkhagjgggjaaW.PrintWords
theorem cellsOf_str : Try.prog.cellsOf 9 = 1 := by kernel_rfl
theorem cellsOf_strs : Try.prog.cellsOf 22 = 1 := by kernel_rfl
theorem opens_str : Opens Try.prog 9 Kd.string (fun s => s.size ≤ maxLen) := opens_string Try.underlying9 cellsOf_str
set_option maxRecDepth 100000 in
theorem open_t22 {H : Type} {enc : TypeId × Value → H} {W : World} {base : Nat} {held : Bool} {v : Value} {d : DataW H} {ps : List MemPlace} {r : Reach} {b0 : Nat} (hval : Value.okWide Try.prog W r b0 22 v) (h : DataW.Trod enc Try.prog W base (fun _ => true) held 22 v d ps) :
    ∃ x, IsRows Kd.string (fun s => s.size ≤ maxLen) W v x := open_rows (P := Try.prog) (t := 22) (e := 9) Try.underlying22 cellsOf_strs opens_str (W := W) (r := r) (b0 := b0) (v := v) hval h
end Go.Proofs.Ythpbkhagjgggjaa
namespace Go.Proofs.Ythpbkhagjgggjaa.WInternOne
open Go.RowKit Go.Proofs.YthpbkhagjgggjaaW.PrintWords

attribute [local go_sem] Go.Proofs.YthpbkhagjgggjaaW.PrintMore.max2_int Go.Proofs.YthpbkhagjgggjaaW.PrintMore.min2_int
theorem C_at {w : World} {ad : Addr} {l : List ByteArray} (h : Kd.C Kd.string w (some ad) l.length l) (i : Nat) (hi : i < l.length) : w.cell? (ad.add i) = some (.string l[i]) := by
  obtain ⟨ad', e, hcell⟩ := Kd.at_string h (i : Int) (by omega) (by omega)
  cases e
  rw [Int.toNat_natCast] at hcell
  rw [hcell]
  simp [rdOf, hi]
theorem great (B : Option Addr) (cb : Nat) (ts : List ByteArray) (n : Int) (w : World) (hle : 60 < (ts.length : Int)) (hm : ts.length ≤ 9223372036854775807) :
    Calls Try.prog 6 #[.slice B ts.length cb, .int .u8 n] w fun e w' => e = .returned (.bool true) ∧ Below w.heap.size w w' := by
  have hd : decide (60 < (ts.length : Int)) = true := decide_eq_true hle
  go_enter Try.func6, Try.ntmps6
  go_wp2_with (go_at_call 30; refine (fixed7_any _).mono ?_; rintro e w1 ⟨rfl, hb⟩)
  go_ret
  exact ⟨rfl, hb⟩
set_option maxHeartbeats 4000000 in
set_option maxRecDepth 100000 in
theorem main (B : Option Addr) (cb : Nat) (ts : List ByteArray) (q : Nat) (w : World) (hs : Kd.C Kd.string w B ts.length ts) (hsc : ts.length ≤ cb) (hsz : ∀ s ∈ ts, s.size ≤ maxLen) (hle : ts.length ≤ 60) (hq : q < 256) :
    Calls Try.prog 6 #[.slice B ts.length cb, .int .u8 (q : Int)] w fun e w' => e = .returned (.bool true) ∧ Below w.heap.size w w' := by
  have HS := Lib.hid hs
  have HZ := Lib.hid hsz
  have HN := Lib.hid (new_any B cb ts w hs hsc hsz (by omega))
  clear hs hsz
  have hd0 : decide (60 < (ts.length : Int)) = false := decide_eq_false (by omega)
  go_enter Try.func6, Try.ntmps6
  go_wp2_with fail
  refine HN.out.mono ?_
  rintro e w1 ⟨rfl, hd⟩
  clear HN
  generalize w.heap.size = g at hd ⊢
  have HMEM := Lib.hid (fun s (h : s ∈ ts) => (mem_tnew ts s).2 h)
  have hln := tnew_len ts
  generalize tnew ts = L at *
  obtain ⟨S, hT, hS, hB⟩ := hd.out
  have HID := Lib.hid (fun s h => id_in hT s (HMEM.out s h))
  have HLEN := Lib.hid (len_any hT)
  have HT := Lib.hid hT
  have HSS := Lib.hid hS
  have HB := Lib.hid hB
  have HC1 := Lib.hid (Kd.C_below HS.out hB)
  clear hT hS hB hd
  go_wp2_with fail
  go_loopw [32] (fun u32 wr => ∃ (i : Nat), i ≤ ts.length ∧ u32 = .int .i64 i ∧ w1 = wr) (fun v _ => ts.length - (intOf v).toNat)
  case atStart => exact ⟨0, by omega, rfl, rfl⟩
  case round =>
    obtain ⟨i, hi, rfl, hwr⟩ := hrel
    subst hwr
    by_cases hlt : i < ts.length
    · obtain ⟨ad, had, _⟩ := Kd.at_string HC1.out (i : Int) (by omega) (by omega)
      subst had
      have hcell := C_at HC1.out i hlt
      have hmem := HMEM.out ts[i] (List.getElem_mem _)
      have HI := Lib.hid (HID.out ts[i] (List.getElem_mem _))
      have hpos := posOf_lt hmem
      have HINJ := Lib.hid (fun u hu => (posOf_inj (l := L) (u := u) hmem hu))
      obtain ⟨s, hs⟩ : ∃ s, ts[i] = s := ⟨_, rfl⟩
      rw [hs] at hcell HI hpos HINJ
      have b1 : decide (L.length ≤ posOf L s) = false := decide_eq_false (by omega)
      have hC2 := Kd.C_take (m := i) HC1.out (by omega)
      have HC2 := Lib.hid hC2
      obtain ⟨p, hp⟩ : ∃ p, posOf L s = p := ⟨_, rfl⟩
      rw [hp] at HI hpos b1
      have HP := Lib.hid hp
      clear hs hmem hC2 hp
      go_wp2_with fail
      refine HI.out.mono ?_
      rintro e w2 ⟨rfl, rfl⟩
      go_wp2_with fail
      refine HLEN.out.mono ?_
      rintro e w2 ⟨rfl, rfl⟩
      go_wp2_with fail
      go_loopw [55] (fun u55 wr => ∃ (j : Nat), j ≤ i ∧ u55 = .int .i64 j ∧ w1 = wr) (fun v _ => i - (intOf v).toNat)
      case atStart => exact ⟨0, by omega, rfl, rfl⟩
      case round =>
        obtain ⟨j, hj, rfl, hwr⟩ := hrel
        subst hwr
        by_cases hjt : j < i
        · have hcell2 := C_at HC1.out j (by omega)
          have HJ := Lib.hid (HID.out ts[j] (List.getElem_mem _))
          have HEQ := Lib.hid (show ((p : Int) == (posOf L ts[j] : Int)) = (s.toList == ts[j].toList) by
            rw [Bool.eq_iff_iff, beq_iff_eq, beq_iff_eq, ← HP.out, Lib.toList_data, Lib.toList_data]
            constructor
            · intro e
              rw [HINJ.out ts[j] (HMEM.out ts[j] (List.getElem_mem _)) (by omega)]
            · intro e
              rw [ByteArray.ext (Array.ext' e)])
          obtain ⟨u, hu⟩ : ∃ u, ts[j] = u := ⟨_, rfl⟩
          rw [hu] at hcell2 HJ HEQ
          obtain ⟨p2, hp2⟩ : ∃ p2, posOf L u = p2 := ⟨_, rfl⟩
          rw [hp2] at HJ HEQ
          clear hu hp2
          obtain ⟨bb, hbb⟩ : ∃ bb, (s.toList == u.toList) = bb := ⟨_, rfl⟩
          rw [hbb] at HEQ
          have HBB := Lib.hid hbb
          clear hbb
          go_wp2_with fail
          refine HJ.out.mono ?_
          rintro e w2 ⟨rfl, rfl⟩
          have e1 := HEQ.out
          have e2 := HBB.out
          go_wp2_with fail
          go_roundw
          case rel => exact ⟨j + 1, by omega, by go_num, trivial⟩
          case measure => simp [intOf]; omega
        · obtain rfl : j = i := by omega
          go_wp2
          go_roundw
          case rel => exact ⟨j + 1, by omega, by go_num, trivial⟩
          case measure => simp [intOf]; omega
    · obtain rfl : i = ts.length := by omega
      obtain ⟨k, hk, HKL⟩ : ∃ k : Nat, (if L.length < q then (L.length : Int) else (q : Int)) = (k : Int) ∧ Hid (k ≤ 60) := by
        split
        · exact ⟨L.length, rfl, Lib.hid (by omega)⟩
        · exact ⟨q, rfl, Lib.hid (by omega)⟩
      have hkb : (k : Int) ≤ 60 := by have := HKL.out; omega
      go_wp2_with fail
      refine HLEN.out.mono ?_
      rintro e w2 ⟨rfl, rfl⟩
      go_wp2_with fail
      refine (Cut_any HT.out (k : Int) (by omega)).mono ?_
      rintro e w2 ⟨rfl, hd⟩
      have h3 := NewTab.put HSS.out HB.out hd
      have hl3 : (L.take (cutN L (k : Int))).length ≤ 60 := by rw [List.length_take]; unfold cutN; omega
      have H3 := Lib.hid h3
      clear hd h3 HLEN HID HT HSS HB
      generalize L.take (cutN L (k : Int)) = L0 at *
      go_wp2_with fail
      go_loopw [84] (fun u84 wr => ∃ (i : Nat) (l : List ByteArray), i ≤ ts.length ∧ u84 = .int .i64 i ∧ l.length ≤ 60 + i ∧ Hid (NewTab w wr g l)) (fun v _ => ts.length - (intOf v).toNat)
      case atStart => exact ⟨0, L0, by omega, rfl, by omega, H3⟩
      case round =>
        obtain ⟨i, l, hi, rfl, hll, hrel⟩ := hrel
        by_cases hlt : i < ts.length
        · obtain ⟨S, hT, hS, hB⟩ := hrel.out.out
          have hC2 := Kd.C_below HS.out hB
          obtain ⟨ad, had, _⟩ := Kd.at_string hC2 (i : Int) (by omega) (by omega)
          subst had
          have hcell := C_at hC2 i hlt
          have hsz := HZ.out ts[i] (List.getElem_mem _)
          obtain ⟨s, hs⟩ : ∃ s, ts[i] = s := ⟨_, rfl⟩
          rw [hs] at hcell hsz
          have HF := Lib.hid (find_any hT s hsz)
          have HLN := Lib.hid (len_any hT)
          have HID := Lib.hid (id_any hT s hsz (by omega))
          have HSS := Lib.hid hS
          have HB := Lib.hid hB
          by_cases hin : s ∈ l
          · rw [isIn_iff.2 hin] at HF HID
            rw [tput_in hin] at HID
            obtain ⟨x, hx⟩ : ∃ x, atI l s = x := ⟨_, rfl⟩
            obtain ⟨p, hp⟩ : ∃ p, posOf l s = p := ⟨_, rfl⟩
            rw [hx] at HF
            rw [hp] at HID
            clear hT hS hB hs hsz hC2 hrel hin hx hp
            go_wp2_with fail
            refine HF.out.mono ?_
            rintro e w2 ⟨rfl, rfl⟩
            go_wp2_with fail
            refine HLN.out.mono ?_
            rintro e w2 ⟨rfl, rfl⟩
            go_wp2_with fail
            refine HID.out.mono ?_
            rintro e w3 ⟨rfl, hd⟩
            have hn := NewTab.put HSS.out HB.out hd
            obtain ⟨S3, hT3, hS3, hB3⟩ := hn.out
            have HLN3 := Lib.hid (len_any hT3)
            have HN := Lib.hid hn
            clear hd hn hT3 hS3 hB3
            go_wp2_with fail
            refine HLN3.out.mono ?_
            rintro e w4 ⟨rfl, rfl⟩
            go_wp2
            go_roundw
            case rel => exact ⟨i + 1, l, by omega, by go_num, by omega, HN⟩
            case measure => simp [intOf]; omega
          · have hpl := posOf_none hin
            rw [isIn_ne.2 hin] at HF HID
            rw [tput_out hin, hpl] at HID
            obtain ⟨x, hx⟩ : ∃ x, atI l s = x := ⟨_, rfl⟩
            rw [hx] at HF
            obtain ⟨l2, hl2⟩ : ∃ l2, l ++ [s] = l2 := ⟨_, rfl⟩
            rw [hl2] at HID
            have hlen2 : l2.length = l.length + 1 := by rw [← hl2]; simp
            have HL2 := Lib.hid hlen2
            clear hT hS hB hs hsz hC2 hrel hin hx hpl hl2 hlen2
            go_wp2_with fail
            refine HF.out.mono ?_
            rintro e w2 ⟨rfl, rfl⟩
            go_wp2_with fail
            refine HLN.out.mono ?_
            rintro e w2 ⟨rfl, rfl⟩
            go_wp2_with fail
            refine HID.out.mono ?_
            rintro e w3 ⟨rfl, hd⟩
            have hn := NewTab.put HSS.out HB.out hd
            obtain ⟨S3, hT3, hS3, hB3⟩ := hn.out
            have HLN3 := Lib.hid (len_any hT3)
            rw [HL2.out] at HLN3
            have HN := Lib.hid hn
            clear hd hn hT3 hS3 hB3
            go_wp2_with fail
            refine HLN3.out.mono ?_
            rintro e w4 ⟨rfl, rfl⟩
            go_wp2
            go_roundw
            case rel => exact ⟨i + 1, l2, by omega, by go_num, by have := HL2.out; omega, HN⟩
            case measure => simp [intOf]; omega
        · obtain rfl : i = ts.length := by omega
          have hB := hrel.out.below
          go_wp2_with fail
          refine (fixed7_any _).mono ?_
          rintro e w5 ⟨rfl, hb5⟩
          go_wp2_with fail
          go_ret
          exact ⟨rfl, hB.trans (hb5.mono hB.size)⟩
theorem walk (v0 : Value) (x0 : Option Addr × Nat × List ByteArray) (a1 : Int) (w : World) (w0 : IsRows Kd.string (fun s => s.size ≤ maxLen) w v0 x0) (w1 : (Lit.int .u8 a1).wf = true) :
    Calls Try.prog 6 #[v0, .int .u8 a1] w fun e w' => e = .returned (.bool true) ∧ Below w.heap.size w w' := by
  obtain ⟨B, cb, ts⟩ := x0
  obtain ⟨rfl, hsc, hs, hm, hsz⟩ := w0
  have ha : 0 ≤ a1 ∧ a1 < 256 := by simp [Lit.wf, IntKind.min, IntKind.max, IntKind.signed, IntKind.bits] at w1; omega
  have e : a1 = (a1.toNat : Int) := (Int.toNat_of_nonneg ha.1).symm
  by_cases hle : 60 < (ts.length : Int)
  · exact great B cb ts a1 w hle (by simp only [maxLen] at hm; omega)
  · have := main B cb ts a1.toNat w hs hsc hsz (by omega) (by omega)
    rw [← e] at this
    exact this
end Go.Proofs.Ythpbkhagjgggjaa.WInternOne
