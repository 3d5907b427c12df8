/- The frame of any payload, and of what is none, is the document's; it is read as that, wherever it stands: the law FramePuts returns true, and writes nothing that was there (up to 2500 bytes, 100 ahead). -/
import Derived.Test.YtfflenbfapgilaaFrE
set_option linter.unusedVariables false
set_option linter.unusedSimpArgs false
namespace Go.Proofs.Ytfflenbfapgilaa.WFramePuts
open Go.RowKit Go.Proofs.YtfflenbfapgilaaW.PrintWords Go.Proofs.Ytfflenbfapgilaa.GVB

theorem puts_great (A : Option Addr) (c : Nat) (m : List Int) (B : Option Addr) (d : Nat) (l : List Int) (w : World) (hl : 2500 < (l.length : Int) ∨ ¬ 2500 < (l.length : Int) ∧ 100 < (m.length : Int)) (hml : l.length ≤ 9223372036854775807) (hmm : m.length ≤ 9223372036854775807) :
    Calls Try.prog 4 #[.slice A m.length c, .slice B l.length d] w fun e w' => e = .returned (.bool true) ∧ Below w.heap.size w w' := by
  rcases hl with h | ⟨h, h2⟩
  · have d0 : decide (2500 < (l.length : Int)) = true := decide_eq_true h
    go_enter Try.func4, Try.ntmps4
    go_wp2_with (go_at_call 14; refine (fixed6_any _).mono ?_; rintro e w1 ⟨rfl, hb⟩)
    go_ret
    exact ⟨rfl, hb⟩
  · have d0 : decide (2500 < (l.length : Int)) = false := decide_eq_false h
    have d1 : decide (100 < (m.length : Int)) = true := decide_eq_true h2
    go_enter Try.func4, Try.ntmps4
    go_wp2_with (go_at_call 14; refine (fixed6_any _).mono ?_; rintro e w1 ⟨rfl, hb⟩)
    go_ret
    exact ⟨rfl, hb⟩
set_option maxRecDepth 100000 in
set_option maxHeartbeats 2000000 in
theorem puts_bad (A : Option Addr) (c : Nat) (m : List Int) (B : Option Addr) (d : Nat) (l : List Int) (w : World) (hC : Kd.C (Kd.int .u8) w B l.length l) (hl : l.length ≤ 2500) (hm : m.length ≤ 100) (hbad : ¬ (1 ≤ l.length ∧ l.length ≤ 2048)) :
    Calls Try.prog 4 #[.slice A m.length c, .slice B l.length d] w fun e w' => e = .returned (.bool true) ∧ Below w.heap.size w w' := by
  have d0 : decide (2500 < (l.length : Int)) = false := decide_eq_false (by omega)
  have d1 : decide (100 < (m.length : Int)) = false := decide_eq_false (by omega)
  have HP := Lib.hid (fun (W : World) => fput_bad A c m B d l W (by omega) hbad)
  have HR := Lib.hid (fun (W : World) => rfput_bad (strOfNums l) (by rw [strOfNums_size]; exact hbad) (by rw [strOfNums_size]; omega) W)
  have HC := Lib.hid (fun (W : World) (h : Below w.heap.size w W) => Kd.C_below hC h)
  clear hC hbad
  go_enter Try.func4, Try.ntmps4
  go_wp2_with fail
  refine (HP.out _).mono ?_
  rintro e w1 ⟨rfl, hb1⟩
  have HB1 := Lib.hid hb1
  clear hb1
  have hcv := Kd.C_string (P := Try.prog) (A := B) (c := d) Try.underlying22 Try.underlying5 Try.underlying9 (HC.out w1 HB1.out)
  go_wp2_with fail
  refine (HR.out _).mono ?_
  rintro e w2 ⟨rfl, hb2⟩
  have HB2 := Lib.hid (HB1.out.trans (hb2.mono HB1.out.size))
  clear hb2 hcv
  go_wp2_with fail
  refine (fixed6_any _).mono ?_
  rintro e w3 ⟨rfl, hb3⟩
  have HB3 := Lib.hid (HB2.out.trans (hb3.mono HB2.out.size))
  clear hb3
  go_wp2_with fail
  go_ret
  exact ⟨rfl, HB3.out⟩
set_option maxRecDepth 100000 in
set_option maxHeartbeats 2000000 in
theorem puts_ok (A : Option Addr) (c : Nat) (m : List Int) (B : Option Addr) (d : Nat) (l : List Int) (w : World) (hM : Kd.C (Kd.int .u8) w A m.length m) (hc : m.length ≤ c) (hbm : ∀ x ∈ m, 0 ≤ x ∧ x < 256) (hC : Kd.C (Kd.int .u8) w B l.length l) (hd : l.length ≤ d) (hbl : ∀ x ∈ l, 0 ≤ x ∧ x < 256) (hl : 1 ≤ l.length ∧ l.length ≤ 2048) (hm : m.length ≤ 100) :
    Calls Try.prog 4 #[.slice A m.length c, .slice B l.length d] w fun e w' => e = .returned (.bool true) ∧ Below w.heap.size w w' := by
  have d0 : decide (2500 < (l.length : Int)) = false := decide_eq_false (by omega)
  have d1 : decide (100 < (m.length : Int)) = false := decide_eq_false (by omega)
  obtain ⟨s, hs⟩ : ∃ s, strOfNums l = s := ⟨_, rfl⟩
  have hsz : s.size = l.length := by rw [← hs, strOfNums_size]
  have hle := frameS_le s (by omega)
  have hfl := frameS_len s
  have hP := fun (W : World) (h : Below w.heap.size w W) => fput_ok A c m B d l W (Kd.C_below hM h) hc (by omega) (Kd.C_below hC h) hd hl (by rw [hs]; omega) (by rw [hs]; exact blob_bytes s (by omega))
  rw [frameL_is, hs] at hP
  have hR := fun (W : World) => rfput_ok s (by omega) W
  have hG0 := fget_frame m s [] (by omega) hbm (by simp)
  rw [List.append_nil] at hG0
  obtain ⟨r, HRR⟩ : ∃ r, Hid (m ++ frameS s = r) := ⟨_, Lib.hid rfl⟩
  rw [HRR.out] at hP hG0
  have hrl : r.length = m.length + (frameS s).length := by rw [← HRR.out, List.length_append]
  have hrb : ∀ x ∈ r, 0 ≤ x ∧ x < 256 := by
    rw [← HRR.out]
    intro x hx
    rcases List.mem_append.1 hx with hx | hx
    · exact hbm x hx
    · exact frameS_bytes s (by omega) x hx
  rw [← hrl] at hG0
  have hadd := fun (W : World) => run_string_add_sum (P := Try.prog) (w := W) (strOfNums m) (strOfNums (frameS s)) (by rw [strOfNums_size, strOfNums_size]; omega)
  rw [← strOfNums_app, HRR.out] at hadd
  have HG := Lib.hid (fun (A : Option Addr) (c : Nat) (W : World) h1 h2 => fget_any A c r (m.length : Int) W h1 h2 hrb (by omega))
  have HG0 := Lib.hid hG0
  have HP := Lib.hid hP
  have HR := Lib.hid hR
  have HM := Lib.hid (fun (W : World) (h : Below w.heap.size w W) => Kd.C_below hM h)
  have HC := Lib.hid (fun (W : World) (h : Below w.heap.size w W) => Kd.C_below hC h)
  have hrl2 : r.length ≤ 2300 := by omega
  have HS := Lib.hid (show bytesOf s = l by rw [← hs]; exact bytesOf_str l hbl)
  have HSL := Lib.hid hs
  generalize strOfNums (frameS s) = fr at *
  clear hP hR hM hC hG0 hrl hrb hle hfl hs hbm hbl
  go_enter Try.func4, Try.ntmps4
  go_wp2_with fail
  refine (HP.out _ (Below.refl _ _)).mono ?_
  rintro e w1 ⟨A1, c1, rfl, hR1, hb1⟩
  have HB1 := Lib.hid hb1
  have HR1 := Lib.hid hR1
  clear hb1 hR1
  have hcv := Kd.C_string (P := Try.prog) (A := B) (c := d) Try.underlying22 Try.underlying5 Try.underlying9 (HC.out w1 HB1.out)
  rw [HSL.out] at hcv
  go_wp2_with fail
  refine (HR.out _).mono ?_
  rintro e w2 ⟨rfl, hb2⟩
  have HB2 := Lib.hid (HB1.out.trans (hb2.mono HB1.out.size))
  have HR2 := Lib.hid (Kd.R_below HR1.out hb2)
  clear hb2 hcv
  go_wp2_with fail
  refine (HG.out A1 c1 _ (Kd.R_reads' HR2.out).2.2 (Kd.R_reads' HR2.out).2.1).mono ?_
  rintro e w3 ⟨v, rfl, hv, hb3⟩
  rw [HG0.out] at hv ⊢
  have hfr : Fresh w2.heap.size w3 v (bytesOf s) := by
    rcases hv with ⟨h, _⟩ | ⟨_, h⟩
    · exact absurd rfl h
    · exact h
  rw [HS.out] at hfr
  obtain ⟨fb, fc, fC, ffr, rfl, hf2⟩ := hfr
  have HF := Lib.hid hf2.2.2.2.2
  have HB3 := Lib.hid (HB2.out.trans (hb3.mono HB2.out.size))
  have HR3 := Lib.hid (Kd.R_below HR2.out hb3)
  clear hv hf2 hb3
  go_wp2_with fail
  refine (fixed6_any _).mono ?_
  rintro e w4 ⟨rfl, hb4⟩
  have HB4 := Lib.hid (HB3.out.trans (hb4.mono HB3.out.size))
  have hcv1 := Kd.C_string (P := Try.prog) (A := A1) (c := c1) Try.underlying22 Try.underlying5 Try.underlying9 (Kd.R_reads' (Kd.R_below HR3.out hb4)).2.2
  have hcv2 := Kd.C_string (P := Try.prog) (A := A) (c := c) Try.underlying22 Try.underlying5 Try.underlying9 (HM.out w4 HB4.out)
  have hcv3 := Kd.C_string (P := Try.prog) (A := some ⟨fb, 0, none⟩) (c := fc) Try.underlying22 Try.underlying5 Try.underlying9 (Kd.C_below HF.out hb4)
  have hcv4 := Kd.C_string (P := Try.prog) (A := B) (c := d) Try.underlying22 Try.underlying5 Try.underlying9 (HC.out w4 HB4.out)
  clear hb4
  go_wp2_with fail
  go_ret
  exact ⟨rfl, HB4.out⟩
theorem walk (a0 : Option Addr) (len0 cap0 : Nat) (z0 : List Int) (a1 : Option Addr) (len1 cap1 : Nat) (z1 : List Int) (w : World) (w0 : (a0 = none ∧ len0 = 0 ∧ cap0 = 0 ∧ z0 = []) ∨ ∃ x, a0 = some x ∧ len0 ≤ cap0 ∧ cap0 ≤ maxLen ∧ z0.length = cap0 ∧ (∀ i, i < z0.length → w.cell? (x.add i) = some (.int .u8 (z0.getD i 0))) ∧ ∀ n ∈ z0, (Lit.int .u8 n).wf = true) (y0 : len0 * 1 ≤ 140737488351232) (w1 : (a1 = none ∧ len1 = 0 ∧ cap1 = 0 ∧ z1 = []) ∨ ∃ x, a1 = some x ∧ len1 ≤ cap1 ∧ cap1 ≤ maxLen ∧ z1.length = cap1 ∧ (∀ i, i < z1.length → w.cell? (x.add i) = some (.int .u8 (z1.getD i 0))) ∧ ∀ n ∈ z1, (Lit.int .u8 n).wf = true) (y1 : len1 * 1 ≤ 140737488351232) :
    Calls Try.prog 4 #[.slice a0 len0 cap0, .slice a1 len1 cap1] w fun e w' => e = .returned (.bool true) ∧ Below w.heap.size w w' := by
  obtain ⟨m, rfl, hr0, hm0, hb0, hc0⟩ := ReadsInt.ofRowC w0
  have hr0 := Kd.C_of_reads (d := (0 : Int)) (h1 := fun _ => rfl) hr0
  have hb0 := bytes_of_wf hb0
  obtain ⟨l, rfl, hr1, hm1, hb1, hc1⟩ := ReadsInt.ofRowC w1
  have hr1 := Kd.C_of_reads (d := (0 : Int)) (h1 := fun _ => rfl) hr1
  have hb1 := bytes_of_wf hb1
  by_cases hle : 2500 < (l.length : Int) ∨ ¬ 2500 < (l.length : Int) ∧ 100 < (m.length : Int)
  · exact puts_great a0 cap0 m a1 cap1 l w hle (by have := hr1.2.1; omega) (by have := hr0.2.1; omega)
  · by_cases hbad : 1 ≤ l.length ∧ l.length ≤ 2048
    · exact puts_ok a0 cap0 m a1 cap1 l w hr0 hc0 hb0 hr1 hc1 hb1 hbad (by omega)
    · exact puts_bad a0 cap0 m a1 cap1 l w hr1 (by omega) (by omega) hbad
end Go.Proofs.Ytfflenbfapgilaa.WFramePuts
