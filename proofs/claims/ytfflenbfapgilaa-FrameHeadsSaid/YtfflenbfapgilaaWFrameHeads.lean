/- Any version's head, and the version of the head with which any bytes begin, are the document's: the law FrameHeads returns true, and writes nothing that was there (up to 100 bytes). -/
import Derived.Test.YtfflenbfapgilaaFrY
set_option linter.unusedVariables false
set_option linter.unusedSimpArgs false
namespace Go.Proofs.Ytfflenbfapgilaa.WFrameHeads
open Go.RowKit Go.Proofs.YtfflenbfapgilaaW.PrintWords Go.Proofs.Ytfflenbfapgilaa.GVB

set_option maxRecDepth 100000 in
set_option maxHeartbeats 2000000 in
theorem heads_ok (v : Int) (hv : 1 ≤ v ∧ v ≤ 3) (A : Option Addr) (c : Nat) (l : List Int) (w : World) (hC : Kd.C (Kd.int .u8) w A l.length l) (hc : l.length ≤ c) (hb : ∀ x ∈ l, 0 ≤ x ∧ x < 256) (hl : l.length ≤ 100) :
    Calls Try.prog 3 #[.int .i64 v, .slice A l.length c] w fun e w' => e = .returned (.bool true) ∧ Below w.heap.size w w' := by
  have d0 : decide (100 < (l.length : Int)) = false := decide_eq_false (by omega)
  have HC := Lib.hid (fun (W : World) (h : Below w.heap.size w W) => Kd.C_below hC h)
  have HH := Lib.hid (fun (W : World) => head_ok v hv W)
  have HR := Lib.hid (fun (W : World) => rhead_ok v hv W)
  have HV := Lib.hid (fun (W : World) (h : Below w.heap.size w W) => vers_any A c l W (Kd.C_below hC h) hc hb (by omega))
  have HW := Lib.hid (fun (W : World) => tephraref06_Version.calls 41 (strOfNums l) (versF l).1 (versF l).2 W (rvers_is l hb (by omega)))
  have hhb : ∀ x ∈ headL v ++ l, 0 ≤ x ∧ x < 256 := by
    intro x hx
    rcases List.mem_append.1 hx with hx | hx
    · unfold headL crcB at hx
      simp only [List.mem_append, List.mem_cons, List.not_mem_nil, or_false] at hx
      omega
    · exact hb x hx
  have HX := Lib.hid (fun (A : Option Addr) (c : Nat) (W : World) h1 h2 => vers_any A c (headL v ++ l) W h1 h2 hhb (by rw [List.length_append, headL_len]; omega))
  rw [vers_head v hv l] at HX
  obtain ⟨r, HRR⟩ : ∃ r, Hid (headL v ++ l = r) := ⟨_, Lib.hid rfl⟩
  rw [HRR.out] at HX
  have HF := Lib.hid (fun (W : World) => fixed6_any W)
  have HL := Lib.hid (And.intro hc hl)
  obtain ⟨p, hp⟩ : ∃ p, (versF l).1 = p := ⟨_, rfl⟩
  obtain ⟨q, hq⟩ : ∃ q, (versF l).2 = q := ⟨_, rfl⟩
  rw [hp, hq] at HV HW
  clear hC hc hb hhb hp hq
  go_enter Try.func3, Try.ntmps3
  go_wp2_with fail
  refine (HH.out _).mono ?_
  rintro e w1 ⟨A1, c1, rfl, hR1, hb1⟩
  have HB1 := Lib.hid hb1
  have HR1 := Lib.hid hR1
  clear hR1 hb1
  go_wp2_with fail
  refine (HR.out _).mono ?_
  rintro e w2 ⟨rfl, hb2⟩
  have HB2 := Lib.hid (HB1.out.trans (hb2.mono HB1.out.size))
  have HR2 := Lib.hid (Kd.R_below HR1.out hb2)
  clear hb2
  go_wp2_with fail
  refine (HV.out _ HB2.out).mono ?_
  rintro e w3 ⟨rfl, hb3⟩
  have HB3 := Lib.hid (HB2.out.trans (hb3.mono HB2.out.size))
  have HR3 := Lib.hid (Kd.R_below HR2.out hb3)
  clear hb3
  have hcv := Kd.C_string (P := Try.prog) (A := A) (c := c) Try.underlying22 Try.underlying5 Try.underlying9 (HC.out w3 HB3.out)
  go_wp2_with fail
  refine (HW.out _).mono ?_
  rintro e w4 ⟨rfl, hd4⟩
  have HB4 := Lib.hid (HB3.out.trans (hd4.mono HB3.out.size))
  have HR4 := Lib.hid (Kd.R_below HR3.out hd4)
  clear hd4 hcv
  have hcv := Kd.C_string (P := Try.prog) (A := A1) (c := c1) Try.underlying22 Try.underlying5 Try.underlying9 (Kd.R_reads' HR4.out).2.2
  go_wp2_with (at_builtin; refine Halt.mk ?_)
  refine Halt.of ?_
  clear hcv
  refine Kd.R_append_rows (Kd.int .u8) (w0 := w) w.heap.size rfl (.tmp 60) (.tmp 61) 22 5 (.int .u8 0) 1 rfl Try.underlying22 info_u8 rfl (by decide) (by omega) _ (headL v) l _ _ _ (fun _ => True) (fun _ => False) rfl rfl HR4.out (HC.out _ HB4.out) (fun _ _ h => h) (fun _ h => h.elim) (fun _ _ => trivial) HB4.out HB4.out.size (by rw [headL_len]; have := HL.out.2; omega) ?_
  intro v1 w5 HO5 hb5 _ _
  rw [HRR.out] at HO5
  obtain ⟨A5, c5, rfl⟩ := Kd.R_slice HO5
  have HB5 := Lib.hid hb5
  have HV5 := Lib.hid (HX.out A5 c5 w5 (Kd.R_reads' HO5).2.2 (Kd.R_reads' HO5).2.1)
  clear HO5 hb5
  go_wp2_with fail
  refine HV5.out.mono ?_
  rintro e w6 ⟨rfl, hb6⟩
  have HB6 := Lib.hid (HB5.out.trans (hb6.mono HB5.out.size))
  clear hb6
  go_wp2_with fail
  refine (HF.out _).mono ?_
  rintro e w7 ⟨rfl, hb7⟩
  have HB7 := Lib.hid (HB6.out.trans (hb7.mono HB6.out.size))
  clear hb7
  go_wp2_with fail
  go_ret
  exact ⟨rfl, HB7.out⟩
set_option maxRecDepth 100000 in
set_option maxHeartbeats 2000000 in
theorem heads_bad (v : Int) (hv : ¬ (1 ≤ v ∧ v ≤ 3)) (A : Option Addr) (c : Nat) (l : List Int) (w : World) (hC : Kd.C (Kd.int .u8) w A l.length l) (hc : l.length ≤ c) (hb : ∀ x ∈ l, 0 ≤ x ∧ x < 256) (hl : l.length ≤ 100) :
    Calls Try.prog 3 #[.int .i64 v, .slice A l.length c] w fun e w' => e = .returned (.bool true) ∧ Below w.heap.size w w' := by
  have d0 : decide (100 < (l.length : Int)) = false := decide_eq_false (by omega)
  have HC := Lib.hid (fun (W : World) (h : Below w.heap.size w W) => Kd.C_below hC h)
  have HH := Lib.hid (fun (W : World) => head_bad v hv W)
  have HR := Lib.hid (fun (W : World) => rhead_bad v hv W)
  have HV := Lib.hid (fun (W : World) (h : Below w.heap.size w W) => vers_any A c l W (Kd.C_below hC h) hc hb (by omega))
  have HW := Lib.hid (fun (W : World) => tephraref06_Version.calls 41 (strOfNums l) (versF l).1 (versF l).2 W (rvers_is l hb (by omega)))
  have HX := Lib.hid (fun (A : Option Addr) (c : Nat) (W : World) h1 h2 => vers_any A c l W h1 h2 hb (by omega))
  have HF := Lib.hid (fun (W : World) => fixed6_any W)
  have HL := Lib.hid (And.intro hc hl)
  obtain ⟨p, hp⟩ : ∃ p, (versF l).1 = p := ⟨_, rfl⟩
  obtain ⟨q, hq⟩ : ∃ q, (versF l).2 = q := ⟨_, rfl⟩
  rw [hp, hq] at HV HW
  rw [hp, hq] at HX
  clear hC hc hb hp hq
  go_enter Try.func3, Try.ntmps3
  go_wp2_with fail
  refine (HH.out _).mono ?_
  rintro e w1 ⟨rfl, hb1⟩
  have HB1 := Lib.hid hb1
  clear hb1
  go_wp2_with fail
  refine (HR.out _).mono ?_
  rintro e w2 ⟨rfl, hb2⟩
  have HB2 := Lib.hid (HB1.out.trans (hb2.mono HB1.out.size))
  clear hb2
  go_wp2_with fail
  refine (HV.out _ HB2.out).mono ?_
  rintro e w3 ⟨rfl, hb3⟩
  have HB3 := Lib.hid (HB2.out.trans (hb3.mono HB2.out.size))
  clear hb3
  have hcv := Kd.C_string (P := Try.prog) (A := A) (c := c) Try.underlying22 Try.underlying5 Try.underlying9 (HC.out w3 HB3.out)
  go_wp2_with fail
  refine (HW.out _).mono ?_
  rintro e w4 ⟨rfl, hd4⟩
  have HB4 := Lib.hid (HB3.out.trans (hd4.mono HB3.out.size))
  clear hd4 hcv
  have hcv : (convert 22 9 (.slice none 0 0)).run Try.prog w4 = .ok (.string ⟨#[]⟩) w4 := Kd.C_string (P := Try.prog) (A := none) (c := 0) Try.underlying22 Try.underlying5 Try.underlying9 (Kd.C_nil (Kd.int .u8) w4)
  go_wp2_with (at_builtin; refine Halt.mk ?_)
  refine Halt.of ?_
  clear hcv
  refine Kd.R_append_rows (Kd.int .u8) (w0 := w) w.heap.size rfl (.tmp 60) (.tmp 61) 22 5 (.int .u8 0) 1 rfl Try.underlying22 info_u8 rfl (by decide) (by omega) (.slice none 0 0) [] l _ _ _ (fun _ => True) (fun _ => False) rfl rfl (Kd.R_nil _ _ _ _ _) (HC.out _ HB4.out) (fun _ _ h => h) (fun _ h => h.elim) (fun _ _ => trivial) HB4.out HB4.out.size (by have := HL.out.2; simp; omega) ?_
  intro v1 w5 HO5 hb5 _ _
  rw [List.nil_append] at HO5
  obtain ⟨A5, c5, rfl⟩ := Kd.R_slice HO5
  have HB5 := Lib.hid hb5
  have HV5 := Lib.hid (HX.out A5 c5 w5 (Kd.R_reads' HO5).2.2 (Kd.R_reads' HO5).2.1)
  clear HO5 hb5
  go_wp2_with fail
  refine HV5.out.mono ?_
  rintro e w6 ⟨rfl, hb6⟩
  have HB6 := Lib.hid (HB5.out.trans (hb6.mono HB5.out.size))
  clear hb6
  go_wp2_with fail
  refine (HF.out _).mono ?_
  rintro e w7 ⟨rfl, hb7⟩
  have HB7 := Lib.hid (HB6.out.trans (hb7.mono HB6.out.size))
  clear hb7
  go_wp2_with fail
  go_ret
  exact ⟨rfl, HB7.out⟩
theorem heads_great (v : Int) (A : Option Addr) (c : Nat) (l : List Int) (w : World) (hl : 100 < (l.length : Int)) (hm : l.length ≤ 9223372036854775807) :
    Calls Try.prog 3 #[.int .i64 v, .slice A l.length c] w fun e w' => e = .returned (.bool true) ∧ Below w.heap.size w w' := by
  have d0 : decide (100 < (l.length : Int)) = true := decide_eq_true hl
  go_enter Try.func3, Try.ntmps3
  go_wp2_with (go_at_call 14; refine (fixed6_any _).mono ?_; rintro e w1 ⟨rfl, hb⟩)
  go_ret
  exact ⟨rfl, hb⟩
theorem walk (a0 : Int) (a1 : Option Addr) (len1 cap1 : Nat) (z1 : List Int) (w : World) (w0 : (Lit.int .i64 a0).wf = true) (w1 : (a1 = none ∧ len1 = 0 ∧ cap1 = 0 ∧ z1 = []) ∨ ∃ x, a1 = some x ∧ len1 ≤ cap1 ∧ cap1 ≤ maxLen ∧ z1.length = cap1 ∧ (∀ i, i < z1.length → w.cell? (x.add i) = some (.int .u8 (z1.getD i 0))) ∧ ∀ n ∈ z1, (Lit.int .u8 n).wf = true) (y1 : len1 * 1 ≤ 140737488351232) :
    Calls Try.prog 3 #[.int .i64 a0, .slice a1 len1 cap1] w fun e w' => e = .returned (.bool true) ∧ Below w.heap.size w w' := by
  obtain ⟨l, rfl, hr, hm, hb, hc⟩ := ReadsInt.ofRowC w1
  have hr := Kd.C_of_reads (d := (0 : Int)) (h1 := fun _ => rfl) hr
  have hb := bytes_of_wf hb
  by_cases hle : 100 < (l.length : Int)
  · exact heads_great a0 a1 cap1 l w hle (by have := hr.2.1; omega)
  · by_cases hv : 1 ≤ a0 ∧ a0 ≤ 3
    · exact heads_ok a0 hv a1 cap1 l w hr hc hb (by omega)
    · exact heads_bad a0 hv a1 cap1 l w hr hc hb (by omega)
end Go.Proofs.Ytfflenbfapgilaa.WFrameHeads
