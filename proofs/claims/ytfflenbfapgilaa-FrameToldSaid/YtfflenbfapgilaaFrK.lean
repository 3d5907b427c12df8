/- law06.small and law06.Laid. -/
import Derived.Test.YtfflenbfapgilaaFrU
import Derived.Test.YtfflenbfapgilaaOpen
set_option linter.unusedVariables false
set_option linter.unusedSimpArgs false
namespace Go.Proofs.Ytfflenbfapgilaa
open Go.RowKit Go.Proofs.YtfflenbfapgilaaW.PrintWords Go.Proofs.Ytfflenbfapgilaa.GVB

theorem cellsOf_u8s : Try.prog.cellsOf 5 = 1 := by kernel_rfl
theorem cellsOf_bs : Try.prog.cellsOf 22 = 1 := by kernel_rfl
theorem cellsOf_bss : Try.prog.cellsOf 41 = 1 := by kernel_rfl
theorem opens_u8s : Opens Try.prog 5 (Kd.int .u8) (fun n => (Lit.int .u8 n).wf = true) := opens_int Try.underlying5 cellsOf_u8s
theorem opens_bs : Opens Try.prog 22 (Kd.slice 5 (Kd.int .u8)) (fun xs => xs.length ≤ maxLen ∧ ∀ y ∈ xs, (Lit.int .u8 y).wf = true) := opens_slice Try.underlying22 cellsOf_bs opens_u8s
set_option maxRecDepth 100000 in
theorem open_t41 {H : Type} {enc : TypeId × Value → H} {W : World} {base : Nat} {held : Bool} {v : Value} {d : DataW H} {ps : List MemPlace} {r : Reach} {b0 : Nat} (hval : Value.okWide Try.prog W r b0 41 v) (h : DataW.Trod enc Try.prog W base (fun _ => true) held 41 v d ps) :
    ∃ x, IsRows (Kd.slice 5 (Kd.int .u8)) (fun xs => xs.length ≤ maxLen ∧ ∀ y ∈ xs, (Lit.int .u8 y).wf = true) W v x := open_rows Try.underlying41 cellsOf_bss opens_bs hval h

def smallB (ps : List (List Int)) : Bool := decide (ps.length ≤ 20) && ps.all fun p => decide (1 ≤ p.length ∧ p.length ≤ 200)
set_option maxRecDepth 100000 in
set_option maxHeartbeats 1000000 in
theorem small_any (A : Option Addr) (c : Nat) (ps : List (List Int)) (w : World) (hC : Kd.C (Kd.slice 5 (Kd.int .u8)) w A ps.length ps) :
    Calls Try.prog 26 #[.slice A ps.length c] w fun e w' => e = .returned (.bool (smallB ps)) ∧ w = w' := by
  have hmax := hC.2.1
  by_cases h20 : 20 < ps.length
  · have d0 : decide (20 < (ps.length : Int)) = true := decide_eq_true (by omega)
    have e : smallB ps = false := by unfold smallB; rw [decide_eq_false (by omega)]; rfl
    rw [e]
    go_enter Try.func26, Try.ntmps26
    go_wp2_with fail
    go_ret
    exact ⟨rfl, rfl⟩
  · have d0 : decide (20 < (ps.length : Int)) = false := decide_eq_false (by omega)
    have HC := Lib.hid hC
    clear hC
    go_enter Try.func26, Try.ntmps26
    go_wp2_with fail
    go_loop [10] (fun u => ∃ (i : Nat), i ≤ ps.length ∧ u = .int .i64 i ∧ (ps.take i).all (fun p => decide (1 ≤ p.length ∧ p.length ≤ 200)) = true) (fun v => ps.length - (intOf v).toNat)
    case atStart => exact ⟨0, by omega, rfl, rfl⟩
    case round =>
      obtain ⟨i, hi, rfl, hall⟩ := hrel
      by_cases hlt : i < ps.length
      · obtain ⟨ad, Ai, ci, he, hcell, hci, hCi⟩ := rows_at HC.out i hlt
        subst he
        have hst : ps.take (i + 1) = ps.take i ++ [ps[i]] := List.take_succ_eq_append_getElem hlt
        have hmem : ps[i] ∈ ps := List.getElem_mem _
        obtain ⟨p, hp⟩ : ∃ p, ps[i] = p := ⟨_, rfl⟩
        have hpm := hCi.2.1
        rw [hp] at hcell hst hmem hpm
        by_cases h1 : 1 ≤ p.length ∧ p.length ≤ 200
        · have b1 : decide ((p.length : Int) < 1) = false := decide_eq_false (by omega)
          have b2 : decide (200 < (p.length : Int)) = false := decide_eq_false (by omega)
          have HA := Lib.hid (show (ps.take (i + 1)).all (fun p => decide (1 ≤ p.length ∧ p.length ≤ 200)) = true by
            rw [hst, List.all_append, hall]
            simp [h1])
          clear hst hall hmem hci hCi hp h1
          go_wp2
          go_round
          case rel => exact ⟨i + 1, by omega, by go_num, HA.out⟩
          case measure => simp [intOf]; omega
        · have HA := Lib.hid (show smallB ps = false by
            unfold smallB
            rw [Bool.and_eq_false_iff]
            refine .inr ?_
            rw [List.all_eq_false]
            exact ⟨p, hmem, by simpa using h1⟩)
          clear hst hall hmem hci hCi hp
          by_cases h2 : p.length < 1
          · have b1 : decide ((p.length : Int) < 1) = true := decide_eq_true (by omega)
            clear h1
            go_wp2
            go_ret
            exact ⟨by rw [HA.out]; rfl, rfl⟩
          · have b1 : decide ((p.length : Int) < 1) = false := decide_eq_false (by omega)
            have b2 : decide (200 < (p.length : Int)) = true := decide_eq_true (by omega)
            clear h1
            go_wp2
            go_ret
            exact ⟨by rw [HA.out]; rfl, rfl⟩
      · obtain rfl : i = ps.length := by omega
        rw [List.take_of_length_le (Nat.le_refl _)] at hall
        have HA := Lib.hid (show smallB ps = true by unfold smallB; rw [hall, decide_eq_true (by omega)]; rfl)
        clear hall
        go_wp2
        go_ret
        exact ⟨by rw [HA.out]; rfl, rfl⟩
def LaidPost (w : World) (ps : List (List Int)) (e : Ending) (w' : World) : Prop :=
  ∃ v1 v2, e = .returned (.tuple #[v1, v2, .bool true]) ∧ Kd.R (Kd.int .u8) 5 w' w.heap.size (fun _ => True) v1 (frs ps) ∧ Kd.R (Kd.int .i64) 3 w' w.heap.size (fun _ => True) v2 (endsO 0 ps) ∧ Below w.heap.size w w'
set_option maxRecDepth 100000 in
set_option maxHeartbeats 2000000 in
theorem laid_any (A : Option Addr) (c : Nat) (ps : List (List Int)) (w : World) (hC : Kd.C (Kd.slice 5 (Kd.int .u8)) w A ps.length ps) (hp : ∀ p ∈ ps, Pay p) (hl : ps.length ≤ 20) :
    Calls Try.prog 27 #[.slice A ps.length c] w (LaidPost w ps) := by
  have HC := Lib.hid (fun (W : World) (h : Below w.heap.size w W) => Kd.C_below hC h)
  have HP := Lib.hid hp
  clear hC hp
  go_enter Try.func27, Try.ntmps27
  go_wp2_with fail
  go_loopw [5, 6, 13] (fun u5 u6 u wr => ∃ (i : Nat), i ≤ ps.length ∧ u = .int .i64 i ∧ (∃ A5 c5, u5 = .slice A5 (frs (ps.take i)).length c5) ∧ (∃ A6 c6, u6 = .slice A6 (endsO 0 (ps.take i)).length c6) ∧ Hid (Kd.R (Kd.int .u8) 5 wr w.heap.size (fun _ => True) u5 (frs (ps.take i))) ∧ Hid (Kd.R (Kd.int .i64) 3 wr w.heap.size (fun _ => True) u6 (endsO 0 (ps.take i))) ∧ Hid (Below w.heap.size w wr)) (fun _ _ v _ => ps.length - (intOf v).toNat)
  case atStart => exact ⟨0, by omega, rfl, ⟨_, _, rfl⟩, ⟨_, _, rfl⟩, Lib.hid (Kd.R_nil _ _ _ _ _), Lib.hid (Kd.R_nil _ _ _ _ _), Lib.hid (Below.refl _ _)⟩
  case round =>
    obtain ⟨i, hi, rfl, ⟨A5, c5, rfl⟩, ⟨A6, c6, rfl⟩, HR5, HR6, HB⟩ := hrel
    by_cases hlt : i < ps.length
    · obtain ⟨ad, Ai, ci, he, hcell, hci, hCi⟩ := rows_at (HC.out wr HB.out) i hlt
      subst he
      have hst : ps.take (i + 1) = ps.take i ++ [ps[i]] := List.take_succ_eq_append_getElem hlt
      have hmem : ps[i] ∈ ps := List.getElem_mem _
      obtain ⟨p, hpp⟩ : ∃ p, ps[i] = p := ⟨_, rfl⟩
      rw [hpp] at hcell hst hmem hci hCi
      have hpay := HP.out p hmem
      have hfl := frs_le (ps.take i) (fun q hq => HP.out q (List.mem_of_mem_take hq))
      have hpl := frameL_le p hpay
      have htl : (ps.take i).length ≤ 20 := by rw [List.length_take]; omega
      have hbl : (blob (strOfNums p)).length ≤ 3000 := by
        have := frameS_len (strOfNums p)
        rw [← frameL_is] at this
        omega
      have hbb : ∀ x ∈ blob (strOfNums p), 0 ≤ x ∧ x < 256 := blob_bytes _ (by rw [strOfNums_size]; have := hpay.2.1; omega)
      have HPUT := Lib.hid (fput_ok A5 c5 (frs (ps.take i)) Ai ci p wr (Kd.R_reads' HR5.out).2.2 (Kd.R_reads' HR5.out).2.1 (by omega) hCi hci ⟨hpay.1, by have := hpay.2.1; omega⟩ hbl hbb)
      have e1 : frs (ps.take i) ++ frameL p = frs (ps.take (i + 1)) := by rw [hst, frs_append]; congr 1; show frameL p = frameL p ++ []; rw [List.append_nil]
      rw [e1] at HPUT
      have e2 : endsO 0 (ps.take (i + 1)) = endsO 0 (ps.take i) ++ [(((frs (ps.take (i + 1))).length : Nat) : Int)] := by
        rw [hst, endsO_append, ← hst, ← e1, List.length_append]
        simp [endsO]
      have hel := endsO_len (ps.take i) 0
      have hfl2 : (frs (ps.take (i + 1))).length ≤ 10000 := by rw [← e1, List.length_append]; omega
      have hel2 : (endsO 0 (ps.take i)).length ≤ 20 := by omega
      have HE2 := Lib.hid e2
      clear hst hmem hpp hci hCi hfl hpl htl hbl hbb e1 e2 hel hpay
      generalize frs (ps.take i) = f0 at *
      obtain ⟨f1, HF1⟩ : ∃ f1, Hid (frs (ps.take (i + 1)) = f1) := ⟨_, Lib.hid rfl⟩
      obtain ⟨es1, HS1⟩ : ∃ es1, Hid (endsO 0 (ps.take (i + 1)) = es1) := ⟨_, Lib.hid rfl⟩
      rw [HF1.out] at HPUT HE2 hfl2
      rw [HS1.out] at HE2
      generalize endsO 0 (ps.take i) = es at *
      go_wp2_with fail
      refine HPUT.out.mono ?_
      rintro e w1 ⟨A7, c7, rfl, hR7, hb1⟩
      have HB1 := Lib.hid (HB.out.trans (hb1.mono HB.out.size))
      have HR7 := Lib.hid (Kd.R_lower hR7 HB.out.size)
      have HR8 := Lib.hid (Kd.R_below HR6.out hb1)
      clear hR7 hb1
      go_wp2_with (at_builtin; refine Halt.mk ?_)
      refine Halt.of ?_
      refine Kd.R_append (Kd.int .i64) (w0 := w) w.heap.size rfl (.tmp 26) (.tmp 29) 42 3 (.int .i64 0) 8 rfl Try.underlying42 info_i64 rfl (by decide) (by omega) _ es ((f1.length : Nat) : Int) [.int .i64 ((f1.length : Nat) : Int)] (fun _ => True) (fun _ => False) rfl rfl rfl (fun _ h => h.elim) (fun _ _ => trivial) HR8.out HB1.out HB1.out.size (by omega) ?_
      intro v1 w2 hR9 hb2 hg hat
      obtain ⟨A9, c9, rfl⟩ := Kd.R_slice hR9
      have HR10 := Lib.hid (Kd.R_over HR7.out HR8.out (by decide) hg)
      rw [← HE2.out] at hR9
      have hlen : (es ++ [((f1.length : Nat) : Int)]).length = es1.length := by rw [← HE2.out]
      rw [hlen]
      have HR9 := Lib.hid hR9
      have HB2 := Lib.hid hb2
      clear hR9 hb2 hg hat hlen
      go_wp2
      go_roundw
      case rel => exact ⟨i + 1, by omega, by go_num, ⟨A7, c7, by rw [HF1.out]⟩, ⟨A9, c9, by rw [HS1.out]⟩, by rw [HF1.out]; exact HR10, by rw [HS1.out]; exact HR9, HB2⟩
      case measure => simp [intOf]; omega
    · obtain rfl : i = ps.length := by omega
      rw [List.take_of_length_le (Nat.le_refl _)] at HR5 HR6 ⊢
      go_wp2
      go_ret3
      exact ⟨_, _, rfl, HR5.out, HR6.out, HB.out⟩
end Go.Proofs.Ytfflenbfapgilaa
