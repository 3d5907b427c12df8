/- The same payloads, and ends: law06.Same answers true. -/
import Derived.Test.YtfflenbfapgilaaFrE
import Derived.Test.YtfflenbfapgilaaLit
import Derived.Deep.QuietTactic
import Derived.BigQuiet
set_option linter.unusedVariables false
set_option linter.unusedSimpArgs false
namespace Go.Proofs.Ytfflenbfapgilaa
open Go.RowKit Go.Proofs.YtfflenbfapgilaaW.PrintWords Go.Proofs.Ytfflenbfapgilaa.GVB

set_option maxRecDepth 100000 in
set_option maxHeartbeats 2000000 in
theorem same_true (A1 : Option Addr) (c1 : Nat) (ls : List (List Int)) (A2 : Option Addr) (c2 : Nat) (xs : List Int) (A3 : Option Addr) (c3 : Nat) (A4 : Option Addr) (c4 : Nat) (w : World)
    (h1 : Kd.C (Kd.slice 5 (Kd.int .u8)) w A1 ls.length ls) (hc1 : ls.length ≤ c1) (h2 : Kd.C (Kd.int .i64) w A2 xs.length xs) (h3 : Kd.C Kd.string w A3 ls.length (ls.map strOfNums)) (hc3 : ls.length ≤ c3) (h4 : Kd.C (Kd.int .i64) w A4 xs.length xs) :
    Calls Try.prog 25 #[.slice A1 ls.length c1, .slice A2 xs.length c2, .slice A3 ls.length c3, .slice A4 xs.length c4] w fun e w' => e = .returned (.bool true) ∧ Below w.heap.size w w' := by
  have hm1 := h1.2.1
  have hm2 := h2.2.1
  have H1 := Lib.hid (fun (W : World) (h : Below w.heap.size w W) => Kd.C_below h1 h)
  have H2 := Lib.hid (fun (W : World) (h : Below w.heap.size w W) => Kd.C_below h2 h)
  have H3 := Lib.hid (fun (W : World) (h : Below w.heap.size w W) => Kd.C_below h3 h)
  have H4 := Lib.hid (fun (W : World) (h : Below w.heap.size w W) => Kd.C_below h4 h)
  clear h1 h2 h3 h4
  go_enter Try.func25, Try.ntmps25
  go_wp2_with fail
  go_loopw [25] (fun u wr => ∃ (i : Nat), i ≤ ls.length ∧ u = .int .i64 i ∧ Below w.heap.size w wr) (fun v _ => ls.length - (intOf v).toNat)
  case atStart => exact ⟨0, by omega, rfl, Below.refl _ _⟩
  case round =>
    obtain ⟨i, hi, rfl, hbl⟩ := hrel
    by_cases hlt : i < ls.length
    · obtain ⟨ad, Ai, ci, he1, hcell1, hci, hCi⟩ := rows_at (H1.out wr hbl) i hlt
      subst he1
      obtain ⟨li, hli⟩ : ∃ li, ls[i] = li := ⟨_, rfl⟩
      rw [hli] at hcell1 hci hCi
      obtain ⟨ad3, he3, hcell3⟩ := Kd.at_string (H3.out wr hbl) (i : Int) (by omega) (by omega)
      subst he3
      have hz : rdOf ByteArray.empty (ls.map strOfNums) (i : Int) = strOfNums li := by simp [rdOf, hlt, hli]
      rw [hz, Int.toNat_natCast] at hcell3
      have HC1 := Lib.hid (fun (W : World) (h : Below wr.heap.size wr W) => (cell_keep h hcell1 : W.cell? (ad.add i) = _))
      have HC3 := Lib.hid (fun (W : World) (h : Below wr.heap.size wr W) => (cell_keep h hcell3 : W.cell? (ad3.add i) = _))
      have HCi := Lib.hid hCi
      clear hz hcell1 hcell3 hCi hli
      go_wp2_with fail
      refine region_calm (n := 10) (byList [isV (.slice (some ad) ls.length c1), isV (.int .i64 (i : Int)), isV (.pointer (some (ad.add i))), isV (.slice Ai li.length ci), isV (.string (strOfNums li)), isV (.slice (some ad3) ls.length c3), isV (.int .i64 (i : Int)), isV (.pointer (some (ad3.add i))), isV (.string (strOfNums li)), isV (.bool false)]) (by kernel_rfl) rfl (byList_lasts ?_) (by kernel_rfl) (by kernel_rfl) (by kernel_rfl) (show AllLt 10 _ from ?_) ?_
      · intro p hp
        simp only [List.mem_cons, List.not_mem_nil, or_false] at hp
        rcases hp with rfl | rfl | rfl | rfl | rfl | rfl | rfl | rfl | rfl | rfl <;> first | exact isV_lasts | exact isC_lasts
      · refine allLt_succ (allLt_succ (allLt_succ (allLt_succ (allLt_succ (allLt_succ (allLt_succ (allLt_succ (allLt_succ (allLt_succ (allLt_zero _) ?_) ?_) ?_) ?_) ?_) ?_) ?_) ?_) ?_) ?_
        · refine StepOk.run (o := ?o0) ?ho0 ?hg0 ?h0
          case ho0 => simp only [List.getElem?_toArray, List.getElem?_cons_succ, List.getElem?_cons_zero]; rfl
          case hg0 => rfl
          case h0 =>
          intro a W hS hB hd
          have e0 : a.tmps[0]? = some (.slice (some ad) ls.length c1) := hS.get rfl rfl
          refine wp_value (c := .slice (some ad) ls.length c1) ?_ rfl
          go_simp
        · refine StepOk.run (o := ?o1) ?ho1 ?hg1 ?h1
          case ho1 => simp only [List.getElem?_toArray, List.getElem?_cons_succ, List.getElem?_cons_zero]; rfl
          case hg1 => rfl
          case h1 =>
          intro a W hS hB hd
          have e9 : a.tmps[9]? = some (.int .i64 (i : Int)) := hS.get rfl rfl
          refine wp_value (c := .int .i64 (i : Int)) ?_ rfl
          go_simp
        · refine StepOk.run (o := ?o2) ?ho2 ?hg2 ?h2
          case ho2 => simp only [List.getElem?_toArray, List.getElem?_cons_succ, List.getElem?_cons_zero]; rfl
          case hg2 => rfl
          case h2 =>
          intro a W hS hB hd
          have e28 : a.tmps[28]? = some (.slice (some ad) ls.length c1) := (hd 0 rfl).bool rfl rfl rfl
          have e29 : a.tmps[29]? = some (.int .i64 (i : Int)) := (hd 1 rfl).bool rfl rfl rfl
          refine wp_value (c := .pointer (some (ad.add i))) ?_ rfl
          go_simp
        · refine StepOk.run (o := ?o3) ?ho3 ?hg3 ?h3
          case ho3 => simp only [List.getElem?_toArray, List.getElem?_cons_succ, List.getElem?_cons_zero]; rfl
          case hg3 => rfl
          case h3 =>
          intro a W hS hB hd
          have e30 : a.tmps[30]? = some (.pointer (some (ad.add i))) := (hd 2 rfl).bool rfl rfl rfl
          refine wp_value (c := .slice Ai li.length ci) ?_ rfl
          have hcW : W.cell? (ad.add i) = some (.slice Ai li.length ci) := HC1.out W hB
          go_simp
        · refine StepOk.run (o := ?o4) ?ho4 ?hg4 ?h4
          case ho4 => simp only [List.getElem?_toArray, List.getElem?_cons_succ, List.getElem?_cons_zero]; rfl
          case hg4 => rfl
          case h4 =>
          intro a W hS hB hd
          have e31 : a.tmps[31]? = some (.slice Ai li.length ci) := (hd 3 rfl).bool rfl rfl rfl
          refine wp_value (c := .string (strOfNums li)) ?_ rfl
          have hcv := Kd.C_string (P := Try.prog) (A := Ai) (c := ci) Try.underlying22 Try.underlying5 Try.underlying9 (Kd.C_below HCi.out hB)
          go_simp
        · refine StepOk.run (o := ?o5) ?ho5 ?hg5 ?h5
          case ho5 => simp only [List.getElem?_toArray, List.getElem?_cons_succ, List.getElem?_cons_zero]; rfl
          case hg5 => rfl
          case h5 =>
          intro a W hS hB hd
          have e2 : a.tmps[2]? = some (.slice (some ad3) ls.length c3) := hS.get rfl rfl
          refine wp_value (c := .slice (some ad3) ls.length c3) ?_ rfl
          go_simp
        · refine StepOk.run (o := ?o6) ?ho6 ?hg6 ?h6
          case ho6 => simp only [List.getElem?_toArray, List.getElem?_cons_succ, List.getElem?_cons_zero]; rfl
          case hg6 => rfl
          case h6 =>
          intro a W hS hB hd
          have e9 : a.tmps[9]? = some (.int .i64 (i : Int)) := hS.get rfl rfl
          refine wp_value (c := .int .i64 (i : Int)) ?_ rfl
          go_simp
        · refine StepOk.run (o := ?o7) ?ho7 ?hg7 ?h7
          case ho7 => simp only [List.getElem?_toArray, List.getElem?_cons_succ, List.getElem?_cons_zero]; rfl
          case hg7 => rfl
          case h7 =>
          intro a W hS hB hd
          have e33 : a.tmps[33]? = some (.slice (some ad3) ls.length c3) := (hd 5 rfl).bool rfl rfl rfl
          have e34 : a.tmps[34]? = some (.int .i64 (i : Int)) := (hd 6 rfl).bool rfl rfl rfl
          refine wp_value (c := .pointer (some (ad3.add i))) ?_ rfl
          go_simp
        · refine StepOk.run (o := ?o8) ?ho8 ?hg8 ?h8
          case ho8 => simp only [List.getElem?_toArray, List.getElem?_cons_succ, List.getElem?_cons_zero]; rfl
          case hg8 => rfl
          case h8 =>
          intro a W hS hB hd
          have e35 : a.tmps[35]? = some (.pointer (some (ad3.add i))) := (hd 7 rfl).bool rfl rfl rfl
          refine wp_value (c := .string (strOfNums li)) ?_ rfl
          have hcW : W.cell? (ad3.add i) = some (.string (strOfNums li)) := HC3.out W hB
          go_simp
        · refine StepOk.run (o := ?o9) ?ho9 ?hg9 ?h9
          case ho9 => simp only [List.getElem?_toArray, List.getElem?_cons_succ, List.getElem?_cons_zero]; rfl
          case hg9 => rfl
          case h9 =>
          intro a W hS hB hd
          have e32 : a.tmps[32]? = some (.string (strOfNums li)) := (hd 4 rfl).bool rfl rfl rfl
          have e36 : a.tmps[36]? = some (.string (strOfNums li)) := (hd 8 rfl).bool rfl rfl rfl
          refine wp_value (c := .bool false) ?_ rfl
          go_simp
      · intro a W hS hB hh
        have e37 : a.tmps[37]? = some (.bool false) := (hh 9 (by omega)).bool rfl rfl rfl
        have HBR := Lib.hid hB
        have hlit := same_lit hS
        clear hh hS hB
        simp only [List.filterMap_cons, List.filterMap_nil, List.foldl_cons, List.foldl_nil, List.setIfInBounds_toArray, List.set_cons_zero, List.set_cons_succ] at hlit
        rw [show a.tmps.getD 37 undef = .bool false by simp [Array.getD_eq_getD_getElem?, e37]] at hlit
        generalize a.tmps.getD 28 undef = z28 at hlit
        generalize a.tmps.getD 29 undef = z29 at hlit
        generalize a.tmps.getD 30 undef = z30 at hlit
        generalize a.tmps.getD 31 undef = z31 at hlit
        generalize a.tmps.getD 32 undef = z32 at hlit
        generalize a.tmps.getD 33 undef = z33 at hlit
        generalize a.tmps.getD 34 undef = z34 at hlit
        generalize a.tmps.getD 35 undef = z35 at hlit
        generalize a.tmps.getD 36 undef = z36 at hlit
        clear e37
        subst hlit
        have hbl2 := hbl.trans (HBR.out.mono hbl.size)
        go_wp2
        go_roundw
        case rel => exact ⟨i + 1, by omega, by go_num, hbl2⟩
        case measure => simp [intOf]; omega
    · obtain rfl : i = ls.length := by omega
      go_wp2_with fail
      go_loopw [41] (fun u wq => ∃ (i : Nat), i ≤ xs.length ∧ u = .int .i64 i ∧ Below w.heap.size w wq) (fun v _ => xs.length - (intOf v).toNat)
      case atStart => exact ⟨0, by omega, rfl, hbl⟩
      case round =>
        obtain ⟨i, hi, rfl, hbl⟩ := hrel
        by_cases hlt : i < xs.length
        · obtain ⟨ad2, he2, hcell2⟩ := Kd.at_int (H2.out wr hbl) (i : Int) (by omega) (by omega)
          obtain ⟨ad4, he4, hcell4⟩ := Kd.at_int (H4.out wr hbl) (i : Int) (by omega) (by omega)
          subst he2 he4
          rw [Int.toNat_natCast] at hcell2 hcell4
          generalize rd xs (i : Int) = z at hcell2 hcell4
          go_wp2_with fail
          go_quiet (fail)
          go_wp2
          go_roundw
          case rel => exact ⟨i + 1, by omega, by go_num, pw_below_drewN hbl _⟩
          case measure => simp [intOf]; omega
        · obtain rfl : i = xs.length := by omega
          go_wp2_with fail
          go_ret
          exact ⟨rfl, hbl⟩
end Go.Proofs.Ytfflenbfapgilaa
