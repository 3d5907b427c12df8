/- What the reference's Put makes: the document's bytes of a number. -/
import Derived.Test.YtfflenbfapgilaaVarC
set_option linter.unusedVariables false
set_option linter.unusedSimpArgs false
namespace Go.Proofs.Ytfflenbfapgilaa
open Go.RowKit Go.Proofs.YtfflenbfapgilaaW.PrintWords

/-- An operation that makes new memory. -/
theorem wp_made {P : Program} {Q : Exit → Act → World → Prop} {V : Nat → Value → World → Prop} {i : Nat} {o : Oper} {a : Act} {W W' : World} {c : Value} (h : (execOp a.eval o).run P W = .ok (.value c) W') (hV : V i c W') (hb : Below W.heap.size W W') :
    o.wp P a W (fun a' W' => ∃ v, a' = a.put o.dst v ∧ V i v W' ∧ Below W.heap.size W W') Q := by
  unfold Oper.wp
  rw [h]
  exact ⟨c, rfl, hV, hb⟩
theorem tmod128 (m : Nat) : Int.tmod (m : Int) 128 = (m : Int) % 128 := rfl
theorem tdiv128 (m : Nat) : Int.tdiv (m : Int) 128 = ((m / 128 : Nat) : Int) := rfl
theorem wrap8 (n : Nat) (h : n < 256) : IntKind.u8.wrap (n : Int) = (n : Int) := by rw [IntKind.wrap_u8]; omega
theorem wrap8' (m : Nat) : IntKind.u8.wrap (((m % 128 : Nat) : Int) + 128) = ((m % 128 + 128 : Nat) : Int) := by rw [IntKind.wrap_u8]; omega
theorem wrapu_div (m : Nat) (h : m < 18446744073709551616) : IntKind.u64.wrap ((m : Int) / 128) = (m : Int) / 128 := by rw [IntKind.wrap_u64]; omega
theorem strOfNums_app (a b : List Int) : strOfNums (a ++ b) = strOfNums a ++ strOfNums b := by
  apply ByteArray.ext
  apply Array.ext'
  simp [strOfNums]
theorem vb_put (m : Nat) (h : ¬ m < 128) : strOfNums (ints (vb m)) = strOfNums [(m : Int) % 128 + 128] ++ strOfNums (ints (vb (m / 128))) := by
  rw [vb_great m h, ← strOfNums_app]
  simp [ints]
theorem vb_size (m : Nat) (h : m < 18446744073709551616) (x : Int) : (strOfNums [x]).size + (strOfNums (ints (vb (m / 128)))).size ≤ 9223372036854775807 := by
  have := vb_len10 (m / 128) (by omega)
  simp [strOfNums, ByteArray.size, ints]; omega
set_option maxHeartbeats 1000000 in
set_option maxRecDepth 100000 in
theorem refput_any (m : Nat) : m < 18446744073709551616 → ∀ (w : World),
    Calls Try.prog 70 #[.int .u64 m] w fun e w' => e = .returned (.string (strOfNums (ints (vb m)))) ∧ Below w.heap.size w w' := by
  induction m using Nat.strongRecOn with
  | _ m ih =>
  intro hm w
  by_cases h : m < 128
  · have b : decide ((m : Int) < 128) = true := decide_eq_true (by omega)
    have HC := Lib.hid (C_block .u8 (w.alloc (.cells #[.int .u8 (m : Int)] 5)) w.heap.size 5 (0, 0) [(m : Int)] (heap_new _ _) (by simp))
    have hcv := Kd.C_string (P := Try.prog) (A := some ⟨w.heap.size, 0, none⟩) (c := 1) Try.underlying22 Try.underlying5 Try.underlying9 HC.out
    simp only [List.length_cons, List.length_nil, Nat.zero_add] at hcv
    have hw8 : IntKind.u8.wrap (m : Int) = (m : Int) := by rw [IntKind.wrap_u8]; omega
    go_enter Try.func70, Try.ntmps70
    go_wp2_with fail
    go_ret
    exact ⟨by rw [vb_small m h]; rfl, (Below.refl w.heap.size w).alloc (Nat.le_refl _) _⟩
  · have b : decide ((m : Int) < 128) = false := decide_eq_false (by omega)
    go_enter Try.func70, Try.ntmps70
    go_wp2_with fail
    refine region_calm (n := 11) (byList [isV (.int .u64 (m : Int)), isV (.int .u64 ((m : Int) % 128)), isV (.int .u8 ((m : Int) % 128)), isV (.int .u8 ((m : Int) % 128 + 128)), (isC (Kd.int .u8) [((m : Int) % 128 + 128)]), isV (.string (strOfNums [((m : Int) % 128 + 128)])), isV (.int .u64 (m : Int)), isV (.int .u64 ((m : Int) / 128)), isV (.string (strOfNums (ints (vb (m / 128))))), isV (.string (strOfNums (ints (vb m)))), isV (.string (strOfNums (ints (vb m))))]) (by kernel_rfl) rfl (byList_lasts ?_) (by kernel_rfl) (by kernel_rfl) (by kernel_rfl) (show AllLt 11 _ from ?_) ?_
    · intro p hp
      simp only [List.mem_cons, List.not_mem_nil, or_false] at hp
      rcases hp with rfl | rfl | rfl | rfl | rfl | rfl | rfl | rfl | rfl | rfl | rfl <;> first | exact isV_lasts | exact isC_lasts
    · refine allLt_succ (allLt_succ (allLt_succ (allLt_succ (allLt_succ (allLt_succ (allLt_succ (allLt_succ (allLt_succ (allLt_succ (allLt_succ (allLt_zero _) ?_) ?_) ?_) ?_) ?_) ?_) ?_) ?_) ?_) ?_) ?_
      · refine StepOk.run (o := ?o0) ?ho0 ?hg0 ?h0
        case ho0 => simp only [List.getElem?_toArray, List.getElem?_cons_succ, List.getElem?_cons_zero]; rfl
        case hg0 => rfl
        case h0 =>
        intro a W hS hB hd
        have e0 : a.tmps[0]? = some (.int .u64 (m : Int)) := hS.get rfl rfl
        refine wp_value (c := .int .u64 (m : Int)) ?_ rfl
        go_simp
      · refine StepOk.run (o := ?o1) ?ho1 ?hg1 ?h1
        case ho1 => simp only [List.getElem?_toArray, List.getElem?_cons_succ, List.getElem?_cons_zero]; rfl
        case hg1 => rfl
        case h1 =>
        intro a W hS hB hd
        have e9 : a.tmps[9]? = some (.int .u64 (m : Int)) := (hd 0 rfl).bool rfl rfl rfl
        refine wp_value (c := .int .u64 ((m : Int) % 128)) ?_ rfl
        go_simp
        exact tmod128 m
      · refine StepOk.run (o := ?o2) ?ho2 ?hg2 ?h2
        case ho2 => simp only [List.getElem?_toArray, List.getElem?_cons_succ, List.getElem?_cons_zero]; rfl
        case hg2 => rfl
        case h2 =>
        intro a W hS hB hd
        have e10 : a.tmps[10]? = some (.int .u64 ((m : Int) % 128)) := (hd 1 rfl).bool rfl rfl rfl
        refine wp_value (c := .int .u8 ((m : Int) % 128)) ?_ rfl
        go_simp
        rw [IntKind.wrap_u8]; omega
      · refine StepOk.run (o := ?o3) ?ho3 ?hg3 ?h3
        case ho3 => simp only [List.getElem?_toArray, List.getElem?_cons_succ, List.getElem?_cons_zero]; rfl
        case hg3 => rfl
        case h3 =>
        intro a W hS hB hd
        have e11 : a.tmps[11]? = some (.int .u8 ((m : Int) % 128)) := (hd 2 rfl).bool rfl rfl rfl
        refine wp_value (c := .int .u8 ((m : Int) % 128 + 128)) ?_ rfl
        go_simp
        rw [IntKind.wrap_u8]; omega
      · refine StepOk.run (o := ?o4) ?ho4 ?hg4 ?h4
        case ho4 => simp only [List.getElem?_toArray, List.getElem?_cons_succ, List.getElem?_cons_zero]; rfl
        case hg4 => rfl
        case h4 =>
        intro a W hS hB hd
        have e12 : a.tmps[12]? = some (.int .u8 ((m : Int) % 128 + 128)) := (hd 3 rfl).bool rfl rfl rfl
        refine wp_made (c := .slice (some ⟨W.heap.size, 0, none⟩) 1 1) (W' := W.alloc (.cells #[.int .u8 ((m : Int) % 128 + 128)] 5)) ?_ ⟨_, _, rfl, Nat.le_refl _, C_block .u8 _ W.heap.size 5 (0, 0) [((m : Int) % 128 + 128)] (heap_new _ _) (by simp)⟩ ((Below.refl W.heap.size W).alloc (Nat.le_refl _) _)
        go_simp
      · refine StepOk.run (o := ?o5) ?ho5 ?hg5 ?h5
        case ho5 => simp only [List.getElem?_toArray, List.getElem?_cons_succ, List.getElem?_cons_zero]; rfl
        case hg5 => rfl
        case h5 =>
        intro a W hS hB hd
        obtain ⟨u13, e13, p13⟩ := (hd 4 rfl).get rfl rfl
        replace p13 : (isC (Kd.int .u8) [((m : Int) % 128 + 128)]) u13 W := p13
        obtain ⟨A13, c13, rfl, hl13, hC13⟩ := p13
        refine wp_value (c := .string (strOfNums [((m : Int) % 128 + 128)])) ?_ rfl
        have hcv := Kd.C_string (P := Try.prog) (A := A13) (c := c13) Try.underlying22 Try.underlying5 Try.underlying9 hC13
        simp only [List.length_cons, List.length_nil, Nat.zero_add] at hcv
        go_simp
      · refine StepOk.run (o := ?o6) ?ho6 ?hg6 ?h6
        case ho6 => simp only [List.getElem?_toArray, List.getElem?_cons_succ, List.getElem?_cons_zero]; rfl
        case hg6 => rfl
        case h6 =>
        intro a W hS hB hd
        have e0 : a.tmps[0]? = some (.int .u64 (m : Int)) := hS.get rfl rfl
        refine wp_value (c := .int .u64 (m : Int)) ?_ rfl
        go_simp
      · refine StepOk.run (o := ?o7) ?ho7 ?hg7 ?h7
        case ho7 => simp only [List.getElem?_toArray, List.getElem?_cons_succ, List.getElem?_cons_zero]; rfl
        case hg7 => rfl
        case h7 =>
        intro a W hS hB hd
        have e15 : a.tmps[15]? = some (.int .u64 (m : Int)) := (hd 6 rfl).bool rfl rfl rfl
        refine wp_value (c := .int .u64 ((m : Int) / 128)) ?_ rfl
        go_simp
        rw [wrapu_div m hm]
      · refine StepOk.run (o := ?o8) ?ho8 ?hg8 ?h8
        case ho8 => simp only [List.getElem?_toArray, List.getElem?_cons_succ, List.getElem?_cons_zero]; rfl
        case hg8 => rfl
        case h8 =>
        intro a W hS hB hd
        have e16 : a.tmps[16]? = some (.int .u64 ((m : Int) / 128)) := (hd 7 rfl).bool rfl rfl rfl
        refine wp_called Try.func70 (by kernel_rfl) rfl #[.int .u64 ((m / 128 : Nat) : Int)] rfl (by simp [Act.eval, *]) ?_
        refine (ih (m / 128) (by omega) (by omega) W).mono ?_
        rintro e w9 ⟨rfl, hb9⟩
        exact ⟨_, rfl, rfl, hb9⟩
      · refine StepOk.run (o := ?o9) ?ho9 ?hg9 ?h9
        case ho9 => simp only [List.getElem?_toArray, List.getElem?_cons_succ, List.getElem?_cons_zero]; rfl
        case hg9 => rfl
        case h9 =>
        intro a W hS hB hd
        have e14 : a.tmps[14]? = some (.string (strOfNums [((m : Int) % 128 + 128)])) := (hd 5 rfl).bool rfl rfl rfl
        have e17 : a.tmps[17]? = some (.string (strOfNums (ints (vb (m / 128))))) := (hd 8 rfl).bool rfl rfl rfl
        refine wp_value (c := .string (strOfNums (ints (vb m)))) ?_ rfl
        have hsz := vb_size m hm ((m : Int) % 128 + 128)
        rw [vb_put m h]
        go_simp
      · refine StepOk.run (o := ?o10) ?ho10 ?hg10 ?h10
        case ho10 => simp only [List.getElem?_toArray, List.getElem?_cons_succ, List.getElem?_cons_zero]; rfl
        case hg10 => rfl
        case h10 =>
        intro a W hS hB hd
        have e18 : a.tmps[18]? = some (.string (strOfNums (ints (vb m)))) := (hd 9 rfl).bool rfl rfl rfl
        refine wp_value (c := .string (strOfNums (ints (vb m)))) ?_ rfl
        go_simp
    · intro a W hS hB hh
      go_wp2
      have hr := (hh 10 (by omega)).bool rfl rfl rfl
      exact bodyPost_ret (v := .string (strOfNums (ints (vb m)))) (by simp [results, Try.results70, hr, go_sem]) hS.2.1 ⟨rfl, hB⟩
def tephraref01_Put.f (a0 : Int) : Option ByteArray := if 0 ≤ a0 ∧ a0 < 18446744073709551616 then some (strOfNums (ints (vb a0.toNat))) else none
theorem tephraref01_Put.calls (a0 : Int) (r : ByteArray) (w : World) (h : tephraref01_Put.f a0 = some r) :
    Calls Try.prog 70 #[.int .u64 a0] w fun e w' => e = .returned (.string r) ∧ Below w.heap.size w w' := by
  unfold tephraref01_Put.f at h
  split at h
  case isFalse => cases h
  case isTrue ha =>
  obtain rfl := Option.some.inj h
  have e : a0 = (a0.toNat : Int) := (Int.toNat_of_nonneg ha.1).symm
  have := refput_any a0.toNat (by omega) w
  rw [← e] at this
  exact this
end Go.Proofs.Ytfflenbfapgilaa
