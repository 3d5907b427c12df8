/- What frame.Head makes. -/
import Derived.Test.YtfflenbfapgilaaFrS
import Derived.Lib.SlBytesConst
set_option linter.unusedVariables false
set_option linter.unusedSimpArgs false
namespace Go.Proofs.Ytfflenbfapgilaa
open Go.RowKit Go.Proofs.YtfflenbfapgilaaW.PrintWords Go.Proofs.Ytfflenbfapgilaa.GVB

theorem may_ver (v : Int) (w : World) : Calls Try.prog 49 #[.int .i64 v] w fun e w' => e = .returned (.bool (decide (1 ≤ v ∧ v ≤ 3))) ∧ w = w' := by
  by_cases e1 : 1 ≤ v
  · have d1 : decide (1 ≤ v) = true := decide_eq_true e1
    have e : decide (1 ≤ v ∧ v ≤ 3) = decide (v ≤ 3) := by simp [e1]
    rw [e]
    go_enter Try.func49, Try.ntmps49
    go_wp2_with fail
    go_ret
    exact ⟨rfl, rfl⟩
  · have d1 : decide (1 ≤ v) = false := decide_eq_false e1
    have e : decide (1 ≤ v ∧ v ≤ 3) = false := by simp [e1]
    rw [e]
    go_enter Try.func49, Try.ntmps49
    go_wp2_with fail
    go_ret
    exact ⟨rfl, rfl⟩
def headL (v : Int) : List Int := [84, 80, 72, v] ++ crcB (Crc.sum (nats [84, 80, 72, v]))
set_option maxRecDepth 100000 in
set_option maxHeartbeats 1000000 in
theorem head_ok (v : Int) (hv : 1 ≤ v ∧ v ≤ 3) (w : World) : Calls Try.prog 15 #[.int .i64 v] w fun e w' => ∃ (A : Option Addr) (c : Nat), e = .returned (.tuple #[.slice A (headL v).length c, .int .i64 0]) ∧ Kd.R (Kd.int .u8) 5 w' w.heap.size (fun _ => True) (.slice A (headL v).length c) (headL v) ∧ Below w.heap.size w w' := by
  have HM := Lib.hid (may_ver v w)
  rw [show decide (1 ≤ v ∧ v ≤ 3) = true from decide_eq_true hv] at HM
  have HV := Lib.hid hv
  have hmod : v % 256 = v := by omega
  have kc := fun (w : World) (C : Array Value) (n c : Nat) => Lib.run_convert_bytes_const (P := Try.prog) w 22 5 C n c Try.underlying22 Try.underlying5
  go_enter Try.func15, Try.ntmps15
  go_wp2_with fail
  refine HM.out.mono ?_
  rintro e w1 ⟨rfl, rfl⟩
  go_wp2_with (at_builtin; refine Halt.mk ?_)
  refine Halt.of ?_
  obtain ⟨i, hi, hz, hs, hbt⟩ := info_u8c
  refine wpList_append_grows _ rfl (.tmp 8) (.tmp 11) 22 rfl 5 i (.int .u8 0) 1 1 Try.underlying22 hi hz hs hbt rfl (by decide) (some ⟨w.heap.size, 0, none⟩) 3 3 [.int .u8 84, .int .u8 80, .int .u8 72] rfl (by simp) rfl ?holds ⟨w.heap.size + 1, 0, none⟩ 1 1 [.int .u8 v] rfl rfl ?hc (by simp [Value.oneCell']) (by omega) (by decide) (by decide) ?_
  case holds =>
    intro b hb j u hu
    cases hb
    have hb0 : ((w.alloc (.cells #[.int .u8 84, .int .u8 80, .int .u8 72] 5 (3, 4))).alloc (.cells #[.int .u8 v] 5)).heap[w.heap.size]? = some (.cells #[.int .u8 84, .int .u8 80, .int .u8 72] 5 (3, 4)) := (heap_new_old _ _ _ (by rw [heap_size_alloc]; omega)).trans (heap_new _ _)
    have e0 : (Addr.add ⟨w.heap.size, 0, none⟩ j : Addr) = ⟨w.heap.size, j, none⟩ := by simp [Addr.add]; intro h; omega
    rw [e0]
    simp only [World.cell?, hb0]
    simpa using hu
  case hc =>
    intro j u hu
    match j with
    | 0 => simp at hu; subst hu; simp [Addr.add]
    | j + 1 => simp at hu
  intro v' w' hown hg
  have hz2 : ((w.alloc (.cells #[.int .u8 84, .int .u8 80, .int .u8 72] 5 (3, 4))).alloc (.cells #[.int .u8 v] 5)).heap.size = w.heap.size + 1 + 1 := by rw [heap_size_alloc, heap_size_alloc]
  have hB0 : Below w.heap.size w ((w.alloc (.cells #[.int .u8 84, .int .u8 80, .int .u8 72] 5 (3, 4))).alloc (.cells #[.int .u8 v] 5)) := ((Below.refl _ _).alloc (Nat.le_refl _) _).alloc (by rw [heap_size_alloc]; omega) _
  have hB1 : Below w.heap.size w w' := hB0.grown hg (by rw [hz2]; omega) (fun k hk => by cases hk)
  have hR : Kd.R (Kd.int .u8) 5 w' w.heap.size (fun _ => True) v' [84, 80, 72, v] := ⟨fun _ _ => trivial, _, own_weaken hown (by rw [hz2]; omega), reps_nums ..⟩
  obtain ⟨A, c, rfl⟩ := Kd.R_slice hR
  have hv2 := HV.out
  have HSL := Lib.hid (sealed_any A c [84, 80, 72, v] w' (Kd.R_reads' hR).2.2 (Kd.R_reads' hR).2.1 (by intro x hx; simp at hx; omega) (by simp))
  have HB1 := Lib.hid hB1
  clear hown hg hR hz2 hB0 hB1 hi hz hs hbt
  go_wp2_with fail
  refine HSL.out.mono ?_
  rintro e w4 ⟨v4, rfl, hR4, hb4⟩
  obtain ⟨A4, c4, rfl⟩ := Kd.R_slice hR4
  have HP := Lib.hid (And.intro (Kd.R_lower hR4 HB1.out.size) (HB1.out.trans (hb4.mono HB1.out.size)))
  clear hR4 hb4
  go_wp2_with fail
  go_ret2
  exact ⟨A4, c4, rfl, HP.out.1, HP.out.2⟩
theorem head_bad (v : Int) (hv : ¬ (1 ≤ v ∧ v ≤ 3)) (w : World) : Calls Try.prog 15 #[.int .i64 v] w fun e w' => e = .returned (.tuple #[.slice none 0 0, .int .i64 11]) ∧ Below w.heap.size w w' := by
  have HM := Lib.hid (may_ver v w)
  rw [show decide (1 ≤ v ∧ v ≤ 3) = false from decide_eq_false hv] at HM
  go_enter Try.func15, Try.ntmps15
  go_wp2_with fail
  refine HM.out.mono ?_
  rintro e w1 ⟨rfl, rfl⟩
  go_wp2_with fail
  go_ret2
  exact ⟨rfl, Below.refl _ _⟩
end Go.Proofs.Ytfflenbfapgilaa
