/- The fixed part of the frames' laws. -/
import Derived.Test.YtfflenbfapgilaaFrP
set_option linter.unusedVariables false
set_option linter.unusedSimpArgs false
namespace Go.Proofs.Ytfflenbfapgilaa
open Go.RowKit Go.Proofs.YtfflenbfapgilaaW.PrintWords Go.Proofs.Ytfflenbfapgilaa.GVB

theorem blob_a : blob (strOfNums [97]) = [1, 97] := by
  unfold blob
  rw [show (strOfNums [97]).size = 1 from rfl, vb_small 1 (by decide)]
  first | rfl | decide
theorem frame_a : frameL [97] = 1 :: 97 :: crcB (Crc.sum (nats [1, 97])) := by unfold frameL; rw [blob_a]; rfl
set_option maxRecDepth 100000 in
set_option maxHeartbeats 1000000 in
theorem fixed6_any (w : World) : Calls Try.prog 14 #[] w fun e w' => e = .returned (.bool true) ∧ Below w.heap.size w w' := by
  have kc := fun (w : World) (C : Array Value) (n c : Nat) => Lib.run_convert_bytes_const (P := Try.prog) w 22 5 C n c Try.underlying22 Try.underlying5
  have hC := C_block .u8 (w.alloc (.cells #[.int .u8 97] 5 (1, 2))) w.heap.size 5 (1, 2) [97] (heap_new _ _) (by simp)
  have hP := fput_ok none 0 [] (some ⟨w.heap.size, 0, none⟩) 1 [97] (w.alloc (.cells #[.int .u8 97] 5 (1, 2))) (Kd.C_nil _ _) (Nat.le_refl _) (by simp) hC (Nat.le_refl _) (by simp) (by rw [blob_a]; simp) (by rw [blob_a]; simp)
  rw [List.nil_append, frame_a] at hP
  have hB := (Below.refl w.heap.size w).alloc (Nat.le_refl _) (.cells #[.int .u8 97] 5 (1, 2))
  have HP := Lib.hid hP
  have HB := Lib.hid hB
  clear hC hP hB
  go_enter Try.func14, Try.ntmps14
  go_wp2_with fail
  refine HP.out.mono ?_
  rintro e w1 ⟨A, c, rfl, hR, hb⟩
  obtain ⟨ad, had, h0⟩ := byte_at (Kd.R_reads' hR).2.2 0 (by simp)
  obtain ⟨ad2, had2, h1⟩ := byte_at (Kd.R_reads' hR).2.2 1 (by simp)
  rw [had] at had2
  cases had2
  subst had
  obtain ⟨g, rfl⟩ := Kd.R_head hR
  have hlc : (1 :: 97 :: crcB (Crc.sum (nats [1, 97]))).length = 6 := rfl
  have hcl := (Kd.R_reads' hR).2.1
  rw [hlc] at hcl ⊢
  have h0' : w1.cell? ⟨g, 0, none⟩ = some (.int .u8 1) := by first | exact h0 | simpa [Addr.add] using h0
  have h1' : w1.cell? ⟨g, 1, none⟩ = some (.int .u8 97) := by first | exact h1 | simpa [Addr.add] using h1
  have HB1 := Lib.hid (HB.out.trans (hb.mono HB.out.size))
  clear hR hb
  go_wp2_with fail
  go_ret
  exact ⟨rfl, HB1.out⟩
theorem fput_bad (B : Option Addr) (cb : Nat) (m : List Int) (A : Option Addr) (c : Nat) (l : List Int) (w : World) (hm : l.length ≤ 9223372036854775807) (hl : ¬ (1 ≤ l.length ∧ l.length ≤ 2048)) :
    Calls Try.prog 19 #[.slice B m.length cb, .slice A l.length c] w fun e w' => e = .returned (.tuple #[.slice none 0 0, .int .i64 1]) ∧ Below w.heap.size w w' := by
  by_cases h : 1 ≤ l.length
  · have d1 : decide ((l.length : Int) < 1) = false := decide_eq_false (by omega)
    have d2 : decide (2048 < (l.length : Int)) = true := decide_eq_true (by omega)
    go_enter Try.func19, Try.ntmps19
    go_wp2_with fail
    go_ret2
    exact ⟨rfl, Below.refl _ _⟩
  · have d1 : decide ((l.length : Int) < 1) = true := decide_eq_true (by omega)
    go_enter Try.func19, Try.ntmps19
    go_wp2_with fail
    go_ret2
    exact ⟨rfl, Below.refl _ _⟩
end Go.Proofs.Ytfflenbfapgilaa
