/- What the document's head of a file is. -/
import Derived.Test.YtfflenbfapgilaaFrF
import Derived.Test.YtfflenbfapgilaaCrcR
import Derived.Laws.Concat
set_option linter.unusedVariables false
set_option linter.unusedSimpArgs false
namespace Go.Proofs.Ytfflenbfapgilaa
open Go.RowKit Go.Proofs.YtfflenbfapgilaaW.PrintWords Go.Proofs.Ytfflenbfapgilaa.GVB

set_option maxRecDepth 100000 in
set_option maxHeartbeats 1000000 in
theorem rhead_ok (v : Int) (hv : 1 ≤ v ∧ v ≤ 3) (w : World) : Calls Try.prog 16 #[.int .i64 v] w fun e w' => e = .returned (.tuple #[.string (strOfNums (headL v)), .int .i64 0]) ∧ Below w.heap.size w w' := by
  have d1 : decide (v < 1) = false := decide_eq_false (by omega)
  have d2 : decide (3 < v) = false := decide_eq_false (by omega)
  have hmod : v % 256 = v := by omega
  have hB := (Below.refl w.heap.size w).alloc (Nat.le_refl _) (.cells #[.int .u8 v] 5)
  have hC := C_block .u8 (w.alloc (.cells #[.int .u8 v] 5)) w.heap.size 5 (0, 0) [v] (heap_new _ _) (by simp)
  have hcv := Kd.C_string (P := Try.prog) (A := some ⟨w.heap.size, 0, none⟩) (c := 1) Try.underlying22 Try.underlying5 Try.underlying9 hC
  rw [show ([v] : List Int).length = 1 from rfl] at hcv
  have he : (⟨#[84, 80, 72]⟩ : ByteArray) ++ strOfNums [v] = strOfNums [84, 80, 72, v] := by
    rw [show ([84, 80, 72, v] : List Int) = [84, 80, 72] ++ [v] from rfl, strOfNums_app]; rfl
  have hadd := fun (W : World) => run_string_add_sum (P := Try.prog) (w := W) (⟨#[84, 80, 72]⟩ : ByteArray) (strOfNums [v]) (by rw [strOfNums_size]; show 3 + 1 ≤ 9223372036854775807; omega)
  rw [he] at hadd
  have HS := Lib.hid (fun (W : World) => rsum_any [84, 80, 72, v] (by intro x hx; simp at hx; omega) (by simp) W)
  have HB := Lib.hid hB
  go_enter Try.func16, Try.ntmps16
  go_wp2_with fail
  refine (HS.out _).mono ?_
  rintro e w2 ⟨rfl, hb⟩
  have HB2 := Lib.hid (HB.out.trans (hb.mono HB.out.size))
  have hs : (0 : Int) ≤ ((Crc.sum (nats [84, 80, 72, v]) : Nat) : Int) ∧ ((Crc.sum (nats [84, 80, 72, v]) : Nat) : Int) < 4294967296 := by
    have := Crc.sum_lt (nats [84, 80, 72, v]) (by intro x hx; simp [nats] at hx; omega)
    omega
  have hby : tephraref03_Bytes.f ((Crc.sum (nats [84, 80, 72, v]) : Nat) : Int) = some (strOfNums (crcB (Crc.sum (nats [84, 80, 72, v])))) := by
    unfold tephraref03_Bytes.f crcB
    generalize ((Crc.sum (nats [84, 80, 72, v]) : Nat) : Int) = s at hs
    rw [Int.tmod_eq_emod_of_nonneg hs.1, Int.tdiv_eq_ediv_of_nonneg hs.1, Int.tdiv_eq_ediv_of_nonneg hs.1, Int.tdiv_eq_ediv_of_nonneg hs.1]
    congr 2
    simp only [List.cons.injEq, and_true]
    omega
  have HBY := Lib.hid (tephraref03_Bytes.calls _ _ w2 hby)
  have hadd2 := fun (W : World) => run_string_add_sum (P := Try.prog) (w := W) (strOfNums [84, 80, 72, v]) (strOfNums (crcB (Crc.sum (nats [84, 80, 72, v])))) (by rw [strOfNums_size, strOfNums_size]; show 4 + 4 ≤ 9223372036854775807; omega)
  rw [← strOfNums_app] at hadd2
  clear hb hs hby
  go_wp2_with fail
  refine HBY.out.mono ?_
  rintro e w3 ⟨rfl, hb3⟩
  have HB3 := Lib.hid (HB2.out.trans (hb3.mono HB2.out.size))
  clear hb3
  go_wp2_with fail
  go_ret2
  exact ⟨rfl, HB3.out⟩
theorem rhead_bad (v : Int) (hv : ¬ (1 ≤ v ∧ v ≤ 3)) (w : World) : Calls Try.prog 16 #[.int .i64 v] w fun e w' => e = .returned (.tuple #[.string ⟨#[]⟩, .int .i64 11]) ∧ Below w.heap.size w w' := by
  by_cases h : v < 1
  · have d1 : decide (v < 1) = true := decide_eq_true h
    go_enter Try.func16, Try.ntmps16
    go_wp2_with fail
    go_ret2
    exact ⟨rfl, Below.refl _ _⟩
  · have d1 : decide (v < 1) = false := decide_eq_false h
    have d2 : decide (3 < v) = true := decide_eq_true (by omega)
    go_enter Try.func16, Try.ntmps16
    go_wp2_with fail
    go_ret2
    exact ⟨rfl, Below.refl _ _⟩
end Go.Proofs.Ytfflenbfapgilaa
