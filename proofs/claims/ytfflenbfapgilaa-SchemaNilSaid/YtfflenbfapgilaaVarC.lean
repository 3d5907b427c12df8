/- A number's bytes; what slices.Clone of bytes makes. -/
import Derived.Test.YtfflenbfapgilaaReg
set_option linter.unusedVariables false
set_option linter.unusedSimpArgs false
namespace Go.Proofs.Ytfflenbfapgilaa
open Go.RowKit Go.Proofs.YtfflenbfapgilaaW.PrintWords

/-! ### the document's bytes of a number -/
/-- A number's bytes. -/
def vb (m : Nat) : List Nat := if m < 128 then [m] else (m % 128 + 128) :: vb (m / 128)
termination_by m
decreasing_by omega
theorem vb_small (m : Nat) (h : m < 128) : vb m = [m] := by rw [vb, if_pos h]
theorem vb_great (m : Nat) (h : ¬ m < 128) : vb m = (m % 128 + 128) :: vb (m / 128) := by rw [vb, if_neg h]
theorem vb_ne (m : Nat) : vb m ≠ [] := by
  by_cases h : m < 128
  · rw [vb_small m h]; simp
  · rw [vb_great m h]; simp
theorem vb_byte : ∀ (k m : Nat), m < 128 ^ k → ∀ x ∈ vb m, x < 256 := by
  intro k
  induction k with
  | zero => intro m hm x hx; have : m = 0 := by simpa using hm
            subst this; rw [vb_small 0 (by omega)] at hx; simp at hx; omega
  | succ k ih =>
    intro m hm x hx
    by_cases h : m < 128
    · rw [vb_small m h] at hx; simp at hx; omega
    · rw [vb_great m h] at hx
      rcases List.mem_cons.1 hx with rfl | hx
      · omega
      · exact ih (m / 128) (by rw [Nat.pow_succ] at hm; omega) x hx
theorem vb_len : ∀ (k m : Nat), m < 128 ^ (k + 1) → (vb m).length ≤ k + 1 := by
  intro k
  induction k with
  | zero => intro m hm; rw [vb_small m (by simpa using hm)]; simp
  | succ k ih =>
    intro m hm
    by_cases h : m < 128
    · rw [vb_small m h]; simp
    · rw [vb_great m h]
      have := ih (m / 128) (by rw [Nat.pow_succ] at hm; omega)
      simp only [List.length_cons]; omega
theorem vb_len10 (m : Nat) (h : m < 18446744073709551616) : (vb m).length ≤ 10 := vb_len 9 m (by omega)
/-- from the i-th byte on they are those of what is left -/
theorem vb_drop : ∀ (i m : Nat), i < (vb m).length → (vb m).drop i = vb (m / 128 ^ i) := by
  intro i
  induction i with
  | zero => intro m _; simp
  | succ i ih =>
    intro m hi
    by_cases h : m < 128
    · rw [vb_small m h] at hi; simp at hi
    · rw [vb_great m h] at hi ⊢
      rw [List.drop_succ_cons, ih (m / 128) (by simpa using hi), Nat.pow_succ, Nat.mul_comm, Nat.div_div_eq_div_mul]
def ints (l : List Nat) : List Int := l.map fun (x : Nat) => (x : Int)

set_option maxHeartbeats 400000 in
theorem clone_any (A : Option Addr) (c : Nat) (l : List Int) (w : World) (hr : Kd.C (Kd.int .u8) w A l.length l) (hc : l.length ≤ c) (hl : l.length ≤ 140737488355328) :
    Calls Try.prog 98 #[.slice A l.length c] w fun e w' => ∃ v : Value, e = .returned v ∧ Kd.R (Kd.int .u8) 5 w' w.heap.size (fun _ => True) v l ∧ Below w.heap.size w w' := by
  have HC := Lib.hid hr
  clear hr
  have hnil := fun wx => Lib.run_eql_slice_nil (P := Try.prog) (w := wx)
  cases A with
  | none =>
    go_enter Try.func98, Try.ntmps98
    go_wp2_with (at_builtin; refine Halt.mk ?_)
    go_ret
    refine ⟨_, rfl, ?_, Below.refl _ _⟩
    have : l = [] := by
      cases l with
      | nil => rfl
      | cons x l => obtain ⟨ad, h, _⟩ := HC.out.2.2 (by simp); cases h
    rw [this]; exact Kd.R_nil ..
  | some ad =>
    go_enter Try.func98, Try.ntmps98
    go_wp2_with (at_builtin; refine Halt.mk ?_)
    have HO := Lib.hid (R_block .u8 (w.alloc (.cells #[] 5)) w.heap.size w.heap.size 5 [] (fun _ => True) (heap_new _ _) (Nat.le_refl _) (by simp) trivial)
    have hb3 := (Below.refl w.heap.size w).alloc (Nat.le_refl _) (.cells #[] 5)
    refine Halt.of ?_
    refine Kd.R_append_rows (Kd.int .u8) (w0 := w) w.heap.size rfl (.tmp 5) (.tmp 6) 22 5 (.int .u8 0) 1 rfl Try.underlying22 info_u8 rfl (by decide) (by omega) _ [] l _ _ _ (fun _ => True) (fun _ => False) rfl rfl HO.out (Kd.C_below HC.out hb3) (fun _ _ h => h) (fun _ h => h.elim) (fun _ _ => trivial) hb3 hb3.size (by simp; omega) ?_
    intro v1 w1 HO1 hb1 _ _
    go_wp2
    go_ret
    exact ⟨_, rfl, HO1, hb1⟩
end Go.Proofs.Ytfflenbfapgilaa
