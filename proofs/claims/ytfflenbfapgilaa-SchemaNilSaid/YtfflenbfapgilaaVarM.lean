/- Reading a number's bytes, as the document tells it: mathematics alone. -/
import Derived.Test.YtfflenbfapgilaaVarC
set_option linter.unusedVariables false
set_option linter.unusedSimpArgs false
namespace Go.Proofs.Ytfflenbfapgilaa
/-- What is read from the i-th byte on: the number, how many bytes it has, why not. -/
def dec : Nat → Nat → Nat → List Nat → Nat × Nat × Nat
  | 0, _, _, _ => (0, 0, 3)
  | _ + 1, _, _, [] => (0, 0, 2)
  | f + 1, i, acc, x :: r => if (i = 9 ∧ 1 < x) ∨ (0 < i ∧ x = 0) then (0, 0, 3) else if x < 128 then (acc + x * 128 ^ i, i + 1, 0) else dec f (i + 1) (acc + (x % 128) * 128 ^ i) r
theorem step_le (m i : Nat) : m / 128 * 128 ^ (i + 1) ≤ m * 128 ^ i := by
  rw [Nat.pow_succ, Nat.mul_comm (128 ^ i) 128, ← Nat.mul_assoc]
  exact Nat.mul_le_mul_right _ (by omega)
/-- a number's bytes are read as it -/
theorem dec_vb : ∀ (f i acc m : Nat) (r : List Nat), f + i = 10 → m * 128 ^ i < 2 ^ 64 → (i = 9 → m ≤ 1) → (0 < i → 0 < m) → m < 128 ^ f →
    dec f i acc (vb m ++ r) = (acc + m * 128 ^ i, i + (vb m).length, 0) := by
  intro f
  induction f with
  | zero => intro i acc m r _ _ _ _ hm; have : m = 0 := by simpa using hm
            omega
  | succ f ih =>
    intro i acc m r hfi h1 h9 h0 hm
    by_cases h : m < 128
    · rw [vb_small m h]
      simp only [List.cons_append, List.nil_append, dec]
      rw [if_neg (by omega), if_pos h]
      rfl
    · rw [vb_great m h]
      simp only [List.cons_append, dec]
      have hi9 : i ≠ 9 := by intro e; have := h9 e; omega
      rw [if_neg (by omega), if_neg (by omega), show (m % 128 + 128) % 128 = m % 128 by omega]
      have hp : 0 < 128 ^ i := Nat.pow_pos (by omega)
      rw [ih (i + 1) _ (m / 128) r (by omega) ?_ ?_ (by intro _; omega) (by rw [Nat.pow_succ] at hm; omega)]
      · rw [Nat.pow_succ]
        congr 1
        · have : m = m % 128 + 128 * (m / 128) := by omega
          conv => rhs; rw [this, Nat.add_mul]
          rw [Nat.add_assoc]; congr 1; congr 1
          rw [Nat.mul_comm (128 ^ i) 128, ← Nat.mul_assoc, Nat.mul_comm (m / 128) 128]
        · simp only [List.length_cons]; congr 1; omega
      · exact Nat.lt_of_le_of_lt (step_le m i) h1
      · intro e
        have e8 : i = 8 := by omega
        subst e8
        have : (2 : Nat) ^ 64 / 128 ^ 8 + 1 = 257 := by decide
        omega
theorem dec_vb0 (m : Nat) (r : List Nat) (h : m < 2 ^ 64) : dec 10 0 0 (vb m ++ r) = (m, (vb m).length, 0) := by
  have := dec_vb 10 0 0 m r rfl (by simp; omega) (by omega) (by omega) (by have : (2:Nat) ^ 64 < 128 ^ 10 := by decide
                                                                           omega)
  simpa using this
/-- cut off within a number's bytes it is too short -/
theorem dec_cut : ∀ (f i acc m j : Nat), f + i = 10 → (i = 9 → m ≤ 1) → (0 < i → 0 < m) → m < 128 ^ f → m * 128 ^ i < 2 ^ 64 → j < (vb m).length → dec f i acc ((vb m).take j) = (0, 0, 2) := by
  intro f
  induction f with
  | zero => intro i acc m j _ _ h0 hm _ _; have : m = 0 := by simpa using hm
            omega
  | succ f ih =>
    intro i acc m j hfi h9 h0 hm h1 hj
    cases j with
    | zero => rfl
    | succ j =>
      by_cases h : m < 128
      · rw [vb_small m h] at hj; simp at hj
      · rw [vb_great m h] at hj ⊢
        simp only [List.take_succ_cons, dec]
        have hi9 : i ≠ 9 := by intro e; have := h9 e; omega
        rw [if_neg (by omega), if_neg (by omega)]
        refine ih (i + 1) _ (m / 128) j (by omega) ?_ (by intro _; omega) (by rw [Nat.pow_succ] at hm; omega) ?_ (by simpa using hj)
        · intro e
          have e8 : i = 8 := by omega
          subst e8
          have : (2 : Nat) ^ 64 / 128 ^ 8 + 1 = 257 := by decide
          omega
        · exact Nat.lt_of_le_of_lt (step_le m i) h1
theorem dec_cut0 (m j : Nat) (h : m < 2 ^ 64) (hj : j < (vb m).length) : dec 10 0 0 ((vb m).take j) = (0, 0, 2) :=
  dec_cut 10 0 0 m j rfl (by omega) (by omega) (by have : (2:Nat) ^ 64 < 128 ^ 10 := by decide
                                                   omega) (by simp; omega) hj
/-- what is read has just those bytes -/
theorem vb_of_dec : ∀ (f i acc : Nat) (l : List Nat) (n c : Nat), f + i = 10 → acc < 128 ^ i → (∀ x ∈ l, x < 256) → dec f i acc l = (n, c, 0) →
    ∃ m, n = acc + m * 128 ^ i ∧ i < c ∧ l.take (c - i) = vb m ∧ c - i ≤ l.length ∧ (0 < i → 0 < m) ∧ (i = 9 → m ≤ 1) ∧ m < 128 ^ f := by
  intro f
  induction f with
  | zero => intro i acc l n c _ _ _ h; simp [dec] at h
  | succ f ih =>
    intro i acc l n c hfi hacc hb h
    cases l with
    | nil => simp [dec] at h
    | cons x r =>
      simp only [dec] at h
      split at h
      · simp at h
      · rename_i hno
        split at h
        · rename_i hx
          simp only [Prod.mk.injEq] at h
          obtain ⟨rfl, rfl, _⟩ := h
          refine ⟨x, rfl, by omega, ?_, by simp, by omega, by omega, ?_⟩
          · rw [show i + 1 - i = 1 by omega, vb_small x hx]; rfl
          · exact Nat.lt_of_lt_of_le hx (by rw [Nat.pow_succ]; exact Nat.le_mul_of_pos_left _ (Nat.pow_pos (by omega)))
        · rename_i hx
          have hxb := hb x (by simp)
          have hp : 0 < 128 ^ i := Nat.pow_pos (by omega)
          obtain ⟨m, hn, hc, ht, hl, hm0, hm9, hmf⟩ := ih (i + 1) _ r n c (by omega) (by
            rw [Nat.pow_succ]
            have : x % 128 * 128 ^ i ≤ 127 * 128 ^ i := Nat.mul_le_mul_right _ (by omega)
            omega) (fun y hy => hb y (by simp [hy])) h
          refine ⟨x % 128 + 128 * m, ?_, by omega, ?_, by simp; omega, by omega, ?_, ?_⟩
          · rw [hn, Nat.pow_succ, Nat.add_mul, Nat.add_assoc]
            congr 2
            rw [Nat.mul_comm (128 ^ i) 128, ← Nat.mul_assoc, Nat.mul_comm m 128]
          · have hm : 0 < m := hm0 (by omega)
            rw [vb_great _ (by omega), show (x % 128 + 128 * m) % 128 + 128 = x by omega, show (x % 128 + 128 * m) / 128 = m by omega, ← ht]
            rw [show c - i = (c - (i + 1)) + 1 by omega]; rfl
          · intro e; omega
          · rw [Nat.pow_succ]; omega
theorem vb_of_dec0 (l : List Nat) (n c : Nat) (hb : ∀ x ∈ l, x < 256) (h : dec 10 0 0 l = (n, c, 0)) : l.take c = vb n ∧ c ≤ l.length ∧ 0 < c := by
  obtain ⟨m, hn, hc, ht, hl, _⟩ := vb_of_dec 10 0 0 l n c rfl (by simp) hb h
  obtain rfl : n = m := by simpa using hn
  exact ⟨by simpa using ht, by simpa using hl, hc⟩
theorem dec_lt : ∀ (f i acc : Nat) (l : List Nat) (n c : Nat), f + i = 10 → acc < 128 ^ i → (∀ x ∈ l, x < 256) → dec f i acc l = (n, c, 0) → n < 2 ^ 64 := by
  intro f
  induction f with
  | zero => intro i acc l n c _ _ _ h; simp [dec] at h
  | succ f ih =>
    intro i acc l n c hfi hacc hb h
    cases l with
    | nil => simp [dec] at h
    | cons x r =>
      simp only [dec] at h
      split at h
      · simp at h
      · rename_i hno
        have hp : 0 < 128 ^ i := Nat.pow_pos (by omega)
        split at h
        · rename_i hx
          simp only [Prod.mk.injEq] at h
          obtain ⟨rfl, rfl, _⟩ := h
          by_cases h9 : i = 9
          · subst h9
            have : x ≤ 1 := by omega
            have e : (128 : Nat) ^ 9 = 2 ^ 63 := by decide
            rw [e] at hacc ⊢
            have : x * 2 ^ 63 ≤ 1 * 2 ^ 63 := Nat.mul_le_mul_right _ this
            omega
          · have h8 : i ≤ 8 := by omega
            have hle : 128 ^ (i + 1) ≤ 128 ^ 9 := Nat.pow_le_pow_right (by omega) (by omega)
            have e : (128 : Nat) ^ 9 = 2 ^ 63 := by decide
            have : x * 128 ^ i ≤ 127 * 128 ^ i := Nat.mul_le_mul_right _ (by omega)
            rw [Nat.pow_succ] at hle
            omega
        · exact ih (i + 1) _ r n c (by omega) (by
            rw [Nat.pow_succ]
            have : x % 128 * 128 ^ i ≤ 127 * 128 ^ i := Nat.mul_le_mul_right _ (by omega)
            omega) (fun y hy => hb y (by simp [hy])) h
end Go.Proofs.Ytfflenbfapgilaa
