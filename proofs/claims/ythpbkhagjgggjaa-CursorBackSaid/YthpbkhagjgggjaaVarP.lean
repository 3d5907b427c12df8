/- What varint.Get and the reference's Get answer, in the words of VarM; the reference's Put; Size. -/
import Derived.Test.YthpbkhagjgggjaaVarM
import Derived.Test.YthpbkhagjgggjaaGVBx4
import Derived.Test.YthpbkhagjgggjaaRefP
set_option linter.unusedVariables false
set_option linter.unusedSimpArgs false
namespace Go.Proofs.Ythpbkhagjgggjaa.GVB
open Go.RowKit Go.Proofs.YthpbkhagjgggjaaW.PrintWords

def outS (a : Nat) (d : Nat × Nat × Nat) : Int × Int × Int := if d.2.2 = 0 then ((d.1 : Int), ((a + d.2.1 : Nat) : Int), 0) else (0, 0, (d.2.2 : Int))
theorem p128 (i : Nat) : (2 : Nat) ^ (7 * i) = 128 ^ i := by rw [Nat.pow_mul]
theorem p128_le (i : Nat) (h : i ≤ 8) : 128 ^ (i + 1) ≤ 9223372036854775808 := by
  have : 128 ^ (i + 1) ≤ 128 ^ 9 := Nat.pow_le_pow_right (by omega) (by omega)
  have e : (128 : Nat) ^ 9 = 9223372036854775808 := by decide
  omega
theorem part_lt (i y : Nat) (hi : i ≤ 9) (h9 : i = 9 → y ≤ 1) : (y % 128) * 128 ^ i < 18446744073709551616 ∧ (i = 9 → (y % 128) * 128 ^ i ≤ 9223372036854775808) ∧ (y % 128) * 128 ^ i + 128 ^ i ≤ 18446744073709551616 := by
  have hp : 0 < 128 ^ i := Nat.pow_pos (by omega)
  by_cases h : i = 9
  · subst h
    have := h9 rfl
    have e : (128 : Nat) ^ 9 = 9223372036854775808 := by decide
    rw [e]
    rcases (by omega : y = 0 ∨ y = 1) with rfl | rfl <;> omega
  · have h8 := p128_le i (by omega)
    rw [Nat.pow_succ] at h8
    have : (y % 128) * 128 ^ i ≤ 127 * 128 ^ i := Nat.mul_le_mul_right _ (by omega)
    omega
theorem andNot128 (y : Nat) (h : y < 256) : Go.bits .andNot .u8 (y : Int) 128 = ((y % 128 : Nat) : Int) := by
  have : ∀ y : Nat, y < 256 → Go.bits .andNot .u8 (y : Int) 128 = ((y % 128 : Nat) : Int) := by decide +kernel
  exact this y h
theorem wrapu (n : Nat) (h : n < 18446744073709551616) : IntKind.u64.wrap (n : Int) = (n : Int) := by rw [IntKind.wrap_u64]; omega
theorem or_step (acc i y : Nat) (ha : acc < 128 ^ i) (hi : i ≤ 9) (h9 : i = 9 → y ≤ 1) (hy : y < 256) :
    Go.bits .or .u64 (acc : Int) (shl .u64 (IntKind.u64.wrap (Go.bits .andNot .u8 (y : Int) 128)) (wrap64 (7 * (i : Int)))) = ((acc + y % 128 * 128 ^ i : Nat) : Int) := by
  obtain ⟨h1, _, h2⟩ := part_lt i y hi h9
  have hs : wrap64 (7 * (i : Int)) = ((7 * i : Nat) : Int) := by rw [w64 _ (by omega) (by omega)]; omega
  have hsh : shl .u64 ((y % 128 : Nat) : Int) ((7 * i : Nat) : Int) = ((y % 128 * 128 ^ i : Nat) : Int) := by
    unfold shl
    rw [Int.toNat_natCast, show min (7 * i) (IntKind.bits .u64) = 7 * i from Nat.min_eq_left (by show 7 * i ≤ 64; omega)]
    rw [show ((y % 128 : Nat) : Int) * 2 ^ (7 * i) = ((y % 128 * 128 ^ i : Nat) : Int) by rw [← p128]; simp]
    exact wrapu _ h1
  rw [andNot128 y hy, wrapu _ (by omega), hs, hsh, bits_or_u64_nat _ _ (by omega) h1, Nat.or_comm]
  have := Nat.two_pow_add_eq_or_of_lt (i := 7 * i) (b := acc) (by rw [p128]; exact ha) (y % 128)
  rw [p128, Nat.mul_comm] at this
  rw [← this, Nat.add_comm]
theorem drop_at (l : List Int) (j : Nat) (h : j < l.length) : (nats l).drop j = (rd l (j : Int)).toNat :: (nats l).drop (j + 1) := by
  have h1 : j < (nats l).length := by simpa [nats] using h
  rw [List.drop_eq_getElem_cons h1]
  congr 1
  simp [nats, rd, h]
theorem rd_byte (l : List Int) (hb : ∀ x ∈ l, 0 ≤ x ∧ x < 256) (j : Nat) (h : j < l.length) : ∃ y : Nat, rd l (j : Int) = (y : Int) ∧ y < 256 := by
  have := hb l[j] (List.getElem_mem h)
  refine ⟨l[j].toNat, ?_, by omega⟩
  simp [rd, h]
  omega
theorem wsum (a i : Nat) (h : a + i ≤ 9223372036854775807) : wrap64 ((a : Int) + (i : Int)) = ((a + i : Nat) : Int) := by rw [w64 _ (by omega) (by omega)]; omega
theorem wsucc (i : Nat) (h : i < 9223372036854775807) : wrap64 ((i : Int) + 1) = ((i + 1 : Nat) : Int) := by rw [w64 _ (by omega) (by omega)]; omega
theorem w7 (i : Nat) (h : i ≤ 9) : wrap64 (7 * (i : Int)) = ((7 * i : Nat) : Int) := by rw [w64 _ (by omega) (by omega)]; omega
set_option maxHeartbeats 1000000 in
theorem get_l0 (l : List Int) (hb : ∀ x ∈ l, 0 ≤ x ∧ x < 256) (hl : l.length ≤ 4611686018427387904) : ∀ (f i acc k a : Nat), f + i = 10 → a + i ≤ l.length → acc < 128 ^ i → 2 * f + 1 ≤ k →
    varint_Get.l0 k l (a : Int) (acc : Int) (i : Int) = some (outS a (dec f i acc ((nats l).drop (a + i)))) := by
  intro f
  induction f with
  | zero =>
    intro i acc k a hi ha hacc hk
    obtain ⟨k, rfl⟩ : ∃ j, k = j + 1 := ⟨k - 1, by omega⟩
    obtain rfl : i = 10 := by omega
    simp [varint_Get.l0, dec, outS]
  | succ f ih =>
    intro i acc k a hi ha hacc hk
    obtain ⟨k, rfl⟩ : ∃ j, k = j + 2 := ⟨k - 2, by omega⟩
    rw [varint_Get.l0, wsum a i (by omega), if_pos (by omega)]
    by_cases h : a + i = l.length
    · rw [if_pos (by omega), List.drop_eq_nil_of_le (by simp [nats]; omega)]
      rfl
    · rw [if_neg (by omega), if_pos (by omega), if_pos (by omega), drop_at l (a + i) (by omega)]
      obtain ⟨y, hy, hy2⟩ := rd_byte l hb (a + i) (by omega)
      rw [hy, Int.toNat_natCast]
      have j2 : ∀ b : Bool, b = decide ((i = 9 ∧ 1 < y) ∨ (0 < i ∧ y = 0)) → varint_Get.j2 (k + 1) l (a : Int) (acc : Int) (i : Int) (y : Int) (i : Int) b = some (outS a (dec (f + 1) i acc (y :: (nats l).drop (a + i + 1)))) := by
        intro b hbb
        simp only [varint_Get.j2, dec]
        by_cases hd : (i = 9 ∧ 1 < y) ∨ (0 < i ∧ y = 0)
        · rw [if_pos (by rw [hbb]; exact decide_eq_true hd), if_pos hd]; rfl
        · rw [if_neg (by rw [hbb]; simpa using hd), if_neg hd, w7 i (by omega), if_pos (by omega), ← w7 i (by omega), or_step acc i y hacc (by omega) (by omega) hy2, wsum a i (by omega), wsucc i (by omega), wsucc (a + i) (by omega)]
          by_cases hx : y < 128
          · rw [if_pos (by omega), if_pos hx, Nat.mod_eq_of_lt hx]
            rfl
          · rw [if_neg (by omega), if_neg hx]
            refine ih (i + 1) _ k a (by omega) (by omega) ?_ (by omega)
            have := (part_lt i y (by omega) (by omega)).2.2
            have : y % 128 * 128 ^ i ≤ 127 * 128 ^ i := Nat.mul_le_mul_right _ (by omega)
            rw [Nat.pow_succ]; omega
      have : (a + (i : Nat)) + 1 = a + i + 1 := rfl
      split
      · split
        · exact j2 _ (by simp; omega)
        · split
          · refine j2 _ ?_
            rw [Bool.eq_iff_iff]; simp; omega
          · exact j2 _ (by simp; omega)
      · split
        · refine j2 _ ?_
          rw [Bool.eq_iff_iff]; simp; omega
        · exact j2 _ (by simp; omega)
def getS (l : List Int) (a : Int) : Int × Int × Int := if a < 0 ∨ (l.length : Int) < a then (0, 0, 1) else outS a.toNat (dec 10 0 0 ((nats l).drop a.toNat))
theorem get_is (l : List Int) (hb : ∀ x ∈ l, 0 ≤ x ∧ x < 256) (hl : l.length ≤ 4611686018427387904) (a : Int) (k : Nat) (hk : 30 ≤ k) : varint_Get.f k l a = some (getS l a) := by
  obtain ⟨k, rfl⟩ : ∃ j, k = j + 1 := ⟨k - 1, by omega⟩
  unfold varint_Get.f getS
  by_cases h : a < 0
  · rw [if_pos h, if_pos (.inl h)]; rfl
  · rw [if_neg h]
    by_cases h2 : (l.length : Int) < a
    · rw [if_pos (.inr h2)]
      simp only [varint_Get.j0]
      rw [if_pos (decide_eq_true h2)]
    · rw [if_neg (by omega)]
      simp only [varint_Get.j0]
      rw [if_neg (by simpa using h2)]
      have := get_l0 l hb hl 10 0 0 k a.toNat rfl (by omega) (by simp) (by omega)
      rw [Int.toNat_of_nonneg (by omega)] at this
      simpa using this
/-! ### the reference -/
theorem bt_of (l : List Int) (hb : ∀ x ∈ l, 0 ≤ x ∧ x < 256) (j : Nat) (h : j < l.length) : bt (strOfNums l) (j : Int) = rd l (j : Int) := by
  have := hb (l[((j : Int)).toNat]'(by rw [Int.toNat_natCast]; exact h)) (List.getElem_mem _)
  have hs : j < (strOfNums l).size := by rw [strOfNums_size]; exact h
  unfold bt rd
  rw [dif_pos (by rw [Int.toNat_natCast]; exact hs), List.getD_eq_getElem?_getD, List.getElem?_eq_getElem (by rw [Int.toNat_natCast]; exact h)]
  show (((strOfNums l).data[j]'_).toNat : Int) = _
  simp only [strOfNums, List.getElem_toArray, List.getElem_map, UInt8.toNat_ofNat', Option.getD_some, Int.toNat_natCast] at this ⊢
  omega
theorem mul_step (acc i y : Nat) (ha : acc < 128 ^ i) (hi : i ≤ 9) (h9 : i = 9 → y ≤ 1) :
    IntKind.u64.wrap ((acc : Int) + IntKind.u64.wrap (((128 ^ i : Nat) : Int) * Int.tmod (y : Int) 128)) = ((acc + y % 128 * 128 ^ i : Nat) : Int) := by
  obtain ⟨h1, _, h2⟩ := part_lt i y hi h9
  rw [tmod128, show ((128 ^ i : Nat) : Int) * ((y : Int) % 128) = ((y % 128 * 128 ^ i : Nat) : Int) by rw [Int.natCast_mul, Int.mul_comm]; rfl, wrapu _ h1, ← Int.natCast_add, wrapu _ (by omega)]
theorem next_mul (i : Nat) (hi : i ≤ 8) : IntKind.u64.wrap (((128 ^ i : Nat) : Int) * 128) = ((128 ^ (i + 1) : Nat) : Int) := by
  have := p128_le i hi
  rw [show ((128 ^ i : Nat) : Int) * 128 = ((128 ^ (i + 1) : Nat) : Int) by rw [Nat.pow_succ, Int.natCast_mul]; rfl, wrapu _ (by omega)]
set_option maxHeartbeats 1000000 in
theorem ref_l0 (l : List Int) (hb : ∀ x ∈ l, 0 ≤ x ∧ x < 256) (hl : l.length ≤ 4611686018427387904) : ∀ (f i acc k a : Nat), f + i = 10 → a + i ≤ l.length → acc < 128 ^ i → 2 * f + 1 ≤ k →
    tephraref01_Get.l0 k (strOfNums l) (a : Int) (acc : Int) ((128 ^ i % 18446744073709551616 : Nat) : Int) (i : Int) = some (outS a (dec f i acc ((nats l).drop (a + i)))) := by
  intro f
  induction f with
  | zero =>
    intro i acc k a hi ha hacc hk
    obtain ⟨k, rfl⟩ : ∃ j, k = j + 1 := ⟨k - 1, by omega⟩
    obtain rfl : i = 10 := by omega
    simp [tephraref01_Get.l0, dec, outS]
  | succ f ih =>
    intro i acc k a hi ha hacc hk
    obtain ⟨k, rfl⟩ : ∃ j, k = j + 2 := ⟨k - 2, by omega⟩
    have hmod : 128 ^ i % 18446744073709551616 = 128 ^ i := by
      rcases Nat.lt_or_ge i 1 with h0 | h0
      · obtain rfl : i = 0 := by omega
        rfl
      · have := p128_le (i - 1) (by omega)
        rw [show i - 1 + 1 = i by omega] at this
        exact Nat.mod_eq_of_lt (by omega)
    rw [hmod]
    rw [tephraref01_Get.l0, wsum a i (by omega), strOfNums_size, if_pos (by omega)]
    by_cases h : a + i = l.length
    · rw [if_pos (by omega), List.drop_eq_nil_of_le (by simp [nats]; omega)]
      rfl
    · rw [if_neg (by omega), if_pos (by omega), if_pos (by omega), drop_at l (a + i) (by omega), bt_of l hb (a + i) (by omega)]
      obtain ⟨y, hy, hy2⟩ := rd_byte l hb (a + i) (by omega)
      rw [hy, Int.toNat_natCast, wrapu y (by omega)]
      have j2 : ∀ b : Bool, b = decide (i = 9 ∧ 1 < y) → tephraref01_Get.j2 (k + 1) (strOfNums l) (a : Int) (acc : Int) ((128 ^ i : Nat) : Int) (i : Int) (y : Int) b = some (outS a (dec (f + 1) i acc (y :: (nats l).drop (a + i + 1)))) := by
        intro b hbb
        simp only [tephraref01_Get.j2, dec]
        by_cases hd : i = 9 ∧ 1 < y
        · rw [if_pos (by rw [hbb]; exact decide_eq_true hd), if_pos (.inl hd)]; rfl
        · rw [if_neg (by rw [hbb]; simpa using hd), mul_step acc i y hacc (by omega) (by omega), wsum a i (by omega), wsucc i (by omega), wsucc (a + i) (by omega)]
          by_cases hx : y < 128
          · rw [if_pos (by omega)]
            by_cases h0 : 0 < i ∧ y = 0
            · rw [if_pos (by omega), if_pos (by omega), if_pos (.inr h0)]; rfl
            · rw [if_neg (c := (i = 9 ∧ 1 < y) ∨ (0 < i ∧ y = 0)) (by omega), if_pos hx, Nat.mod_eq_of_lt hx]
              split
              · rw [if_neg (by omega)]; rfl
              · rfl
          · rw [if_neg (by omega), if_neg (c := (i = 9 ∧ 1 < y) ∨ (0 < i ∧ y = 0)) (by omega), if_neg hx]
            have i8 : i ≤ 8 := by omega
            have hp := p128_le i i8
            rw [next_mul i i8]
            have := ih (i + 1) (acc + y % 128 * 128 ^ i) k a (by omega) (by omega) (by
              have : y % 128 * 128 ^ i ≤ 127 * 128 ^ i := Nat.mul_le_mul_right _ (by omega)
              rw [Nat.pow_succ]; omega) (by omega)
            rw [Nat.mod_eq_of_lt (a := 128 ^ (i + 1)) (by omega)] at this
            exact this
      split
      · exact j2 _ (by rw [Bool.eq_iff_iff]; simp; omega)
      · exact j2 _ (by rw [Bool.eq_iff_iff]; simp; omega)
theorem ref_is (l : List Int) (hb : ∀ x ∈ l, 0 ≤ x ∧ x < 256) (hl : l.length ≤ 4611686018427387904) (a : Int) (k : Nat) (hk : 30 ≤ k) : tephraref01_Get.f k (strOfNums l) a = some (getS l a) := by
  obtain ⟨k, rfl⟩ : ∃ j, k = j + 1 := ⟨k - 1, by omega⟩
  unfold tephraref01_Get.f getS
  rw [strOfNums_size]
  by_cases h : a < 0
  · rw [if_pos h, if_pos (.inl h)]; rfl
  · rw [if_neg h]
    by_cases h2 : (l.length : Int) < a
    · rw [if_pos (.inr h2)]
      simp only [tephraref01_Get.j0]
      rw [if_pos (decide_eq_true h2)]
    · rw [if_neg (by omega)]
      simp only [tephraref01_Get.j0]
      rw [if_neg (by simpa using h2)]
      have := ref_l0 l hb hl 10 0 0 k a.toNat rfl (by omega) (by simp) (by omega)
      rw [Int.toNat_of_nonneg (by omega)] at this
      simpa using this
end Go.Proofs.Ythpbkhagjgggjaa.GVB
