/- The document's checksum of a string is Crc.sum of its bytes. -/
import Derived.Test.YtfflenbfapgilaaGVBx1
import Derived.Test.YtfflenbfapgilaaCrcS
set_option linter.unusedVariables false
set_option linter.unusedSimpArgs false
namespace Go.Proofs.Ytfflenbfapgilaa
open Go.RowKit Go.Proofs.YtfflenbfapgilaaW.PrintWords Go.Proofs.YtfflenbfapgilaaW.PrintMore
open Go.Proofs.Ytfflenbfapgilaa.GVB

theorem bt_num (l : List Int) (h : ∀ x ∈ l, 0 ≤ x ∧ x < 256) (i : Nat) (hi : i < l.length) : bt (strOfNums l) (i : Int) = ((l[i].toNat : Nat) : Int) := by
  have hs : (strOfNums l).size = l.length := strOfNums_size l
  unfold bt
  rw [dif_pos (by rw [Int.toNat_natCast, hs]; exact hi)]
  have hx := h l[i] (List.getElem_mem _)
  have h2 : ((strOfNums l)[(i : Int).toNat]'(by rw [Int.toNat_natCast, hs]; exact hi)).toNat = l[i].toNat := by
    simp [strOfNums, ByteArray.getElem_eq_getElem_data]
    omega
  rw [h2]
theorem xor_u32 (a b : Nat) (ha : a < 4294967296) (hb : b < 4294967296) : Go.bits .xor .u32 (a : Int) (b : Int) = ((a ^^^ b : Nat) : Int) := u32_xor_nat a b ha hb
theorem top_sub (x : Nat) (h : x < 4294967296) : 4294967295 - x = 4294967295 ^^^ x := by
  apply Nat.eq_of_testBit_eq
  intro i
  have h1 := Nat.testBit_two_pow_sub_succ (n := 32) (x := x) (by omega) i
  have h2 := Nat.testBit_two_pow_sub_one 32 i
  rw [show 4294967295 - x = 2 ^ 32 - (x + 1) by omega, h1, Nat.testBit_xor, show (4294967295 : Nat) = 2 ^ 32 - 1 by omega, h2]
  by_cases hi : i < 32
  · simp [hi]
  · have : x.testBit i = false := Nat.testBit_lt_two_pow (Nat.lt_of_lt_of_le h (by rw [show (4294967296 : Nat) = 2 ^ 32 by decide]; exact Nat.pow_le_pow_right (by decide) (by omega)))
    simp [hi, this]
theorem bitStep_lt (c b : Nat) (h : c < 4294967296) : Crc.bitStep c b < 4294967296 := by
  unfold Crc.bitStep
  split
  · exact Nat.xor_lt_two_pow (n := 32) (by omega) (by decide)
  · omega
theorem rsum_l1 (s : ByteArray) (x4 : Int) (b : Nat) (h0 : 0 ≤ x4) (h1 : x4 < (s.size : Int)) (hb : bt s x4 = (b : Int)) (hb2 : b < 256) : ∀ (n j k c : Nat), j + n = 8 → c < 4294967296 → 
    tephraref03_Sum.l1 (k + n + 1) s (c : Int) x4 (j : Int) = tephraref03_Sum.l0 k s ((Crc.bitsFrom n c (b / 2 ^ j) : Nat) : Int) (wrap64 (x4 + 1)) := by
  intro n
  induction n with
  | zero =>
    intro j k c hj hc
    simp only [tephraref03_Sum.l1]
    rw [if_neg (by omega)]; rfl
  | succ n ih =>
    intro j k c hj hc
    obtain ⟨q, hq⟩ : ∃ q, q = k + n + 1 := ⟨_, rfl⟩
    rw [show k + (n + 1) + 1 = q + 1 by omega]
    simp only [tephraref03_Sum.l1]
    have hw : IntKind.u64.wrap ((j : Int) + 1) = ((j + 1 : Nat) : Int) := by
      simp [IntKind.wrap, IntKind.signed, IntKind.bits]; omega
    have hs : (shr .u8 (bt s x4) (j : Int) % 4294967296) % 2 = (((b / 2 ^ j) % 2 : Nat) : Int) := by
      rw [hb]; unfold shr
      rw [Int.toNat_natCast, show min j IntKind.u8.bits = j from Nat.min_eq_left (by show j ≤ 8; omega)]
      have : ((b : Int) / 2 ^ j) = ((b / 2 ^ j : Nat) : Int) := by simp
      rw [this]
      have : b / 2 ^ j < 256 := Nat.lt_of_le_of_lt (Nat.div_le_self _ _) hb2
      omega
    have hm : Int.tmod (c : Int) 2 = ((c % 2 : Nat) : Int) := by simp [Int.tmod]
    have hd : (Int.tdiv (c : Int) 2) % 4294967296 = ((c / 2 : Nat) : Int) := by
      have : Int.tdiv (c : Int) 2 = ((c / 2 : Nat) : Int) := by simp [Int.tdiv]
      rw [this]; omega
    have hx : Go.bits .xor .u32 ((c / 2 : Nat) : Int) 3988292384 = ((c / 2 ^^^ Crc.poly : Nat) : Int) := xor_u32 (c / 2) Crc.poly (by omega) (by decide)
    rw [if_pos (by omega), if_pos h0, if_pos h1, if_pos (by omega), hs, hm, hd, hw, hx]
    have hpow : b / 2 ^ j / 2 = b / 2 ^ (j + 1) := by rw [Nat.div_div_eq_div_mul, Nat.pow_succ]
    by_cases e : c % 2 = b / 2 ^ j % 2
    · rw [if_pos (by omega)]
      have hb : Crc.bitStep c (b / 2 ^ j % 2) = c / 2 := by unfold Crc.bitStep; rw [if_neg (by omega)]
      rw [hq, ih (j + 1) k (c / 2) (by omega) (by omega)]
      simp only [Crc.bitsFrom]
      rw [hb, hpow]
    · rw [if_neg (by omega)]
      have hb : Crc.bitStep c (b / 2 ^ j % 2) = c / 2 ^^^ Crc.poly := by unfold Crc.bitStep; rw [if_pos e]
      have hlt : c / 2 ^^^ Crc.poly < 4294967296 := Nat.xor_lt_two_pow (n := 32) (by omega) (by decide)
      rw [hq, ih (j + 1) k (c / 2 ^^^ Crc.poly) (by omega) hlt]
      simp only [Crc.bitsFrom]
      rw [hb, hpow]
theorem rsum_l0 (l : List Int) (h : ∀ x ∈ l, 0 ≤ x ∧ x < 256) (hl : l.length ≤ 1000000) : ∀ (d i k c : Nat), l.length = i + d → c < 4294967296 →
    tephraref03_Sum.l0 (k + 10 * d + 1) (strOfNums l) (c : Int) (i : Int) = some (((Crc.top ^^^ Crc.run c (nats (l.drop i)) : Nat)) : Int) := by
  intro d
  induction d with
  | zero =>
    intro i k c hi hc
    have hs : (strOfNums l).size = l.length := strOfNums_size l
    simp only [tephraref03_Sum.l0]
    rw [if_neg (by rw [hs]; omega), List.drop_of_length_le (by omega)]
    congr 1
    show ((4294967295 - (c : Int)) % 4294967296) = ((4294967295 ^^^ c : Nat) : Int)
    rw [← top_sub c hc]; omega
  | succ d ih =>
    intro i k c hi hc
    have hs : (strOfNums l).size = l.length := strOfNums_size l
    have hlt : i < l.length := by omega
    have hx := h l[i] (List.getElem_mem _)
    obtain ⟨q, hq⟩ : ∃ q, q = (k + 10 * d + 1) + 8 + 1 := ⟨_, rfl⟩
    rw [show k + 10 * (d + 1) + 1 = q + 1 by omega]
    simp only [tephraref03_Sum.l0]
    rw [if_pos (by rw [hs]; omega)]
    have h1 := rsum_l1 (strOfNums l) (i : Int) l[i].toNat (by omega) (by rw [hs]; omega) (bt_num l h i hlt) (by omega) 8 0 (k + 10 * d + 1) c (by omega) hc
    rw [show ((0 : Nat) : Int) = 0 from rfl] at h1
    rw [hq, h1]
    have hw : wrap64 ((i : Int) + 1) = ((i + 1 : Nat) : Int) := by unfold wrap64; omega
    have hbf : Crc.bitsFrom 8 c (l[i].toNat / 2 ^ 0) = Crc.byte c l[i].toNat := by
      rw [Nat.pow_zero, Nat.div_one, Crc.bitsFrom_eq 8 c _ (by omega)]; rfl
    rw [hw, hbf, ih (i + 1) k _ (by omega) (Crc.byte_lt c _ hc (by omega)), List.drop_eq_getElem_cons hlt]
    rfl
theorem rsum_is (l : List Int) (h : ∀ x ∈ l, 0 ≤ x ∧ x < 256) (hl : l.length ≤ 1000000) : tephraref03_Sum.f (10 * l.length + 1) (strOfNums l) = some ((Crc.sum (nats l) : Nat) : Int) := by
  have := rsum_l0 l h hl l.length 0 0 4294967295 (by omega) (by omega)
  rw [Nat.zero_add, List.drop_zero] at this
  exact this
theorem rsum_any (l : List Int) (h : ∀ x ∈ l, 0 ≤ x ∧ x < 256) (hl : l.length ≤ 1000000) (w : World) :
    Calls Try.prog 52 #[.string (strOfNums l)] w fun e w' => e = .returned (.int .u32 (Crc.sum (nats l) : Nat)) ∧ Below w.heap.size w w' := by
  have := tephraref03_Sum.calls _ (strOfNums l) _ w (rsum_is l h hl)
  exact this.mono (fun e w' hh => ⟨hh.1, hh.2.below⟩)
end Go.Proofs.Ytfflenbfapgilaa
