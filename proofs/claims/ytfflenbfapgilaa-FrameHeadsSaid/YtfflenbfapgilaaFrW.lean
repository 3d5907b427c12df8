/- When frame.whole calls bytes whole: a checksum stands behind them, and it is theirs. -/
import Derived.Test.YtfflenbfapgilaaFrH
set_option linter.unusedVariables false
set_option linter.unusedSimpArgs false
namespace Go.Proofs.Ytfflenbfapgilaa
open Go.RowKit Go.Proofs.YtfflenbfapgilaaW.PrintWords Go.Proofs.Ytfflenbfapgilaa.GVB

theorem u32or (x y : Int) (h1 : 0 ≤ x) (h2 : x < 16777216) (h3 : 0 ≤ y) (h4 : y < 256) : Go.bits .or .u32 ((x * 256) % 4294967296) (y % 4294967296) = x * 256 + y := by
  obtain ⟨a, rfl⟩ := Int.eq_ofNat_of_zero_le h1
  obtain ⟨b, rfl⟩ := Int.eq_ofNat_of_zero_le h3
  rw [show ((a : Int) * 256) % 4294967296 = ((a * 256 : Nat) : Int) by omega, show ((b : Int)) % 4294967296 = ((b : Nat) : Int) by omega, u32_or_nat _ _ (by omega) (by omega), nat_join 8 (a * 256) b (by omega) (by omega)]
  omega
/-- the sum at a place -/
def at4 (l : List Int) (a : Int) : Int := rd l a + 256 * rd l (a + 1) + 65536 * rd l (a + 2) + 16777216 * rd l (a + 3)
theorem rd_lt (l : List Int) (h : ∀ x ∈ l, (Lit.int .u8 x).wf = true) (i : Int) : 0 ≤ rd l i ∧ rd l i < 256 := by
  unfold rd
  rw [List.getD_eq_getElem?_getD]
  cases e : l[i.toNat]? with
  | none => simp
  | some v =>
    have := h v (List.mem_of_getElem? e)
    simp [Lit.wf, IntKind.min, IntKind.max, IntKind.signed, IntKind.bits] at this
    simp; omega
theorem read_eq (k : Nat) (hk : 7 ≤ k) (l : List Int) (a : Int) (hl : l.length ≤ 1000000) (h : ∀ x ∈ l, (Lit.int .u8 x).wf = true) (ha : -9223372036854775808 ≤ a ∧ a ≤ 9223372036854775807) :
    crc_Read.f k l a = some (if 0 ≤ a ∧ a + 4 ≤ l.length then (at4 l a, true) else (0, false)) := by
  obtain ⟨k, rfl⟩ : ∃ m, k = m + 7 := ⟨k - 7, by omega⟩
  unfold crc_Read.f
  by_cases h1 : a < 0
  · rw [if_pos h1, if_neg (by omega)]; simp only [crc_Read.j0, if_true]
  rw [if_neg h1]
  by_cases h2 : a > (l.length : Int)
  · rw [if_pos h2, if_neg (by omega)]; simp only [crc_Read.j0, if_true]
  rw [if_neg h2, w64 _ (by omega) (by omega)]
  simp only [crc_Read.j0]
  by_cases h3 : (l.length : Int) - a < 4
  · rw [if_pos (decide_eq_true h3), if_neg (by omega)]
  rw [if_neg (by simpa using h3), if_pos (by omega)]
  have b0 := rd_lt l h a
  have b1 := rd_lt l h (a + 1)
  have b2 := rd_lt l h (a + 2)
  have b3 := rd_lt l h (a + 3)
  simp only [crc_Read.l0]
  rw [if_pos (by omega), w64 (a + 3) (by omega) (by omega), if_pos (by omega), if_pos (by omega), u32or 0 _ (by omega) (by omega) b3.1 b3.2]
  rw [w64 (3 - 1) (by omega) (by omega), if_pos (by omega), show a + (3 - 1) = a + 2 by omega, w64 (a + 2) (by omega) (by omega), if_pos (by omega), if_pos (by omega), u32or _ _ (by omega) (by omega) b2.1 b2.2]
  rw [w64 (3 - 1 - 1) (by omega) (by omega), if_pos (by omega), show a + (3 - 1 - 1) = a + 1 by omega, w64 (a + 1) (by omega) (by omega), if_pos (by omega), if_pos (by omega), u32or _ _ (by omega) (by omega) b1.1 b1.2]
  rw [w64 (3 - 1 - 1 - 1) (by omega) (by omega), if_pos (by omega), show a + (3 - 1 - 1 - 1) = a by omega, w64 a (by omega) (by omega), if_pos (by omega), if_pos (by omega), u32or _ _ (by omega) (by omega) b0.1 b0.2]
  rw [w64 (3 - 1 - 1 - 1 - 1) (by omega) (by omega), if_neg (by omega)]
  unfold at4
  congr 2
  omega
def wholeB (l : List Int) (a : Int) : Bool := decide (0 ≤ a ∧ a + 4 ≤ l.length) && decide (at4 l a = ((Crc.sum (nats (l.take a.toNat)) : Nat) : Int))
set_option maxRecDepth 100000 in
set_option maxHeartbeats 1000000 in
theorem whole_any (A : Option Addr) (c : Nat) (l : List Int) (a : Int) (w : World) (hC : Kd.C (Kd.int .u8) w A l.length l) (hc : l.length ≤ c) (hb : ∀ x ∈ l, 0 ≤ x ∧ x < 256) (hl : l.length ≤ 1000000) (ha : -9223372036854775808 ≤ a ∧ a ≤ 9223372036854775807) :
    Calls Try.prog 53 #[.slice A l.length c, .int .i64 a] w fun e w' => e = .returned (.bool (wholeB l a)) ∧ Below w.heap.size w w' := by
  have hwf : ∀ x ∈ l, (Lit.int .u8 x).wf = true := fun x hx => by
    have := hb x hx
    simp [Lit.wf, IntKind.min, IntKind.max, IntKind.signed, IntKind.bits]; omega
  have hr := read_eq 7 (Nat.le_refl _) l a hl hwf ha
  by_cases h : 0 ≤ a ∧ a + 4 ≤ l.length
  · rw [if_pos h] at hr
    have HRD := Lib.hid (crc_Read.calls 7 A c l a _ _ w hC hc hr)
    obtain ⟨n, rfl⟩ := Int.eq_ofNat_of_zero_le h.1
    have hn : n ≤ l.length := by omega
    have htk : (l.take n).length = n := by rw [List.length_take]; omega
    have HS := Lib.hid (fun (W : World) (h1 : Kd.C (Kd.int .u8) W A (l.take n).length (l.take n)) => sum_new A c (l.take n) W (by omega) h1 (fun x hx => hb x (List.mem_of_mem_take hx)))
    have HCT := Lib.hid (fun (W : World) (hB : Below w.heap.size w W) => (show Kd.C (Kd.int .u8) W A n (l.take n) by have h5 := Kd.C_take (Kd.C_below hC hB) hn; rwa [htk] at h5))
    rw [htk] at HS
    have hres : wholeB l (n : Int) = (at4 l (n : Int) == ((Crc.sum (nats (l.take n)) : Nat) : Int)) := by
      unfold wholeB
      rw [decide_eq_true h, Bool.true_and, Int.toNat_natCast]; rfl
    rw [hres]
    clear hC hr hwf hb htk hres h
    generalize at4 l (n : Int) = x at *
    generalize ((Crc.sum (nats (l.take n)) : Nat) : Int) = s at *
    go_enter Try.func53, Try.ntmps53
    go_wp2_with fail
    refine HRD.out.mono ?_
    rintro e w1 ⟨rfl, hd⟩
    have HB1 := Lib.hid hd.below
    clear hd
    go_wp2_with fail
    refine (HS.out w1 (HCT.out w1 HB1.out)).mono ?_
    rintro e w2 ⟨rfl, hb2⟩
    have HB2 := Lib.hid (HB1.out.trans (hb2.mono HB1.out.size))
    clear hb2
    go_wp2_with fail
    go_ret
    exact ⟨rfl, HB2.out⟩
  · rw [if_neg h] at hr
    have HRD := Lib.hid (crc_Read.calls 7 A c l a _ _ w hC hc hr)
    have hres : wholeB l a = false := by unfold wholeB; rw [decide_eq_false h]; rfl
    rw [hres]
    clear hC hr hwf hb hres h
    go_enter Try.func53, Try.ntmps53
    go_wp2_with fail
    refine HRD.out.mono ?_
    rintro e w1 ⟨rfl, hd⟩
    have HB1 := Lib.hid hd.below
    clear hd
    go_wp2_with fail
    go_ret
    exact ⟨rfl, HB1.out⟩
end Go.Proofs.Ytfflenbfapgilaa
