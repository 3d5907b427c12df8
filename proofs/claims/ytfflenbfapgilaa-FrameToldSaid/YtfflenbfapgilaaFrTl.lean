/- Bits within 32 in a row turned in a frame, behind its length: it is none. -/
import Derived.Test.YtfflenbfapgilaaWFrameCuts
set_option linter.unusedVariables false
set_option linter.unusedSimpArgs false
namespace Go.Proofs.Ytfflenbfapgilaa
open Go.RowKit Go.Proofs.YtfflenbfapgilaaW.PrintWords Go.Proofs.Ytfflenbfapgilaa.GVB

theorem rd_app (l m : List Int) (i j : Int) (h : i = l.length + j) (hj : 0 ≤ j) : rd (l ++ m) i = rd m j := by
  unfold rd
  rw [List.getD_eq_getElem?_getD, List.getD_eq_getElem?_getD, List.getElem?_append_right (by omega)]
  congr 2; omega
theorem bit_one (y : Int) (k : Nat) (hy : 0 ≤ y ∧ y < 4294967296) (h : y / 2 ^ k % 2 = 1) : Go.bits .and .u32 (y / 2 ^ k) 1 = 1 := by
  have h1 : 0 ≤ y / 2 ^ k := Int.ediv_nonneg hy.1 (Int.pow_nonneg (by omega))
  have h2 : y / 2 ^ k ≤ y := Int.ediv_le_self _ hy.1
  rw [u32_and (y / 2 ^ k) 1 h1 (by omega) (by omega) (by omega), show (1 : Int).toNat = 1 from rfl, nat_mask1]
  omega
theorem bit_zero (y : Int) (k : Nat) (hy : 0 ≤ y ∧ y < 4294967296) (h : ¬ y / 2 ^ k % 2 = 1) : Go.bits .and .u32 (y / 2 ^ k) 1 = 0 := by
  have h1 : 0 ≤ y / 2 ^ k := Int.ediv_nonneg hy.1 (Int.pow_nonneg (by omega))
  have h2 : y / 2 ^ k ≤ y := Int.ediv_le_self _ hy.1
  rw [u32_and (y / 2 ^ k) 1 h1 (by omega) (by omega) (by omega), show (1 : Int).toNat = 1 from rfl, nat_mask1]
  omega
theorem nats_set (cs : List Int) (j : Nat) (v : Int) : nats (cs.set j v) = (nats cs).set j v.toNat := by simp [nats, List.map_set]
theorem flip (cs : List Int) (hb : ∀ b ∈ cs, 0 ≤ b ∧ b < 256) (p : Nat) (h : p / 8 < cs.length) :
    (∀ b ∈ cs.set (p / 8) (Go.bits .xor .u8 (cs.getD (p / 8) 0) (2 ^ (p % 8) % 256)), 0 ≤ b ∧ b < 256) ∧ Crc.le (nats (cs.set (p / 8) (Go.bits .xor .u8 (cs.getD (p / 8) 0) (2 ^ (p % 8) % 256)))) = Crc.le (nats cs) ^^^ 2 ^ p := by
  have hr : p % 8 < 8 := by omega
  have hp : 2 ^ (p % 8) < 256 := Nat.lt_of_lt_of_le (Nat.pow_lt_pow_right (by omega) hr) (by decide)
  have hg : cs.getD (p / 8) 0 = cs[p / 8] := by simp [List.getD_eq_getElem?_getD, h]
  have hbx := hb cs[p / 8] (by simp)
  have e : Go.bits .xor .u8 (cs.getD (p / 8) 0) (2 ^ (p % 8) % 256) = (((cs[p / 8]).toNat ^^^ 2 ^ (p % 8) : Nat) : Int) := by
    have e2 : ((2 : Int) ^ (p % 8)) % 256 = ((2 ^ (p % 8) : Nat) : Int) := by
      rw [Int.natCast_pow]
      have : ((2 ^ (p % 8) : Nat) : Int) < 256 := by omega
      rw [Int.natCast_pow] at this
      exact Int.emod_eq_of_lt (Int.pow_nonneg (by omega)) this
    rw [hg, e2, u8_xor _ _ hbx.1 hbx.2 (by omega) (by omega), Int.toNat_natCast]
  have hx : (cs[p / 8]).toNat ^^^ 2 ^ (p % 8) < 256 := Nat.xor_lt_two_pow (n := 8) (by omega) hp
  rw [e]
  refine ⟨fun b hb' => ?_, ?_⟩
  · rcases List.mem_or_eq_of_mem_set hb' with h1 | rfl
    · exact hb b h1
    · omega
  · rw [nats_set, Int.toNat_natCast]
    have hl : p / 8 < (nats cs).length := by simpa [nats] using h
    have := Crc.le_turn (nats cs) (p / 8) (p % 8) hl (nats_lt hb) hr
    rw [show 8 * (p / 8) + p % 8 = p by omega] at this
    rw [← this]
    congr 2
    simp [nats]
theorem pow_mul_xor (f a b : Nat) : 2 ^ f * (a ^^^ b) = (2 ^ f * a) ^^^ (2 ^ f * b) := by
  apply Nat.eq_of_testBit_eq
  intro i
  rw [Nat.testBit_xor, Nat.testBit_two_pow_mul, Nat.testBit_two_pow_mul, Nat.testBit_two_pow_mul, Nat.testBit_xor]
  by_cases hi : i ≥ f <;> simp [hi]
theorem xor_two_pow (W k : Nat) (h : W < 2 ^ k) : W ^^^ 2 ^ k = W + 2 ^ k := by
  have := Crc.split_xor (W + 2 ^ k) k
  have e1 : (W + 2 ^ k) / 2 ^ k = 1 := by rw [Nat.add_div_right _ (Nat.two_pow_pos k), Nat.div_eq_of_lt h]
  have e2 : (W + 2 ^ k) % 2 ^ k = W := by rw [Nat.add_mod_right, Nat.mod_eq_of_lt h]
  rw [e1, e2, Nat.mul_one, Nat.xor_comm] at this
  exact this.symm
theorem nats_bytes (v : Nat) : nats [(v : Int) % 256, (v : Int) / 256 % 256, (v : Int) / 65536 % 256, (v : Int) / 16777216 % 256] = Crc.bytes v := by
  simp only [nats, Crc.bytes, List.map_cons, List.map_nil]
  congr 1
/-- the sum behind the first bytes is theirs just if nothing was turned -/
theorem told (l cs : List Int) (f W : Nat) (hl : ∀ b ∈ l, 0 ≤ b ∧ b < 256) (hb : ∀ b ∈ cs, 0 ≤ b ∧ b < 256) (hlen : cs.length = l.length + 4) (hf : f < 8 * cs.length) (hW : W < 4294967296)
    (hle : Crc.le (nats cs) = Crc.le (nats l ++ Crc.bytes (Crc.sum (nats l))) ^^^ (2 ^ f * W)) :
    (at4 cs l.length == ((Crc.sum (nats (cs.take l.length)) : Nat) : Int)) = decide (W = 0) := by
  have hd : (cs.drop l.length).length = 4 := by rw [List.length_drop]; omega
  obtain ⟨r0, r1, r2, r3, hr⟩ : ∃ r0 r1 r2 r3, cs.drop l.length = [r0, r1, r2, r3] := by
    match hdr : cs.drop l.length, hd with
    | [r0, r1, r2, r3], _ => exact ⟨r0, r1, r2, r3, rfl⟩
  have hbr : ∀ b ∈ [r0, r1, r2, r3], 0 ≤ b ∧ b < 256 := fun b hb' => hb b (List.mem_of_mem_drop (hr ▸ hb'))
  have h0 := hbr r0 (by simp)
  have h1 := hbr r1 (by simp)
  have h2 := hbr r2 (by simp)
  have h3 := hbr r3 (by simp)
  have hcs : cs = cs.take l.length ++ [r0, r1, r2, r3] := by rw [← hr, List.take_append_drop]
  have hm : (cs.take l.length).length = l.length := by rw [List.length_take]; omega
  have hbm : ∀ b ∈ cs.take l.length, 0 ≤ b ∧ b < 256 := fun b hb' => hb b (List.mem_of_mem_take hb')
  generalize cs.take l.length = m at *
  have hat : at4 cs l.length = r0 + 256 * r1 + 65536 * r2 + 16777216 * r3 := by
    unfold at4
    rw [hcs, rd_app m _ (l.length : Int) 0 (by omega) (by omega), rd_app m _ _ 1 (by omega) (by omega), rd_app m _ _ 2 (by omega) (by omega), rd_app m _ _ 3 (by omega) (by omega)]
    simp [rd]
  obtain ⟨v, hv⟩ : ∃ v : Nat, r0 + 256 * r1 + 65536 * r2 + 16777216 * r3 = v := ⟨_, (Int.toNat_of_nonneg (by omega)).symm⟩
  have hvlt : v < 4294967296 := by omega
  have hnb : nats [r0, r1, r2, r3] = Crc.bytes v := by
    rw [← nats_bytes, ← hv]
    congr 1
    rw [show (r0 + 256 * r1 + 65536 * r2 + 16777216 * r3) % 256 = r0 by omega, show (r0 + 256 * r1 + 65536 * r2 + 16777216 * r3) / 256 % 256 = r1 by omega, show (r0 + 256 * r1 + 65536 * r2 + 16777216 * r3) / 65536 % 256 = r2 by omega, show (r0 + 256 * r1 + 65536 * r2 + 16777216 * r3) / 16777216 % 256 = r3 by omega]
  have hn : nats cs = nats m ++ Crc.bytes v := by rw [hcs]; unfold nats at hnb ⊢; rw [List.map_append, hnb]
  have t1 := Crc.told_iff (nats m) v (nats_lt hbm) hvlt
  have t0 := (Crc.told_iff (nats l) (Crc.sum (nats l)) (nats_lt hl) (Crc.sum_lt _ (nats_lt hl))).1 rfl
  have hll : (nats l).length = l.length := by simp [nats]
  have hml : (nats m).length = l.length := by simp [nats, hm]
  rw [hml, ← hn, hle, ← Nat.xor_assoc, Crc.stn_xor] at t1
  rw [hll] at t0
  rw [t0] at t1
  rw [hat, hv]
  by_cases h : W = 0
  · rw [decide_eq_true h]
    have : v = Crc.sum (nats m) := t1.2 (by rw [h, Nat.mul_zero, Crc.stn_zero, Nat.xor_zero])
    simp [← this]
  · rw [decide_eq_false h]
    have hne := Crc.burst (8 * l.length + 32) f W (by omega) hW h
    have : v ≠ Crc.sum (nats m) := by
      intro e
      have h2 := t1.1 e
      apply hne
      have : (Crc.stn 32 Crc.top ^^^ Crc.stn (8 * l.length + 32) (2 ^ f * W)) ^^^ Crc.stn 32 Crc.top = 0 := by rw [h2, Nat.xor_self]
      rw [Nat.xor_comm (Crc.stn 32 Crc.top), Nat.xor_assoc, Nat.xor_self, Nat.xor_zero] at this
      exact this
    simp; omega
/-- The header of a payload's frame: its length, as bytes. -/
def hdr (p : List Int) : Nat := (vb p.length).length
theorem hdr_is (p : List Int) (hp : Pay p) : hdr p = if 128 ≤ p.length then 2 else 1 := by
  unfold hdr
  split
  · rename_i h
    rw [vb_great _ (by omega), vb_small _ (by have := hp.2.1; omega)]; rfl
  · rename_i h
    rw [vb_small _ (by omega)]; rfl
theorem frameL_parts (p : List Int) (hp : Pay p) : frameL p = (ints (vb p.length) ++ p) ++ crcB (Crc.sum (nats (ints (vb p.length) ++ p))) := by
  have hs : (strOfNums p).size = p.length := strOfNums_size p
  unfold frameL blob
  rw [hs, bytesOf_str p hp.2.2]
theorem frameL_length (p : List Int) (hp : Pay p) : (frameL p).length = hdr p + p.length + 4 := by
  rw [frameL_parts p hp, List.length_append, List.length_append]
  unfold hdr
  simp [ints, crcB]
/-- a frame whose length is as it was, the rest turned: none -/
theorem fget_turned (m cs u p : List Int) (f W : Nat) (hp : Pay p) (hm : ∀ x ∈ m, 0 ≤ x ∧ x < 256) (hb : ∀ x ∈ cs, 0 ≤ x ∧ x < 256) (hu : ∀ x ∈ u, 0 ≤ x ∧ x < 256) (hlen : cs.length = (frameL p).length) (hf : f < 8 * cs.length) (hW : W < 4294967296) (h0 : W ≠ 0)
    (hle : Crc.le (nats cs) = Crc.le (nats (frameL p)) ^^^ (2 ^ f * W)) (hh : cs.take (hdr p) = ints (vb p.length)) : (fgetS (m ++ (cs ++ u)) (m.length : Int)).2.2 ≠ 0 := by
  have hfl := frameL_length p hp
  have hp1 := hp.1
  have hp2 := hp.2.1
  have hhd : hdr p ≤ 10 := vb_len10 p.length (by omega)
  have hpos : 1 ≤ hdr p := List.length_pos_iff.2 (vb_ne p.length)
  have hcs : cs = ints (vb p.length) ++ cs.drop (hdr p) := by rw [← hh, List.take_append_drop]
  have hd : (nats (m ++ (cs ++ u))).drop m.length = vb p.length ++ nats (cs.drop (hdr p) ++ u) := by
    rw [nats_app, show m.length = (nats m).length by simp [nats], List.drop_left]
    conv => lhs; rw [hcs]
    rw [List.append_assoc, nats_app, nats_ints]
  have hg : getS (m ++ (cs ++ u)) (m.length : Int) = ((p.length : Int), ((m.length + hdr p : Nat) : Int), 0) := by
    unfold getS
    rw [if_neg (by simp only [List.length_append]; omega), Int.toNat_natCast, hd, dec_vb0 _ _ (by omega)]
    rfl
  have hL : (m ++ (cs ++ u)).length = m.length + (hdr p + p.length + 4) + u.length := by rw [List.length_append, List.length_append]; omega
  have hbg : bgetS (m ++ (cs ++ u)) (m.length : Int) 2048 = (strOfNums (((m ++ (cs ++ u)).take (m.length + hdr p + p.length)).drop (m.length + hdr p)), ((m.length + hdr p + p.length : Nat) : Int), 0) := by
    unfold bgetS
    rw [hg, if_neg (by simp), if_neg (by dsimp only; omega), if_neg (by rw [hL]; dsimp only; omega)]
    rfl
  have hsz : (strOfNums (((m ++ (cs ++ u)).take (m.length + hdr p + p.length)).drop (m.length + hdr p))).size = p.length := by
    rw [strOfNums_size, List.length_drop, List.length_take, hL]; omega
  have hblob : ∀ x ∈ ints (vb p.length) ++ p, 0 ≤ x ∧ x < 256 := by
    intro x hx
    rcases List.mem_append.1 hx with hx | hx
    · exact ints_bytes _ (vb_bytes _ (by omega)) x hx
    · exact hp.2.2 x hx
  have hbl : (ints (vb p.length) ++ p).length = hdr p + p.length := by rw [List.length_append]; simp [ints, hdr]
  have ht := told (ints (vb p.length) ++ p) cs f W hblob hb (by rw [hbl]; omega) hf hW (by
    rw [hle, frameL_parts p hp]
    unfold nats
    rw [List.map_append]
    congr 2)
  rw [decide_eq_false h0, hbl] at ht
  have hbd : ∀ x ∈ cs ++ u, 0 ≤ x ∧ x < 256 := by
    intro x hx
    rcases List.mem_append.1 hx with hx | hx
    · exact hb x hx
    · exact hu x hx
  have hw : wholeB (cs ++ u) ((hdr p + p.length : Nat) : Int) = false := by
    unfold wholeB
    rw [Int.toNat_natCast, List.take_append_of_le_length (by omega)]
    have hat : at4 (cs ++ u) ((hdr p + p.length : Nat) : Int) = at4 cs ((hdr p + p.length : Nat) : Int) := by
      have hr : ∀ i : Int, 0 ≤ i → i < cs.length → rd (cs ++ u) i = rd cs i := by
        intro i h1 h2
        unfold rd
        rw [List.getD_eq_getElem?_getD, List.getD_eq_getElem?_getD, List.getElem?_append_left (by omega)]
      unfold at4
      rw [hr _ (by omega) (by omega), hr _ (by omega) (by omega), hr _ (by omega) (by omega), hr _ (by omega) (by omega)]
    rw [hat, Bool.and_eq_false_iff]
    refine .inr (decide_eq_false (fun e => ?_))
    rw [e] at ht
    simp at ht
  unfold fgetS
  rw [hL, if_neg (by omega), hbg, if_neg (by simp), if_neg (by show ¬ (strOfNums _).size = 0; omega)]
  dsimp only
  rw [if_neg (by omega), Int.toNat_natCast, List.drop_left, show ((m.length + hdr p + p.length : Nat) : Int) - (m.length : Int) = ((hdr p + p.length : Nat) : Int) by omega, hw, if_pos rfl]
  decide
theorem set_mid (m cs u : List Int) (j : Nat) (v : Int) (hj : j < cs.length) : (m ++ (cs ++ u)).set (m.length + j) v = m ++ (cs.set j v ++ u) := by
  rw [List.set_append_right _ _ (by omega), Nat.add_sub_cancel_left, List.set_append_left _ _ hj]
theorem getD_mid (m cs u : List Int) (j : Nat) (hj : j < cs.length) : (m ++ (cs ++ u)).getD (m.length + j) 0 = cs.getD j 0 := by
  rw [List.getD_eq_getElem?_getD, List.getD_eq_getElem?_getD, List.getElem?_append_right (by omega), Nat.add_sub_cancel_left, List.getElem?_append_left hj]
end Go.Proofs.Ytfflenbfapgilaa
