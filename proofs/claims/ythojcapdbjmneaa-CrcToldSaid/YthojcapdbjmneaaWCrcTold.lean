/- Bytes with their sum's bytes behind, of which bits within 32 in a row are turned, one at least, aren't bytes with their sum behind (up to 2000 bytes): the law CrcTold returns true, and writes nothing that was there. -/
import Derived.Test.YthojcapdbjmneaaWCrcBytes
set_option linter.unusedVariables false
set_option linter.unusedSimpArgs false
namespace Go.Proofs.Ythojcapdbjmneaa.WCrcTold
open Go.RowKit Go.Proofs.YthojcapdbjmneaaW.PrintWords Go.Proofs.Ythojcapdbjmneaa.GCrcBytes

theorem bit_one (y : Int) (k : Nat) (hy : 0 ≤ y ∧ y < 4294967296) (h : y / 2 ^ k % 2 = 1) : Go.bits .and .u32 (y / 2 ^ k) 1 = 1 := by
  have h1 : 0 ≤ y / 2 ^ k := Int.ediv_nonneg hy.1 (Int.pow_nonneg (by omega))
  have h2 : y / 2 ^ k ≤ y := Int.ediv_le_self _ hy.1
  rw [u32_and (y / 2 ^ k) 1 h1 (by omega) (by omega) (by omega), show (1 : Int).toNat = 1 from rfl, nat_mask1]
  omega
theorem bit_zero (y : Int) (k : Nat) (hy : 0 ≤ y ∧ y < 4294967296) (h : ¬ y / 2 ^ k % 2 = 1) : Go.bits .and .u32 (y / 2 ^ k) 1 = 0 := by
  have h1 : 0 ≤ y / 2 ^ k := Int.ediv_nonneg hy.1 (Int.pow_nonneg (by omega))
  have h2 : y / 2 ^ k ≤ y := Int.ediv_le_self _ hy.1
  rw [u32_and (y / 2 ^ k) 1 h1 (by omega) (by omega) (by omega), show (1 : Int).toNat = 1 from rfl, nat_mask1]
  omega
theorem nats_set (cs : List Int) (j : Nat) (v : Int) : nats (cs.set j v) = (nats cs).set j v.toNat := by simp [nats, List.map_set]
theorem nats_lt {cs : List Int} (h : ∀ b ∈ cs, 0 ≤ b ∧ b < 256) : ∀ x ∈ nats cs, x < 256 := by
  intro x hx
  obtain ⟨b, hb, rfl⟩ := List.mem_map.1 hx
  have := h b hb; omega
theorem flip (cs : List Int) (hb : ∀ b ∈ cs, 0 ≤ b ∧ b < 256) (p : Nat) (h : p / 8 < cs.length) :
    (∀ b ∈ cs.set (p / 8) (Go.bits .xor .u8 (cs.getD (p / 8) 0) (2 ^ (p % 8) % 256)), 0 ≤ b ∧ b < 256) ∧ Crc.le (nats (cs.set (p / 8) (Go.bits .xor .u8 (cs.getD (p / 8) 0) (2 ^ (p % 8) % 256)))) = Crc.le (nats cs) ^^^ 2 ^ p := by
  have hr : p % 8 < 8 := by omega
  have hp : 2 ^ (p % 8) < 256 := Nat.lt_of_lt_of_le (Nat.pow_lt_pow_right (by omega) hr) (by decide)
  have hg : cs.getD (p / 8) 0 = cs[p / 8] := by simp [List.getD_eq_getElem?_getD, h]
  have hbx := hb cs[p / 8] (by simp)
  have e : Go.bits .xor .u8 (cs.getD (p / 8) 0) (2 ^ (p % 8) % 256) = (((cs[p / 8]).toNat ^^^ 2 ^ (p % 8) : Nat) : Int) := by
    have e2 : ((2 : Int) ^ (p % 8)) % 256 = ((2 ^ (p % 8) : Nat) : Int) := by
      rw [Int.natCast_pow]
      have : ((2 ^ (p % 8) : Nat) : Int) < 256 := by omega
      rw [Int.natCast_pow] at this
      exact Int.emod_eq_of_lt (Int.pow_nonneg (by omega)) this
    rw [hg, e2, u8_xor _ _ hbx.1 hbx.2 (by omega) (by omega), Int.toNat_natCast]
  have hx : (cs[p / 8]).toNat ^^^ 2 ^ (p % 8) < 256 := Nat.xor_lt_two_pow (n := 8) (by omega) hp
  rw [e]
  refine ⟨fun b hb' => ?_, ?_⟩
  · rcases List.mem_or_eq_of_mem_set hb' with h1 | rfl
    · exact hb b h1
    · omega
  · rw [nats_set, Int.toNat_natCast]
    have hl : p / 8 < (nats cs).length := by simpa [nats] using h
    have := Crc.le_turn (nats cs) (p / 8) (p % 8) hl (nats_lt hb) hr
    rw [show 8 * (p / 8) + p % 8 = p by omega] at this
    rw [← this]
    congr 2
    simp [nats]
theorem pow_mul_xor (f a b : Nat) : 2 ^ f * (a ^^^ b) = (2 ^ f * a) ^^^ (2 ^ f * b) := by
  apply Nat.eq_of_testBit_eq
  intro i
  rw [Nat.testBit_xor, Nat.testBit_two_pow_mul, Nat.testBit_two_pow_mul, Nat.testBit_two_pow_mul, Nat.testBit_xor]
  by_cases hi : i ≥ f <;> simp [hi]
theorem xor_two_pow (W k : Nat) (h : W < 2 ^ k) : W ^^^ 2 ^ k = W + 2 ^ k := by
  have := Crc.split_xor (W + 2 ^ k) k
  have e1 : (W + 2 ^ k) / 2 ^ k = 1 := by rw [Nat.add_div_right _ (Nat.two_pow_pos k), Nat.div_eq_of_lt h]
  have e2 : (W + 2 ^ k) % 2 ^ k = W := by rw [Nat.add_mod_right, Nat.mod_eq_of_lt h]
  rw [e1, e2, Nat.mul_one, Nat.xor_comm] at this
  exact this.symm
theorem nats_bytes (v : Nat) : nats [(v : Int) % 256, (v : Int) / 256 % 256, (v : Int) / 65536 % 256, (v : Int) / 16777216 % 256] = Crc.bytes v := by
  simp only [nats, Crc.bytes, List.map_cons, List.map_nil]
  congr 1
/-- the sum behind the first bytes is theirs just if nothing was turned -/
theorem told (l cs : List Int) (f W : Nat) (hl : ∀ b ∈ l, 0 ≤ b ∧ b < 256) (hb : ∀ b ∈ cs, 0 ≤ b ∧ b < 256) (hlen : cs.length = l.length + 4) (hf : f < 8 * cs.length) (hW : W < 4294967296)
    (hle : Crc.le (nats cs) = Crc.le (nats l ++ Crc.bytes (Crc.sum (nats l))) ^^^ (2 ^ f * W)) :
    (WCrcBytes.at4 cs l.length == ((Crc.sum (nats (cs.take l.length)) : Nat) : Int)) = decide (W = 0) := by
  have hd : (cs.drop l.length).length = 4 := by rw [List.length_drop]; omega
  obtain ⟨r0, r1, r2, r3, hr⟩ : ∃ r0 r1 r2 r3, cs.drop l.length = [r0, r1, r2, r3] := by
    match hdr : cs.drop l.length, hd with
    | [r0, r1, r2, r3], _ => exact ⟨r0, r1, r2, r3, rfl⟩
  have hbr : ∀ b ∈ [r0, r1, r2, r3], 0 ≤ b ∧ b < 256 := fun b hb' => hb b (List.mem_of_mem_drop (hr ▸ hb'))
  have h0 := hbr r0 (by simp)
  have h1 := hbr r1 (by simp)
  have h2 := hbr r2 (by simp)
  have h3 := hbr r3 (by simp)
  have hcs : cs = cs.take l.length ++ [r0, r1, r2, r3] := by rw [← hr, List.take_append_drop]
  have hm : (cs.take l.length).length = l.length := by rw [List.length_take]; omega
  have hbm : ∀ b ∈ cs.take l.length, 0 ≤ b ∧ b < 256 := fun b hb' => hb b (List.mem_of_mem_take hb')
  generalize cs.take l.length = m at *
  have hat : WCrcBytes.at4 cs l.length = r0 + 256 * r1 + 65536 * r2 + 16777216 * r3 := by
    unfold WCrcBytes.at4
    rw [hcs, WCrcBytes.rd_app m _ (l.length : Int) 0 (by omega) (by omega), WCrcBytes.rd_app m _ _ 1 (by omega) (by omega), WCrcBytes.rd_app m _ _ 2 (by omega) (by omega), WCrcBytes.rd_app m _ _ 3 (by omega) (by omega)]
    simp [rd]
  obtain ⟨v, hv⟩ : ∃ v : Nat, r0 + 256 * r1 + 65536 * r2 + 16777216 * r3 = v := ⟨_, (Int.toNat_of_nonneg (by omega)).symm⟩
  have hvlt : v < 4294967296 := by omega
  have hnb : nats [r0, r1, r2, r3] = Crc.bytes v := by
    rw [← nats_bytes, ← hv]
    congr 1
    rw [show (r0 + 256 * r1 + 65536 * r2 + 16777216 * r3) % 256 = r0 by omega, show (r0 + 256 * r1 + 65536 * r2 + 16777216 * r3) / 256 % 256 = r1 by omega, show (r0 + 256 * r1 + 65536 * r2 + 16777216 * r3) / 65536 % 256 = r2 by omega, show (r0 + 256 * r1 + 65536 * r2 + 16777216 * r3) / 16777216 % 256 = r3 by omega]
  have hn : nats cs = nats m ++ Crc.bytes v := by rw [hcs]; unfold nats at hnb ⊢; rw [List.map_append, hnb]
  have t1 := Crc.told_iff (nats m) v (nats_lt hbm) hvlt
  have t0 := (Crc.told_iff (nats l) (Crc.sum (nats l)) (nats_lt hl) (Crc.sum_lt _ (nats_lt hl))).1 rfl
  have hll : (nats l).length = l.length := by simp [nats]
  have hml : (nats m).length = l.length := by simp [nats, hm]
  rw [hml, ← hn, hle, ← Nat.xor_assoc, Crc.stn_xor] at t1
  rw [hll] at t0
  rw [t0] at t1
  rw [hat, hv]
  by_cases h : W = 0
  · rw [decide_eq_true h]
    have : v = Crc.sum (nats m) := t1.2 (by rw [h, Nat.mul_zero, Crc.stn_zero, Nat.xor_zero])
    simp [← this]
  · rw [decide_eq_false h]
    have hne := Crc.burst (8 * l.length + 32) f W (by omega) hW h
    have : v ≠ Crc.sum (nats m) := by
      intro e
      have h2 := t1.1 e
      apply hne
      have : (Crc.stn 32 Crc.top ^^^ Crc.stn (8 * l.length + 32) (2 ^ f * W)) ^^^ Crc.stn 32 Crc.top = 0 := by rw [h2, Nat.xor_self]
      rw [Nat.xor_comm (Crc.stn 32 Crc.top), Nat.xor_assoc, Nat.xor_self, Nat.xor_zero] at this
      exact this
    simp; omega
set_option maxHeartbeats 1000000 in
set_option maxRecDepth 100000 in
theorem told_main (A1 : Option Addr) (c1 : Nat) (l : List Int) (x y : Int) (w : World) (hr : Kd.C (Kd.int .u8) w A1 l.length l) (hc : l.length ≤ c1) (hle : l.length ≤ 2000) (hb : ∀ b ∈ l, 0 ≤ b ∧ b < 256) (hx : 0 ≤ x ∧ x < 65536) (hy : 0 ≤ y ∧ y < 4294967296) :
    Calls Try.prog 14 #[.slice A1 l.length c1, .int .u16 x, .int .u32 y] w fun e w' => e = .returned (.bool true) ∧ Below w.heap.size w w' := by
  have HC := Lib.hid hr
  have HB := Lib.hid hb
  clear hr hb
  go_enter Try.func14, Try.ntmps14
  go_wp2_with (at_builtin; refine Halt.mk ?_)
  have HO := Lib.hid (R_block .u8 (w.alloc (.cells #[] 5)) w.heap.size w.heap.size 5 [] (fun _ => True) (heap_new _ _) (Nat.le_refl _) (by simp) trivial)
  have hb3 := (Below.refl w.heap.size w).alloc (Nat.le_refl _) (.cells #[] 5)
  refine Halt.of ?_
  refine Kd.R_append_rows (Kd.int .u8) (w0 := w) w.heap.size rfl (.tmp 18) (.tmp 19) 22 5 (.int .u8 0) 1 rfl Try.underlying22 info_u8 rfl (by decide) (by omega) _ [] l _ _ _ (fun _ => True) (fun _ => False) rfl rfl HO.out (Kd.C_below HC.out hb3) (fun _ _ h => h) (fun _ h => h.elim) (fun _ _ => trivial) hb3 hb3.size (by simp; omega) ?_
  intro v1 w1 HO1 hb1 _ _
  clear HO hb3
  rw [List.nil_append] at HO1
  have HO1 := Lib.hid HO1
  go_wp2_with fail
  refine (sum_new A1 c1 l w1 hc (Kd.C_below HC.out hb1) HB.out).mono ?_
  rintro e w2 ⟨rfl, hb2⟩
  have HO2 := Lib.hid (Kd.R_below HO1.out hb2)
  have hb2 := hb1.trans (hb2.mono hb1.size)
  clear hb1 HO1
  obtain ⟨sm, HSM⟩ : ∃ sm, Hid (Crc.sum (nats l) = sm) := ⟨_, rfl⟩
  rw [HSM.out]
  go_wp2_with fail
  refine (crc_Bytes.calls (sm : Int) _ _ rfl).mono ?_
  rintro e w3 ⟨v2, rfl, hob, hb3⟩
  obtain ⟨bs, HBS⟩ : ∃ bs : List Int, Hid ([(sm : Int) % 256, (sm : Int) / 256 % 256, (sm : Int) / 65536 % 256, (sm : Int) / 16777216 % 256] = bs) := ⟨_, rfl⟩
  rw [HBS.out] at hob
  obtain ⟨A2, c2, rfl⟩ := Kd.R_slice hob
  have HR2 := Lib.hid (Kd.R_reads' hob).2
  have HO3 := Lib.hid (Kd.R_below HO2.out hb3)
  have hb3 := hb2.trans (hb3.mono hb2.size)
  have hl4 : bs.length = 4 := by rw [← HBS.out]; rfl
  have HL4 := Lib.hid hl4
  clear hb2 HO2 hob hl4
  go_wp2_with (at_builtin; refine Halt.mk ?_)
  refine Halt.of ?_
  refine Kd.R_append_rows (Kd.int .u8) (w0 := w) w.heap.size rfl (.tmp 20) (.tmp 24) 22 5 (.int .u8 0) 1 rfl Try.underlying22 info_u8 rfl (by decide) (by omega) _ l bs _ _ _ (fun _ => True) (fun _ => False) rfl rfl HO3.out HR2.out.2 (fun _ _ h => h) (fun _ h => h.elim) (fun _ _ => trivial) hb3 hb3.size (by have := HL4.out; omega) ?_
  intro v1 w4 HO4 hb4 _ _
  clear HO3 HR2 hb3
  obtain ⟨c0, HC0⟩ : ∃ c0, Hid (l ++ bs = c0) := ⟨_, rfl⟩
  rw [HC0.out] at HO4
  have hc0 : c0.length = l.length + 4 := by rw [← HC0.out, List.length_append, HL4.out]
  obtain ⟨g, cp, cur, rfl, hg, hh, hcp, hgs⟩ := R_open HO4 (by omega)
  have HO4 := Lib.hid HO4
  have hca : c0.length ≤ l.length + 4 := by omega
  have hcb : l.length + 4 ≤ c0.length := by omega
  clear hh hc0
  go_wp2_with fail
  obtain ⟨f, hf⟩ : ∃ f : Nat, x % (8 * (c0.length : Int)) = f := ⟨(x % (8 * (c0.length : Int))).toNat, by rw [Int.toNat_of_nonneg (Int.emod_nonneg _ (by omega))]⟩
  have hf1 : f < 8 * c0.length := by
    have := Int.emod_lt_of_pos x (show 0 < 8 * (c0.length : Int) by omega)
    omega
  rw [hf]
  clear hf
  go_loopw [9, 38] (fun u9 u38 wr => ∃ (k W : Nat) (cs : List Int), k ≤ 32 ∧ u38 = .int .i64 k ∧ u9 = .bool (decide (W = 0)) ∧ W < 2 ^ k ∧ Hid (Crc.le (nats cs) = Crc.le (nats c0) ^^^ (2 ^ f * W)) ∧ Hid (∀ b ∈ cs, 0 ≤ b ∧ b < 256) ∧ Hid (cs.length = c0.length) ∧ Hid (Kd.R (Kd.int .u8) 5 wr w.heap.size (fun _ => True) (.slice (some ⟨g, 0, none⟩) c0.length cp) cs) ∧ Below w.heap.size w wr) (fun _ v _ => 32 - (intOf v).toNat)
  case atStart =>
    refine ⟨0, 0, c0, by omega, rfl, rfl, by decide, by simp [Hid], ?_, rfl, HO4.out, hb4⟩
    intro b hb
    rw [← HC0.out] at hb
    rcases List.mem_append.1 hb with hb | hb
    · exact HB.out b hb
    · rw [← HBS.out] at hb
      simp at hb
      omega
  case round =>
    obtain ⟨k, W, cs, hk, rfl, rfl, hW, HLE, HBY, HLN, HR, hbl⟩ := hrel
    by_cases hlt : k < 32
    · by_cases hbit : y / 2 ^ k % 2 = 1
      · have e1 := bit_one y k hy hbit
        clear hbit
        by_cases hat : f + k < 8 * c0.length
        · have hjl : (f + k) / 8 < cs.length := by have := HLN.out; omega
          obtain ⟨b, HBV⟩ : ∃ b, Hid (cs.getD ((f + k) / 8) 0 = b) := ⟨_, rfl⟩
          have hcell : wr.cell? ⟨g, (f + k) / 8, none⟩ = some (.int .u8 b) := by
            obtain ⟨ad, he, hc⟩ := Kd.at_int (Kd.R_reads' HR.out).2.2 (((f + k) / 8 : Nat) : Int) (by omega) (by omega)
            cases he
            rw [Int.toNat_natCast] at hc
            rw [← HBV.out]
            rw [show (⟨g, (f + k) / 8, none⟩ : Addr) = (⟨g, 0, none⟩ : Addr).add ((f + k) / 8) by simp [Addr.add]]
            rw [hc]
            rfl
          have hfz : wr.frozen? ⟨g, (f + k) / 8, none⟩ = false := by
            obtain ⟨g', c', cur', he, _, hh, _, _⟩ := R_open HR.out (by omega)
            injection he with he
            cases he
            exact unfrozen_of hh _
          have hfl := flip cs HBY.out (f + k) hjl
          rw [HBV.out] at hfl
          have HFL := Lib.hid hfl
          clear hfl
          go_wp2
          go_roundw
          case rel =>
            refine ⟨k + 1, W + 2 ^ k, _, by omega, by go_num, ?_, ?_, ?_, HFL.out.1, ?_, ?_, hbl.setCell hg _⟩
            · have : 0 < 2 ^ k := Nat.two_pow_pos k
              rw [decide_eq_false (by omega)]
            · rw [Nat.pow_succ]; omega
            · show _ = _
              rw [HFL.out.2, HLE.out, ← xor_two_pow W k hW, pow_mul_xor, ← Nat.pow_add, Nat.xor_assoc]
            · show _ = _
              rw [List.length_set]; exact HLN.out
            · have := Kd.R_putn HR.out (((f + k) / 8 : Nat) : Int) (Go.bits .xor .u8 b (2 ^ ((f + k) % 8) % 256))
              rw [Int.toNat_natCast] at this
              exact this
          case measure => simp [intOf]; omega
        · go_wp2
          go_roundw
          case rel => exact ⟨k + 1, W, cs, by omega, by go_num, rfl, by rw [Nat.pow_succ]; omega, HLE, HBY, HLN, HR, hbl⟩
          case measure => simp [intOf]; omega
      · have e1 := bit_zero y k hy hbit
        clear hbit
        go_wp2
        go_roundw
        case rel => exact ⟨k + 1, W, cs, by omega, by go_num, rfl, by rw [Nat.pow_succ]; omega, HLE, HBY, HLN, HR, hbl⟩
        case measure => simp [intOf]; omega
    · obtain rfl : k = 32 := by omega
      have hln := HLN.out
      have hla : cs.length ≤ l.length + 4 := by omega
      have hlb : l.length + 4 ≤ cs.length := by omega
      have hwf : ∀ x ∈ cs, (Lit.int .u8 x).wf = true := by
        intro x hx
        have := HBY.out x hx
        simp [Lit.wf, IntKind.min, IntKind.max, IntKind.signed, IntKind.bits]; omega
      have hrd := WCrcBytes.read_eq 7 (by omega) cs (l.length : Int) (by omega) hwf (by omega)
      rw [if_pos (by omega)] at hrd
      have HT := told l cs f W HB.out HBY.out (by omega) (by omega) hW (by
        rw [HLE.out, ← HC0.out]
        unfold nats
        rw [List.map_append, ← HBS.out, ← HSM.out]
        congr 2)
      have HRR := Lib.hid (Kd.R_reads' (hln ▸ HR.out : Kd.R (Kd.int .u8) 5 wr w.heap.size (fun _ => True) (.slice (some ⟨g, 0, none⟩) cs.length cp) cs)).2
      have hcp' := HRR.out.1
      obtain ⟨a4, HA4⟩ : ∃ a4, Hid (WCrcBytes.at4 cs l.length = a4) := ⟨_, rfl⟩
      rw [HA4.out] at hrd HT
      have HRD := Lib.hid hrd
      obtain ⟨m, HM⟩ : ∃ m, Hid (cs.take l.length = m) := ⟨_, rfl⟩
      rw [HM.out] at HT
      have HT := Lib.hid HT
      clear hrd hwf
      rw [← hln]
      clear hln hca hcb hf1
      go_wp2_with fail
      refine (crc_Read.calls 7 _ _ cs l.length a4 true _ HRR.out.2 HRR.out.1 HRD.out).mono ?_
      rintro e w5 ⟨rfl, hd⟩
      have hb5 := hbl.trans (hd.below.mono hbl.size)
      have HC5 := Lib.hid (Kd.C_below HRR.out.2 hd.below)
      clear hd hbl
      go_wp2_with fail
      refine (fixed3_any _).mono ?_
      rintro e w6 ⟨rfl, hb6⟩
      have HC6 := Lib.hid (Kd.C_below HC5.out hb6)
      have hb6 := hb5.trans (hb6.mono hb5.size)
      clear hb5
      go_wp2_with fail
      have hlm : m.length = l.length := by rw [← HM.out, List.length_take]; omega
      have HCM := Lib.hid (show Kd.C (Kd.int .u8) w6 (some ⟨g, 0, none⟩) m.length m by rw [← HM.out]; exact Kd.C_take HC6.out (by omega))
      have HBM := Lib.hid (show ∀ b ∈ m, 0 ≤ b ∧ b < 256 by rw [← HM.out]; exact fun b hb => HBY.out b (List.mem_of_mem_take hb))
      rw [← hlm]
      refine (sum_new (some ⟨g, 0, none⟩) cp m w6 (by omega) HCM.out HBM.out).mono ?_
      rintro e w7 ⟨rfl, hb7⟩
      have hb7 := hb6.trans (hb7.mono hb6.size)
      have HT := HT.out
      clear hlm hb6
      go_wp2
      go_ret
      exact ⟨rfl, hb7⟩
set_option maxHeartbeats 400000 in
theorem told_great (A1 : Option Addr) (c1 : Nat) (l : List Int) (x y : Int) (w : World) (hle : 2000 < (l.length : Int)) (hm : l.length ≤ 9223372036854775807) :
    Calls Try.prog 14 #[.slice A1 l.length c1, .int .u16 x, .int .u32 y] w fun e w' => e = .returned (.bool true) ∧ Below w.heap.size w w' := by
  go_enter Try.func14, Try.ntmps14
  have hd : decide (2000 < (l.length : Int)) = true := decide_eq_true hle
  go_wp2_with (go_at_call 28; refine (fixed3_any _).mono ?_; rintro e w1 ⟨rfl, hb⟩)
  go_ret
  exact ⟨rfl, hb⟩
theorem walk (a0 : Option Addr) (len0 cap0 : Nat) (z0 : List Int) (a1 a2 : Int) (w : World) (w0 : (a0 = none ∧ len0 = 0 ∧ cap0 = 0 ∧ z0 = []) ∨ ∃ x, a0 = some x ∧ len0 ≤ cap0 ∧ cap0 ≤ maxLen ∧ z0.length = cap0 ∧ (∀ i, i < z0.length → w.cell? (x.add i) = some (.int .u8 (z0.getD i 0))) ∧ ∀ n ∈ z0, (Lit.int .u8 n).wf = true) (y0 : len0 * 1 ≤ 140737488351232) (w1 : (Lit.int .u16 a1).wf = true) (w2 : (Lit.int .u32 a2).wf = true) :
    Calls Try.prog 14 #[.slice a0 len0 cap0, .int .u16 a1, .int .u32 a2] w fun e w' => e = .returned (.bool true) ∧ Below w.heap.size w w' := by
  obtain ⟨l, rfl, hr, hm, hb, hc⟩ := ReadsInt.ofRowC w0
  have hr := Kd.C_of_reads (d := (0 : Int)) (h1 := fun _ => rfl) hr
  have h1 : 0 ≤ a1 ∧ a1 < 65536 := by simp [Lit.wf, IntKind.min, IntKind.max, IntKind.signed, IntKind.bits] at w1; omega
  have h2 : 0 ≤ a2 ∧ a2 < 4294967296 := by simp [Lit.wf, IntKind.min, IntKind.max, IntKind.signed, IntKind.bits] at w2; omega
  by_cases hle : (l.length : Int) ≤ 2000
  · exact told_main a0 cap0 l a1 a2 w hr hc (by omega) (bytes_of_wf hb) h1 h2
  · exact told_great a0 cap0 l a1 a2 w (by omega) (by have := hr.2.1; omega)
end Go.Proofs.Ythojcapdbjmneaa.WCrcTold
