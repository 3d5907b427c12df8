/- What crc.Sum computes, for whatever parts. -/
import Derived.Test.YtfflenbfapgilaaCrcW
import Derived.Test.YtfflenbfapgilaaMy
namespace Go.Proofs.Ytfflenbfapgilaa
open Go.RowKit Go.Proofs.YtfflenbfapgilaaW.PrintWords

set_option linter.unusedVariables false
def crc_Sum.f (l0 : List (List Int)) : Option Int := if l0.all (fun l => l.all isByte) = true then some ((Crc.sum (nats l0.flatten) : Nat) : Int) else none
set_option maxHeartbeats 1000000 in
theorem crc_Sum.calls (A0 : Option Addr) (c0 : Nat) (l0 : List (List Int)) (r : Int) (w : World) (hr0 : Kd.C (Kd.slice 5 (Kd.int .u8)) w A0 l0.length l0) (hc0 : l0.length ≤ c0) (h : crc_Sum.f l0 = some r) :
    Calls Try.prog 82 #[.slice A0 l0.length c0] w fun e w' => e = .returned (.int .u32 r) ∧ Below w.heap.size w w' := by
  unfold crc_Sum.f at h
  split at h
  case isFalse => cases h
  case isTrue hb =>
  injection h with h
  have hR := Lib.hid h
  have hC := Lib.hid hr0
  have hB := Lib.hid hb
  have hmx := hr0.2.1
  clear h hr0 hb
  go_enter Try.func82, Try.ntmps82
  go_wp2_with (go_at_call 111; refine (halves_any _).mono ?_; rintro e w1 ⟨rfl, hb1⟩)
  rw [show #[.int .u32 (Crc.stn 4 0 : Nat), .int .u32 (Crc.stn 4 1 : Nat), .int .u32 (Crc.stn 4 2 : Nat), .int .u32 (Crc.stn 4 3 : Nat), .int .u32 (Crc.stn 4 4 : Nat), .int .u32 (Crc.stn 4 5 : Nat), .int .u32 (Crc.stn 4 6 : Nat), .int .u32 (Crc.stn 4 7 : Nat), .int .u32 (Crc.stn 4 8 : Nat), .int .u32 (Crc.stn 4 9 : Nat), .int .u32 (Crc.stn 4 10 : Nat), .int .u32 (Crc.stn 4 11 : Nat), .int .u32 (Crc.stn 4 12 : Nat), .int .u32 (Crc.stn 4 13 : Nat), .int .u32 (Crc.stn 4 14 : Nat), .int .u32 (Crc.stn 4 15 : Nat)] = (tabL 16).toArray from rfl]
  generalize hW : w1.alloc (Obj.cells (tabL 16).toArray 180) = W
  have hbW : Below w.heap.size w W := by rw [← hW]; exact hb1.alloc hb1.size _
  have hT : ∀ i : Nat, i < 16 → W.cell? ⟨w1.heap.size, i, none⟩ = some (.int .u32 (Crc.stn 4 i : Nat)) := by
    intro i hi
    have := tabL_get 16 i hi
    rw [if_pos hi] at this
    rw [← hW]; simp [this]
  clear hW hb1
  go_loop [4, 12] (fun v4 v12 => ∃ i : Nat, i ≤ l0.length ∧ v12 = .int .i64 i ∧ v4 = .int .u32 (Crc.run Crc.top (nats (l0.take i).flatten) : Nat)) (fun _ v => l0.length - (intOf v).toNat)
  case atStart => exact ⟨0, by omega, rfl, rfl⟩
  case round =>
    obtain ⟨i, hi, rfl, rfl⟩ := hrel
    by_cases hlt : i < l0.length
    · obtain ⟨ad, cs, rfl, hcs, ⟨Ap, cp, rfl, hlp, hrp⟩, hcell⟩ := Kd.C_get hC.out [] (i : Int) (by omega) (by omega)
      have hcell := pw_cell_below hbW (hcell 0 _ rfl)
      have hp1 := hrp.2.1
      rw [Int.toNat_natCast] at *
      generalize hp : l0.getD i [] = p at *
      have HP := Lib.hid hp
      clear hp hcs
      simp only [Kd.slice, Nat.mul_one, Nat.add_zero] at hcell
      have HrP := Lib.hid hrp
      clear hrp
      have hbp : ∀ x ∈ p, 0 ≤ x ∧ x < 256 := by
        have hm : p ∈ l0 := by
          rw [← HP.out, List.getD_eq_getElem?_getD, List.getElem?_eq_getElem hlt]; simp
        intro x hx
        have := List.all_eq_true.1 (List.all_eq_true.1 hB.out p hm) x hx
        simpa [isByte] using this
      have hnp : ∀ x ∈ nats p, x < 256 := by
        intro x hx
        obtain ⟨y, hy, rfl⟩ := List.mem_map.1 hx
        have := hbp y hy; omega
      have hnt : Crc.run Crc.top (nats (l0.take i).flatten) < 4294967296 := by
        apply Crc.run_lt _ _ (by unfold Crc.top; omega)
        intro x hx
        obtain ⟨y, hy, rfl⟩ := List.mem_map.1 hx
        obtain ⟨q, hq, hy⟩ := List.mem_flatten.1 hy
        have := List.all_eq_true.1 (List.all_eq_true.1 hB.out q (List.mem_of_mem_take hq)) y hy
        simp [isByte] at this; omega
      have hN : Hid (nats (l0.take (i + 1)).flatten = nats (l0.take i).flatten ++ nats p) := by
        rw [List.take_succ_eq_append_getElem hlt, List.flatten_append, ← HP.out, List.getD_eq_getElem?_getD, List.getElem?_eq_getElem hlt]
        simp [nats, Hid]
      generalize hs : Crc.run Crc.top (nats (l0.take i).flatten) = s at *
      have HS := Lib.hid hs
      have HBP := Lib.hid hbp
      have HNP := Lib.hid hnp
      have HT := Lib.hid hT
      clear hs hbp hnp hT
      go_wp2
      go_loop [4, 18] (fun v4 v18 => ∃ j : Nat, j ≤ p.length ∧ v18 = .int .i64 j ∧ v4 = .int .u32 (Crc.run s (nats (p.take j)) : Nat)) (fun _ v => p.length - (intOf v).toNat)
      case atStart => exact ⟨0, by omega, rfl, rfl⟩
      case round =>
        obtain ⟨j, hj, rfl, rfl⟩ := hrel
        by_cases hlj : j < p.length
        · obtain ⟨ap, rfl, hcx⟩ := Kd.at_int HrP.out (j : Int) (by omega) (by omega)
          have hcx := pw_cell_below hbW hcx
          have hx := HBP.out (rd p j) (by unfold rd; rw [Int.toNat_natCast, List.getD_eq_getElem?_getD, List.getElem?_eq_getElem hlj]; simp)
          have hc : Crc.run s (nats (p.take j)) < 4294967296 := Crc.run_lt _ _ hnt (fun x hx => HNP.out x (by
            obtain ⟨y, hy, rfl⟩ := List.mem_map.1 hx
            exact List.mem_map.2 ⟨y, List.mem_of_mem_take hy, rfl⟩))
          have hnx : Hid (Crc.run s (nats (p.take (j + 1))) = Crc.byte (Crc.run s (nats (p.take j))) (rd p j).toNat) := by
            rw [List.take_succ_eq_append_getElem hlj]
            have : rd p j = p[j] := by unfold rd; rw [Int.toNat_natCast, List.getD_eq_getElem?_getD, List.getElem?_eq_getElem hlj]; rfl
            rw [this]
            show Crc.run s (nats (p.take j ++ [p[j]])) = _
            unfold nats
            rw [List.map_append, Crc.run_append]; rfl
          generalize hcc : Crc.run s (nats (p.take j)) = c at *
          clear hcc
          obtain ⟨x, hxe⟩ := Int.eq_ofNat_of_zero_le hx.1
          rw [hxe] at hcx hx hnx
          rw [Int.toNat_natCast] at hcx hnx
          clear hxe
          obtain ⟨n1, hn1, HN1⟩ : ∃ n1 : Nat, n1 < 16 ∧ Hid ((c ^^^ x) % 16 = n1) := ⟨_, by omega, rfl⟩
          obtain ⟨c1, hc1, HC1⟩ : ∃ c1 : Nat, c1 < 4294967296 ∧ Hid ((c / 16) ^^^ Crc.stn 4 n1 = c1) := ⟨_, Nat.xor_lt_two_pow (n := 32) (by omega) (Crc.stn_lt _ _ (by omega)), rfl⟩
          obtain ⟨n2, hn2, HN2⟩ : ∃ n2 : Nat, n2 < 16 ∧ Hid ((c1 ^^^ (x / 16)) % 16 = n2) := ⟨_, by omega, rfl⟩
          obtain ⟨c2, hc2, HC2⟩ : ∃ c2 : Nat, c2 < 4294967296 ∧ Hid ((c1 / 16) ^^^ Crc.stn 4 n2 = c2) := ⟨_, Nat.xor_lt_two_pow (n := 32) (by omega) (Crc.stn_lt _ _ (by omega)), rfl⟩
          have e1 : Go.bits .and .u32 (Go.bits .xor .u32 (c : Int) (x : Int)) 15 = (n1 : Int) := by
            rw [u32_xor_nat c x hc (by omega), show (15 : Int) = ((15 : Nat) : Int) from rfl, u32_and_nat _ 15 (Nat.xor_lt_two_pow (n := 32) hc (by omega)) (by decide), nat_mask4, HN1.out]
          have e2 : Go.bits .xor .u32 ((c : Int) / 16) ((Crc.stn 4 n1 : Nat) : Int) = (c1 : Int) := by
            rw [show ((c : Int) / 16) = ((c / 16 : Nat) : Int) by omega, u32_xor_nat _ _ (by omega) (Crc.stn_lt _ _ (by omega)), HC1.out]
          have e3 : Go.bits .and .u32 (Go.bits .xor .u32 (c1 : Int) ((x : Int) / 16)) 15 = (n2 : Int) := by
            rw [show ((x : Int) / 16) = ((x / 16 : Nat) : Int) by omega, u32_xor_nat c1 (x / 16) hc1 (by omega), show (15 : Int) = ((15 : Nat) : Int) from rfl, u32_and_nat _ 15 (Nat.xor_lt_two_pow (n := 32) hc1 (by omega)) (by decide), nat_mask4, HN2.out]
          have e4 : Go.bits .xor .u32 ((c1 : Int) / 16) ((Crc.stn 4 n2 : Nat) : Int) = (c2 : Int) := by
            rw [show ((c1 : Int) / 16) = ((c1 / 16 : Nat) : Int) by omega, u32_xor_nat _ _ (by omega) (Crc.stn_lt _ _ (by omega)), HC2.out]
          have HE : Hid (c2 = Crc.byte c x) := by
            have := Crc.byte_halves c x (by omega)
            simp only [HN1.out, HC1.out, HN2.out, HC2.out] at this
            exact this
          have t1 := HT.out n1 hn1
          have t2 := HT.out n2 hn2
          go_wp2
          go_round
          case rel => exact ⟨j + 1, by omega, by go_num, by rw [hnx.out, HE.out]⟩
          case measure => simp [intOf]; omega
        · obtain rfl : j = p.length := by omega
          go_wp2
          go_round
          case rel => exact ⟨i + 1, by omega, by go_num, by rw [hN.out, Crc.run_append, HS.out, List.take_length]⟩
          case measure => simp [intOf]; omega
    · obtain rfl : i = l0.length := by omega
      have hnt : Crc.run Crc.top (nats l0.flatten) < 4294967296 := by
        apply Crc.run_lt _ _ (by unfold Crc.top; omega)
        intro x hx
        obtain ⟨y, hy, rfl⟩ := List.mem_map.1 hx
        obtain ⟨q, hq, hy⟩ := List.mem_flatten.1 hy
        have := List.all_eq_true.1 (List.all_eq_true.1 hB.out q hq) y hy
        simp [isByte] at this; omega
      rw [List.take_length]
      have e5 : Go.bits .xor .u32 IntKind.u32.max ((Crc.run Crc.top (nats l0.flatten) : Nat) : Int) = ((Crc.sum (nats l0.flatten) : Nat) : Int) := by
        rw [show IntKind.u32.max = ((4294967295 : Nat) : Int) from rfl, u32_xor_nat _ _ (by decide) hnt]; rfl
      go_wp2
      go_ret
      exact ⟨by rw [← hR.out]; rfl, hbW⟩
end Go.Proofs.Ytfflenbfapgilaa
