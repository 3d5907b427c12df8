/- Of three rows of as many bytes the sum of what they make together is what their sums make (up to 2000 bytes): the law CrcLine returns true, and writes nothing that was there. -/
import Derived.Test.YthojcapdbjmneaaCrcX
import Derived.Test.YthojcapdbjmneaaReg
set_option linter.unusedVariables false
set_option linter.unusedSimpArgs false
namespace Go.Proofs.Ythojcapdbjmneaa.WCrcLine
open Go.RowKit Go.Proofs.YthojcapdbjmneaaW.PrintWords

/-- Three rows of the call's own, each apart from the others. -/
def Off (a b : Value) : Nat → Prop := fun k => some k ≠ a.ownBlock ∧ some k ≠ b.ownBlock
structure Own3 (W : World) (base : Nat) (a b c : Value) (xs ys zs : List Int) : Prop where
  r1 : Kd.R (Kd.int .u8) 5 W base (Off b c) a xs
  r2 : Kd.R (Kd.int .u8) 5 W base (Off c a) b ys
  r3 : Kd.R (Kd.int .u8) 5 W base (Off a b) c zs
theorem Own3.rot {W : World} {base : Nat} {a b c : Value} {xs ys zs : List Int} (h : Own3 W base a b c xs ys zs) : Own3 W base b c a ys zs xs := ⟨h.r2, h.r3, h.r1⟩
theorem Own3.step {W w1 : World} {base : Nat} {a b c a1 : Value} {xs ys zs : List Int} {p : Int} (h : Own3 W base a b c xs ys zs) (h1 : Kd.R (Kd.int .u8) 5 w1 base (Off b c) a1 (xs ++ [p])) (hg : W.grownBy w1 a.ownBlock)
    (hat : a1.ownBlock = a.ownBlock ∨ ∃ b, a1.ownBlock = some b ∧ W.heap.size ≤ b) : Own3 w1 base a1 b c (xs ++ [p]) ys zs :=
  ⟨h1, Kd.R_mono (Kd.R_after (ok := fun k => some k ≠ c.ownBlock) (v := a) (v1 := a1) h.r2 hg hat) (fun k hk => hk),
    Kd.R_mono (Kd.R_after (ok := fun k => some k ≠ b.ownBlock) (v := a) (v1 := a1) (Kd.R_mono h.r3 (fun k hk => ⟨hk.2, hk.1⟩)) hg hat) (fun k hk => ⟨hk.2, hk.1⟩)⟩
theorem Own3.fresh {W : World} {base : Nat} {a b c : Value} {xs ys zs : List Int} (h : Own3 W base a b c xs ys zs) : ∀ k, W.heap.size ≤ k → Off b c k := fun k hk => ⟨Kd.fresh' (Kd.R_lt h.r2) k hk, Kd.fresh' (Kd.R_lt h.r3) k hk⟩

def pf (x : Int) (m i : Nat) : Int := x / 2 ^ (8 * (i % m)) % 256
def xor3 (a b c : Int) : Int := ((a.toNat ^^^ b.toNat ^^^ c.toNat : Nat) : Int)
def ps (x : Int) (m n : Nat) : List Int := (List.range n).map (pf x m)
def ds (l : List Int) (x y : Int) (n : Nat) : List Int := (List.range n).map fun (i : Nat) => xor3 (rd l (i : Int)) (pf x 8 i) (pf y 7 i)
theorem pf_byte (x : Int) (m i : Nat) : 0 ≤ pf x m i ∧ pf x m i < 256 := by unfold pf; omega
theorem ps_succ (x : Int) (m n : Nat) : ps x m (n + 1) = ps x m n ++ [pf x m n] := by simp [ps, List.range_succ]
theorem ds_succ (l : List Int) (x y : Int) (n : Nat) : ds l x y (n + 1) = ds l x y n ++ [xor3 (rd l (n : Int)) (pf x 8 n) (pf y 7 n)] := by simp [ds, List.range_succ]
theorem xor3_bits (a b c : Int) (ha : 0 ≤ a ∧ a < 256) (hb : 0 ≤ b ∧ b < 256) (hc : 0 ≤ c ∧ c < 256) : Go.bits .xor .u8 (Go.bits .xor .u8 a b) c = xor3 a b c := by
  have h : a.toNat ^^^ b.toNat < 256 := Nat.xor_lt_two_pow (n := 8) (by omega) (by omega)
  rw [u8_xor a b ha.1 ha.2 hb.1 hb.2, u8_xor _ c (by omega) (by omega) hc.1 hc.2]
  rfl
theorem xor3_byte (a b c : Int) (ha : 0 ≤ a ∧ a < 256) (hb : 0 ≤ b ∧ b < 256) (hc : 0 ≤ c ∧ c < 256) : 0 ≤ xor3 a b c ∧ xor3 a b c < 256 := by
  unfold xor3
  have : a.toNat ^^^ b.toNat ^^^ c.toNat < 256 := Nat.xor_lt_two_pow (n := 8) (Nat.xor_lt_two_pow (n := 8) (by omega) (by omega)) (by omega)
  omega
theorem byte3 (p q r x y z : Nat) : Crc.byte (p ^^^ q ^^^ r) (x ^^^ y ^^^ z) = Crc.byte p x ^^^ Crc.byte q y ^^^ Crc.byte r z := by
  unfold Crc.byte
  rw [show (p ^^^ q ^^^ r) ^^^ (x ^^^ y ^^^ z) = (p ^^^ x) ^^^ (q ^^^ y) ^^^ (r ^^^ z) by ac_rfl, Crc.stn_xor, Crc.stn_xor]
theorem run3 (a b c : Nat → Nat) (t : Nat) (ht : t = t ^^^ t ^^^ t) (n : Nat) :
    Crc.run t ((List.range n).map fun i => a i ^^^ b i ^^^ c i) = Crc.run t ((List.range n).map a) ^^^ Crc.run t ((List.range n).map b) ^^^ Crc.run t ((List.range n).map c) := by
  induction n with
  | zero => exact ht
  | succ n ih =>
    simp only [List.range_succ, List.map_append, List.map_cons, List.map_nil, Crc.run_append]
    rw [ih]
    exact byte3 _ _ _ _ _ _
theorem nats_range (l : List Int) : nats l = (List.range l.length).map fun (i : Nat) => (rd l (i : Int)).toNat := by
  apply List.ext_getElem
  · simp [nats]
  · intro i h1 h2
    have hi : i < l.length := by simpa [nats] using h1
    simp [nats, rd, hi]
theorem line_sum (l : List Int) (x y : Int) : Crc.sum (nats (ds l x y l.length)) = Crc.sum (nats l) ^^^ Crc.sum (nats (ps x 8 l.length)) ^^^ Crc.sum (nats (ps y 7 l.length)) := by
  have h1 : nats (ds l x y l.length) = (List.range l.length).map fun (i : Nat) => (rd l (i : Int)).toNat ^^^ (pf x 8 i).toNat ^^^ (pf y 7 i).toNat := by
    simp [nats, ds, xor3]
  have h2 : nats (ps x 8 l.length) = (List.range l.length).map fun i => (pf x 8 i).toNat := by simp [nats, ps]
  have h3 : nats (ps y 7 l.length) = (List.range l.length).map fun i => (pf y 7 i).toNat := by simp [nats, ps]
  unfold Crc.sum
  rw [h1, h2, h3, nats_range l, run3 _ _ _ Crc.top (by rw [Nat.xor_self, Nat.zero_xor])]
  generalize Crc.run Crc.top _ = p
  generalize Crc.run Crc.top _ = q
  generalize Crc.run Crc.top _ = r
  rw [show Crc.top ^^^ p ^^^ (Crc.top ^^^ q) = p ^^^ q by rw [Crc.xor4, Nat.xor_self, Nat.zero_xor]]
  ac_rfl
set_option maxHeartbeats 1000000 in
set_option maxRecDepth 100000 in
theorem line_main (A1 : Option Addr) (c1 : Nat) (l : List Int) (x y : Int) (w : World) (hr : Kd.C (Kd.int .u8) w A1 l.length l) (hc : l.length ≤ c1) (hle : l.length ≤ 2000) (hb : ∀ b ∈ l, 0 ≤ b ∧ b < 256) :
    Calls Try.prog 12 #[.slice A1 l.length c1, .int .u64 x, .int .u64 y] w fun e w' => e = .returned (.bool true) ∧ Below w.heap.size w w' := by
  have HC := Lib.hid hr
  have HB := Lib.hid hb
  clear hr hb
  go_enter Try.func12, Try.ntmps12
  go_wp2_with fail
  go_loopw [7, 8, 9, 20] (fun u7 u8 u9 u20 wr => ∃ (i : Nat), i ≤ l.length ∧ u20 = .int .i64 i ∧ Own3 wr w.heap.size u7 u8 u9 (ps x 8 i) (ps y 7 i) (ds l x y i) ∧ Below w.heap.size w wr) (fun _ _ _ v _ => l.length - (intOf v).toNat)
  case atStart => exact ⟨0, by omega, rfl, ⟨by rw [show ps x 8 0 = [] from rfl]; exact Kd.R_nil .., by rw [show ps y 7 0 = [] from rfl]; exact Kd.R_nil .., by rw [show ds l x y 0 = [] from rfl]; exact Kd.R_nil ..⟩, Below.refl _ _⟩
  case round =>
    obtain ⟨i, hi, rfl, ho, hbl⟩ := hrel
    by_cases hlt : i < l.length
    · have hcell := Kd.at_int (Kd.C_below HC.out hbl) (i : Int) (by omega) (by omega)
      obtain ⟨ad, rfl, hcell⟩ := hcell
      have HX := Lib.hid (HB.out (rd l i) (by unfold rd; rw [Int.toNat_natCast, List.getD_eq_getElem?_getD, List.getElem?_eq_getElem hlt]; simp))
      rw [Int.toNat_natCast] at hcell
      obtain ⟨z, HZ⟩ : ∃ z, Hid (rd l (i : Int) = z) := ⟨_, rfl⟩
      rw [HZ.out] at hcell
      have HX := Lib.hid (show 0 ≤ z ∧ z < 256 by rw [← HZ.out]; exact HX.out)
      have HO := Lib.hid ho
      clear ho
      obtain ⟨xs, HXS⟩ : ∃ xs, Hid (ps x 8 i = xs) := ⟨_, rfl⟩
      obtain ⟨ys, HYS⟩ : ∃ ys, Hid (ps y 7 i = ys) := ⟨_, rfl⟩
      obtain ⟨zs, HZS⟩ : ∃ zs, Hid (ds l x y i = zs) := ⟨_, rfl⟩
      have hlx : xs.length = i := by rw [← HXS.out]; simp [ps]
      have hly : ys.length = i := by rw [← HYS.out]; simp [ps]
      have hlz : zs.length = i := by rw [← HZS.out]; simp [ds]
      have HL := Lib.hid (And.intro hlx (And.intro hly hlz))
      clear hlx hly hlz
      rw [HXS.out, HYS.out, HZS.out] at HO
      go_wp2_with (at_builtin; refine Halt.mk ?_)
      obtain ⟨p, HP⟩ : ∃ p, Hid (pf x 8 i = p) := ⟨_, rfl⟩
      obtain ⟨q, HQ⟩ : ∃ q, Hid (pf y 7 i = q) := ⟨_, rfl⟩
      rw [show x / 2 ^ (8 * (i % 8)) % 256 = p from HP.out, show y / 2 ^ (8 * (i % 7)) % 256 = q from HQ.out]
      have e3 : Go.bits .xor .u8 (Go.bits .xor .u8 z p) q = xor3 z p q := xor3_bits z p q HX.out (by rw [← HP.out]; exact pf_byte ..) (by rw [← HQ.out]; exact pf_byte ..)
      refine Halt.of ?_
      refine Kd.R_append (Kd.int .u8) (w0 := w) w.heap.size rfl (.tmp 39) (.tmp 41) 22 5 (.int .u8 0) 1 rfl Try.underlying22 info_u8 rfl (by decide) (by decide) u7 xs p [.int .u8 p] _ (fun _ => False) rfl rfl rfl (fun _ h => h.elim) HO.out.fresh HO.out.r1 hbl hbl.size (by have := HL.out; omega) ?_
      intro v7 w1 ho1 hb1 hg hat
      have HO1 := Lib.hid (HO.out.step ho1 hg hat)
      clear HO ho1 hg hat hbl
      go_wp2_with (at_builtin; refine Halt.mk ?_)
      refine Halt.of ?_
      refine Kd.R_append (Kd.int .u8) (w0 := w) w.heap.size rfl (.tmp 43) (.tmp 45) 22 5 (.int .u8 0) 1 rfl Try.underlying22 info_u8 rfl (by decide) (by decide) u8 ys q [.int .u8 q] _ (fun _ => False) rfl rfl rfl (fun _ h => h.elim) HO1.out.rot.fresh HO1.out.r2 hb1 hb1.size (by have := HL.out; omega) ?_
      intro v8 w2 ho1 hb2 hg hat
      have HO2 := Lib.hid (HO1.out.rot.step ho1 hg hat)
      clear HO1 ho1 hg hat hb1
      go_wp2_with (at_builtin; refine Halt.mk ?_)
      refine Halt.of ?_
      refine Kd.R_append (Kd.int .u8) (w0 := w) w.heap.size rfl (.tmp 47) (.tmp 53) 22 5 (.int .u8 0) 1 rfl Try.underlying22 info_u8 rfl (by decide) (by decide) u9 zs (xor3 z p q) [.int .u8 (xor3 z p q)] _ (fun _ => False) rfl rfl rfl (fun _ h => h.elim) HO2.out.rot.fresh HO2.out.r2 hb2 hb2.size (by have := HL.out; omega) ?_
      intro v9 w3 ho1 hb3 hg hat
      have HO3 := Lib.hid (HO2.out.rot.step ho1 hg hat)
      clear HO2 ho1 hg hat hb2
      go_wp2
      go_roundw
      case rel => exact ⟨i + 1, by omega, by go_num, by rw [ps_succ, ps_succ, ds_succ, HXS.out, HYS.out, HZS.out, HP.out, HQ.out, HZ.out]; exact HO3.out.rot, hb3⟩
      case measure => simp [intOf]; omega
    · obtain rfl : i = l.length := by omega
      obtain ⟨xs, HXS⟩ : ∃ xs, Hid (ps x 8 l.length = xs) := ⟨_, rfl⟩
      obtain ⟨ys, HYS⟩ : ∃ ys, Hid (ps y 7 l.length = ys) := ⟨_, rfl⟩
      obtain ⟨zs, HZS⟩ : ∃ zs, Hid (ds l x y l.length = zs) := ⟨_, rfl⟩
      rw [HXS.out, HYS.out, HZS.out] at ho
      obtain ⟨A7, c7, rfl⟩ := Kd.R_slice ho.r1
      obtain ⟨A8, c8, rfl⟩ := Kd.R_slice ho.r2
      obtain ⟨A9, c9, rfl⟩ := Kd.R_slice ho.r3
      have H7 := Lib.hid (Kd.R_reads' ho.r1).2
      have H8 := Lib.hid (Kd.R_reads' ho.r2).2
      have H9 := Lib.hid (Kd.R_reads' ho.r3).2
      have HC1 := Lib.hid (Kd.C_below HC.out hbl)
      have hby : (∀ b ∈ xs, 0 ≤ b ∧ b < 256) ∧ (∀ b ∈ ys, 0 ≤ b ∧ b < 256) ∧ (∀ b ∈ zs, 0 ≤ b ∧ b < 256) := by
        refine ⟨fun b hb => ?_, fun b hb => ?_, fun b hb => ?_⟩
        · rw [← HXS.out] at hb; obtain ⟨i, _, rfl⟩ := List.mem_map.1 hb; exact pf_byte ..
        · rw [← HYS.out] at hb; obtain ⟨i, _, rfl⟩ := List.mem_map.1 hb; exact pf_byte ..
        · rw [← HZS.out] at hb; obtain ⟨i, hi, rfl⟩ := List.mem_map.1 hb
          refine xor3_byte _ _ _ ?_ (pf_byte ..) (pf_byte ..)
          have hi' := List.mem_range.1 hi
          exact HB.out _ (by unfold rd; rw [Int.toNat_natCast, List.getD_eq_getElem?_getD, List.getElem?_eq_getElem hi']; simp)
      have HBY := Lib.hid hby
      clear ho hby
      go_wp2_with fail
      refine (fixed3_any _).mono ?_
      rintro e w1 ⟨rfl, hb1⟩
      go_wp2_with fail
      refine (sum_new A9 c9 zs w1 H9.out.1 (Kd.C_below H9.out.2 hb1) HBY.out.2.2).mono ?_
      rintro e w2 ⟨rfl, hb2⟩
      have hb2 := hb1.trans (hb2.mono hb1.size)
      clear hb1
      go_wp2_with fail
      refine (sum_new A1 c1 l w2 hc (Kd.C_below HC1.out hb2) HB.out).mono ?_
      rintro e w3 ⟨rfl, hb3⟩
      have hb3 := hb2.trans (hb3.mono hb2.size)
      clear hb2
      go_wp2_with fail
      refine (sum_new A7 c7 xs w3 H7.out.1 (Kd.C_below H7.out.2 hb3) HBY.out.1).mono ?_
      rintro e w4 ⟨rfl, hb4⟩
      have hb4 := hb3.trans (hb4.mono hb3.size)
      clear hb3
      go_wp2_with fail
      refine (sum_new A8 c8 ys w4 H8.out.1 (Kd.C_below H8.out.2 hb4) HBY.out.2.1).mono ?_
      rintro e w5 ⟨rfl, hb5⟩
      have hb5 := hb4.trans (hb5.mono hb4.size)
      clear hb4
      have e5 : (((Crc.sum (nats zs) : Nat) : Int) == Go.bits .xor .u32 (Go.bits .xor .u32 ((Crc.sum (nats l) : Nat) : Int) ((Crc.sum (nats xs) : Nat) : Int)) ((Crc.sum (nats ys) : Nat) : Int)) = true := by
        have lt : ∀ m : List Int, (∀ b ∈ m, 0 ≤ b ∧ b < 256) → Crc.sum (nats m) < 4294967296 := fun m hm => Crc.sum_lt _ (fun a ha => by
          obtain ⟨b, hb, rfl⟩ := List.mem_map.1 ha
          have := hm b hb; omega)
        have h1 := lt l HB.out
        have h2 := lt xs HBY.out.1
        have h3 := lt ys HBY.out.2.1
        rw [u32_xor_nat _ _ h1 h2, u32_xor_nat _ _ (Nat.xor_lt_two_pow (n := 32) h1 h2) h3, ← HXS.out, ← HYS.out, ← HZS.out, line_sum]
        simp
      go_wp2
      go_ret
      exact ⟨rfl, hbl.trans (hb5.mono hbl.size)⟩
set_option maxHeartbeats 400000 in
theorem line_great (A1 : Option Addr) (c1 : Nat) (l : List Int) (x y : Int) (w : World) (hle : 2000 < (l.length : Int)) (hm : l.length ≤ 9223372036854775807) :
    Calls Try.prog 12 #[.slice A1 l.length c1, .int .u64 x, .int .u64 y] w fun e w' => e = .returned (.bool true) ∧ Below w.heap.size w w' := by
  go_enter Try.func12, Try.ntmps12
  have hd : decide (2000 < (l.length : Int)) = true := decide_eq_true hle
  go_wp2_with (go_at_call 28; refine (fixed3_any _).mono ?_; rintro e w1 ⟨rfl, hb⟩)
  go_ret
  exact ⟨rfl, hb⟩
theorem walk (a0 : Option Addr) (len0 cap0 : Nat) (z0 : List Int) (a1 a2 : Int) (w : World) (w0 : (a0 = none ∧ len0 = 0 ∧ cap0 = 0 ∧ z0 = []) ∨ ∃ x, a0 = some x ∧ len0 ≤ cap0 ∧ cap0 ≤ maxLen ∧ z0.length = cap0 ∧ (∀ i, i < z0.length → w.cell? (x.add i) = some (.int .u8 (z0.getD i 0))) ∧ ∀ n ∈ z0, (Lit.int .u8 n).wf = true) (y0 : len0 * 1 ≤ 140737488351232) (w1 : (Lit.int .u64 a1).wf = true) (w2 : (Lit.int .u64 a2).wf = true) :
    Calls Try.prog 12 #[.slice a0 len0 cap0, .int .u64 a1, .int .u64 a2] w fun e w' => e = .returned (.bool true) ∧ Below w.heap.size w w' := by
  obtain ⟨l, rfl, hr, hm, hb, hc⟩ := ReadsInt.ofRowC w0
  have hr := Kd.C_of_reads (d := (0 : Int)) (h1 := fun _ => rfl) hr
  by_cases hle : (l.length : Int) ≤ 2000
  · exact line_main a0 cap0 l a1 a2 w hr hc (by omega) (bytes_of_wf hb)
  · exact line_great a0 cap0 l a1 a2 w (by omega) (by have := hr.2.1; omega)
end Go.Proofs.Ythojcapdbjmneaa.WCrcLine
