/- What math/bits.Len64 tells: how many binary digits a number has. -/
import Derived.Test.YthojcapdbjmneaaVar
set_option linter.unusedVariables false
set_option linter.unusedSimpArgs false
namespace Go.Proofs.Ythojcapdbjmneaa
open Go.RowKit Go.Proofs.YthojcapdbjmneaaW.PrintWords

def blen (n : Nat) : Nat := if n = 0 then 0 else n.log2 + 1
theorem blen_half (m : Nat) (h : 1 ≤ m) : blen m = blen (m / 2) + 1 := by
  unfold blen
  rw [if_neg (by omega), Nat.log2_def]
  by_cases h2 : 2 ≤ m
  · rw [if_pos h2, if_neg (by omega)]
  · rw [if_neg h2, if_pos (by omega)]
theorem blen_shift : ∀ (s m : Nat), 2 ^ s ≤ m → blen m = blen (m / 2 ^ s) + s := by
  intro s
  induction s with
  | zero => intro m _; simp
  | succ s ih =>
    intro m h
    have h1 : 2 ^ s ≤ m / 2 := by rw [Nat.pow_succ] at h; omega
    have h2 : 0 < 2 ^ s := Nat.pow_pos (by omega)
    rw [blen_half m (by omega), ih (m / 2) h1, Nat.div_div_eq_div_mul, Nat.pow_succ, Nat.mul_comm 2]
    omega
theorem tab_ok {T : ByteArray} (hT : ∀ (i : Nat) (h : i < T.size), (T[i]'h).toNat = blen i) (hb : ∀ (i : Nat), i < T.size → blen i ≤ 8) (s i m : Nat) (h : i < T.size) (hs : s ≤ 64) (e : blen m = blen i + s) :
    wrap64 ((s : Int) + wrap64 ((T[i]'h).toNat : Int)) = ((blen m : Nat) : Int) := by
  have := hb i h
  rw [hT i h, w64 (blen i) (by omega) (by omega), w64 _ (by omega) (by omega)]
  omega
theorem tab_ok0 {T : ByteArray} (hT : ∀ (i : Nat) (h : i < T.size), (T[i]'h).toNat = blen i) (hb : ∀ (i : Nat), i < T.size → blen i ≤ 8) (m : Nat) (h : m < T.size) :
    wrap64 (wrap64 ((T[m]'h).toNat : Int)) = ((blen m : Nat) : Int) := by
  have := hb m h
  rw [hT m h, w64 (blen m) (by omega) (by omega), w64 _ (by omega) (by omega)]
set_option maxHeartbeats 1000000 in
set_option maxRecDepth 100000 in
theorem len64_any (m : Nat) (hm : m < 18446744073709551616) (w : World) :
    Calls Try.prog 37 #[.int .u64 m] w fun e w' => e = .returned (.int .i64 (blen m)) ∧ Drawn0 w w' := by
  by_cases h0 : m < 4294967296
  · have b0 : decide ((4294967296 : Int) ≤ (m : Int)) = false := decide_eq_false (by omega)
    by_cases h1 : m < 65536
    · have b1 : decide ((65536 : Int) ≤ (m : Int)) = false := decide_eq_false (by omega)
      by_cases h2 : m < 256
      · have b2 : decide ((256 : Int) ≤ (m : Int)) = false := decide_eq_false (by omega)
        have hj : m / 2 ^ 0 < 256 := by omega
        go_enter Try.func37, Try.ntmps37
        go_wp2_with fail
        go_ret
        refine ⟨?_, Drawn0.refl _⟩
        refine congrArg (fun x => Ending.returned (Value.int .i64 x)) (?_ : wrap64 (wrap64 _) = _)
        exact tab_ok0 (by decide +kernel) (by decide +kernel) m _
      · have b2 : decide ((256 : Int) ≤ (m : Int)) = true := decide_eq_true (by omega)
        have hj : m / 2 ^ 8 < 256 := by omega
        go_enter Try.func37, Try.ntmps37
        go_wp2_with fail
        go_ret
        refine ⟨?_, Drawn0.refl _⟩
        refine congrArg (fun x => Ending.returned (Value.int .i64 x)) (?_ : wrap64 (8 + wrap64 _) = _)
        exact tab_ok (by decide +kernel) (by decide +kernel) 8 _ m _ (by decide) (by rw [blen_shift 8 m (by omega)]; try (congr 2 <;> omega))
    · have b1 : decide ((65536 : Int) ≤ (m : Int)) = true := decide_eq_true (by omega)
      by_cases h2 : m < 16777216
      · have b2 : decide ((256 : Int) ≤ (m : Int) / 65536) = false := decide_eq_false (by omega)
        have hj : m / 2 ^ 16 < 256 := by omega
        go_enter Try.func37, Try.ntmps37
        go_wp2_with fail
        go_ret
        refine ⟨?_, Drawn0.refl _⟩
        refine congrArg (fun x => Ending.returned (Value.int .i64 x)) (?_ : wrap64 (16 + wrap64 _) = _)
        exact tab_ok (by decide +kernel) (by decide +kernel) 16 _ m _ (by decide) (by rw [blen_shift 16 m (by omega)]; try (congr 2 <;> omega))
      · have b2 : decide ((256 : Int) ≤ (m : Int) / 65536) = true := decide_eq_true (by omega)
        have hj : m / 2 ^ 24 < 256 := by omega
        go_enter Try.func37, Try.ntmps37
        go_wp2_with fail
        go_ret
        refine ⟨?_, Drawn0.refl _⟩
        refine congrArg (fun x => Ending.returned (Value.int .i64 x)) (?_ : wrap64 (24 + wrap64 _) = _)
        exact tab_ok (by decide +kernel) (by decide +kernel) 24 _ m _ (by decide) (by rw [blen_shift 24 m (by omega)]; try (congr 2 <;> omega))
  · have b0 : decide ((4294967296 : Int) ≤ (m : Int)) = true := decide_eq_true (by omega)
    by_cases h1 : m < 281474976710656
    · have b1 : decide ((65536 : Int) ≤ (m : Int) / 4294967296) = false := decide_eq_false (by omega)
      by_cases h2 : m < 1099511627776
      · have b2 : decide ((256 : Int) ≤ (m : Int) / 4294967296) = false := decide_eq_false (by omega)
        have hj : m / 2 ^ 32 < 256 := by omega
        go_enter Try.func37, Try.ntmps37
        go_wp2_with fail
        go_ret
        refine ⟨?_, Drawn0.refl _⟩
        refine congrArg (fun x => Ending.returned (Value.int .i64 x)) (?_ : wrap64 (32 + wrap64 _) = _)
        exact tab_ok (by decide +kernel) (by decide +kernel) 32 _ m _ (by decide) (by rw [blen_shift 32 m (by omega)]; try (congr 2 <;> omega))
      · have b2 : decide ((256 : Int) ≤ (m : Int) / 4294967296) = true := decide_eq_true (by omega)
        have hj : m / 2 ^ 40 < 256 := by omega
        go_enter Try.func37, Try.ntmps37
        go_wp2_with fail
        go_ret
        refine ⟨?_, Drawn0.refl _⟩
        refine congrArg (fun x => Ending.returned (Value.int .i64 x)) (?_ : wrap64 (40 + wrap64 _) = _)
        exact tab_ok (by decide +kernel) (by decide +kernel) 40 _ m _ (by decide) (by rw [blen_shift 40 m (by omega)]; try (congr 2 <;> omega))
    · have b1 : decide ((65536 : Int) ≤ (m : Int) / 4294967296) = true := decide_eq_true (by omega)
      by_cases h2 : m < 72057594037927936
      · have b2 : decide ((256 : Int) ≤ (m : Int) / 4294967296 / 65536) = false := decide_eq_false (by omega)
        have hj : m / 2 ^ 48 < 256 := by omega
        go_enter Try.func37, Try.ntmps37
        go_wp2_with fail
        go_ret
        refine ⟨?_, Drawn0.refl _⟩
        refine congrArg (fun x => Ending.returned (Value.int .i64 x)) (?_ : wrap64 (48 + wrap64 _) = _)
        exact tab_ok (by decide +kernel) (by decide +kernel) 48 _ m _ (by decide) (by rw [blen_shift 48 m (by omega)]; try (congr 2 <;> omega))
      · have b2 : decide ((256 : Int) ≤ (m : Int) / 4294967296 / 65536) = true := decide_eq_true (by omega)
        have hj : m / 2 ^ 56 < 256 := by omega
        go_enter Try.func37, Try.ntmps37
        go_wp2_with fail
        go_ret
        refine ⟨?_, Drawn0.refl _⟩
        refine congrArg (fun x => Ending.returned (Value.int .i64 x)) (?_ : wrap64 (56 + wrap64 _) = _)
        exact tab_ok (by decide +kernel) (by decide +kernel) 56 _ m _ (by decide) (by rw [blen_shift 56 m (by omega)]; try (congr 2 <;> omega))
def bits_Len64.f (a0 : Int) : Option Int := if 0 ≤ a0 ∧ a0 < 18446744073709551616 then some (blen a0.toNat : Int) else none
theorem bits_Len64.calls (a0 : Int) (r : Int) (w : World) (h : bits_Len64.f a0 = some r) :
    Calls Try.prog 37 #[.int .u64 a0] w fun e w' => e = .returned (.int .i64 r) ∧ Drawn0 w w' := by
  unfold bits_Len64.f at h
  split at h
  case isFalse => cases h
  case isTrue ha =>
  obtain rfl := Option.some.inj h
  have e : a0 = (a0.toNat : Int) := (Int.toNat_of_nonneg ha.1).symm
  have := len64_any a0.toNat (by omega) w
  rw [← e] at this
  exact this
end Go.Proofs.Ythojcapdbjmneaa
