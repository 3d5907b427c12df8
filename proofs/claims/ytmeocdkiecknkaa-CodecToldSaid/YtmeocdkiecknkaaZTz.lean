/- Texts laid as one by shake.py, cut to what the claim needs: CrcA. (Names that begin with W and the print's groups (G..x, G..z): laid by the kit's print, cut.) -/
set_option linter.unusedVariables false
set_option linter.unusedSimpArgs false
namespace Go.Proofs.Ytmeocdkiecknkaa.Crc
def poly : Nat := 3988292384
def st (c : Nat) : Nat := (c / 2) ^^^ (poly * (c % 2))
theorem xor_mod2 (a b : Nat) : (a ^^^ b) % 2 = (a % 2) ^^^ (b % 2) := by
 have := Nat.xor_mod_two_pow (a := a) (b := b) (n := 1)
 simpa using this
theorem xor_div2 (a b : Nat) : (a ^^^ b) / 2 = (a / 2) ^^^ (b / 2) := by
 have := Nat.xor_div_two_pow (a := a) (b := b) (n := 1)
 simpa using this
theorem mul_xor_bit (p a b : Nat) (ha : a < 2) (hb : b < 2) : p * (a ^^^ b) = (p * a) ^^^ (p * b) := by
 have h1 : a = 0 ∨ a = 1 := by omega
 have h2 : b = 0 ∨ b = 1 := by omega
 rcases h1 with rfl | rfl <;> rcases h2 with rfl | rfl <;> simp
theorem xor4 (a b c d : Nat) : (a ^^^ b) ^^^ (c ^^^ d) = (a ^^^ c) ^^^ (b ^^^ d) := by
 rw [Nat.xor_assoc, Nat.xor_assoc, ← Nat.xor_assoc b c d, Nat.xor_comm b c, Nat.xor_assoc c b d]
theorem st_xor (a b : Nat) : st (a ^^^ b) = st a ^^^ st b := by
 unfold st
 rw [xor_mod2, xor_div2, mul_xor_bit _ _ _ (by omega) (by omega), xor4]
theorem st_zero : st 0 = 0 := by simp [st]
theorem st_even (k : Nat) : st (2 * k) = k := by
 unfold st
 rw [show 2 * k / 2 = k by omega, show 2 * k % 2 = 0 by omega]; simp
theorem st_lt (c : Nat) (h : c < 4294967296) : st c < 4294967296 := by
 unfold st
 refine Nat.xor_lt_two_pow (n := 32) (by omega) ?_
 unfold poly; have := Nat.mod_lt c (show 2 > 0 by omega); omega
def stn : Nat → Nat → Nat
 | 0, c => c
 | n + 1, c => stn n (st c)
theorem stn_xor (n : Nat) : ∀ a b, stn n (a ^^^ b) = stn n a ^^^ stn n b := by
 induction n with
 | zero => intro a b; rfl
 | succ n ih => intro a b; simp only [stn]; rw [st_xor, ih]
theorem stn_zero (n : Nat) : stn n 0 = 0 := by
 induction n with
 | zero => rfl
 | succ n ih => simp [stn, st_zero, ih]
theorem stn_lt (n : Nat) : ∀ c, c < 4294967296 → stn n c < 4294967296 := by
 induction n with
 | zero => intro c h; exact h
 | succ n ih => intro c h; exact ih _ (st_lt c h)
theorem stn_add (m n : Nat) : ∀ c, stn (m + n) c = stn n (stn m c) := by
 induction m with
 | zero => intro c; simp [stn]
 | succ m ih => intro c; rw [Nat.succ_add]; simp only [stn]; rw [ih]
theorem stn_mul (n : Nat) : ∀ k, stn n (2 ^ n * k) = k := by
 induction n with
 | zero => intro k; simp [stn]
 | succ n ih =>
  intro k
  simp only [stn]
  rw [show 2 ^ (n + 1) * k = 2 * (2 ^ n * k) by rw [Nat.pow_succ]; rw [Nat.mul_comm (2 ^ n) 2, Nat.mul_assoc], st_even, ih]
theorem split_xor (c n : Nat) : c = (2 ^ n * (c / 2 ^ n)) ^^^ (c % 2 ^ n) := by
 apply Nat.eq_of_testBit_eq
 intro i
 rw [Nat.testBit_xor, Nat.testBit_mod_two_pow, Nat.testBit_two_pow_mul, Nat.testBit_div_two_pow]
 by_cases h : i < n
 ·simp [h, Nat.not_le.2 h]
 ·simp [h, Nat.not_lt.1 h]
theorem stn_split (n c : Nat) : stn n c = (c / 2 ^ n) ^^^ stn n (c % 2 ^ n) := by
 conv => lhs; rw [split_xor c n]
 rw [stn_xor, stn_mul]
theorem half (c x : Nat) : (c / 16) ^^^ stn 4 ((c ^^^ x) % 16) = stn 4 (c ^^^ x) ^^^ (x / 16) := by
 have h := stn_split 4 (c ^^^ x)
 have hd : (c ^^^ x) / 16 = (c / 16) ^^^ (x / 16) := by
  have := Nat.xor_div_two_pow (a := c) (b := x) (n := 4); simpa using this
 simp only [show (2:Nat) ^ 4 = 16 from rfl] at h
 rw [h, hd]
 rw [Nat.xor_assoc (c / 16), Nat.xor_assoc (c / 16), Nat.xor_comm (x / 16), Nat.xor_assoc, Nat.xor_self, Nat.xor_zero]
def byte (c x : Nat) : Nat := stn 8 (c ^^^ x)
theorem byte_halves (c x : Nat) (hx : x < 256) :
  let c1 := (c / 16) ^^^ stn 4 ((c ^^^ x) % 16)
  (c1 / 16) ^^^ stn 4 ((c1 ^^^ (x / 16)) % 16) = byte c x := by
 intro c1
 have h1 : c1 = stn 4 (c ^^^ x) ^^^ (x / 16) := half c x
 have h2 := half c1 (x / 16)
 rw [h2, show x / 16 / 16 = 0 by omega, Nat.xor_zero, h1, Nat.xor_assoc, Nat.xor_self, Nat.xor_zero]
 unfold byte
 rw [show 8 = 4 + 4 from rfl, stn_add]
def run (c : Nat) (l : List Nat) : Nat := l.foldl byte c
def top : Nat := 4294967295
def sum (l : List Nat) : Nat := top ^^^ run top l
theorem byte_lt (c x : Nat) (hc : c < 4294967296) (hx : x < 256) : byte c x < 4294967296 :=
 stn_lt 8 _ (Nat.xor_lt_two_pow (n := 32) hc (by omega))
theorem run_append (c : Nat) (l m : List Nat) : run c (l ++ m) = run (run c l) m := by simp [run]
theorem run_lt (l : List Nat) : ∀ c, c < 4294967296 → (∀ x ∈ l, x < 256) → run c l < 4294967296 := by
 induction l with
 | nil => intro c h _; exact h
 | cons x l ih => intro c h hl; exact ih _ (byte_lt c x h (hl x (by simp))) (fun y hy => hl y (by simp [hy]))
end Go.Proofs.Ytmeocdkiecknkaa.Crc
namespace Go.Proofs.Ytmeocdkiecknkaa.Crc
def le : List Nat → Nat
 | [] => 0
 | x :: l => x + 256 * le l
theorem join_xor (x m : Nat) (hx : x < 256) : x + 256 * m = x ^^^ (256 * m) := by
 have := split_xor (x + 256 * m) 8
 rw [show (x + 256 * m) / 2 ^ 8 = m by omega, show (x + 256 * m) % 2 ^ 8 = x by omega, Nat.xor_comm] at this
 exact this
theorem stn8 (c x m : Nat) (hx : x < 256) : stn 8 (c ^^^ (x + 256 * m)) = byte c x ^^^ m := by
 rw [join_xor x m hx, ← Nat.xor_assoc, stn_xor, stn_mul 8 m]; rfl
theorem run_eq : ∀ (l : List Nat) (c : Nat), (∀ x ∈ l, x < 256) → run c l = stn (8 * l.length) (c ^^^ le l) := by
 intro l
 induction l with
 | nil => intro c _; simp [run, le, stn]
 | cons x l ih =>
  intro c h
  rw [show (8 * (x :: l).length) = 8 + 8 * l.length by simp; omega, stn_add]
  simp only [le]
  rw [stn8 c x (le l) (h x (by simp)), ← ih _ (fun y hy => h y (by simp [hy]))]
  rfl
theorem st_ne (c : Nat) (h : c < 4294967296) (h0 : c ≠ 0) : st c ≠ 0 := by
 unfold st
 have hc : c % 2 = 0 ∨ c % 2 = 1 := by omega
 rcases hc with hc | hc
 ·rw [hc]; simp; omega
 ·rw [hc, Nat.mul_one]
  intro he
  have he2 : c / 2 = poly := by
   have : (c / 2 ^^^ poly) ^^^ poly = poly := by rw [he]; simp
   rw [Nat.xor_assoc, Nat.xor_self, Nat.xor_zero] at this; exact this
  unfold poly at he2; omega
theorem stn_ne (n : Nat) : ∀ c, c < 4294967296 → c ≠ 0 → stn n c ≠ 0 := by
 induction n with
 | zero => intro c _ h0; exact h0
 | succ n ih => intro c h h0; exact ih _ (st_lt c h) (st_ne c h h0)
theorem stn_inj (n a b : Nat) (ha : a < 4294967296) (hb : b < 4294967296) (h : stn n a = stn n b) : a = b := by
 have hx : stn n (a ^^^ b) = 0 := by rw [stn_xor, h, Nat.xor_self]
 have hl : a ^^^ b < 4294967296 := Nat.xor_lt_two_pow (n := 32) ha hb
 by_cases h0 : a ^^^ b = 0
 ·have : (a ^^^ b) ^^^ b = b := by rw [h0]; simp
  rwa [Nat.xor_assoc, Nat.xor_self, Nat.xor_zero] at this
 ·exact absurd hx (stn_ne n _ hl h0)
theorem burst (n f w : Nat) (hf : f ≤ n) (hw : w < 4294967296) (h0 : w ≠ 0) : stn n (2 ^ f * w) ≠ 0 := by
 rw [show n = f + (n - f) by omega, stn_add, stn_mul]
 exact stn_ne _ _ hw h0
def bytes (v : Nat) : List Nat := [v % 256, v / 256 % 256, v / 65536 % 256, v / 16777216 % 256]
def read (l : List Nat) : Nat := le (l.take 4)
theorem le_bytes (v : Nat) (h : v < 4294967296) : le (bytes v) = v := by simp [le, bytes]; omega
theorem bytes_lt (v : Nat) : ∀ x ∈ bytes v, x < 256 := by intro x hx; simp [bytes] at hx; omega
theorem sum_lt (l : List Nat) (h : ∀ x ∈ l, x < 256) : sum l < 4294967296 :=
 Nat.xor_lt_two_pow (n := 32) (by unfold top; omega) (run_lt l top (by unfold top; omega) h)
theorem told_iff (l : List Nat) (v : Nat) (hl : ∀ x ∈ l, x < 256) (hv : v < 4294967296) :
  v = sum l ↔ stn (8 * l.length + 32) (top ^^^ le (l ++ bytes v)) = stn 32 top := by
 have hall : ∀ x ∈ l ++ bytes v, x < 256 := by
  intro x hx; rcases List.mem_append.1 hx with hx | hx
  ·exact hl x hx
  ·exact bytes_lt v x hx
 have hr : stn (8 * l.length + 32) (top ^^^ le (l ++ bytes v)) = stn 32 (run top l ^^^ v) := by
  have h1 := run_eq (l ++ bytes v) top hall
  have h2 := run_eq (bytes v) (run top l) (bytes_lt v)
  rw [run_append, h2, le_bytes v hv] at h1
  rw [show 8 * l.length + 32 = 8 * (l ++ bytes v).length by simp [bytes]; omega, ← h1]; rfl
 rw [hr]
 have hrl := run_lt l top (by unfold top; omega) hl
 constructor
 ·intro h
  rw [h]; unfold sum
  rw [Nat.xor_comm top, ← Nat.xor_assoc, Nat.xor_self, Nat.zero_xor]
 ·intro h
  have := stn_inj 32 _ _ (Nat.xor_lt_two_pow (n := 32) hrl hv) (by unfold top; omega) h
  unfold sum
  generalize run top l = q at this
  rw [← this, Nat.xor_comm q v, Nat.xor_assoc, Nat.xor_self, Nat.xor_zero]
theorem mul256_xor (a b : Nat) : 256 * (a ^^^ b) = (256 * a) ^^^ (256 * b) := by
 apply Nat.eq_of_testBit_eq
 intro i
 have e : ∀ m, (256 * m) = 2 ^ 8 * m := fun m => rfl
 rw [Nat.testBit_xor, e (a ^^^ b), e a, e b, Nat.testBit_two_pow_mul, Nat.testBit_two_pow_mul, Nat.testBit_two_pow_mul, Nat.testBit_xor]
 by_cases hi : i ≥ 8 <;> simp [hi]
theorem le_turn : ∀ (l : List Nat) (j r : Nat) (hj : j < l.length), (∀ x ∈ l, x < 256) → r < 8 →
  le (l.set j (l[j] ^^^ 2 ^ r)) = le l ^^^ 2 ^ (8 * j + r) := by
 intro l
 induction l with
 | nil => intro j r hj; simp at hj
 | cons x l ih =>
  intro j r hj h hr
  have hx : x < 256 := h x (by simp)
  have hp : 2 ^ r < 256 := Nat.lt_of_lt_of_le (Nat.pow_lt_pow_right (by omega) hr) (by decide)
  cases j with
  | zero =>
   simp only [List.set_cons_zero, List.getElem_cons_zero, le]
   have hx2 : x ^^^ 2 ^ r < 256 := Nat.xor_lt_two_pow (n := 8) hx hp
   rw [join_xor _ _ hx2, join_xor _ _ hx]
   rw [show 8 * 0 + r = r by omega, Nat.xor_assoc, Nat.xor_assoc, Nat.xor_comm (2 ^ r)]
  | succ j =>
   simp only [List.set_cons_succ, List.getElem_cons_succ, le]
   rw [ih j r (by simpa using hj) (fun y hy => h y (by simp [hy])) hr]
   rw [join_xor _ _ hx, join_xor _ _ hx, Nat.xor_assoc]
   congr 1
   rw [show 8 * (j + 1) + r = 8 + (8 * j + r) by omega, Nat.pow_add 2 8]
   exact mul256_xor _ _
end Go.Proofs.Ytmeocdkiecknkaa.Crc
