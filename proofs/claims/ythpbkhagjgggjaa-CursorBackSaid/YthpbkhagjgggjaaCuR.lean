/- Numbers, Texts; the document's cursor answers as the cursor. -/
import Derived.Test.YthpbkhagjgggjaaCuL
import Derived.Test.YthpbkhagjgggjaaGVBx4
set_option linter.unusedVariables false
set_option linter.unusedSimpArgs false
namespace Go.Proofs.Ythpbkhagjgggjaa
open Go.RowKit Go.Proofs.YthpbkhagjgggjaaW.PrintWords Go.Proofs.Ythpbkhagjgggjaa.GVB

set_option maxRecDepth 100000 in
set_option maxHeartbeats 1000000 in
theorem numbers_any (w0 w : World) (g : Nat) (l : List Int) (at0 e most : Int) (hI : IsCu w0 w g l at0 e) (hB : Below w0.heap.size w0 w) (hb : ∀ x ∈ l, 0 ≤ x ∧ x < 256) (hl : l.length ≤ 1000000) (ha : 0 ≤ at0 ∧ at0 ≤ l.length) (hmost : -9223372036854775808 ≤ most ∧ most ≤ 9223372036854775807) :
    Calls Try.prog 22 #[.pointer (some ⟨g, 0, none⟩), .int .i64 most] w (NumsPost w0 w g l (cuNums l most at0 e)) := by
  have HK := Lib.hid (many_num w0 w g l at0 e most hI hB hb hl ha hmost (fun W a' e' _ h1 h2 => num_any w0 W g l a' e' h1 h2 hb hl))
  clear hI hb
  go_enter Try.func22, Try.ntmps22
  go_wp2_with fail
  refine HK.out.mono ?_
  rintro en w1 ⟨v, rfl, h⟩
  have HP := Lib.hid h
  clear h
  go_wp2_with fail
  go_ret
  exact ⟨_, rfl, HP.out⟩
set_option maxRecDepth 100000 in
set_option maxHeartbeats 1000000 in
theorem texts1_any (w0 W : World) (g : Nat) (l : List Int) (lim a' e' : Int) (pc pe : Addr) (hI : IsCu w0 W g l a' e') (hB : Below w0.heap.size w0 W) (hb : ∀ x ∈ l, 0 ≤ x ∧ x < 256) (hl : l.length ≤ 1000000) (hlim : -9223372036854775808 ≤ lim ∧ lim ≤ 9223372036854775807)
    (hc : W.cell? pc = some (.pointer (some ⟨g, 0, none⟩))) (he : W.cell? pe = some (.int .i64 lim)) :
    Calls Try.prog 65 #[.pointer (some pc), .pointer (some pe)] W (CuPost w0 W g l (.string (cuText l lim a' e').1) (cuText l lim a' e').2.1 (cuText l lim a' e').2.2) := by
  have HK := Lib.hid (text_any w0 W g l a' e' lim hI hB hb hl hlim)
  clear hI hb
  go_enter Try.func65, Try.ntmps65
  go_wp2_with fail
  refine HK.out.mono ?_
  rintro en w1 ⟨rfl, h1, h2, h3⟩
  have HP := Lib.hid (And.intro h1 (And.intro h2 h3))
  clear h1 h2 h3
  go_wp2_with fail
  go_ret
  exact ⟨rfl, HP.out⟩
theorem cell_grown {W W' : World} {a : Addr} {v : Value} {row : Option Nat} (hg : W.grownBy W' row) (hc : W.cell? a = some v) (hn : some a.block ≠ row) : W'.cell? a = some v := hg.cell hc hn
set_option maxRecDepth 100000 in
set_option maxHeartbeats 1000000 in
theorem texts_any (w0 w : World) (g : Nat) (l : List Int) (at0 e most lim : Int) (hI : IsCu w0 w g l at0 e) (hB : Below w0.heap.size w0 w) (hb : ∀ x ∈ l, 0 ≤ x ∧ x < 256) (hl : l.length ≤ 1000000) (ha : 0 ≤ at0 ∧ at0 ≤ l.length) (hmost : -9223372036854775808 ≤ most ∧ most ≤ 9223372036854775807) (hlim : -9223372036854775808 ≤ lim ∧ lim ≤ 9223372036854775807) :
    Calls Try.prog 18 #[.pointer (some ⟨g, 0, none⟩), .int .i64 most, .int .i64 lim] w (TextsPost w0 w g l (cuTexts l lim most at0 e)) := by
  obtain ⟨w1, hw1⟩ : ∃ w1, (w.alloc (.cells #[.pointer (some ⟨g, 0, none⟩)] 27)).alloc (.cells #[.int .i64 lim] 3) = w1 := ⟨_, rfl⟩
  have hBw : Below w.heap.size w w1 := by rw [← hw1]; exact ((Below.refl _ _).alloc (Nat.le_refl _) _).alloc (by simp) _
  have hB1 : Below w0.heap.size w0 w1 := hB.trans (hBw.mono hB.size)
  have hg : g < w.heap.size := by obtain ⟨A, c, h, _⟩ := hI; exact (Array.getElem?_eq_some_iff.1 h).1
  have hpc : w1.cell? ⟨w.heap.size, 0, none⟩ = some (.pointer (some ⟨g, 0, none⟩)) := by
    have : w1.heap[w.heap.size]? = some (.cells #[.pointer (some ⟨g, 0, none⟩)] 27 (0, 0)) := by rw [← hw1]; exact blk_alloc (blk_new _ _) _
    simp [World.cell?, this]
  have hpe : w1.cell? ⟨w.heap.size + 1, 0, none⟩ = some (.int .i64 lim) := by
    have : w1.heap[w.heap.size + 1]? = some (.cells #[.int .i64 lim] 3 (0, 0)) := by
      rw [← hw1]
      have := blk_new (w.alloc (.cells #[.pointer (some ⟨g, 0, none⟩)] 27)) (.cells #[.int .i64 lim] 3)
      rwa [heap_size_alloc] at this
    simp [World.cell?, this]
  have hI1 := hI.keep hBw
  have hk := many_text w0 w1 g ⟨w.heap.size, 0, none⟩ ⟨w.heap.size + 1, 0, none⟩ l lim at0 e most hI1 hB1 hb hl ha hmost (fun W a' e' hgr h1 h2 => texts1_any w0 W g l lim a' e' _ _ h1 h2 hb hl hlim
    (cell_grown hgr hpc (by intro h; injection h with h; simp at h; omega)) (cell_grown hgr hpe (by intro h; injection h with h; simp at h; omega)))
  unfold TextsPost at hk
  rw [← hw1] at hk
  have HK := Lib.hid hk
  have HBW := Lib.hid hBw
  have HW1 := Lib.hid hw1
  clear hk hI hb hw1 hBw hB1 hpc hpe hI1
  go_enter Try.func18, Try.ntmps18
  go_wp2_with fail
  refine HK.out.mono ?_
  rintro en w2 ⟨v, rfl, h1, h2, h3, h4⟩
  rw [HW1.out] at h1 h3
  have HP := Lib.hid (And.intro (Kd.R_lower h1 HBW.out.size) (And.intro h2 (And.intro ((World.grownBy.but (grownBy_none HBW.out) _).trans h3) h4)))
  clear h1 h2 h3 h4
  go_wp2_with fail
  go_ret
  exact ⟨_, rfl, HP.out⟩
/-! ### the document's -/
section
variable (l : List Int) (hb : ∀ x ∈ l, 0 ≤ x ∧ x < 256) (hl : l.length ≤ 1000000)
include hb hl
theorem rbyte_is (a e : Int) (ha : 0 ≤ a ∧ a ≤ l.length) : tephraref04_Cursor_Byte.f (strOfNums l) a e = some ((cuByte l a e).1, strOfNums l, (cuByte l a e).2.1, (cuByte l a e).2.2) := by
  unfold tephraref04_Cursor_Byte.f
  by_cases he : e = 0
  · have hc : cuByte l a e = if a = (l.length : Int) then (0, a, 2) else (rd l a, a + 1, 0) := by unfold cuByte; rw [if_neg (by simpa using he)]
    rw [if_pos he, strOfNums_size, hc]
    by_cases h : a = (l.length : Int)
    · rw [if_pos h, if_pos h]
      simp only [tephraref04_Cursor_Fail.f, he, if_true, Option.bind_some]
    · rw [if_neg h, if_neg h, w64 (a + 1) (by omega) (by omega), w64 (a + 1 - 1) (by omega) (by omega), if_pos (by omega), if_pos (by omega)]
      obtain ⟨p, rfl⟩ := Int.eq_ofNat_of_zero_le ha.1
      rw [show (p : Int) + 1 - 1 = (p : Int) by omega, bt_of l hb p (by omega), he]
  · have hc : cuByte l a e = (0, a, e) := by unfold cuByte; rw [if_pos he]
    rw [if_neg he, hc]
theorem rnum_is (a e : Int) (k : Nat) (hk : 30 ≤ k) : tephraref04_Cursor_Number.f k (strOfNums l) a e = some ((cuNum l a e).1, strOfNums l, (cuNum l a e).2.1, (cuNum l a e).2.2) := by
  unfold tephraref04_Cursor_Number.f cuNum
  by_cases he : e = 0
  · rw [if_pos he, if_neg (by simpa using he), ref_is l hb (by omega) a k hk]
    simp only [Option.bind_some]
    by_cases h : (getS l a).2.2 = 0
    · rw [if_pos h, if_neg (by simpa using h), he]
    · rw [if_neg h, if_pos h]
      simp only [tephraref04_Cursor_Fail.f, he, if_true, Option.bind_some]
  · rw [if_neg he, if_pos he]
theorem rtext_is (a e lim : Int) (hlim : -9223372036854775808 ≤ lim ∧ lim ≤ 9223372036854775807) (k : Nat) (hk : 31 ≤ k) : tephraref04_Cursor_Text.f k (strOfNums l) a e lim = some ((cuText l lim a e).1, strOfNums l, (cuText l lim a e).2.1, (cuText l lim a e).2.2) := by
  unfold tephraref04_Cursor_Text.f cuText
  by_cases he : e = 0
  · rw [if_pos he, if_neg (by simpa using he), rbget_gen l hb hl a lim hlim k hk]
    simp only [Option.bind_some]
    by_cases h : (bgetS l a lim).2.2 = 0
    · rw [if_pos h, if_neg (by simpa using h), he]
    · rw [if_neg h, if_pos h]
      simp only [tephraref04_Cursor_Fail.f, he, if_true, Option.bind_some]
  · rw [if_neg he, if_pos he]
theorem rcount_is (a e most : Int) (ha : 0 ≤ a ∧ a ≤ l.length) (hmost : -9223372036854775808 ≤ most ∧ most ≤ 9223372036854775807) (k : Nat) (hk : 30 ≤ k) :
    tephraref04_Cursor_count.f k (strOfNums l) a e most = if mx0 most < (cuNum l a e).1 then some (0, strOfNums l, (cuNum l a e).2.1, 5) else some ((cuNum l a e).1, strOfNums l, (cuNum l a e).2.1, (cuNum l a e).2.2) := by
  have hst := cuNum_step l hb a e ha
  unfold tephraref04_Cursor_count.f
  rw [rnum_is l hb hl a e k hk]
  simp only [Option.bind_some]
  obtain ⟨n, hn⟩ : ∃ n, (cuNum l a e).1 = n := ⟨_, rfl⟩
  obtain ⟨a1, ha1⟩ : ∃ n, (cuNum l a e).2.1 = n := ⟨_, rfl⟩
  obtain ⟨e1, he1⟩ : ∃ n, (cuNum l a e).2.2 = n := ⟨_, rfl⟩
  rw [hn, ha1, he1] at hst ⊢
  have hz : 0 < n → e1 = 0 := by
    intro h
    by_cases h1 : e1 = 0
    · exact h1
    · have := (hst.2.2.2.2.2.1 h1).1; omega
  by_cases h0 : most < 0
  · have hm : mx0 most = 0 := by unfold mx0; rw [if_pos h0]
    rw [if_pos h0, hm]
    by_cases h1 : n > 0
    · rw [if_pos h1, if_pos (by omega)]
      simp only [tephraref04_Cursor_Fail.f, hz h1, if_true, Option.bind_some]
    · rw [if_neg h1, if_neg (by omega), w64 n (by omega) (by omega)]
  · have hm : mx0 most = most := by unfold mx0; rw [if_neg h0]
    rw [if_neg h0, hm, IntKind.wrap_u64, show most % 18446744073709551616 = most by omega]
    by_cases h1 : n > most
    · rw [if_pos h1, if_pos (by omega)]
      simp only [tephraref04_Cursor_Fail.f, hz (by omega), if_true, Option.bind_some]
    · rw [if_neg h1, if_neg (by omega), w64 n (by omega) (by omega)]
theorem rcuNums_l0 : ∀ (m k n i : Nat) (acc : List Int) (a : Int), (l.length : Int) - a < m → 0 ≤ a → a ≤ l.length → (acc.length : Int) ≤ a → i ≤ n → n ≤ 9223372036854775807 → m + 40 ≤ k →
    tephraref04_Cursor_Numbers.l0 k acc n i (strOfNums l) a 0 = some ((numsL l (n - i) acc a).1, strOfNums l, (numsL l (n - i) acc a).2.1, (numsL l (n - i) acc a).2.2) := by
  intro m
  induction m with
  | zero => intro k n i acc a h h0 h1; omega
  | succ m ih =>
    intro k n i acc a hm h0 h1 hacc hi hn hk
    obtain ⟨k, rfl⟩ : ∃ q, k = q + 1 := ⟨k - 1, by omega⟩
    simp only [tephraref04_Cursor_Numbers.l0]
    by_cases hlt : i < n
    · rw [if_pos (by omega), if_pos trivial, rnum_is l hb hl a 0 k (by omega)]
      simp only [Option.bind_some]
      rw [if_pos (by omega), w64 ((i : Int) + 1) (by omega) (by omega)]
      have hst := cuNum_step l hb a 0 ⟨h0, h1⟩
      rw [show n - i = (n - (i + 1)) + 1 by omega, numsL]
      by_cases he : (cuNum l a 0).2.2 = 0
      · rw [if_neg (by simpa using he), he, show (i : Int) + 1 = ((i + 1 : Nat) : Int) by omega]
        have hs2 := hst.2.2.1 he
        exact ih k n (i + 1) _ _ (by omega) (by omega) (by omega) (by simp; omega) (by omega) hn (by omega)
      · rw [if_pos (by simpa using he)]
        obtain ⟨k, rfl⟩ : ∃ q, k = q + 1 := ⟨k - 1, by omega⟩
        simp only [tephraref04_Cursor_Numbers.l0]
        split <;> first | rfl | rw [if_neg he]
    · rw [if_neg (by omega), if_pos trivial, show n - i = 0 by omega, numsL]
theorem rcuNums_is (k : Nat) (hk : 1000100 ≤ k) (a e most : Int) (ha : 0 ≤ a ∧ a ≤ l.length) (hmost : -9223372036854775808 ≤ most ∧ most ≤ 9223372036854775807) :
    tephraref04_Cursor_Numbers.f k (strOfNums l) a e most = some ((cuNums l most a e).1, strOfNums l, (cuNums l most a e).2.1, (cuNums l most a e).2.2) := by
  have hst := cuNum_step l hb a e ha
  have hM : 0 ≤ mx0 most ∧ mx0 most ≤ 9223372036854775807 := by unfold mx0; split <;> omega
  unfold tephraref04_Cursor_Numbers.f cuNums
  rw [rcount_is l hb hl a e most ha (by omega) k (by omega)]
  by_cases h1 : mx0 most < (cuNum l a e).1
  · rw [if_pos h1, if_pos h1]
    obtain ⟨k, rfl⟩ : ∃ q, k = q + 1 := ⟨k - 1, by omega⟩
    simp only [Option.bind_some, tephraref04_Cursor_Numbers.l0]
    rw [if_neg (by omega), if_neg (by omega)]
  · rw [if_neg h1, if_neg h1]
    simp only [Option.bind_some]
    by_cases h2 : (cuNum l a e).2.2 = 0
    · rw [if_neg (by simpa using h2), h2]
      obtain ⟨n, hn⟩ := Int.eq_ofNat_of_zero_le hst.2.2.2.1
      rw [hn, Int.toNat_natCast]
      have := rcuNums_l0 l hb hl (l.length + 1) k n 0 [] (cuNum l a e).2.1 (by omega) (by omega) (by omega) (by simp; omega) (by omega) (by omega) (by omega)
      rw [Nat.sub_zero] at this
      exact this
    · rw [if_pos (by simpa using h2)]
      have h3 := (hst.2.2.2.2.2.1 h2).1
      obtain ⟨k, rfl⟩ : ∃ q, k = q + 1 := ⟨k - 1, by omega⟩
      simp only [tephraref04_Cursor_Numbers.l0]
      rw [h3, if_neg (by omega), if_neg h2]
theorem rcuTexts_l0 (lim : Int) (hlim : -9223372036854775808 ≤ lim ∧ lim ≤ 9223372036854775807) : ∀ (m k n i : Nat) (acc : List ByteArray) (a : Int), (l.length : Int) - a < m → 0 ≤ a → a ≤ l.length → (acc.length : Int) ≤ a → i ≤ n → n ≤ 9223372036854775807 → m + 40 ≤ k →
    tephraref04_Cursor_Texts.l0 k lim acc n i (strOfNums l) a 0 = some ((textsL l lim (n - i) acc a).1, strOfNums l, (textsL l lim (n - i) acc a).2.1, (textsL l lim (n - i) acc a).2.2) := by
  intro m
  induction m with
  | zero => intro k n i acc a h h0 h1; omega
  | succ m ih =>
    intro k n i acc a hm h0 h1 hacc hi hn hk
    obtain ⟨k, rfl⟩ : ∃ q, k = q + 1 := ⟨k - 1, by omega⟩
    simp only [tephraref04_Cursor_Texts.l0]
    by_cases hlt : i < n
    · rw [if_pos (by omega), if_pos trivial, rtext_is l hb hl a 0 lim hlim k (by omega)]
      simp only [Option.bind_some]
      rw [if_pos (by omega), w64 ((i : Int) + 1) (by omega) (by omega)]
      have hst := cuText_step l hb lim a 0 ⟨h0, h1⟩
      rw [show n - i = (n - (i + 1)) + 1 by omega, textsL]
      by_cases he : (cuText l lim a 0).2.2 = 0
      · rw [if_neg (by simpa using he), he, show (i : Int) + 1 = ((i + 1 : Nat) : Int) by omega]
        have hs2 := hst.2.2.1 he
        exact ih k n (i + 1) _ _ (by omega) (by omega) (by omega) (by simp; omega) (by omega) hn (by omega)
      · rw [if_pos (by simpa using he)]
        obtain ⟨k, rfl⟩ : ∃ q, k = q + 1 := ⟨k - 1, by omega⟩
        simp only [tephraref04_Cursor_Texts.l0]
        split <;> first | rfl | rw [if_neg he]
    · rw [if_neg (by omega), if_pos trivial, show n - i = 0 by omega, textsL]
theorem rcuTexts_is (k : Nat) (hk : 1000100 ≤ k) (a e most lim : Int) (ha : 0 ≤ a ∧ a ≤ l.length) (hmost : -9223372036854775808 ≤ most ∧ most ≤ 9223372036854775807) (hlim : -9223372036854775808 ≤ lim ∧ lim ≤ 9223372036854775807) :
    tephraref04_Cursor_Texts.f k (strOfNums l) a e most lim = some ((cuTexts l lim most a e).1, strOfNums l, (cuTexts l lim most a e).2.1, (cuTexts l lim most a e).2.2) := by
  have hst := cuNum_step l hb a e ha
  have hM : 0 ≤ mx0 most ∧ mx0 most ≤ 9223372036854775807 := by unfold mx0; split <;> omega
  unfold tephraref04_Cursor_Texts.f cuTexts
  rw [rcount_is l hb hl a e most ha (by omega) k (by omega)]
  by_cases h1 : mx0 most < (cuNum l a e).1
  · rw [if_pos h1, if_pos h1]
    obtain ⟨k, rfl⟩ : ∃ q, k = q + 1 := ⟨k - 1, by omega⟩
    simp only [Option.bind_some, tephraref04_Cursor_Texts.l0]
    rw [if_neg (by omega), if_neg (by omega)]
  · rw [if_neg h1, if_neg h1]
    simp only [Option.bind_some]
    by_cases h2 : (cuNum l a e).2.2 = 0
    · rw [if_neg (by simpa using h2), h2]
      obtain ⟨n, hn⟩ := Int.eq_ofNat_of_zero_le hst.2.2.2.1
      rw [hn, Int.toNat_natCast]
      have := rcuTexts_l0 l hb hl lim hlim (l.length + 1) k n 0 [] (cuNum l a e).2.1 (by omega) (by omega) (by omega) (by simp; omega) (by omega) (by omega) (by omega)
      rw [Nat.sub_zero] at this
      exact this
    · rw [if_pos (by simpa using h2)]
      have h3 := (hst.2.2.2.2.2.1 h2).1
      obtain ⟨k, rfl⟩ : ∃ q, k = q + 1 := ⟨k - 1, by omega⟩
      simp only [tephraref04_Cursor_Texts.l0]
      rw [h3, if_neg (by omega), if_neg h2]
end
end Go.Proofs.Ythpbkhagjgggjaa
