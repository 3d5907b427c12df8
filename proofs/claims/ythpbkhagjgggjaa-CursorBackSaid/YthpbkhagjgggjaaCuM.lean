/- What the cursor's methods answer: Byte, Number, Text, Fail, Err, At, Left, New. -/
import Derived.Test.YthpbkhagjgggjaaCuW
import Derived.Deep.QuietTactic
import Derived.BigQuiet
set_option linter.unusedVariables false
set_option linter.unusedSimpArgs false
namespace Go.Proofs.Ythpbkhagjgggjaa
open Go.RowKit Go.Proofs.YthpbkhagjgggjaaW.PrintWords Go.Proofs.Ythpbkhagjgggjaa.GVB

/-- A byte is taken: what it is, the place then, the error. -/
def cuByte (l : List Int) (a e : Int) : Int × Int × Int := if e ≠ 0 then (0, a, e) else if a = (l.length : Int) then (0, a, 2) else (rd l a, a + 1, 0)
def cuNum (l : List Int) (a e : Int) : Int × Int × Int := if e ≠ 0 then (0, a, e) else if (getS l a).2.2 ≠ 0 then (0, a, (getS l a).2.2) else ((getS l a).1, (getS l a).2.1, 0)
def cuText (l : List Int) (lim a e : Int) : ByteArray × Int × Int := if e ≠ 0 then (⟨#[]⟩, a, e) else if (bgetS l a lim).2.2 ≠ 0 then (⟨#[]⟩, a, (bgetS l a lim).2.2) else ((bgetS l a lim).1, (bgetS l a lim).2.1, 0)
theorem CuPost.mk' {w0 w : World} {g : Nat} {l : List Int} {v v' : Value} {a a' e e' : Int} {en : Ending} {w' : World} (h : CuPost w0 w g l v a e en w') (h1 : v = v') (h2 : a = a') (h3 : e = e') : CuPost w0 w g l v' a' e' en w' := by
  subst h1 h2 h3; exact h
section
variable (w0 w : World) (g : Nat) (l : List Int) (at0 e : Int)
set_option maxRecDepth 100000
set_option maxHeartbeats 1000000
theorem byte1_end (A : Option Addr) (c : Nat) (W : World) (hl : l.length ≤ 1000000) :
    Calls Try.prog 76 #[.slice A l.length c, .int .i64 (l.length : Int)] W fun e' W' => e' = .returned (.tuple #[.int .u8 0, .int .i64 0, .int .i64 2]) ∧ Below W.heap.size W W' := by
  go_enter Try.func76, Try.ntmps76
  go_wp2_with fail
  go_ret3
  exact ⟨rfl, Below.refl _ _⟩
theorem byte1_ok (A : Option Addr) (c : Nat) (W : World) (p : Nat) (hl : l.length ≤ 1000000) (hp : p < l.length) (hC : Kd.C (Kd.int .u8) W A l.length l) :
    Calls Try.prog 76 #[.slice A l.length c, .int .i64 (p : Int)] W fun e' W' => e' = .returned (.tuple #[.int .u8 (rd l (p : Int)), .int .i64 ((p : Int) + 1), .int .i64 0]) ∧ Below W.heap.size W W' := by
  obtain ⟨ad, he, hcell⟩ := Kd.at_int hC (p : Int) (by omega) (by omega)
  subst he
  rw [Int.toNat_natCast] at hcell
  generalize rd l (p : Int) = x at *
  have hn : ¬ l.length ≤ p := by omega
  clear hC
  go_enter Try.func76, Try.ntmps76
  go_wp2_with fail
  go_ret3
  exact ⟨rfl, Below.refl _ _⟩
theorem byte_any (hI : IsCu w0 w g l at0 e) (hB : Below w0.heap.size w0 w) (hl : l.length ≤ 1000000) (ha : 0 ≤ at0 ∧ at0 ≤ l.length) :
    Calls Try.prog 27 #[.pointer (some ⟨g, 0, none⟩)] w (CuPost w0 w g l (.int .u8 (cuByte l at0 e).1) (cuByte l at0 e).2.1 (cuByte l at0 e).2.2) := by
  have key : Calls Try.prog 75 #[.pointer (some ⟨g, 0, none⟩), .func (.func 76) #[] #[]] w (CuPost w0 w g l (.int .u8 (cuByte l at0 e).1) (cuByte l at0 e).2.1 (cuByte l at0 e).2.2) := by
    unfold cuByte
    by_cases he : e = 0
    · subst he
      rw [if_neg (by simp)]
      by_cases h : at0 = (l.length : Int)
      · rw [if_pos h]
        subst h
        exact one_byte_err w0 w g l _ 0 0 2 hI hB rfl (fun A c W _ _ _ => byte1_end l A c W hl)
      · rw [if_neg h]
        obtain ⟨p, rfl⟩ := Int.eq_ofNat_of_zero_le ha.1
        exact one_byte_ok w0 w g l _ _ _ hI hB (fun A c W hC _ _ => byte1_ok l A c W p hl (by omega) hC)
    · rw [if_pos he]
      exact one_byte_failed w0 w g l at0 e _ hI hB (by simpa using he)
  have HK := Lib.hid key
  clear key hI
  go_enter Try.func27, Try.ntmps27
  go_wp2_with fail
  refine HK.out.mono ?_
  rintro en w1 ⟨rfl, h1, h2, h3⟩
  have HP := Lib.hid (And.intro h1 (And.intro h2 h3))
  clear h1 h2 h3
  go_wp2_with fail
  go_ret
  exact ⟨rfl, HP.out⟩
theorem num_any (hI : IsCu w0 w g l at0 e) (hB : Below w0.heap.size w0 w) (hb : ∀ x ∈ l, 0 ≤ x ∧ x < 256) (hl : l.length ≤ 1000000) :
    Calls Try.prog 28 #[.pointer (some ⟨g, 0, none⟩)] w (CuPost w0 w g l (.int .u64 (cuNum l at0 e).1) (cuNum l at0 e).2.1 (cuNum l at0 e).2.2) := by
  have key : Calls Try.prog 77 #[.pointer (some ⟨g, 0, none⟩), .func (.func 78) #[] #[]] w (CuPost w0 w g l (.int .u64 (cuNum l at0 e).1) (cuNum l at0 e).2.1 (cuNum l at0 e).2.2) := by
    have hT : ∀ A c W, Kd.C (Kd.int .u8) W A l.length l → l.length ≤ c → Below w.heap.size w W → Calls Try.prog 78 #[.slice A l.length c, .int .i64 at0] W fun e' W' => e' = .returned (.tuple #[.int .u64 (getS l at0).1, .int .i64 (getS l at0).2.1, .int .i64 (getS l at0).2.2]) ∧ Below W.heap.size W W' :=
      fun A c W hC hc _ => (varint_Get.calls 30 A c l at0 _ _ _ W hC hc (get_is l hb (by omega) at0 30 (Nat.le_refl _))).mono fun e' W' hh => ⟨hh.1, hh.2.below⟩
    unfold cuNum
    by_cases he : e = 0
    · subst he
      rw [if_neg (by simp)]
      by_cases h : (getS l at0).2.2 = 0
      · rw [if_neg (by simpa using h)]
        rw [h] at hT
        exact one_num_ok w0 w g l _ _ _ hI hB hT
      · rw [if_pos h]
        exact one_num_err w0 w g l _ _ _ _ hI hB (by simpa using h) hT
    · rw [if_pos he]
      exact one_num_failed w0 w g l at0 e _ hI hB (by simpa using he)
  have HK := Lib.hid key
  clear key hI hb
  go_enter Try.func28, Try.ntmps28
  go_wp2_with fail
  refine HK.out.mono ?_
  rintro en w1 ⟨rfl, h1, h2, h3⟩
  have HP := Lib.hid (And.intro h1 (And.intro h2 h3))
  clear h1 h2 h3
  go_wp2_with fail
  go_ret
  exact ⟨rfl, HP.out⟩
theorem text1_any (A : Option Addr) (c : Nat) (W : World) (pb : Addr) (lim : Int) (hC : Kd.C (Kd.int .u8) W A l.length l) (hc : l.length ≤ c) (hb : ∀ x ∈ l, 0 ≤ x ∧ x < 256) (hl : l.length ≤ 1000000) (hlim : -9223372036854775808 ≤ lim ∧ lim ≤ 9223372036854775807) (hp : W.cell? pb = some (.int .i64 lim)) :
    Calls Try.prog 80 #[.slice A l.length c, .int .i64 at0, .pointer (some pb)] W fun e' W' => e' = .returned (.tuple #[.string (bgetS l at0 lim).1, .int .i64 (bgetS l at0 lim).2.1, .int .i64 (bgetS l at0 lim).2.2]) ∧ Below W.heap.size W W' := by
  have HG := Lib.hid (bget_any A c l lim W at0 hC hc hb (by omega) hlim)
  clear hC hb hlim
  go_enter Try.func80, Try.ntmps80
  go_wp2_with fail
  refine HG.out.mono ?_
  rintro en w1 ⟨rfl, h1⟩
  go_wp2_with fail
  go_ret3
  exact ⟨rfl, h1⟩
theorem text_any (lim : Int) (hI : IsCu w0 w g l at0 e) (hB : Below w0.heap.size w0 w) (hb : ∀ x ∈ l, 0 ≤ x ∧ x < 256) (hl : l.length ≤ 1000000) (hlim : -9223372036854775808 ≤ lim ∧ lim ≤ 9223372036854775807) :
    Calls Try.prog 29 #[.pointer (some ⟨g, 0, none⟩), .int .i64 lim] w (CuPost w0 w g l (.string (cuText l lim at0 e).1) (cuText l lim at0 e).2.1 (cuText l lim at0 e).2.2) := by
  obtain ⟨w1, hw1⟩ : ∃ w1, w.alloc (.cells #[.int .i64 lim] 3) = w1 := ⟨_, rfl⟩
  have hBw : Below w.heap.size w w1 := by rw [← hw1]; exact (Below.refl _ _).alloc (Nat.le_refl _) _
  have hB1 : Below w0.heap.size w0 w1 := hB.trans (hBw.mono hB.size)
  have hpb : w1.cell? ⟨w.heap.size, 0, none⟩ = some (.int .i64 lim) := by rw [← hw1]; simp
  have hI1 := hI.keep hBw
  have key : Calls Try.prog 79 #[.pointer (some ⟨g, 0, none⟩), .func (.func 80) #[] #[.pointer (some ⟨w.heap.size, 0, none⟩)]] w1 (CuPost w0 w1 g l (.string (cuText l lim at0 e).1) (cuText l lim at0 e).2.1 (cuText l lim at0 e).2.2) := by
    have hT : ∀ A c W, Kd.C (Kd.int .u8) W A l.length l → l.length ≤ c → Below w1.heap.size w1 W → Calls Try.prog 80 #[.slice A l.length c, .int .i64 at0, .pointer (some ⟨w.heap.size, 0, none⟩)] W fun e' W' => e' = .returned (.tuple #[.string (bgetS l at0 lim).1, .int .i64 (bgetS l at0 lim).2.1, .int .i64 (bgetS l at0 lim).2.2]) ∧ Below W.heap.size W W' :=
      fun A c W hC hc hBW => text1_any l at0 A c W _ lim hC hc hb hl hlim (cell_keep hBW hpb)
    unfold cuText
    by_cases he : e = 0
    · subst he
      rw [if_neg (by simp)]
      by_cases h : (bgetS l at0 lim).2.2 = 0
      · rw [if_neg (by simpa using h)]
        rw [h] at hT
        exact one_text_ok w0 w1 g l _ _ _ _ hI1 hB1 hT
      · rw [if_pos h]
        exact one_text_err w0 w1 g l _ _ _ _ _ hI1 hB1 (by simpa using h) hT
    · rw [if_pos he]
      exact one_text_failed w0 w1 g l at0 e _ hI1 hB1 (by simpa using he)
  rw [← hw1] at key
  have HK := Lib.hid key
  have HBW := Lib.hid hBw
  have HW1 := Lib.hid hw1
  clear key hI hb hw1 hBw hB1 hpb hI1
  go_enter Try.func29, Try.ntmps29
  go_wp2_with fail
  refine HK.out.mono ?_
  rintro en w2 ⟨rfl, h1, h2, h3⟩
  rw [HW1.out] at h2
  have HP := Lib.hid (And.intro h1 (And.intro ((World.grownBy.but (grownBy_none HBW.out) _).trans h2) h3))
  clear h1 h2 h3
  go_wp2_with fail
  go_ret
  exact ⟨rfl, HP.out⟩
theorem fail_any (ec : Int) (hI : IsCu w0 w g l at0 e) (hB : Below w0.heap.size w0 w) :
    Calls Try.prog 73 #[.pointer (some ⟨g, 0, none⟩), .int .i64 ec] w (CuPost w0 w g l (.tuple #[]) at0 (if e = 0 then ec else e)) := by
  have HI := Lib.hid hI
  obtain ⟨A, c, hc, hC, hg, hh, c0, c1, c2, f1, f2⟩ := cu_cells hI
  clear hI hC hh
  by_cases he : e = 0
  · subst he
    rw [if_pos rfl]
    go_enter Try.func73, Try.ntmps73
    go_wp2_with fail
    (try simp only [Exit.inBlock, Exit.then])
    first | go_end0 | refine bodyPost_ret (results_none rfl _ _ _) rfl ?_
    exact ⟨rfl, HI.out.fail _, grownBy_setAt _ _ _ _, hB.setCell hg _⟩
  · have he2 : (e == 0) = false := by simpa using he
    rw [if_neg he]
    go_enter Try.func73, Try.ntmps73
    go_wp2_with fail
    (try simp only [Exit.inBlock, Exit.then])
    first | go_end0 | refine bodyPost_ret (results_none rfl _ _ _) rfl ?_
    exact ⟨rfl, HI.out, World.grownBy.refl _ _, hB⟩
theorem err_any (hI : IsCu w0 w g l at0 e) :
    Calls Try.prog 20 #[.pointer (some ⟨g, 0, none⟩)] w fun en w' => en = .returned (.int .i64 e) ∧ w = w' := by
  obtain ⟨A, c, hc, hC, hg, hh, c0, c1, c2, f1, f2⟩ := cu_cells hI
  clear hI hC hh
  go_enter Try.func20, Try.ntmps20
  go_wp2_with fail
  go_ret
  exact ⟨rfl, rfl⟩
theorem at_any (hI : IsCu w0 w g l at0 e) :
    Calls Try.prog 26 #[.pointer (some ⟨g, 0, none⟩)] w fun en w' => en = .returned (.int .i64 at0) ∧ w = w' := by
  obtain ⟨A, c, hc, hC, hg, hh, c0, c1, c2, f1, f2⟩ := cu_cells hI
  clear hI hC hh
  go_enter Try.func26, Try.ntmps26
  go_wp2_with fail
  go_ret
  exact ⟨rfl, rfl⟩
theorem left_any (hI : IsCu w0 w g l at0 e) (hl : l.length ≤ 1000000) (ha : 0 ≤ at0 ∧ at0 ≤ l.length) :
    Calls Try.prog 21 #[.pointer (some ⟨g, 0, none⟩)] w fun en w' => en = .returned (.int .i64 ((l.length : Int) - at0)) ∧ Below w.heap.size w w' := by
  obtain ⟨A, c, hc, hC, hg, hh, c0, c1, c2, f1, f2⟩ := cu_cells hI
  have e1 : IntKind.i64.wrap ((l.length : Int) - at0) = (l.length : Int) - at0 := IntWalk.i64_in _ (by omega)
  clear hI hC hh
  go_enter Try.func21, Try.ntmps21
  go_wp2_with fail
  go_quiet (fail)
  clear e1
  go_wp2_with fail
  go_ret
  exact ⟨rfl, pw_below_drewN (Below.refl _ _) _⟩
end
end Go.Proofs.Ythpbkhagjgggjaa
