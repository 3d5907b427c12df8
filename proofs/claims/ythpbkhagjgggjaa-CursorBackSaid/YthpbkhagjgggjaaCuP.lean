/- The document's Get of a blob is blob.Get, with any most. The cursor, as it lies in memory. -/
import Derived.Test.YthpbkhagjgggjaaBlob2
import Derived.Test.YthpbkhagjgggjaaRegA
import Derived.Test.YthpbkhagjgggjaaCuG
set_option linter.unusedVariables false
set_option linter.unusedSimpArgs false
namespace Go.Proofs.Ythpbkhagjgggjaa
open Go.RowKit Go.Proofs.YthpbkhagjgggjaaW.PrintWords Go.Proofs.Ythpbkhagjgggjaa.GVB

theorem getS_cases2 (l : List Int) (hb : ∀ x ∈ l, 0 ≤ x ∧ x < 256) (a : Int) : (∃ e : Int, getS l a = (0, 0, e) ∧ 1 ≤ e ∧ e ≤ 3) ∨
    ∃ lo n p : Nat, a = (lo : Int) ∧ getS l a = ((n : Int), (p : Int), 0) ∧ lo < p ∧ p ≤ l.length ∧ n < 18446744073709551616 := by
  rcases getS_cases l hb a with ⟨ec, h1, h2⟩ | ⟨lo, n, p, ha, h1, h2, h3, h4, h5⟩
  · exact .inl ⟨ec, h1, by omega, by omega⟩
  · refine .inr ⟨lo, n, p, ha, h1, ?_, h3, h4⟩
    have := congrArg List.length h5
    rw [List.length_drop, List.length_take] at this
    have h6 : 0 < (ints (vb n)).length := by
      rw [show (ints (vb n)).length = (vb n).length by simp [ints]]
      exact List.length_pos_iff.2 (vb_ne n)
    omega
theorem rbget_gen (l : List Int) (hb : ∀ x ∈ l, 0 ≤ x ∧ x < 256) (hl : l.length ≤ 1000000) (a lim : Int) (hlim : -9223372036854775808 ≤ lim ∧ lim ≤ 9223372036854775807) (k : Nat) (hk : 31 ≤ k) : tephraref02_Get.f k (strOfNums l) a lim = some (bgetS l a lim) := by
  have hr := ref_is l hb (by omega) a k (by omega)
  unfold tephraref02_Get.f
  rw [hr]
  simp only [Option.bind_some]
  obtain ⟨k, rfl⟩ : ∃ m, k = m + 1 := ⟨k - 1, by omega⟩
  have hs : (strOfNums l).size = l.length := strOfNums_size l
  rcases getS_cases l hb a with ⟨ec, h1, h2⟩ | ⟨lo, n, p, ha, h1, h2, h3, h4, h5⟩
  · have e : bgetS l a lim = (⟨#[]⟩, 0, ec) := by
      unfold bgetS
      rw [h1, if_pos (by show ec ≠ 0; omega)]
    rw [e, h1, if_neg (by show ec ≠ 0; omega)]
  · obtain ⟨M, hM, hM0, hM1⟩ : ∃ M : Int, (if lim < 0 then 0 else lim) = M ∧ 0 ≤ M ∧ M ≤ 9223372036854775807 := ⟨_, rfl, by split <;> omega, by split <;> omega⟩
    have hj : (if lim < 0 then tephraref02_Get.j0 (k + 1) (strOfNums l) 0 (n : Int) (p : Int) else tephraref02_Get.j0 (k + 1) (strOfNums l) lim (n : Int) (p : Int)) = tephraref02_Get.j0 (k + 1) (strOfNums l) M (n : Int) (p : Int) := by
      by_cases h0 : lim < 0
      · rw [if_pos h0] at hM ⊢; rw [hM]
      · rw [if_neg h0] at hM ⊢; rw [hM]
    rw [h1, if_pos rfl]
    dsimp only
    rw [hj]
    simp only [tephraref02_Get.j0]
    rw [hs, IntKind.wrap_u64, IntKind.wrap_u64, show M % 18446744073709551616 = M by omega, show (l.length : Int) % 18446744073709551616 = (l.length : Int) by omega]
    by_cases c5 : M < (n : Int)
    · rw [if_pos (by omega)]
      unfold bgetS
      rw [h1, hM, if_neg (by simp), if_pos c5]
    rw [if_neg (by omega)]
    by_cases c3 : l.length < n
    · rw [if_pos (by omega)]
      unfold bgetS
      rw [h1, hM, if_neg (by simp), if_neg c5, if_pos (by show (l.length : Int) - (p : Int) < (n : Int); omega)]
    rw [if_neg (by omega), w64 (n : Int) (by omega) (by omega), w64 ((p : Int) + (n : Int)) (by omega) (by omega)]
    by_cases c2 : (l.length : Int) - (p : Int) < (n : Int)
    · rw [if_pos (by omega)]
      unfold bgetS
      rw [h1, hM, if_neg (by simp), if_neg c5, if_pos c2]
    rw [if_neg (by omega), if_pos (by omega), if_pos (by omega), if_pos (by omega), str_mid]
    unfold bgetS
    rw [h1, hM, if_neg (by simp), if_neg c5, if_neg c2]
    simp only [Option.some.injEq, Prod.mk.injEq, and_true]
    rw [show ((p : Int) + (n : Int)).toNat = p + n by omega, Int.toNat_natCast, Int.toNat_natCast]
/-- The cursor at block g goes over these bytes, is at this place, has failed by this error; its bytes lie in the world w0. -/
def IsCu (w0 W : World) (g : Nat) (l : List Int) (a e : Int) : Prop :=
  ∃ A c, W.heap[g]? = some (.cells #[.slice A l.length c, .int .i64 a, .int .i64 e] 99 (0, 0)) ∧ w0.heap.size ≤ g ∧ Kd.C (Kd.int .u8) w0 A l.length l ∧ l.length ≤ c
theorem IsCu.keep {w0 W W' : World} {g : Nat} {l : List Int} {a e : Int} (h : IsCu w0 W g l a e) (hb : Below W.heap.size W W') : IsCu w0 W' g l a e := by
  obtain ⟨A, c, h1, h2, h3, h4⟩ := h
  exact ⟨A, c, blk_below h1 hb, h2, h3, h4⟩
theorem IsCu.grown {w0 W W' : World} {g : Nat} {l : List Int} {a e : Int} {row : Option Nat} (h : IsCu w0 W g l a e) (hg : W.grownBy W' row) (hr : some g ≠ row) : IsCu w0 W' g l a e := by
  obtain ⟨A, c, h1, h2, h3, h4⟩ := h
  exact ⟨A, c, (hg.block g (Array.getElem?_eq_some_iff.1 h1).1 hr).trans h1, h2, h3, h4⟩
/-- What a call of a cursor's method leaves. -/
def CuPost (w0 w : World) (g : Nat) (l : List Int) (v : Value) (a e : Int) (en : Ending) (w' : World) : Prop :=
  en = .returned v ∧ IsCu w0 w' g l a e ∧ w.grownBy w' (some g) ∧ Below w0.heap.size w0 w'
end Go.Proofs.Ythpbkhagjgggjaa
