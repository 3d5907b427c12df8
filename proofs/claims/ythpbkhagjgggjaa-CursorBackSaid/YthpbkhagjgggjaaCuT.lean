/- Takes, as they lie in memory; where a cursor may be behind many. -/
import Derived.Test.YthpbkhagjgggjaaCuF
import Derived.Test.YthpbkhagjgggjaaOpen
set_option linter.unusedVariables false
set_option linter.unusedSimpArgs false
namespace Go.Proofs.Ythpbkhagjgggjaa
open Go.RowKit Go.Proofs.YthpbkhagjgggjaaW.PrintWords Go.Proofs.Ythpbkhagjgggjaa.GVB Go.ChangeShapes Go.WideShapes

/-- A call, by its kind, most and each. -/
abbrev Take4 := Int × Int × Int
def kdTake : Kd Take4 := Kd.pair (Kd.int .i64) (Kd.pair (Kd.int .i64) (Kd.int .i64))
def okTake (a : Take4) : Prop := (Lit.int .i64 a.1).wf = true ∧ (Lit.int .i64 a.2.1).wf = true ∧ (Lit.int .i64 a.2.2).wf = true
theorem cellsOf_intT : Try.prog.cellsOf 3 = 1 := by kernel_rfl
theorem cellsOf_take : Try.prog.cellsOf 44 = 3 := by kernel_rfl
theorem cellsOf_takes : Try.prog.cellsOf 37 = 1 := by kernel_rfl
theorem opens_intT : Opens Try.prog 3 (Kd.int .i64) (fun n => (Lit.int .i64 n).wf = true) := opens_int Try.underlying3 cellsOf_intT
theorem opens_take : Opens Try.prog 44 kdTake okTake := opens_struct3 Try.underlying44 rfl rfl rfl opens_intT opens_intT opens_intT cellsOf_take
set_option maxRecDepth 100000 in
theorem open_t37 {H : Type} {enc : TypeId × Value → H} {W : World} {base : Nat} {held : Bool} {v : Value} {d : DataW H} {ps : List MemPlace} {r : Reach} {b0 : Nat} (hval : Value.okWide Try.prog W r b0 37 v) (h : DataW.Trod enc Try.prog W base (fun _ => true) held 37 v d ps) :
    ∃ x, IsRows kdTake okTake W v x := open_rows Try.underlying37 cellsOf_takes opens_take hval h
theorem add_fieldT (a : Addr) (j i : Nat) (hi : 0 < i) : a.add (j + i) = ⟨(a.add j).block, (a.add j).off + i, none⟩ := by
  unfold Addr.add
  rw [if_neg (by omega)]
  split
  · rename_i h; subst h; simp
  · simp [Nat.add_assoc]
theorem take_at {w : World} {A : Option Addr} {l : List Take4} (h : Kd.C kdTake w A l.length l) (i : Nat) (hi : i < l.length) :
    ∃ ad, A = some ad ∧ w.cell? (ad.add (i * 3)) = some (.int .i64 l[i].1) ∧ w.cell? ⟨(ad.add (i * 3)).block, (ad.add (i * 3)).off + 1, none⟩ = some (.int .i64 l[i].2.1) ∧ w.cell? ⟨(ad.add (i * 3)).block, (ad.add (i * 3)).off + 2, none⟩ = some (.int .i64 l[i].2.2) := by
  obtain ⟨ad, e, hc⟩ := h.2.2 (by omega)
  obtain ⟨c, _, ⟨c0, c1, rfl, h0, ⟨c2, c3, rfl, h1, h2⟩⟩, hcell⟩ := hc i l[i] (by rw [List.getElem?_eq_getElem hi])
  have h0' : c0 = [.int .i64 l[i].1] := h0
  have h1' : c2 = [.int .i64 l[i].2.1] := h1
  have h2' : c3 = [.int .i64 l[i].2.2] := h2
  subst h0' h1' h2'
  have e3 : kdTake.sz = 3 := rfl
  rw [e3] at hcell
  refine ⟨ad, e, ?_, ?_, ?_⟩
  · have := hcell 0 _ rfl
    rwa [Nat.add_zero] at this
  · have := hcell 1 _ rfl
    rwa [add_fieldT _ _ _ (by omega)] at this
  · have := hcell 2 _ rfl
    rwa [add_fieldT _ _ _ (by omega)] at this
theorem mx0_nonneg (x : Int) : 0 ≤ mx0 x := by unfold mx0; split <;> omega
section
variable (l : List Int) (hb : ∀ x ∈ l, 0 ≤ x ∧ x < 256)
include hb
theorem cuByte_step (a e : Int) (ha : 0 ≤ a ∧ a ≤ l.length) : (cuByte l a e).2.1 ≤ l.length ∧ a ≤ (cuByte l a e).2.1 ∧ 0 ≤ (cuByte l a e).1 ∧ (cuByte l a e).1 < 256 ∧ (e ≠ 0 → cuByte l a e = (0, a, e)) := by
  unfold cuByte
  by_cases he : e = 0
  · rw [if_neg (by simpa using he)]
    by_cases h : a = (l.length : Int)
    · rw [if_pos h]; dsimp only; exact ⟨by omega, by omega, by omega, by omega, fun h => absurd he h⟩
    · rw [if_neg h]
      obtain ⟨p, rfl⟩ := Int.eq_ofNat_of_zero_le ha.1
      have hp : p < l.length := by omega
      have : rd l (p : Int) = l[p] := by simp [rd, hp]
      have hx := hb l[p] (List.getElem_mem _)
      dsimp only
      rw [this]
      exact ⟨by omega, by omega, by omega, by omega, fun h => absurd he h⟩
  · rw [if_pos he]; dsimp only; exact ⟨by omega, by omega, by omega, by omega, fun _ => rfl⟩
theorem numsL_step : ∀ (n : Nat) (acc : List Int) (a : Int), 0 ≤ a → a ≤ l.length → (acc.length : Int) ≤ a → (numsL l n acc a).2.1 ≤ l.length ∧ a ≤ (numsL l n acc a).2.1 ∧ (numsL l n acc a).1.length ≤ l.length := by
  intro n
  induction n with
  | zero => intro acc a h0 h1 h2; rw [numsL]; dsimp only; exact ⟨h1, by omega, by omega⟩
  | succ n ih =>
    intro acc a h0 h1 h2
    have hs := cuNum_step l hb a 0 ⟨h0, h1⟩
    rw [numsL]
    by_cases h : (cuNum l a 0).2.2 = 0
    · rw [if_neg (by simpa using h)]
      have hs2 := (hs.2.2.1 h).1
      have := ih (acc ++ [(cuNum l a 0).1]) (cuNum l a 0).2.1 (by omega) hs.1 (by simp; omega)
      exact ⟨this.1, by omega, this.2.2⟩
    · rw [if_pos (by simpa using h)]; dsimp only; exact ⟨hs.1, hs.2.1, Nat.zero_le _⟩
theorem textsL_step (lim : Int) : ∀ (n : Nat) (acc : List ByteArray) (a : Int), 0 ≤ a → a ≤ l.length → (acc.length : Int) ≤ a → (textsL l lim n acc a).2.1 ≤ l.length ∧ a ≤ (textsL l lim n acc a).2.1 ∧ (textsL l lim n acc a).1.length ≤ l.length := by
  intro n
  induction n with
  | zero => intro acc a h0 h1 h2; rw [textsL]; dsimp only; exact ⟨h1, by omega, by omega⟩
  | succ n ih =>
    intro acc a h0 h1 h2
    have hs := cuText_step l hb lim a 0 ⟨h0, h1⟩
    rw [textsL]
    by_cases h : (cuText l lim a 0).2.2 = 0
    · rw [if_neg (by simpa using h)]
      have hs2 := (hs.2.2.1 h).1
      have := ih (acc ++ [(cuText l lim a 0).1]) (cuText l lim a 0).2.1 (by omega) hs.1 (by simp; omega)
      exact ⟨this.1, by omega, this.2.2⟩
    · rw [if_pos (by simpa using h)]; dsimp only; exact ⟨hs.1, hs.2.1, Nat.zero_le _⟩
theorem cuNums_step (most a e : Int) (ha : 0 ≤ a ∧ a ≤ l.length) : (cuNums l most a e).2.1 ≤ l.length ∧ a ≤ (cuNums l most a e).2.1 ∧ (cuNums l most a e).1.length ≤ l.length ∧ (e ≠ 0 → cuNums l most a e = ([], a, e)) := by
  have hs := cuNum_step l hb a e ha
  have hm := mx0_nonneg most
  unfold cuNums
  by_cases he : e = 0
  · refine ⟨?_, ?_, ?_, fun h => absurd he h⟩
    all_goals
      split
      · dsimp only; first | exact hs.1 | exact hs.2.1 | exact Nat.zero_le _
      · split
        · dsimp only; first | exact hs.1 | exact hs.2.1 | exact Nat.zero_le _
        · have := numsL_step l hb (cuNum l a e).1.toNat [] (cuNum l a e).2.1 (by omega) hs.1 (by simp; omega)
          first | exact this.1 | exact this.2.2 | omega
  · have e1 : cuNum l a e = (0, a, e) := by unfold cuNum; rw [if_pos he]
    rw [e1, if_neg (by dsimp only; omega), if_pos (by simpa using he)]
    dsimp only
    exact ⟨by omega, by omega, Nat.zero_le _, fun _ => rfl⟩
theorem cuTexts_step (lim most a e : Int) (ha : 0 ≤ a ∧ a ≤ l.length) : (cuTexts l lim most a e).2.1 ≤ l.length ∧ a ≤ (cuTexts l lim most a e).2.1 ∧ (cuTexts l lim most a e).1.length ≤ l.length ∧ (e ≠ 0 → cuTexts l lim most a e = ([], a, e)) := by
  have hs := cuNum_step l hb a e ha
  have hm := mx0_nonneg most
  unfold cuTexts
  by_cases he : e = 0
  · refine ⟨?_, ?_, ?_, fun h => absurd he h⟩
    all_goals
      split
      · dsimp only; first | exact hs.1 | exact hs.2.1 | exact Nat.zero_le _
      · split
        · dsimp only; first | exact hs.1 | exact hs.2.1 | exact Nat.zero_le _
        · have := textsL_step l hb lim (cuNum l a e).1.toNat [] (cuNum l a e).2.1 (by omega) hs.1 (by simp; omega)
          first | exact this.1 | exact this.2.2 | omega
  · have e1 : cuNum l a e = (0, a, e) := by unfold cuNum; rw [if_pos he]
    rw [e1, if_neg (by dsimp only; omega), if_pos (by simpa using he)]
    dsimp only
    exact ⟨by omega, by omega, Nat.zero_le _, fun _ => rfl⟩
end
theorem newAt_in (l : List Int) (a : Int) : 0 ≤ newAt l a ∧ newAt l a ≤ l.length := by unfold newAt; split <;> omega
end Go.Proofs.Ythpbkhagjgggjaa
