/- A store into another block leaves the cursor as it was, though that block be of the world in which its bytes lie. -/
import Derived.Test.YthpbkhagjgggjaaCuV
set_option linter.unusedVariables false
set_option linter.unusedSimpArgs false
namespace Go.Proofs.Ythpbkhagjgggjaa
open Go.RowKit Go.Proofs.YthpbkhagjgggjaaW.PrintWords

theorem size_setCell (w : World) (p : Addr) (v : Value) : (w.setCell p v).heap.size = w.heap.size := by simp [World.setCell]
theorem below_mut {w0 W : World} (h : Below w0.heap.size w0 W) (p : Addr) (v : Value) : Below (w0.setCell p v).heap.size (w0.setCell p v) (W.setCell p v) := by
  refine ⟨h.os, h.tape, h.output, by rw [size_setCell, size_setCell]; exact h.size, fun k hk => ?_⟩
  rw [size_setCell] at hk
  have := h.block k hk
  simp only [World.setCell, Array.getElem?_modify]
  rw [this]
theorem CuOwn.is {base : Nat} {w0 W : World} {g : Nat} {l : List Int} {a e : Int} (h : CuOwn base w0 W g l a e) : IsCu w0 W g l a e := by
  obtain ⟨A, c, h1, h2, h3⟩ := h
  have := Kd.R_reads' h3
  exact ⟨A, c, h1, h2, this.2.2, this.2.1⟩
theorem CuOwn.keep {base : Nat} {w0 W W' : World} {g : Nat} {l : List Int} {a e : Int} (h : CuOwn base w0 W g l a e) (hb : Below W.heap.size W W') : CuOwn base w0 W' g l a e := by
  obtain ⟨A, c, h1, h2, h3⟩ := h
  exact ⟨A, c, blk_below h1 hb, h2, h3⟩
theorem CuOwn.lower {base b' : Nat} {w0 W : World} {g : Nat} {l : List Int} {a e : Int} (h : CuOwn base w0 W g l a e) (hb : b' ≤ base) : CuOwn b' w0 W g l a e := by
  obtain ⟨A, c, h1, h2, h3⟩ := h
  exact ⟨A, c, h1, h2, Kd.R_lower h3 hb⟩
/-- A store into a block that is not the row's: it lies below, or is of another type. -/
theorem CuOwn.mut {base : Nat} {w0 W : World} {g : Nat} {l : List Int} {a e : Int} (h : CuOwn base w0 W g l a e) (p : Addr) (v : Value) (hg : g ≠ p.block)
    (hp : ∀ cs, base ≤ p.block → w0.heap[p.block]? ≠ some (.cells cs 5 (0, 0))) : CuOwn base (w0.setCell p v) (W.setCell p v) g l a e := by
  obtain ⟨A, c, h1, h2, h3⟩ := h
  refine ⟨A, c, ?_, by rw [size_setCell]; exact h2, ?_⟩
  · rw [Below.heap_setCell _ _ _ _ hg]; exact h1
  · refine Kd.R_mono (Kd.R_step (Kd.R_bound h3) (fun k ho hk => ?_)) (fun _ _ => trivial)
    obtain ⟨_, hb, _, q, hq, cs, hc⟩ := ho
    refine Below.heap_setCell _ _ _ _ ?_
    rintro rfl
    have hq' : q = 5 := by simpa [Kd.int, Kd.scalar] using hq
    subst hq'
    exact hp cs hb hc
theorem IsCu.mut {w0 W : World} {g : Nat} {l : List Int} {a e : Int} (h : IsCu w0 W g l a e) (p : Addr) (v : Value) (hg : g ≠ p.block)
    (hp : ∀ i x, w0.cell? ⟨p.block, i, none⟩ ≠ some (.int .u8 x)) : IsCu (w0.setCell p v) (W.setCell p v) g l a e := by
  obtain ⟨A, c, h1, h2, h3, h4⟩ := h
  refine ⟨A, c, ?_, by rw [size_setCell]; exact h2, ?_, h4⟩
  · rw [Below.heap_setCell _ _ _ _ hg]; exact h1
  · refine Kd.C_keep (0 : Int) h3 (g := p.block) ⟨by rw [size_setCell]; exact Nat.le_refl _, fun i _ hi _ => Below.heap_setCell _ _ _ _ hi⟩ ?_
    rintro ad rfl hn hb
    obtain ⟨ad', he, hcell⟩ := Kd.at_int h3 (0 : Int) (by omega) (by omega)
    cases he
    obtain ⟨b, o, i⟩ := ad
    cases i with
    | none => dsimp only at hb; subst hb; exact hp _ _ (by simpa [Addr.add] using hcell)
    | some i => simp [World.cell?, Addr.add] at hcell; split at hcell <;> cases hcell
/-- No byte of a row lies in this block. -/
def NoU8 (w : World) (b : Nat) : Prop := w.heap[b]? = none ∨ ∃ (cs : Array Value) (t : TypeId), (∀ (i : Nat) (x : Int), cs[i]? ≠ some (Value.int .u8 x)) ∧ w.heap[b]? = some (.cells cs t (0, 0))
/-- This block is of another type than a row of bytes, or not yet there. -/
def NotRow (w : World) (b : Nat) : Prop := w.heap[b]? = none ∨ ∃ cs t, t ≠ 5 ∧ w.heap[b]? = some (.cells cs t (0, 0))
theorem NotRow.put {w : World} {b i : Nat} (h : NotRow w b) (v : Value) : NotRow (w.setCell ⟨b, i, none⟩ v) b := by
  rcases h with h | ⟨cs, t, ht, h⟩
  · refine .inl ?_
    simp only [World.setCell, Array.getElem?_modify]
    rw [h]; simp
  · exact .inr ⟨_, t, ht, blk_set h i v⟩
theorem NotRow.no {w : World} {b base : Nat} (h : NotRow w b) : ∀ cs, base ≤ b → w.heap[b]? ≠ some (.cells cs 5 (0, 0)) := by
  intro cs _ he
  rcases h with h | ⟨cs', t, ht, h⟩
  · rw [h] at he; cases he
  · rw [h] at he; cases he; exact ht rfl
theorem NoU8.no {w : World} {b : Nat} (h : NoU8 w b) : ∀ i x, w.cell? ⟨b, i, none⟩ ≠ some (.int .u8 x) := by
  intro i x hc
  rcases h with h | ⟨cs, t, ht, h⟩
  · simp [World.cell?, h] at hc
  · rw [blk_cell h] at hc; exact ht i x hc
theorem NoU8.put {w : World} {b i : Nat} (h : NoU8 w b) {v : Value} (hv : ∀ x, v ≠ .int .u8 x) : NoU8 (w.setCell ⟨b, i, none⟩ v) b := by
  rcases h with h | ⟨cs, t, ht, h⟩
  · refine .inl ?_
    simp only [World.setCell, Array.getElem?_modify]
    rw [h]; simp
  · refine .inr ⟨_, t, fun j x hj => ?_, blk_set h i v⟩
    rw [Array.getElem?_setIfInBounds] at hj
    split at hj
    · split at hj
      · exact hv x (Option.some.inj hj)
      · cases hj
    · exact ht j x hj
theorem NoU8.far {w : World} {b : Nat} (h : NoU8 w b) (p : Addr) (v : Value) (hp : b ≠ p.block) : NoU8 (w.setCell p v) b := by
  unfold NoU8
  rw [Below.heap_setCell _ _ _ _ hp]
  exact h
/-- The four cells of a box are written anew: the world in which the bytes lie is taken along. -/
theorem CuOwn.mut4 {base : Nat} {w0 W : World} {g b : Nat} {l : List Int} {a e : Int} (h : CuOwn base w0 W g l a e) (hg : g ≠ b) (hr : NotRow w0 b) (v0 v1 v2 v3 : Value) :
    CuOwn base ((((w0.setCell ⟨b, 0, none⟩ v0).setCell ⟨b, 1, none⟩ v1).setCell ⟨b, 2, none⟩ v2).setCell ⟨b, 3, none⟩ v3) ((((W.setCell ⟨b, 0, none⟩ v0).setCell ⟨b, 1, none⟩ v1).setCell ⟨b, 2, none⟩ v2).setCell ⟨b, 3, none⟩ v3) g l a e :=
  (((h.mut ⟨b, 0, none⟩ v0 hg hr.no).mut ⟨b, 1, none⟩ v1 hg (hr.put v0).no).mut ⟨b, 2, none⟩ v2 hg ((hr.put v0).put v1).no).mut ⟨b, 3, none⟩ v3 hg (((hr.put v0).put v1).put v2).no
theorem IsCu.mut4 {w0 W : World} {g b : Nat} {l : List Int} {a e : Int} (h : IsCu w0 W g l a e) (hg : g ≠ b) (hr : NoU8 w0 b) {v0 v1 v2 v3 : Value} (h0 : ∀ x, v0 ≠ .int .u8 x) (h1 : ∀ x, v1 ≠ .int .u8 x) (h2 : ∀ x, v2 ≠ .int .u8 x) :
    IsCu ((((w0.setCell ⟨b, 0, none⟩ v0).setCell ⟨b, 1, none⟩ v1).setCell ⟨b, 2, none⟩ v2).setCell ⟨b, 3, none⟩ v3) ((((W.setCell ⟨b, 0, none⟩ v0).setCell ⟨b, 1, none⟩ v1).setCell ⟨b, 2, none⟩ v2).setCell ⟨b, 3, none⟩ v3) g l a e :=
  (((h.mut ⟨b, 0, none⟩ v0 hg hr.no).mut ⟨b, 1, none⟩ v1 hg (hr.put h0).no).mut ⟨b, 2, none⟩ v2 hg ((hr.put h0).put h1).no).mut ⟨b, 3, none⟩ v3 hg (((hr.put h0).put h1).put h2).no
theorem below_mut4 {w0 W : World} {b : Nat} (h : Below w0.heap.size w0 W) (v0 v1 v2 v3 : Value) :
    Below ((((w0.setCell ⟨b, 0, none⟩ v0).setCell ⟨b, 1, none⟩ v1).setCell ⟨b, 2, none⟩ v2).setCell ⟨b, 3, none⟩ v3).heap.size ((((w0.setCell ⟨b, 0, none⟩ v0).setCell ⟨b, 1, none⟩ v1).setCell ⟨b, 2, none⟩ v2).setCell ⟨b, 3, none⟩ v3) ((((W.setCell ⟨b, 0, none⟩ v0).setCell ⟨b, 1, none⟩ v1).setCell ⟨b, 2, none⟩ v2).setCell ⟨b, 3, none⟩ v3) :=
  below_mut (below_mut (below_mut (below_mut h _ _) _ _) _ _) _ _
theorem NoU8.put4 {w : World} {b : Nat} (h : NoU8 w b) {v0 v1 v2 v3 : Value} (h0 : ∀ x, v0 ≠ .int .u8 x) (h1 : ∀ x, v1 ≠ .int .u8 x) (h2 : ∀ x, v2 ≠ .int .u8 x) (h3 : ∀ x, v3 ≠ .int .u8 x) :
    NoU8 ((((w.setCell ⟨b, 0, none⟩ v0).setCell ⟨b, 1, none⟩ v1).setCell ⟨b, 2, none⟩ v2).setCell ⟨b, 3, none⟩ v3) b := (((h.put h0).put h1).put h2).put h3
theorem blk_put4' {w : World} {g : Nat} {t : TypeId} {a0 a1 a2 a3 : Value} (h : w.heap[g]? = some (.cells #[a0, a1, a2, a3] t (0, 0))) (v0 v1 v2 v3 : Value) :
    ((((w.setCell ⟨g, 0, none⟩ v0).setCell ⟨g, 1, none⟩ v1).setCell ⟨g, 2, none⟩ v2).setCell ⟨g, 3, none⟩ v3).heap[g]? = some (.cells #[v0, v1, v2, v3] t (0, 0)) :=
  blk_put4 (blk_put (cs' := #[v0, a1, a2, a3]) h 0 v0 rfl) v1 v2 v3
theorem below_put4' {B : Nat} {w0 w : World} {g : Nat} (h : Below B w0 w) (hg : B ≤ g) (v0 v1 v2 v3 : Value) :
    Below B w0 ((((w.setCell ⟨g, 0, none⟩ v0).setCell ⟨g, 1, none⟩ v1).setCell ⟨g, 2, none⟩ v2).setCell ⟨g, 3, none⟩ v3) := below_put4 (h.setCell (p := ⟨g, 0, none⟩) hg v0) hg _ _ _
theorem size_put4 (w : World) (b : Nat) (v0 v1 v2 v3 : Value) : ((((w.setCell ⟨b, 0, none⟩ v0).setCell ⟨b, 1, none⟩ v1).setCell ⟨b, 2, none⟩ v2).setCell ⟨b, 3, none⟩ v3).heap.size = w.heap.size := by
  rw [size_setCell, size_setCell, size_setCell, size_setCell]
theorem no_u8_box : ∀ (i : Nat) (x : Int), (#[.pointer none, .string ⟨#[]⟩, .int .i64 0, .int .i64 0] : Array Value)[i]? ≠ some (Value.int .u8 x) := by
  intro i x h
  match i with
  | 0 => cases h
  | 1 => cases h
  | 2 => cases h
  | 3 => cases h
  | n + 4 => cases h
/-! ### what the operations of the law's own region leave -/
def isNew (wb : World) (l : List Int) (pa pe : Int) : Value → World → Prop := fun v W => ∃ g wz, v = .pointer (some ⟨g, 0, none⟩) ∧ Below wb.heap.size wb wz ∧ CuOwn wb.heap.size wz W g l pa pe ∧ Below wz.heap.size wz W
def isPair (wb : World) (l : List Int) (pa pe : Int) : Value → World → Prop := fun v W => ∃ g wz, v = .agg #[.pointer (some ⟨g, 0, none⟩), .string (strOfNums l), .int .i64 pa, .int .i64 pe] ∧ Below wb.heap.size wb wz ∧ CuOwn wb.heap.size wz W g l pa pe ∧ Below wz.heap.size wz W
def isBox (wb : World) : Value → World → Prop := fun v W => ∃ b, v = .pointer (some ⟨b, 0, none⟩) ∧ wb.heap.size ≤ b ∧ W.heap[b]? = some (.cells #[.pointer none, .string ⟨#[]⟩, .int .i64 0, .int .i64 0] 42 (0, 0))
theorem isNew_lasts {wb : World} {l : List Int} {pa pe : Int} : ∀ v W W', isNew wb l pa pe v W → Below W.heap.size W W' → isNew wb l pa pe v W' :=
  fun _ _ _ ⟨g, wz, h1, h2, h3, h4⟩ hb => ⟨g, wz, h1, h2, h3.keep hb, h4.trans (hb.mono h4.size)⟩
theorem isPair_lasts {wb : World} {l : List Int} {pa pe : Int} : ∀ v W W', isPair wb l pa pe v W → Below W.heap.size W W' → isPair wb l pa pe v W' :=
  fun _ _ _ ⟨g, wz, h1, h2, h3, h4⟩ hb => ⟨g, wz, h1, h2, h3.keep hb, h4.trans (hb.mono h4.size)⟩
theorem isBox_lasts {wb : World} : ∀ v W W', isBox wb v W → Below W.heap.size W W' → isBox wb v W' :=
  fun _ _ _ ⟨b, h1, h2, h3⟩ hb => ⟨b, h1, h2, blk_below h3 hb⟩
theorem wp_new {P : Program} {Q : Exit → Act → World → Prop} {V : Nat → Value → World → Prop} {i : Nat} {o : Oper} {a : Act} {W W' : World} {v : Value} (h : (execOp a.eval o).run P W = .ok (.value v) W') (hV : V i v W') (hb : Below W.heap.size W W') :
    o.wp P a W (fun a' W' => ∃ v, a' = a.put o.dst v ∧ V i v W' ∧ Below W.heap.size W W') Q := by
  unfold Oper.wp
  rw [h]
  exact ⟨v, rfl, hV, hb⟩
theorem wp_skip {P : Program} {K : Act → World → Prop} {Q : Exit → Act → World → Prop} {o : Oper} {a : Act} {W W' : World} (h : (execOp a.eval o).run P W = .ok .skip W') (hd : o.dst = none) (hK : K a W') : o.wp P a W K Q := by
  unfold Oper.wp
  rw [h]
  have : K (a.put o.dst undef) W' := by rw [hd]; exact hK
  exact this
theorem step_any (w0 w : World) (g : Nat) (l : List Int) (a e kd most each : Int) (hI : IsCu w0 w g l a e) (hB : Below w0.heap.size w0 w) (hb : ∀ x ∈ l, 0 ≤ x ∧ x < 256) (hl : l.length ≤ 1000000) (ha : 0 ≤ a ∧ a ≤ l.length) (hmost : -9223372036854775808 ≤ most ∧ most ≤ 9223372036854775807) (heach : -9223372036854775808 ≤ each ∧ each ≤ 9223372036854775807) :
    Calls Try.prog 25 #[.agg #[.pointer (some ⟨g, 0, none⟩), .string (strOfNums l), .int .i64 a, .int .i64 e], .agg #[.int .i64 kd, .int .i64 most, .int .i64 each]] w fun en w' => ∃ aa ee : Int, 0 ≤ aa ∧ aa ≤ (l.length : Int) ∧ StepPost w0 w g l aa ee en w' := by
  by_cases h0 : kd = 0
  · subst h0; exact step_0 w0 w g l a e 0 most each hI hB hb hl ha hmost heach
  by_cases h1 : kd = 1
  · subst h1; exact step_1 w0 w g l a e 1 most each hI hB hb hl ha hmost heach
  by_cases h2 : kd = 2
  · subst h2; exact step_2 w0 w g l a e 2 most each hI hB hb hl ha hmost heach
  by_cases h3 : kd = 3
  · subst h3; exact step_3 w0 w g l a e 3 most each hI hB hb hl ha hmost heach
  by_cases h4 : kd = 4
  · subst h4; exact step_4 w0 w g l a e 4 most each hI hB hb hl ha hmost heach
  by_cases h5 : kd = 5
  · subst h5; exact step_5 w0 w g l a e 5 most each hI hB hb hl ha hmost heach
  exact step_6 w0 w g l a e kd most each ⟨h0, h1, h2, h3, h4, h5⟩ hI hB hb hl ha hmost heach
end Go.Proofs.Ythpbkhagjgggjaa
