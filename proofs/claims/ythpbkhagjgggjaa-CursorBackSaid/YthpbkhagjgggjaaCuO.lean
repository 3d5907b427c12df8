/- A region of open order in which one operation alone writes, into a block of the call's own; each other one only reads, reckons, or makes new memory, and is of one value. -/
import Derived.Test.YthpbkhagjgggjaaCuT
set_option linter.unusedVariables false
set_option linter.unusedSimpArgs false
namespace Go.Proofs.Ythpbkhagjgggjaa
open Go.RowKit Go.Proofs.YthpbkhagjgggjaaW.PrintWords

theorem blk_put4 {w : World} {g : Nat} {t : TypeId} {a0 a1 a2 a3 : Value} (h : w.heap[g]? = some (.cells #[a0, a1, a2, a3] t (0, 0))) (v1 v2 v3 : Value) :
    (((w.setCell ⟨g, 1, none⟩ v1).setCell ⟨g, 2, none⟩ v2).setCell ⟨g, 3, none⟩ v3).heap[g]? = some (.cells #[a0, v1, v2, v3] t (0, 0)) := by
  have h1 := blk_put (cs' := #[a0, v1, a2, a3]) h 1 v1 rfl
  have h2 := blk_put (cs' := #[a0, v1, v2, a3]) h1 2 v2 rfl
  exact blk_put (cs' := #[a0, v1, v2, v3]) h2 3 v3 rfl
theorem below_put4 {B : Nat} {w0 w : World} {g : Nat} (h : Below B w0 w) (hg : B ≤ g) (v1 v2 v3 : Value) :
    Below B w0 (((w.setCell ⟨g, 1, none⟩ v1).setCell ⟨g, 2, none⟩ v2).setCell ⟨g, 3, none⟩ v3) :=
  ((h.setCell (p := ⟨g, 1, none⟩) hg v1).setCell (p := ⟨g, 2, none⟩) hg v2).setCell (p := ⟨g, 3, none⟩) hg v3
theorem grown_put {w w' : World} {g i : Nat} (h : w.grownBy w' (some g)) (v : Value) : w.grownBy (w'.setCell ⟨g, i, none⟩ v) (some g) :=
  ⟨h.os, h.tape, h.output, by simpa [World.setCell] using h.size, fun k hk hne => (Below.heap_setCell _ _ _ _ (by rintro rfl; exact hne rfl)).trans (h.block k hk hne)⟩
def StepOkO (P : Program) (ops : Array Oper) (Q : Exit → Act → World → Prop) (V : Nat → Value → World → Prop) (RD PD FD : World → Prop) (b jw : Nat) (a0 : Act) (base : Nat) (w0 : World) (i : Nat) : Prop :=
  ∀ oi a W, ops[i]? = some oi → Same ops a0 a → Below base w0 W → (∀ j, waitsA oi j = true → Has ops V a W j) → RD W → (i = jw → PD W) →
    if Region.wanted oi (yielded ops a.tmps) = true then oi.wp P a W (fun a' W' => ∃ v, a' = a.put oi.dst v ∧ (oi.dst ≠ none → V i v W') ∧ W.grownBy W' (if i = jw then some b else none) ∧ (i = jw → FD W')) Q else (oi.dst ≠ none → V i undef W) ∧ i ≠ jw
theorem one_any {P : Program} {n base b jw : Nat} {ops : Array Oper} {Q : Exit → Act → World → Prop} {a0 : Act} {w0 w1 : World} (V : Nat → Value → World → Prop) (RD PD FD : World → Prop)
    (hn : ops.size = n) (hj : jw < n) (hV : ∀ j v W W', V j v W → V j v W') (hd : dstsOk ops a0.tmps.size = true) (hback : backA ops = true) (hbb : base ≤ b)
    (hRD : ∀ W W' row, (row = none ∨ row = some b) → RD W → W.grownBy W' row → RD W') (hFD : ∀ W W', FD W → W.grownBy W' none → FD W') (hPD : ∀ W W', PD W → W.grownBy W' none → PD W')
    (hB0 : Below base w0 w1) (hsz : base ≤ w0.heap.size) (hR0 : RD w1) (hP0 : PD w1)
    (hs : ∀ i, i < n → StepOkO P ops Q V RD PD FD b jw a0 base w0 i)
    (he : ∀ a W, Same ops a0 a → Below base w0 W → (∀ j, j < n → Has ops V a W j) → RD W → FD W → Q .normal a W) :
    wpAny P .any ops Q n (Array.replicate n false) a0 w1 := by
  refine flow_any (base := base) (w0 := w0) V (fun i W => RD W ∧ (i = jw → FD W)) (fun i W => RD W ∧ (i = jw → PD W)) (fun i => if i = jw then some b else none) hn hd hback (fun i j _ _ _ _ v W W' _ _ hv => hV j v W W' hv) ?_ ?_ hB0 (fun _ _ => ⟨hR0, fun _ => hP0⟩) ?_ (fun a W hS hB hh => he a W hS hB (fun j hj => (hh j hj).1) (hh jw hj).2.1 ((hh jw hj).2.2 rfl))
  · intro i j _ _ hij _ W W' _ hg ⟨h1, h2⟩
    refine ⟨hRD W W' _ ?_ h1 hg, fun e => ?_⟩
    · split
      · exact .inr rfl
      · exact .inl rfl
    · rw [if_neg (by omega)] at hg
      exact hFD W W' (h2 e) hg
  · intro i j _ _ hij _ W W' _ hg ⟨h1, h2⟩
    refine ⟨hRD W W' _ ?_ h1 hg, fun e => ?_⟩
    · split
      · exact .inr rfl
      · exact .inl rfl
    · rw [if_neg (by omega)] at hg
      exact hPD W W' (h2 e) hg
  · intro i hi oi a W hoi hS hB hdp hG
    have h := hs i hi oi a W hoi hS hB (fun j hj => (hdp j (by rw [waits_is hoi]; exact hj)).1) hG.1 hG.2
    split
    · rename_i hw
      rw [if_pos hw] at h
      refine Oper.wp_mono (fun a' W' ⟨v, h1, h2, h3, h4⟩ => ⟨v, h1, h2, ⟨hRD W W' _ ?_ hG.1 h3, h4⟩, h3, hB.grown h3 (Nat.le_trans hsz hB.size) ?_⟩) h
      · split
        · exact .inr rfl
        · exact .inl rfl
      · intro k hk
        split at hk
        · cases hk; exact hbb
        · cases hk
    · rename_i hw
      rw [if_neg hw] at h
      exact ⟨h.1, hG.1, fun e => absurd e h.2⟩
theorem region_one {P : Program} {id n base b jw : Nat} {ops : Array Oper} {Q : Exit → Act → World → Prop} {a0 : Act} {w0 w : World} (V : Nat → Value → World → Prop) (RD PD FD : World → Prop)
    (hm : P.follows .mixedOrders = true) (hn : ops.size = n) (hj : jw < n) (hV : ∀ j v W W', V j v W → V j v W') (hd : dstsOk ops a0.tmps.size = true) (hback : backA ops = true) (hbb : base ≤ b)
    (hRD : ∀ W W' row, (row = none ∨ row = some b) → RD W → W.grownBy W' row → RD W') (hFD : ∀ W W', FD W → W.grownBy W' none → FD W') (hPD : ∀ W W', PD W → W.grownBy W' none → PD W')
    (hB0 : Below base w0 w) (hsz : base ≤ w0.heap.size) (hR0 : RD w) (hP0 : PD w)
    (hs : ∀ i, i < n → StepOkO P ops Q V RD PD FD b jw a0 base w0 i)
    (he : ∀ a W, Same ops a0 a → Below base w0 W → (∀ j, j < n → Has ops V a W j) → RD W → FD W → Q .normal a W) :
    (Code.region id ops true).wp P Q a0 w := by
  refine wp_region_any hm ?_
  have hbd : Below w.heap.size w { w with drawn := w.drawn + 1 } := ⟨rfl, rfl, rfl, Nat.le_refl _, fun _ _ => rfl⟩
  have := one_any (P := P) (Q := Q) (w0 := w0) (w1 := { w with drawn := w.drawn + 1 }) V RD PD FD hn hj hV hd hback hbb hRD hFD hPD (hB0.trans (hbd.mono (Nat.le_trans hsz hB0.size))) hsz (hRD _ _ none (.inl rfl) hR0 (grownBy_none hbd)) (hPD _ _ hP0 (grownBy_none hbd)) hs he
  rw [hn]; exact this
theorem byList_any {l : List (Value → World → Prop)} (h : ∀ p ∈ l, ∀ v W W', p v W → p v W') : ∀ j v W W', byList l j v W → byList l j v W' := by
  intro i v W W' hp
  unfold byList at hp ⊢
  cases hl : l[i]? with
  | none => trivial
  | some p => rw [hl] at hp; exact h p (List.mem_of_getElem? hl) v W W' hp
section
variable {P : Program} {ops : Array Oper} {Q : Exit → Act → World → Prop} {V : Nat → Value → World → Prop} {RD PD FD : World → Prop} {b jw : Nat} {a0 : Act} {base : Nat} {w0 : World} {i : Nat}
theorem StepOkO.run {o : Oper} (ho : ops[i]? = some o) (hg : o.guard = none) (hij : i ≠ jw)
    (h : ∀ a W, Same ops a0 a → Below base w0 W → (∀ j, waitsA o j = true → Has ops V a W j) → RD W → o.wp P a W (fun a' W' => ∃ v, a' = a.put o.dst v ∧ V i v W' ∧ Below W.heap.size W W') Q) : StepOkO P ops Q V RD PD FD b jw a0 base w0 i := by
  intro oi a W hoi hS hB hd hR hP
  obtain rfl : o = oi := by rw [ho] at hoi; exact Option.some.inj hoi
  rw [if_pos (wanted_none hg), if_neg hij]
  exact Oper.wp_mono (fun a' W' ⟨v, h1, h2, h3⟩ => ⟨v, h1, fun _ => h2, grownBy_none h3, fun e => absurd e hij⟩) (h a W hS hB hd hR)
theorem StepOkO.on {o og : Oper} {g : Nat} {t : Tmp} {u : Bool} (ho : ops[i]? = some o) (hg : o.guard = some (g, u)) (hij : i ≠ jw) (hog : ops[g]? = some og) (hdt : og.dst = some t) (hw : waitsA o g = true) (hV : V g = isV (.bool u))
    (h : ∀ a W, Same ops a0 a → Below base w0 W → (∀ j, waitsA o j = true → Has ops V a W j) → RD W → o.wp P a W (fun a' W' => ∃ v, a' = a.put o.dst v ∧ V i v W' ∧ Below W.heap.size W W') Q) : StepOkO P ops Q V RD PD FD b jw a0 base w0 i := by
  intro oi a W hoi hS hB hd hR hP
  obtain rfl : o = oi := by rw [ho] at hoi; exact Option.some.inj hoi
  have hv := (hd g hw).bool hog hdt hV
  rw [if_pos (by rw [wanted_get hg hog hdt hv]; simp), if_neg hij]
  exact Oper.wp_mono (fun a' W' ⟨v, h1, h2, h3⟩ => ⟨v, h1, fun _ => h2, grownBy_none h3, fun e => absurd e hij⟩) (h a W hS hB hd hR)
theorem StepOkO.write {o : Oper} (ho : ops[i]? = some o) (hg : o.guard = none) (hdn : o.dst = none) (hij : i = jw)
    (h : ∀ a W, Same ops a0 a → Below base w0 W → (∀ j, waitsA o j = true → Has ops V a W j) → RD W → PD W → ∃ W', (execOp a.eval o).run P W = .ok .skip W' ∧ W.grownBy W' (some b) ∧ FD W') : StepOkO P ops Q V RD PD FD b jw a0 base w0 i := by
  intro oi a W hoi hS hB hd hR hP
  obtain rfl : o = oi := by rw [ho] at hoi; exact Option.some.inj hoi
  rw [if_pos (wanted_none hg), if_pos hij]
  obtain ⟨W', h1, h2, h3⟩ := h a W hS hB hd hR (hP hij)
  unfold Oper.wp
  rw [h1]
  exact ⟨undef, rfl, fun hn => absurd hdn hn, h2, fun _ => h3⟩
end
end Go.Proofs.Ythpbkhagjgggjaa
