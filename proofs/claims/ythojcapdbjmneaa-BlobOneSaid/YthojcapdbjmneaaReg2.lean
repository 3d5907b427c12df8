/- A region of open order in which a slot is read before the region writes it. -/
import Derived.Test.YthojcapdbjmneaaReg
set_option linter.unusedVariables false
set_option linter.unusedSimpArgs false
namespace Go.Proofs.Ythojcapdbjmneaa
open Go.RowKit Go.Proofs.YthojcapdbjmneaaW.PrintWords

/-- What waits for operation i has not written yet. -/
def Early (ops : Array Oper) (a0 a : Act) (i : Nat) : Prop := ∀ (j : Nat) (oj : Oper) (d : Nat), ops[j]? = some oj → waitsFor oj i = true → oj.dst = some d → a.tmps[d]? = a0.tmps[d]?
theorem Early.get {ops : Array Oper} {a0 a : Act} {i j d : Nat} {oj : Oper} {c : Value} (h : Early ops a0 a i) (hoj : ops[j]? = some oj) (hw : waitsFor oj i = true) (hd : oj.dst = some d) (hc : a0.tmps[d]? = some c) : a.tmps[d]? = some c := by
  rw [h j oj d hoj hw hd, hc]
def StepOk2 (P : Program) (ops : Array Oper) (Q : Exit → Act → World → Prop) (V : Nat → Value → World → Prop) (a0 : Act) (w0 : World) (i : Nat) : Prop :=
  ∀ oi a W, ops[i]? = some oi → Same ops a0 a → Below w0.heap.size w0 W → (∀ e ∈ oi.after, Has ops V a W e.on) → Early ops a0 a i →
    if Region.wanted oi (yielded ops a.tmps) = true then oi.wp P a W (fun a' W' => ∃ v, a' = a.put oi.dst v ∧ (oi.dst ≠ none → V i v W') ∧ Below W.heap.size W W') Q else (oi.dst ≠ none → V i undef W)
theorem StepOk2.of {P : Program} {ops : Array Oper} {Q : Exit → Act → World → Prop} {V : Nat → Value → World → Prop} {a0 : Act} {w0 : World} {i : Nat} (h : StepOk P ops Q V a0 w0 i) : StepOk2 P ops Q V a0 w0 i := fun oi a W h1 h2 h3 h4 _ => h oi a W h1 h2 h3 h4
theorem StepOk2.run {P : Program} {ops : Array Oper} {Q : Exit → Act → World → Prop} {V : Nat → Value → World → Prop} {a0 : Act} {w0 : World} {i : Nat} {o : Oper} (ho : ops[i]? = some o) (hg : o.guard = none)
    (h : ∀ a W, Same ops a0 a → Below w0.heap.size w0 W → (∀ j, waitsFor o j = true → Has ops V a W j) → Early ops a0 a i → o.wp P a W (fun a' W' => ∃ v, a' = a.put o.dst v ∧ V i v W' ∧ Below W.heap.size W W') Q) : StepOk2 P ops Q V a0 w0 i := by
  intro oi a W hoi hS hB hd hE
  obtain rfl : o = oi := by rw [ho] at hoi; exact Option.some.inj hoi
  rw [if_pos (wanted_none hg)]
  exact Oper.wp_mono (fun a' W' ⟨v, h1, h2, h3⟩ => ⟨v, h1, fun _ => h2, h3⟩) (h a W hS hB (deps_of hd) hE)
theorem region_calm2 {P : Program} {id n : Nat} {ops : Array Oper} {Q : Exit → Act → World → Prop} {a0 : Act} {w : World} (V : Nat → Value → World → Prop)
    (hm : P.follows .mixedOrders = true) (hn : ops.size = n) (hV : Lasts V) (hd : dstsOk ops a0.tmps.size = true)
    (hback : backB ops = true) (hbind : (ops.all fun o => o.after.all fun e => Region.binds .any e) = true)
    (hs : ∀ i, i < n → StepOk2 P ops Q V a0 w i)
    (he : ∀ a W, Same ops a0 a → Below w.heap.size w W → (∀ j, j < n → Has ops V a W j) → Q .normal a W) :
    (Code.region id ops true).wp P Q a0 w := by
  refine wp_region_any hm ?_
  refine wpAny_rel n hn (fun l a W => (Same ops a0 a ∧ Below w.heap.size w W ∧ ∀ j, j < n → l.getD j true = true → Has ops V a W j) ∧ (∀ j, j < n → l.getD j true = false → ∀ oj d, ops[j]? = some oj → oj.dst = some d → a.tmps[d]? = a0.tmps[d]?) ∧ (∀ j, j < n → l.getD j true = true → ∀ oj, ops[j]? = some oj → ∀ e ∈ oj.after, l.getD e.on true = true)) ?_ ?_ _ _ _ _ (by simp [hn]) ?_ ?_
  · intro l a W i hl ⟨⟨h1, h2, h3⟩, h4, h5⟩ hi
    obtain ⟨hu, oi, hoi, hall⟩ := mem_ready.1 hi
    have hlt : i < n := by have := (Array.getElem?_eq_some_iff.1 hoi).1; omega
    have hdeps : ∀ e ∈ oi.after, Has ops V a W e.on := by
      intro e hem oj d hj hdj
      have hb : Region.binds .any e = true := by
        have := Array.all_eq_true'.1 hbind oi (Array.mem_of_getElem? hoi)
        exact Array.all_eq_true'.1 this e hem
      have hle := hall e hem hb
      have hje : e.on < n := by have := (Array.getElem?_eq_some_iff.1 hj).1; omega
      have hle' : l.getD e.on true = true := by
        have : e.on < l.size := by omega
        simp only [Array.getD_eq_getD_getElem?, Array.getElem?_eq_getElem this, Option.getD_some] at hle ⊢
        exact hle
      exact h3 e.on hje hle' oj d hj hdj
    have hui : l.getD i true = false := hu
    have hearly : Early ops a0 a i := by
      intro j oj d hoj hw hdj
      have hj : j < n := by have := (Array.getElem?_eq_some_iff.1 hoj).1; omega
      cases hlj : l.getD j true with
      | false => exact h4 j hj hlj oj d hoj hdj
      | true =>
        exfalso
        obtain ⟨e, he', hej⟩ := List.any_eq_true.1 hw
        have := h5 j hj hlj oj hoj e (Array.mem_toList_iff.1 he')
        rw [show e.on = i by simpa using hej, hui] at this
        cases this
    have hafter : ∀ e ∈ oi.after, l.getD e.on true = true := by
      intro e hem
      have hb : Region.binds .any e = true := by
        have := Array.all_eq_true'.1 hbind oi (Array.mem_of_getElem? hoi)
        exact Array.all_eq_true'.1 this e hem
      have hle := hall e hem hb
      have hje := back_lt hback hoi hem
      have : e.on < l.size := by omega
      simp only [Array.getD_eq_getD_getElem?, Array.getElem?_eq_getElem this, Option.getD_some] at hle ⊢
      exact hle
    have hstep := hs i hlt oi a W hoi h1 h2 hdeps hearly
    have next : ∀ a' W' v, a' = a.put oi.dst v → (oi.dst ≠ none → V i v W') → Below W.heap.size W W' →
        (Same ops a0 a' ∧ Below w.heap.size w W' ∧ ∀ j, j < n → (l.setIfInBounds i true).getD j true = true → Has ops V a' W' j) ∧ (∀ j, j < n → (l.setIfInBounds i true).getD j true = false → ∀ oj d, ops[j]? = some oj → oj.dst = some d → a'.tmps[d]? = a0.tmps[d]?) ∧ (∀ j, j < n → (l.setIfInBounds i true).getD j true = true → ∀ oj, ops[j]? = some oj → ∀ e ∈ oj.after, (l.setIfInBounds i true).getD e.on true = true) := by
      intro a' W' v ha hv hb
      subst ha
      refine ⟨?_, ?_, ?_⟩
      rotate_left
      · intro j hj hlj oj d hoj hdj
        have hij : i ≠ j := by
          intro e
          subst e
          simp [Array.getElem?_setIfInBounds, hl, hlt] at hlj
        rw [getD_set_ne true hij] at hlj
        rw [← h4 j hj hlj oj d hoj hdj]
        cases hod : oi.dst with
        | none => rfl
        | some d' =>
          have hne : d' ≠ d := by
            intro e; subst e
            exact hij (dst_inj hd hoi hoj hod hdj)
          show (a.tmps.setIfInBounds d' v)[d]? = _
          rw [Array.getElem?_setIfInBounds_ne hne]
      · intro j hj hlj oj hoj e hem
        by_cases hie : i = e.on
        · rw [← hie]; simp [Array.getElem?_setIfInBounds, hl, hlt]
        · rw [getD_set_ne true hie]
          by_cases hij : i = j
          · subst hij
            obtain rfl : oi = oj := by rw [hoi] at hoj; exact Option.some.inj hoj
            exact hafter e hem
          · rw [getD_set_ne true hij] at hlj
            exact h5 j hj hlj oj hoj e hem
      refine ⟨?_, h2.trans (hb.mono h2.size), ?_⟩
      · cases hod : oi.dst with
        | none => exact h1
        | some d =>
          refine ⟨by simp [Act.put, h1.1], h1.2.1, fun t ht => ?_⟩
          have hne : d ≠ t := by
            intro e
            have := List.all_eq_true.1 ht oi (Array.mem_toList_iff.2 (Array.mem_of_getElem? hoi))
            rw [hod, e] at this; simp at this
          show (a.tmps.setIfInBounds d v)[t]? = _
          rw [Array.getElem?_setIfInBounds_ne hne]
          exact h1.2.2 t ht
      · intro j hj hlj oj d hoj hdj
        by_cases hij : i = j
        · subst hij
          obtain rfl : oi = oj := by rw [hoi] at hoj; exact Option.some.inj hoj
          refine ⟨v, ?_, hv (by simp [hdj])⟩
          rw [hdj]
          show (a.tmps.setIfInBounds d v)[d]? = _
          rw [Array.getElem?_setIfInBounds_self]
          have := dst_lt hd hoi hdj
          rw [if_pos (by rw [h1.1]; exact this)]
        · rw [getD_set_ne true hij] at hlj
          obtain ⟨u, hu1, hu2⟩ := h3 j hj hlj oj d hoj hdj
          refine ⟨u, ?_, hV j u W W' hu2 hb⟩
          cases hod : oi.dst with
          | none => exact hu1
          | some d' =>
            have hne : d' ≠ d := by
              intro e; subst e
              exact hij (dst_inj hd hoi hoj hod hdj)
            show (a.tmps.setIfInBounds d' v)[d]? = _
            rw [Array.getElem?_setIfInBounds_ne hne]
            exact hu1
    unfold wpOp
    rw [hoi]
    dsimp only
    split
    · rename_i hw
      rw [if_pos hw] at hstep
      refine .inl (Oper.wp_mono ?_ hstep)
      rintro a' W' ⟨v, ha, hv, hb⟩
      exact next a' W' v ha hv hb
    · rename_i hw
      rw [if_neg hw] at hstep
      exact next _ W undef rfl hstep (Below.refl _ _)
  · intro l a W hl ⟨⟨h1, h2, h3⟩, h4, h5⟩ hr
    refine he a W h1 h2 ?_
    have hall : ∀ m, m ≤ n → ∀ j, j < m → l.getD j true = true := by
      intro m
      induction m with
      | zero => intro _ j hj; omega
      | succ m ih =>
        intro hm' j hj
        by_cases hjm : j < m
        · exact ih (by omega) j hjm
        · obtain rfl : j = m := by omega
          cases hg : l.getD j true with
          | true => rfl
          | false =>
            exfalso
            have hjs : j < ops.size := by omega
            have hmem : j ∈ Region.ready .any ops l := by
              refine mem_ready.2 ⟨hg, ops[j], Array.getElem?_eq_getElem hjs, fun e he _ => ?_⟩
              have hlt := back_lt hback (Array.getElem?_eq_getElem hjs) he
              have := ih (by omega) e.on hlt
              have hls : e.on < l.size := by omega
              simp only [Array.getD_eq_getD_getElem?, Array.getElem?_eq_getElem hls, Option.getD_some] at this ⊢
              exact this
            rw [hr] at hmem; cases hmem
    exact fun j hj => h3 j hj (hall n (Nat.le_refl _) j hj)
  · unfold unl
    refine Nat.le_trans (List.length_filter_le _ _) ?_
    simp [hn]
  · refine ⟨⟨⟨rfl, rfl, fun _ _ => rfl⟩, ⟨rfl, rfl, rfl, Nat.le_refl _, fun _ _ => rfl⟩, fun j hj hl => ?_⟩, fun _ _ _ _ _ _ _ => rfl, fun j hj hl => ?_⟩ <;>
   · skip
     exfalso
     rw [hn] at hl
     simp [Array.getElem?_replicate, hj] at hl
end Go.Proofs.Ythojcapdbjmneaa
