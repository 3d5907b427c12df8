/- A region of open order whose last operation waits for all others; those only read, reckon, or make new memory. -/
import Derived.Test.YthpbkhagjgggjaaCuS
set_option linter.unusedVariables false
set_option linter.unusedSimpArgs false
namespace Go.Proofs.Ythpbkhagjgggjaa
open Go.RowKit Go.Proofs.YthpbkhagjgggjaaW.PrintWords

theorem last_any {P : Program} {n base : Nat} {ops : Array Oper} {Q : Exit → Act → World → Prop} {a0 : Act} {w0 w1 : World} (V : Nat → Value → World → Prop)
    (hn : ops.size = n + 1) (hV : ∀ j v W W', V j v W → Below W.heap.size W W' → V j v W') (hd : dstsOk ops a0.tmps.size = true) (hback : backA ops = true) (hsz : base ≤ w0.heap.size)
    (hB0 : Below base w0 w1) (hw : ∀ j, j < n → waits ops n j = true) (hg : ∀ o, ops[n]? = some o → o.guard = none)
    (hs : ∀ i, i < n → ∀ oi a W, ops[i]? = some oi → Same ops a0 a → Below base w0 W → (∀ j, waitsA oi j = true → Has ops V a W j) →
      if Region.wanted oi (yielded ops a.tmps) = true then oi.wp P a W (fun a' W' => ∃ v, a' = a.put oi.dst v ∧ (oi.dst ≠ none → V i v W') ∧ Below W.heap.size W W') Q else (oi.dst ≠ none → V i undef W))
    (he : ∀ o a W, ops[n]? = some o → Same ops a0 a → Below base w0 W → (∀ j, j < n → Has ops V a W j) → o.wp P a W (fun a' W' => Q .normal a' W') Q) :
    wpAny P .any ops Q (n + 1) (Array.replicate (n + 1) false) a0 w1 := by
  refine wpAny_rel (n + 1) hn (fun l a W => (l.getD n true = false ∧ Same ops a0 a ∧ Below base w0 W ∧ ∀ j, j < n → l.getD j true = true → Has ops V a W j) ∨ ((∀ j, l.getD j true = true) ∧ Q .normal a W)) ?_ ?_ _ _ _ _ (by simp) ?_ ?_
  · intro l a W i hl hI hi
    obtain ⟨hu, oi, hoi, hall⟩ := mem_ready.1 hi
    have hlt : i < n + 1 := by have := (Array.getElem?_eq_some_iff.1 hoi).1; omega
    rcases hI with ⟨h0, h1, h2, h3⟩ | ⟨h0, _⟩
    · have hdep : ∀ j, waits ops i j = true → l.getD j true = true ∧ j < n := by
        intro j hj
        unfold waits at hj
        rw [hoi] at hj
        obtain ⟨e, hem, hej⟩ := List.any_eq_true.1 hj
        rw [Bool.and_eq_true] at hej
        have hej2 : e.on = j := by simpa using hej.2
        have hle := hall e (Array.mem_toList_iff.1 hem) hej.1
        rw [hej2] at hle
        have hjl := backA_lt hback hoi (Array.mem_toList_iff.1 hem) hej.1
        have : j < l.size := by omega
        refine ⟨?_, by omega⟩
        simp only [Array.getD_eq_getD_getElem?, Array.getElem?_eq_getElem this, Option.getD_some] at hle ⊢
        exact hle
      by_cases hin : i < n
      · have hstep := hs i hin oi a W hoi h1 h2 (fun j hj => h3 j (hdep j (by rw [waits_is hoi]; exact hj)).2 (hdep j (by rw [waits_is hoi]; exact hj)).1)
        have next : ∀ a' W' v, a' = a.put oi.dst v → (oi.dst ≠ none → V i v W') → Below W.heap.size W W' →
            ((l.setIfInBounds i true).getD n true = false ∧ Same ops a0 a' ∧ Below base w0 W' ∧ ∀ j, j < n → (l.setIfInBounds i true).getD j true = true → Has ops V a' W' j) ∨ ((∀ j, (l.setIfInBounds i true).getD j true = true) ∧ Q .normal a' W') := by
          intro a' W' v ha hv hb
          subst ha
          refine .inl ⟨by rw [getD_set_ne true (by omega)]; exact h0, ?_, h2.trans (hb.mono (Nat.le_trans hsz h2.size)), ?_⟩
          · cases hod : oi.dst with
            | none => exact h1
            | some d =>
              refine ⟨by simp [Act.put, h1.1], h1.2.1, fun t ht => ?_⟩
              have hne : d ≠ t := by
                intro e
                have := List.all_eq_true.1 ht oi (Array.mem_toList_iff.2 (Array.mem_of_getElem? hoi))
                rw [hod, e] at this; simp at this
              show (a.tmps.setIfInBounds d v)[t]? = _
              rw [Array.getElem?_setIfInBounds_ne hne]
              exact h1.2.2 t ht
          · intro j hj hlj
            by_cases hij : i = j
            · subst hij
              intro oj d hoj hdj
              obtain rfl : oi = oj := by rw [hoi] at hoj; exact Option.some.inj hoj
              refine ⟨v, ?_, hv (by simp [hdj])⟩
              rw [hdj]
              show (a.tmps.setIfInBounds d v)[d]? = _
              rw [Array.getElem?_setIfInBounds_self]
              have := dst_lt hd hoi hdj
              rw [if_pos (by rw [h1.1]; exact this)]
            · rw [getD_set_ne true hij] at hlj
              intro oj d hoj hdj
              obtain ⟨u, hu1, hu2⟩ := h3 j hj hlj oj d hoj hdj
              refine ⟨u, ?_, hV j u W W' hu2 hb⟩
              cases hod : oi.dst with
              | none => exact hu1
              | some d' =>
                have hne : d' ≠ d := by
                  intro e; subst e
                  exact hij (dst_inj hd hoi hoj hod hdj)
                show (a.tmps.setIfInBounds d' v)[d]? = _
                rw [Array.getElem?_setIfInBounds_ne hne]
                exact hu1
        unfold wpOp
        rw [hoi]
        dsimp only
        split
        · rename_i hwt
          rw [if_pos hwt] at hstep
          refine .inl (Oper.wp_mono ?_ hstep)
          rintro a' W' ⟨v, ha, hv, hb⟩
          exact next a' W' v ha hv hb
        · rename_i hwt
          rw [if_neg hwt] at hstep
          exact next _ W undef rfl hstep (Below.refl _ _)
      · obtain rfl : i = n := by omega
        have hlast := he oi a W hoi h1 h2 (fun j hj => h3 j hj (hdep j (hw j hj)).1)
        unfold wpOp
        rw [hoi]
        dsimp only
        rw [if_pos (wanted_none (hg oi hoi))]
        refine .inl (Oper.wp_mono ?_ hlast)
        intro a' W' hq
        refine .inr ⟨fun j => ?_, hq⟩
        by_cases hji : i = j
        · subst hji
          rw [Array.getD_eq_getD_getElem?, Array.getElem?_setIfInBounds_self, if_pos (by omega)]; rfl
        · rw [getD_set_ne true hji]
          by_cases hjn : j < i
          · exact (hdep j (hw j hjn)).1
          · rw [Array.getD_eq_getD_getElem?, Array.getElem?_eq_none (by omega)]; rfl
    · rw [h0 i] at hu; cases hu
  · intro l a W hl hI hr
    rcases hI with ⟨h0, h1, h2, h3⟩ | ⟨_, hq⟩
    · exfalso
      have hall : ∀ m, m ≤ n + 1 → ∀ j, j < m → l.getD j true = true := by
        intro m
        induction m with
        | zero => intro _ j hj; omega
        | succ m ih =>
          intro hm' j hj
          by_cases hjm : j < m
          · exact ih (by omega) j hjm
          · obtain rfl : j = m := by omega
            cases hgj : l.getD j true with
            | true => rfl
            | false =>
              exfalso
              have hjs : j < ops.size := by omega
              have hmem : j ∈ Region.ready .any ops l := by
                refine mem_ready.2 ⟨hgj, ops[j], Array.getElem?_eq_getElem hjs, fun e he heb => ?_⟩
                have hlt := backA_lt hback (Array.getElem?_eq_getElem hjs) he heb
                have := ih (by omega) e.on hlt
                have hls : e.on < l.size := by omega
                simp only [Array.getD_eq_getD_getElem?, Array.getElem?_eq_getElem hls, Option.getD_some] at this ⊢
                exact this
              rw [hr] at hmem; cases hmem
      rw [hall (n + 1) (Nat.le_refl _) n (by omega)] at h0
      cases h0
    · exact hq
  · unfold unl
    refine Nat.le_trans (List.length_filter_le _ _) ?_
    simp
  · have hrep : ∀ j, j < n + 1 → (Array.replicate (n + 1) false).getD j true = false := fun j hj => by simp [Array.getElem?_replicate, hj]
    refine .inl ⟨hrep n (by omega), ⟨rfl, rfl, fun _ _ => rfl⟩, hB0, fun j hj hl => ?_⟩
    rw [hrep j (by omega)] at hl; cases hl
theorem region_last {P : Program} {id n : Nat} {ops : Array Oper} {Q : Exit → Act → World → Prop} {a0 : Act} {w : World} (V : Nat → Value → World → Prop)
    (hm : P.follows .mixedOrders = true) (hn : ops.size = n + 1) (hV : ∀ j v W W', V j v W → Below W.heap.size W W' → V j v W') (hd : dstsOk ops a0.tmps.size = true) (hback : backA ops = true)
    (hw : ∀ j, j < n → waits ops n j = true) (hg : ∀ o, ops[n]? = some o → o.guard = none)
    (hs : ∀ i, i < n → StepOkA P ops Q V a0 w i)
    (he : ∀ o a W, ops[n]? = some o → Same ops a0 a → Below w.heap.size w W → (∀ j, j < n → Has ops V a W j) → o.wp P a W (fun a' W' => Q .normal a' W') Q) :
    (Code.region id ops true).wp P Q a0 w := by
  refine wp_region_any hm ?_
  have hbd : Below w.heap.size w { w with drawn := w.drawn + 1 } := ⟨rfl, rfl, rfl, Nat.le_refl _, fun _ _ => rfl⟩
  have := last_any (P := P) (Q := Q) (base := w.heap.size) (w0 := w) (w1 := { w with drawn := w.drawn + 1 }) V hn hV hd hback (Nat.le_refl _) hbd hw hg hs he
  rw [hn]; exact this
end Go.Proofs.Ythpbkhagjgggjaa
