/- A region of open order whose operations only read, reckon, or make new memory: each operation is shown once, whatever came up before it. -/
import Derived.Test.YtfflenbfapgilaaMy
import Derived.Orders
set_option linter.unusedVariables false
set_option linter.unusedSimpArgs false
namespace Go.Proofs.Ytfflenbfapgilaa
open Go.RowKit Go.Proofs.YtfflenbfapgilaaW.PrintWords

/-- The count of what is not listed. -/
def unl (n : Nat) (l : Array Bool) : Nat := ((List.range n).filter fun j => !l.getD j true).length
theorem unl_set {n i : Nat} {l : Array Bool} (hi : i < n) (hl : l.size = n) (h : l.getD i true = false) : unl n (l.setIfInBounds i true) + 1 = unl n l := by
  unfold unl
  have key : ∀ (m : List Nat), m.Nodup → i ∈ m → (m.filter fun j => !(l.setIfInBounds i true).getD j true).length + 1 = (m.filter fun j => !l.getD j true).length := by
    intro m
    induction m with
    | nil => intro _ h; cases h
    | cons x m ih =>
      intro hnd hm
      obtain ⟨hx, hnd'⟩ := List.nodup_cons.1 hnd
      by_cases hxi : x = i
      · subst hxi
        have hsame : (m.filter fun j => !(l.setIfInBounds x true).getD j true) = m.filter fun j => !l.getD j true := by
          apply List.filter_congr
          intro j hj
          rw [getD_set_ne true (fun e => hx (by subst e; exact hj))]
        have hg : (l.setIfInBounds x true).getD x true = true := by
          simp [Array.getElem?_setIfInBounds, hl, hi]
        rw [List.filter_cons, List.filter_cons, hg, h, hsame]
        simp
      · have hm' : i ∈ m := by
          rcases List.mem_cons.1 hm with e | e
          · exact absurd e.symm hxi
          · exact e
        have hg : (l.setIfInBounds i true).getD x true = l.getD x true := getD_set_ne true (fun e => hxi e.symm)
        have ih' := ih hnd' hm'
        rw [List.filter_cons, List.filter_cons, hg]
        cases l.getD x true
        · simp only [Bool.not_false, if_true, List.length_cons]; omega
        · simp only [Bool.not_true, Bool.false_eq_true, if_false]; exact ih'
  exact key _ List.nodup_range (List.mem_range.2 hi)
section
variable {P : Program} {ops : Array Oper} {Q : Exit → Act → World → Prop} {md : Region.Mode}
theorem ready_nil_of_all {n : Nat} {l : Array Bool} (hn : ops.size = n) (hl : l.size = n) (h : unl n l = 0) : Region.ready md ops l = [] := by
  apply List.eq_nil_iff_forall_not_mem.2
  intro i hi
  obtain ⟨h1, o, ho, _⟩ := mem_ready.1 hi
  have hlt : i < n := by
    have := (Array.getElem?_eq_some_iff.1 ho).1; omega
  have : i ∈ (List.range n).filter fun j => !l.getD j true := List.mem_filter.2 ⟨List.mem_range.2 hlt, by simp [h1]⟩
  unfold unl at h
  rw [List.eq_nil_of_length_eq_zero h] at this
  cases this
/-- Any order, by a relation over what is listed. -/
theorem wpAny_rel (n : Nat) (hn : ops.size = n) (I : Array Bool → Act → World → Prop)
    (hs : ∀ l a w i, l.size = n → I l a w → i ∈ Region.ready md ops l → wpOp P ops Q i (fun a' w' => I (l.setIfInBounds i true) a' w') a w)
    (he : ∀ l a w, l.size = n → I l a w → Region.ready md ops l = [] → Q .normal a w) :
    ∀ (fuel : Nat) (l : Array Bool) (a : Act) (w : World), l.size = n → unl n l ≤ fuel → I l a w → wpAny P md ops Q fuel l a w := by
  intro fuel
  induction fuel with
  | zero =>
    intro l a w hl hf hI
    have hr := ready_nil_of_all (md := md) hn hl (by omega)
    exact ⟨hr, he l a w hl hI hr⟩
  | succ fuel ih =>
    intro l a w hl hf hI
    refine ⟨he l a w hl hI, fun i hi => ?_⟩
    refine wpOp_mono (fun a' w' hI' => ?_) (hs l a w i hl hI hi)
    obtain ⟨h1, o, ho, _⟩ := mem_ready.1 hi
    have hlt : i < n := by have := (Array.getElem?_eq_some_iff.1 ho).1; omega
    exact ih _ _ _ (by simpa using hl) (by have := unl_set hlt hl h1; omega) hI'
end
/-- What the region's operation number i leaves in its slot: said of the value and the world; it lasts. -/
def Lasts (V : Nat → Value → World → Prop) : Prop := ∀ i v W W', V i v W → Below W.heap.size W W' → V i v W'
/-- The frame, while the region runs: what it does not write is as it was. -/
def Same (ops : Array Oper) (a0 a : Act) : Prop :=
  a.tmps.size = a0.tmps.size ∧ a.defers = a0.defers ∧ ∀ t, (ops.toList.all fun o => o.dst != some t) = true → a.tmps[t]? = a0.tmps[t]?
/-- The slot of operation j holds what it is to hold. -/
def Has (ops : Array Oper) (V : Nat → Value → World → Prop) (a : Act) (W : World) (j : Nat) : Prop :=
  ∀ oj d, ops[j]? = some oj → oj.dst = some d → ∃ v, a.tmps[d]? = some v ∧ V j v W
def dstsOk (ops : Array Oper) (m : Nat) : Bool :=
  decide ((ops.toList.filterMap (·.dst)).Nodup) && ops.all fun o => match o.dst with | some d => decide (d < m) | none => true
theorem dst_inj {ops : Array Oper} {m i j d : Nat} {oi oj : Oper} (h : dstsOk ops m = true) (hi : ops[i]? = some oi) (hj : ops[j]? = some oj) (hdi : oi.dst = some d) (hdj : oj.dst = some d) : i = j := by
  simp only [dstsOk, Bool.and_eq_true, decide_eq_true_eq] at h
  have hnd := h.1
  have key : ∀ (l : List Oper), (l.filterMap (·.dst)).Nodup → ∀ (i j : Nat) (oi oj : Oper), l[i]? = some oi → l[j]? = some oj → oi.dst = some d → oj.dst = some d → i = j := by
    intro l
    induction l with
    | nil => intro _ i j oi oj h; simp at h
    | cons x l ih =>
      intro hnd i j oi oj hi hj hdi hdj
      have tail : (l.filterMap (·.dst)).Nodup := by
        rw [List.filterMap_cons] at hnd
        split at hnd
        · exact hnd
        · exact (List.nodup_cons.1 hnd).2
      have notin : x.dst = some d → ∀ (k : Nat) (o : Oper), l[k]? = some o → o.dst = some d → False := by
        intro hx k o hk ho
        rw [List.filterMap_cons, hx] at hnd
        exact (List.nodup_cons.1 hnd).1 (List.mem_filterMap.2 ⟨o, List.mem_of_getElem? hk, ho⟩)
      cases i with
      | zero =>
        cases j with
        | zero => rfl
        | succ j =>
          simp at hi hj; subst hi
          exact (notin hdi j oj hj hdj).elim
      | succ i =>
        cases j with
        | zero =>
          simp at hi hj; subst hj
          exact (notin hdj i oi hi hdi).elim
        | succ j =>
          simp at hi hj
          rw [ih tail i j oi oj hi hj hdi hdj]
  exact key ops.toList hnd i j oi oj (by simpa using hi) (by simpa using hj) hdi hdj
theorem dst_lt {ops : Array Oper} {m i d : Nat} {oi : Oper} (h : dstsOk ops m = true) (hi : ops[i]? = some oi) (hd : oi.dst = some d) : d < m := by
  simp only [dstsOk, Bool.and_eq_true] at h
  have := Array.all_eq_true'.1 h.2 oi (Array.mem_of_getElem? hi)
  rw [hd] at this
  simpa using this
/-- A step of operation i: out of what it waits for. -/
def StepOk (P : Program) (ops : Array Oper) (Q : Exit → Act → World → Prop) (V : Nat → Value → World → Prop) (a0 : Act) (w0 : World) (i : Nat) : Prop :=
  ∀ oi a W, ops[i]? = some oi → Same ops a0 a → Below w0.heap.size w0 W → (∀ e ∈ oi.after, Has ops V a W e.on) →
    if Region.wanted oi (yielded ops a.tmps) = true then oi.wp P a W (fun a' W' => ∃ v, a' = a.put oi.dst v ∧ (oi.dst ≠ none → V i v W') ∧ Below W.heap.size W W') Q else (oi.dst ≠ none → V i undef W)
/-- Every edge goes to an earlier operation. -/
def backB (ops : Array Oper) : Bool := (List.range ops.size).all fun i => match ops[i]? with | some o => o.after.all fun e => decide (e.on < i) | none => true
theorem back_lt {ops : Array Oper} (h : backB ops = true) {i : Nat} {o : Oper} (ho : ops[i]? = some o) {e : Edge} (he : e ∈ o.after) : e.on < i := by
  have h1 := List.all_eq_true.1 h i (List.mem_range.2 (Array.getElem?_eq_some_iff.1 ho).1)
  rw [ho] at h1
  simpa using Array.all_eq_true'.1 h1 e he
theorem region_calm {P : Program} {id n : Nat} {ops : Array Oper} {Q : Exit → Act → World → Prop} {a0 : Act} {w : World} (V : Nat → Value → World → Prop)
    (hm : P.follows .mixedOrders = true) (hn : ops.size = n) (hV : Lasts V) (hd : dstsOk ops a0.tmps.size = true)
    (hback : backB ops = true) (hbind : (ops.all fun o => o.after.all fun e => Region.binds .any e) = true)
    (hs : ∀ i, i < n → StepOk P ops Q V a0 w i)
    (he : ∀ a W, Same ops a0 a → Below w.heap.size w W → (∀ j, j < n → Has ops V a W j) → Q .normal a W) :
    (Code.region id ops true).wp P Q a0 w := by
  refine wp_region_any hm ?_
  refine wpAny_rel n hn (fun l a W => Same ops a0 a ∧ Below w.heap.size w W ∧ ∀ j, j < n → l.getD j true = true → Has ops V a W j) ?_ ?_ _ _ _ _ (by simp [hn]) ?_ ?_
  · intro l a W i hl ⟨h1, h2, h3⟩ hi
    obtain ⟨hu, oi, hoi, hall⟩ := mem_ready.1 hi
    have hlt : i < n := by have := (Array.getElem?_eq_some_iff.1 hoi).1; omega
    have hdeps : ∀ e ∈ oi.after, Has ops V a W e.on := by
      intro e hem oj d hj hdj
      have hb : Region.binds .any e = true := by
        have := Array.all_eq_true'.1 hbind oi (Array.mem_of_getElem? hoi)
        exact Array.all_eq_true'.1 this e hem
      have hle := hall e hem hb
      have hje : e.on < n := by have := (Array.getElem?_eq_some_iff.1 hj).1; omega
      have hle' : l.getD e.on true = true := by
        have : e.on < l.size := by omega
        simp only [Array.getD_eq_getD_getElem?, Array.getElem?_eq_getElem this, Option.getD_some] at hle ⊢
        exact hle
      exact h3 e.on hje hle' oj d hj hdj
    have hstep := hs i hlt oi a W hoi h1 h2 hdeps
    have next : ∀ a' W' v, a' = a.put oi.dst v → (oi.dst ≠ none → V i v W') → Below W.heap.size W W' →
        Same ops a0 a' ∧ Below w.heap.size w W' ∧ ∀ j, j < n → (l.setIfInBounds i true).getD j true = true → Has ops V a' W' j := by
      intro a' W' v ha hv hb
      subst ha
      refine ⟨?_, h2.trans (hb.mono h2.size), ?_⟩
      · cases hod : oi.dst with
        | none => exact h1
        | some d =>
          refine ⟨by simp [Act.put, h1.1], h1.2.1, fun t ht => ?_⟩
          have hne : d ≠ t := by
            intro e
            have := List.all_eq_true.1 ht oi (Array.mem_toList_iff.2 (Array.mem_of_getElem? hoi))
            rw [hod, e] at this; simp at this
          show (a.tmps.setIfInBounds d v)[t]? = _
          rw [Array.getElem?_setIfInBounds_ne hne]
          exact h1.2.2 t ht
      · intro j hj hlj oj d hoj hdj
        by_cases hij : i = j
        · subst hij
          obtain rfl : oi = oj := by rw [hoi] at hoj; exact Option.some.inj hoj
          refine ⟨v, ?_, hv (by simp [hdj])⟩
          rw [hdj]
          show (a.tmps.setIfInBounds d v)[d]? = _
          rw [Array.getElem?_setIfInBounds_self]
          have := dst_lt hd hoi hdj
          rw [if_pos (by rw [h1.1]; exact this)]
        · rw [getD_set_ne true hij] at hlj
          obtain ⟨u, hu1, hu2⟩ := h3 j hj hlj oj d hoj hdj
          refine ⟨u, ?_, hV j u W W' hu2 hb⟩
          cases hod : oi.dst with
          | none => exact hu1
          | some d' =>
            have hne : d' ≠ d := by
              intro e; subst e
              exact hij (dst_inj hd hoi hoj hod hdj)
            show (a.tmps.setIfInBounds d' v)[d]? = _
            rw [Array.getElem?_setIfInBounds_ne hne]
            exact hu1
    unfold wpOp
    rw [hoi]
    dsimp only
    split
    · rename_i hw
      rw [if_pos hw] at hstep
      refine .inl (Oper.wp_mono ?_ hstep)
      rintro a' W' ⟨v, ha, hv, hb⟩
      exact next a' W' v ha hv hb
    · rename_i hw
      rw [if_neg hw] at hstep
      exact next _ W undef rfl hstep (Below.refl _ _)
  · intro l a W hl ⟨h1, h2, h3⟩ hr
    refine he a W h1 h2 ?_
    have hall : ∀ m, m ≤ n → ∀ j, j < m → l.getD j true = true := by
      intro m
      induction m with
      | zero => intro _ j hj; omega
      | succ m ih =>
        intro hm' j hj
        by_cases hjm : j < m
        · exact ih (by omega) j hjm
        · obtain rfl : j = m := by omega
          cases hg : l.getD j true with
          | true => rfl
          | false =>
            exfalso
            have hjs : j < ops.size := by omega
            have hmem : j ∈ Region.ready .any ops l := by
              refine mem_ready.2 ⟨hg, ops[j], Array.getElem?_eq_getElem hjs, fun e he _ => ?_⟩
              have hlt := back_lt hback (Array.getElem?_eq_getElem hjs) he
              have := ih (by omega) e.on hlt
              have hls : e.on < l.size := by omega
              simp only [Array.getD_eq_getD_getElem?, Array.getElem?_eq_getElem hls, Option.getD_some] at this ⊢
              exact this
            rw [hr] at hmem; cases hmem
    exact fun j hj => h3 j hj (hall n (Nat.le_refl _) j hj)
  · unfold unl
    refine Nat.le_trans (List.length_filter_le _ _) ?_
    simp [hn]
  · refine ⟨⟨rfl, rfl, fun _ _ => rfl⟩, ⟨rfl, rfl, rfl, Nat.le_refl _, fun _ _ => rfl⟩, fun j hj hl => ?_⟩
    exfalso
    rw [hn] at hl
    simp [Array.getElem?_replicate, hj] at hl
/-- The value is this one. -/
def isV (c : Value) : Value → World → Prop := fun v _ => v = c
/-- What the operations leave, one behind the other. -/
def byList (l : List (Value → World → Prop)) : Nat → Value → World → Prop := fun i v W => match l[i]? with | some p => p v W | none => True
theorem byList_lasts {l : List (Value → World → Prop)} (h : ∀ p ∈ l, ∀ v W W', p v W → Below W.heap.size W W' → p v W') : Lasts (byList l) := by
  intro i v W W' hp hb
  unfold byList at hp ⊢
  cases hl : l[i]? with
  | none => trivial
  | some p => rw [hl] at hp; exact h p (List.mem_of_getElem? hl) v W W' hp hb
theorem isV_lasts {c : Value} : ∀ v W W', isV c v W → Below W.heap.size W W' → isV c v W' := fun _ _ _ h _ => h
/-- The value is a slice that reads as this row. -/
def isC {α : Type} (d : Kd α) (xs : List α) : Value → World → Prop := fun v W => ∃ A c, v = .slice A xs.length c ∧ xs.length ≤ c ∧ d.C W A xs.length xs
theorem isC_lasts {α : Type} {d : Kd α} {xs : List α} : ∀ v W W', isC d xs v W → Below W.heap.size W W' → isC d xs v W' := fun _ _ _ ⟨A, c, h1, h2, h3⟩ hb => ⟨A, c, h1, h2, Kd.C_below h3 hb⟩
theorem Has.get {ops : Array Oper} {V : Nat → Value → World → Prop} {a : Act} {W : World} {j d : Nat} {oj : Oper} (h : Has ops V a W j) (ho : ops[j]? = some oj) (hd : oj.dst = some d) : ∃ v, a.tmps[d]? = some v ∧ V j v W := h oj d ho hd
theorem wanted_none {o : Oper} {y : Nat → Option Bool} (h : o.guard = none) : Region.wanted o y = true := by unfold Region.wanted; rw [h]
theorem wanted_get {ops : Array Oper} {o og : Oper} {a : Act} {g : Nat} {t : Tmp} {u b : Bool} (h : o.guard = some (g, u)) (ho : ops[g]? = some og) (hd : og.dst = some t) (hv : a.tmps[t]? = some (.bool b)) : Region.wanted o (yielded ops a.tmps) = (b == u) := by
  have hy : yielded ops a.tmps g = some b := by
    unfold yielded
    rw [ho]
    simp only [Option.bind_some, hd, hv]
  unfold Region.wanted
  rw [h]
  dsimp only
  rw [hy]
  cases b <;> cases u <;> rfl
def waitsFor (o : Oper) (j : Nat) : Bool := o.after.toList.any fun e => e.on == j
section
variable {P : Program} {ops : Array Oper} {Q : Exit → Act → World → Prop} {V : Nat → Value → World → Prop} {a0 : Act} {w0 : World} {i : Nat}
theorem deps_of {o : Oper} {a : Act} {W : World} (h : ∀ e ∈ o.after, Has ops V a W e.on) (j : Nat) (hj : waitsFor o j = true) : Has ops V a W j := by
  obtain ⟨e, he, hej⟩ := List.any_eq_true.1 hj
  have := h e (Array.mem_toList_iff.1 he)
  rwa [show e.on = j by simpa using hej] at this
/-- What a slot of the region holds, where one value alone is right. -/
theorem Has.val {a : Act} {W : World} {j d : Nat} {oj : Oper} {c : Value} (h : Has ops V a W j) (ho : ops[j]? = some oj) (hd : oj.dst = some d) (hV : V j = isV c) : a.eval (.tmp d) = c := by
  obtain ⟨v, h1, h2⟩ := h oj d ho hd
  rw [hV] at h2
  simp [Act.eval, h1]; exact h2
theorem Has.bool {a : Act} {W : World} {j d : Nat} {oj : Oper} {c : Value} (h : Has ops V a W j) (ho : ops[j]? = some oj) (hd : oj.dst = some d) (hV : V j = isV c) : a.tmps[d]? = some c := by
  obtain ⟨v, h1, h2⟩ := h oj d ho hd
  rw [hV] at h2
  rw [h1]; exact congrArg some h2
/-- What a slot beside the region holds. -/
theorem Same.val {a : Act} {t : Nat} {c : Value} (h : Same ops a0 a) (ht : (ops.toList.all fun o => o.dst != some t) = true) (hc : a0.tmps[t]? = some c) : a.eval (.tmp t) = c := by
  have := h.2.2 t ht
  rw [hc] at this
  simp [Act.eval, this]
theorem Same.get {a : Act} {t : Nat} {c : Value} (h : Same ops a0 a) (ht : (ops.toList.all fun o => o.dst != some t) = true) (hc : a0.tmps[t]? = some c) : a.tmps[t]? = some c := by
  rw [h.2.2 t ht, hc]
/-- The step of an operation, by its own text. -/
theorem StepOk.run {o : Oper} (ho : ops[i]? = some o) (hg : o.guard = none)
    (h : ∀ a W, Same ops a0 a → Below w0.heap.size w0 W → (∀ j, waitsFor o j = true → Has ops V a W j) → o.wp P a W (fun a' W' => ∃ v, a' = a.put o.dst v ∧ V i v W' ∧ Below W.heap.size W W') Q) : StepOk P ops Q V a0 w0 i := by
  intro oi a W hoi hS hB hd
  obtain rfl : o = oi := by rw [ho] at hoi; exact Option.some.inj hoi
  rw [if_pos (wanted_none hg)]
  exact Oper.wp_mono (fun a' W' ⟨v, h1, h2, h3⟩ => ⟨v, h1, fun _ => h2, h3⟩) (h a W hS hB (deps_of hd))
theorem StepOk.on {o og : Oper} {g : Nat} {t : Tmp} {u : Bool} (ho : ops[i]? = some o) (hg : o.guard = some (g, u)) (hog : ops[g]? = some og) (hdt : og.dst = some t) (hw : waitsFor o g = true) (hV : V g = isV (.bool u))
    (h : ∀ a W, Same ops a0 a → Below w0.heap.size w0 W → (∀ j, waitsFor o j = true → Has ops V a W j) → o.wp P a W (fun a' W' => ∃ v, a' = a.put o.dst v ∧ V i v W' ∧ Below W.heap.size W W') Q) : StepOk P ops Q V a0 w0 i := by
  intro oi a W hoi hS hB hd
  obtain rfl : o = oi := by rw [ho] at hoi; exact Option.some.inj hoi
  have hv := (deps_of hd g hw).bool hog hdt hV
  rw [if_pos (by rw [wanted_get hg hog hdt hv]; simp)]
  exact Oper.wp_mono (fun a' W' ⟨v, h1, h2, h3⟩ => ⟨v, h1, fun _ => h2, h3⟩) (h a W hS hB (deps_of hd))
theorem StepOk.off {o og : Oper} {g : Nat} {t : Tmp} {u : Bool} (ho : ops[i]? = some o) (hg : o.guard = some (g, u)) (hog : ops[g]? = some og) (hdt : og.dst = some t) (hw : waitsFor o g = true) (hV : V g = isV (.bool (!u))) (hVi : V i = isV undef) : StepOk P ops Q V a0 w0 i := by
  intro oi a W hoi hS hB hd
  obtain rfl : o = oi := by rw [ho] at hoi; exact Option.some.inj hoi
  have hv := (deps_of hd g hw).bool hog hdt hV
  rw [if_neg (by rw [wanted_get hg hog hdt hv]; cases u <;> decide)]
  intro _
  rw [hVi]; rfl
theorem wp_pred {o : Oper} {a : Act} {W : World} {c : Value} (h : (execOp a.eval o).run P W = .ok (.value c) W) (hV : V i c W) : o.wp P a W (fun a' W' => ∃ v, a' = a.put o.dst v ∧ V i v W' ∧ Below W.heap.size W W') Q := by
  unfold Oper.wp
  rw [h]
  exact ⟨c, rfl, hV, Below.refl _ _⟩
/-- A call, by its contract. -/
theorem wp_called {o : Oper} {a : Act} {W : World} {f : FuncId} {fn : Func} {xs : Array Operand} {ts : Array TypeId} (hf : P.funcs[f]? = some fn) (hname : (fn.name == "runtime.NumGoroutine") = false) (hb : fn.body.isSome = true) (args : Array Value)
    (hop : o.op = .call { callee := .value (.func f), args := xs, argTypes := ts }) (hargs : xs.map a.eval = args)
    (h : Calls P f args W fun e w' => ∃ v, e = .returned v ∧ V i v w' ∧ Below W.heap.size W w') : o.wp P a W (fun a' W' => ∃ v, a' = a.put o.dst v ∧ V i v W' ∧ Below W.heap.size W W') Q := by
  have h1 : fn.name ≠ "runtime.NumGoroutine" := by simpa using hname
  obtain ⟨c, hc⟩ := Option.isSome_iff_exists.1 hb
  have he : (callFunc f args).run P W = .ok (.enter f args) W := by simp [callFunc, hf, h1, hc]
  have hrun : (execOp a.eval o).run P W = .ok (.enter f args) W := by
    unfold execOp
    simp [hop, resolve, Deferred.ofValue, invoke, Act.eval, hargs, he]
  unfold Oper.wp
  rw [hrun, Oper.upon_enter]
  refine h.mono fun e w'' hh => ?_
  obtain ⟨v, rfl, hk⟩ := hh
  exact ⟨v, rfl, hk⟩
/-- An operation that yields this very value and leaves the world alone. -/
theorem wp_value {o : Oper} {a : Act} {W : World} {c : Value} (h : (execOp a.eval o).run P W = .ok (.value c) W) (hV : V i = isV c) : o.wp P a W (fun a' W' => ∃ v, a' = a.put o.dst v ∧ V i v W' ∧ Below W.heap.size W W') Q := by
  unfold Oper.wp
  rw [h]
  exact ⟨c, rfl, by rw [hV]; rfl, Below.refl _ _⟩
end
theorem eval_tmp (a : Act) (t : Nat) : a.eval (.tmp t) = (a.tmps[t]?).getD undef := by simp [Act.eval]
/-- What is to be shown of each of so many operations. -/
def AllLt (n : Nat) (p : Nat → Prop) : Prop := ∀ i, i < n → p i
theorem allLt_zero (p : Nat → Prop) : AllLt 0 p := fun i h => by omega
theorem allLt_succ {n : Nat} {p : Nat → Prop} (h : AllLt n p) (hn : p n) : AllLt (n + 1) p := fun i hi => by
  by_cases e : i < n
  · exact h i e
  · obtain rfl : i = n := by omega
    exact hn
end Go.Proofs.Ytfflenbfapgilaa
