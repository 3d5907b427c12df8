/- Texts laid as one by shake.py, cut to what the claim needs: Open. (Names that begin with W and the print's groups (G..x, G..z): laid by the kit's print, cut.) -/
import Derived.Test.YtmeocdkiecknkaaZTd
import Derived.ChangeArms
import Derived.ChangeSlices
import Derived.OpenShut
set_option linter.unusedVariables false
set_option linter.unusedSimpArgs false
namespace Go.Proofs.Ytmeocdkiecknkaa
open Go.RowKit Go.Proofs.YtmeocdkiecknkaaW.PrintWords Go.ChangeShapes Go.WideShapes
structure Opens (P : Program) (t : TypeId) {α : Type} (d : Kd α) (ok : α → Prop) : Prop where
 cells : P.cellsOf t = d.sz
 out : ∀ {H : Type} {enc : TypeId × Value → H} {W : World} {base : Nat} {held : Bool} {fuel : Nat} {cs : List Value} {x : DataW H × List MemPlace},
  DataW.trod enc P W base (fun _ => true) held fuel t cs = some x → ∃ y, d.K W y cs ∧ ok y
section
variable {P : Program} {t e : TypeId}
theorem Opens.imp {α : Type} {d : Kd α} {ok ok' : α → Prop} (h : Opens P t d ok) (hi : ∀ y, ok y → ok' y) : Opens P t d ok' :=
 ⟨h.cells, fun hx => by obtain ⟨y, h1, h2⟩ := h.out hx; exact ⟨y, h1, hi y h2⟩⟩
theorem opens_int {k : IntKind} (ht : P.underlying t = some (.int k)) (hc : P.cellsOf t = 1) : Opens P t (Kd.int k) (fun n => (Lit.int k n).wf = true) :=
 ⟨hc, fun h => by obtain ⟨n, rfl, _, hw⟩ := DataW.trod_int ht h; exact ⟨n, rfl, hw⟩⟩
theorem opens_bool (ht : P.underlying t = some .bool) (hc : P.cellsOf t = 1) : Opens P t Kd.bool (fun _ => True) :=
 ⟨hc, fun h => by obtain ⟨b, rfl, _⟩ := DataW.trod_bool ht h; exact ⟨b, rfl, trivial⟩⟩
theorem opens_string (ht : P.underlying t = some .string) (hc : P.cellsOf t = 1) : Opens P t Kd.string (fun s => s.size ≤ maxLen) :=
 ⟨hc, fun h => by obtain ⟨s, rfl, _, hs⟩ := DataW.trod_string ht h; exact ⟨s, rfl, hs⟩⟩
theorem cells?_get {W : World} {base n : Nat} {a : Addr} {cs : List Value} (h : W.cells? base a n = some cs) {i : Nat} {u : Value} (hu : cs[i]? = some u) : W.cell? (a.add i) = some u := by
 have h1 := World.cells?_some h
 have hi : i < cs.length := (List.getElem?_eq_some_iff.1 hu).1
 have h2 := h1.2.2 i (by rw [← h1.2.1]; exact hi)
 rw [h2]; exact hu
theorem add_add (a : Addr) (i j : Nat) : (a.add i).add j = a.add (i + j) := by
 unfold Addr.add
 split <;> split <;> simp_all <;> omega
theorem opens_rows {α : Type} {d : Kd α} {ok : α → Prop} (he : Opens P e d ok) {H : Type} {enc : TypeId × Value → H} {W : World} {base len n : Nat} {a : Addr} {held : Bool} {elems : List (DataW H × List MemPlace)} (hlen : elems.length = len)
  (hel : ∀ i, i < len → (W.cells? base (a.add (i * P.cellsOf e)) (P.cellsOf e)).bind (DataW.trod enc P W base (fun _ => true) held n e) = elems[i]?) :
  ∃ xs : List α, xs.length = len ∧ (∀ y ∈ xs, ok y) ∧ ∀ j p, xs[j]? = some p → ∃ c, c.length = d.sz ∧ d.K W p c ∧ ∀ i u, c[i]? = some u → W.cell? (a.add (j * d.sz + i)) = some u := by
 have each : ∀ i, i < len → ∃ y, ok y ∧ ∃ c, c.length = d.sz ∧ d.K W y c ∧ ∀ j u, c[j]? = some u → W.cell? (a.add (i * d.sz + j)) = some u := by
  intro i hi
  have h1 := hel i hi
  rw [List.getElem?_eq_getElem (by omega), Option.bind_eq_some_iff] at h1
  obtain ⟨cs, hcs, hx⟩ := h1
  obtain ⟨y, hk, ho⟩ := he.out hx
  refine ⟨y, ho, cs, d.K_len hk, hk, fun j u hu => ?_⟩
  have h2 := cells?_get hcs hu
  rwa [add_add, he.cells] at h2
 have build : ∀ m, m ≤ len → ∃ xs : List α, xs.length = m ∧ (∀ y ∈ xs, ok y) ∧ ∀ j p, xs[j]? = some p → ∃ c, c.length = d.sz ∧ d.K W p c ∧ ∀ i u, c[i]? = some u → W.cell? (a.add (j * d.sz + i)) = some u := by
  intro m
  induction m with
  | zero => intro _; exact ⟨[], rfl, by simp, by simp⟩
  | succ m ih =>
   intro hm
   obtain ⟨xs, hl, ho, hc⟩ := ih (by omega)
   obtain ⟨y, hy, c, h1, h2, h3⟩ := each m (by omega)
   refine ⟨xs ++ [y], by simp [hl], ?_, ?_⟩
   ·intro z hz
    rcases List.mem_append.1 hz with hz | hz
    ·exact ho z hz
    ·simp at hz; subst hz; exact hy
   ·intro j p hj
    by_cases hjm : j < m
    ·rw [List.getElem?_append_left (by omega)] at hj
     exact hc j p hj
    ·have hj' := (List.getElem?_eq_some_iff.1 hj).1
     simp only [List.length_append, List.length_singleton] at hj'
     obtain rfl : j = m := by omega
     rw [List.getElem?_append_right (by omega)] at hj
     simp [hl] at hj
     subst hj
     exact ⟨c, h1, h2, h3⟩
 exact build len (Nat.le_refl _)
theorem opens_slice {α : Type} {d : Kd α} {ok : α → Prop} (ht : P.underlying t = some (.slice e)) (hc : P.cellsOf t = 1) (he : Opens P e d ok) : Opens P t (Kd.slice e d) (fun xs => xs.length ≤ maxLen ∧ ∀ y ∈ xs, ok y) :=
 ⟨hc, fun {H enc W base held fuel cs x} h => by
  rcases DataW.trod_slice ht h with ⟨rfl, _⟩ | ⟨a, len, cap, elems, rest, n, _, rfl, _, _, hl, hm, hlen, hel, _, _⟩
  ·exact ⟨[], ⟨none, 0, rfl, Nat.le_refl _, Kd.C_nil _ _⟩, by simp [maxLen], by simp⟩
  ·obtain ⟨xs, h1, h2, h3⟩ := opens_rows he hlen hel
   refine ⟨xs, ⟨some a, cap, by rw [h1], by omega, rfl, by rw [h1]; simp only [maxLen] at hm; omega, fun _ => ⟨a, rfl, fun j p hj => ?_⟩⟩, by rw [h1]; omega, h2⟩
   obtain ⟨c, g1, g2, g3⟩ := h3 j p hj
   exact ⟨c, g1, g2, g3⟩⟩
structure OpensF (P : Program) (fs : List Field) (off : Nat) {α : Type} (d : Kd α) (ok : α → Prop) : Prop where
 out : ∀ {H : Type} {enc : TypeId × Value → H} {W : World} {base : Nat} {held : Bool} {n : Nat} {cs : List Value}, cs.length = off + d.sz →
  (∀ f ∈ fs, ∃ x, DataW.trod enc P W base (fun _ => true) held n f.type ((cs.drop f.offset).take (P.cellsOf f.type)) = some x) → ∃ y, d.K W y (cs.drop off) ∧ ok y
theorem opensF_one {f : Field} {off : Nat} {α : Type} {d : Kd α} {ok : α → Prop} (ho : f.offset = off) (h : Opens P f.type d ok) : OpensF P [f] off d ok :=
 ⟨fun hl hf => by
  obtain ⟨x, hx⟩ := hf f (by simp)
  rw [h.cells, ho, List.take_of_length_le (by rw [List.length_drop]; omega)] at hx
  exact h.out hx⟩
theorem opensF_cons {f : Field} {fs : List Field} {off : Nat} {α β : Type} {a : Kd α} {b : Kd β} {oka : α → Prop} {okb : β → Prop} (ho : f.offset = off) (h : Opens P f.type a oka) (hs : OpensF P fs (off + a.sz) b okb) :
  OpensF P (f :: fs) off (Kd.pair a b) (fun p => oka p.1 ∧ okb p.2) :=
 ⟨fun {H enc W base held n cs} hl hf => by
  have hl' : cs.length = off + (a.sz + b.sz) := hl
  obtain ⟨x, hx⟩ := hf f (by simp)
  rw [h.cells, ho] at hx
  obtain ⟨y, hy, hy2⟩ := h.out hx
  obtain ⟨z, hz, hz2⟩ := hs.out (cs := cs) (by omega) (fun g hg => hf g (by simp [hg]))
  refine ⟨(y, z), ⟨_, _, ?_, hy, hz⟩, hy2, hz2⟩
  rw [← List.drop_drop, List.take_append_drop]⟩
theorem opens_struct {fs : Array Field} {α : Type} {d : Kd α} {ok : α → Prop} (ht : P.underlying t = some (.struct fs)) (hc : P.cellsOf t = d.sz) (h : OpensF P fs.toList 0 d ok) : Opens P t d ok :=
 ⟨hc, fun {H enc W base held fuel cs x} hx => by
  obtain ⟨xs, n, _, _, hl, hxs, hf⟩ := DataW.trod_struct ht hx
  have := h.out (cs := cs) (enc := enc) (W := W) (base := base) (held := held) (n := n) (by rw [hl, hc]; omega) (fun f hm => by
   obtain ⟨i, hi⟩ := List.getElem?_of_mem hm
   have hi' : fs[i]? = some f := by simpa using hi
   have := hf i f hi'
   have hlt : i < xs.length := by rw [hxs]; exact (Array.getElem?_eq_some_iff.1 hi').1
   rw [List.getElem?_eq_getElem hlt] at this
   exact ⟨_, this⟩)
  simpa using this⟩
theorem opens_iso {α β : Type} {d : Kd α} {ok : α → Prop} (f : β → α) (g : α → β) (hfg : ∀ y, f (g y) = y) (h : Opens P t d ok) : Opens P t (Kd.iso d f) (fun y => ok (f y)) :=
 ⟨h.cells, fun hx => by
  obtain ⟨y, h1, h2⟩ := h.out hx
  exact ⟨g y, by show d.K _ (f (g y)) _; rw [hfg]; exact h1, by show ok (f (g y)); rw [hfg]; exact h2⟩⟩
theorem opens_struct3 {f0 f1 f2 : Field} {α0 α1 α2 : Type} {d0 : Kd α0} {d1 : Kd α1} {d2 : Kd α2} {k0 : α0 → Prop} {k1 : α1 → Prop} {k2 : α2 → Prop} (ht : P.underlying t = some (.struct #[f0, f1, f2])) (o0 : f0.offset = 0) (o1 : f1.offset = 0 + d0.sz) (o2 : f2.offset = 0 + d0.sz + d1.sz) (h0 : Opens P f0.type d0 k0) (h1 : Opens P f1.type d1 k1) (h2 : Opens P f2.type d2 k2) (hc : P.cellsOf t = d0.sz+d1.sz+d2.sz) :
  Opens P t (Kd.pair d0 (Kd.pair d1 d2)) (fun p => k0 (p.1) ∧ k1 (p.2.1) ∧ k2 (p.2.2)) :=
 opens_struct ht (hc.trans (by show _ = Kd.sz (Kd.pair d0 (Kd.pair d1 d2)); simp only [Kd.pair]; omega)) (opensF_cons (a := d0) (b := (Kd.pair d1 d2)) (oka := k0) (okb := fun q => k1 (q.1) ∧ k2 (q.2)) o0 h0 (opensF_cons (a := d1) (b := d2) (oka := k1) (okb := k2) o1 h1 (opensF_one o2 h2)))
theorem opens_struct7 {f0 f1 f2 f3 f4 f5 f6 : Field} {α0 α1 α2 α3 α4 α5 α6 : Type} {d0 : Kd α0} {d1 : Kd α1} {d2 : Kd α2} {d3 : Kd α3} {d4 : Kd α4} {d5 : Kd α5} {d6 : Kd α6} {k0 : α0 → Prop} {k1 : α1 → Prop} {k2 : α2 → Prop} {k3 : α3 → Prop} {k4 : α4 → Prop} {k5 : α5 → Prop} {k6 : α6 → Prop} (ht : P.underlying t = some (.struct #[f0, f1, f2, f3, f4, f5, f6])) (o0 : f0.offset = 0) (o1 : f1.offset = 0 + d0.sz) (o2 : f2.offset = 0 + d0.sz + d1.sz) (o3 : f3.offset = 0 + d0.sz + d1.sz + d2.sz) (o4 : f4.offset = 0 + d0.sz + d1.sz + d2.sz + d3.sz) (o5 : f5.offset = 0 + d0.sz + d1.sz + d2.sz + d3.sz + d4.sz) (o6 : f6.offset = 0 + d0.sz + d1.sz + d2.sz + d3.sz + d4.sz + d5.sz) (h0 : Opens P f0.type d0 k0) (h1 : Opens P f1.type d1 k1) (h2 : Opens P f2.type d2 k2) (h3 : Opens P f3.type d3 k3) (h4 : Opens P f4.type d4 k4) (h5 : Opens P f5.type d5 k5) (h6 : Opens P f6.type d6 k6) (hc : P.cellsOf t = d0.sz+d1.sz+d2.sz+d3.sz+d4.sz+d5.sz+d6.sz) :
  Opens P t (Kd.pair d0 (Kd.pair d1 (Kd.pair d2 (Kd.pair d3 (Kd.pair d4 (Kd.pair d5 d6)))))) (fun p => k0 (p.1) ∧ k1 (p.2.1) ∧ k2 (p.2.2.1) ∧ k3 (p.2.2.2.1) ∧ k4 (p.2.2.2.2.1) ∧ k5 (p.2.2.2.2.2.1) ∧ k6 (p.2.2.2.2.2.2)) :=
 opens_struct ht (hc.trans (by show _ = Kd.sz (Kd.pair d0 (Kd.pair d1 (Kd.pair d2 (Kd.pair d3 (Kd.pair d4 (Kd.pair d5 d6)))))); simp only [Kd.pair]; omega)) (opensF_cons (a := d0) (b := (Kd.pair d1 (Kd.pair d2 (Kd.pair d3 (Kd.pair d4 (Kd.pair d5 d6)))))) (oka := k0) (okb := fun q => k1 (q.1) ∧ k2 (q.2.1) ∧ k3 (q.2.2.1) ∧ k4 (q.2.2.2.1) ∧ k5 (q.2.2.2.2.1) ∧ k6 (q.2.2.2.2.2)) o0 h0 (opensF_cons (a := d1) (b := (Kd.pair d2 (Kd.pair d3 (Kd.pair d4 (Kd.pair d5 d6))))) (oka := k1) (okb := fun q => k2 (q.1) ∧ k3 (q.2.1) ∧ k4 (q.2.2.1) ∧ k5 (q.2.2.2.1) ∧ k6 (q.2.2.2.2)) o1 h1 (opensF_cons (a := d2) (b := (Kd.pair d3 (Kd.pair d4 (Kd.pair d5 d6)))) (oka := k2) (okb := fun q => k3 (q.1) ∧ k4 (q.2.1) ∧ k5 (q.2.2.1) ∧ k6 (q.2.2.2)) o2 h2 (opensF_cons (a := d3) (b := (Kd.pair d4 (Kd.pair d5 d6))) (oka := k3) (okb := fun q => k4 (q.1) ∧ k5 (q.2.1) ∧ k6 (q.2.2)) o3 h3 (opensF_cons (a := d4) (b := (Kd.pair d5 d6)) (oka := k4) (okb := fun q => k5 (q.1) ∧ k6 (q.2)) o4 h4 (opensF_cons (a := d5) (b := d6) (oka := k5) (okb := k6) o5 h5 (opensF_one o6 h6)))))))
def IsRows {α : Type} (d : Kd α) (ok : α → Prop) (W : World) (v : Value) (x : Option Addr × Nat × List α) : Prop :=
 v = .slice x.1 x.2.2.length x.2.1 ∧ x.2.2.length ≤ x.2.1 ∧ d.C W x.1 x.2.2.length x.2.2 ∧ x.2.2.length ≤ maxLen ∧ ∀ s ∈ x.2.2, ok s
theorem open_rows {α : Type} {d : Kd α} {ok : α → Prop} (ht : P.underlying t = some (.slice e)) (hc : P.cellsOf t = 1) (he : Opens P e d ok) {H : Type} {enc : TypeId × Value → H} {W : World} {base : Nat} {held : Bool} {v : Value} {dd : DataW H} {ps : List MemPlace} {r : Reach} {b0 : Nat}
  (hval : Value.okWide P W r b0 t v) (h : DataW.Trod enc P W base (fun _ => true) held t v dd ps) : ∃ x, IsRows d ok W v x := by
 obtain ⟨fuel, hf⟩ := h
 obtain ⟨A, len, cap, rfl⟩ := okWide_slice ht hval
 obtain ⟨xs, ⟨A', c', hcs, hl, hC⟩, hm, ho⟩ := (opens_slice ht hc he).out hf
 simp [Value.cells] at hcs
 obtain ⟨rfl, rfl, rfl⟩ := hcs
 exact ⟨(A, cap, xs), rfl, hl, hC, hm, ho⟩
end
end Go.Proofs.Ytmeocdkiecknkaa
