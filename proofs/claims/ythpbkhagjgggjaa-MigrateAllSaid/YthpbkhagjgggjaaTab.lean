/- A table of texts in memory: what it is, and what its methods do. -/
import Derived.Test.YthpbkhagjgggjaaTabM
import Derived.Maps.OwnSet
import Derived.Maps.Views
import Derived.StillTailTactics
import Derived.Deep.DeepFit
set_option linter.unusedVariables false
set_option linter.unusedSimpArgs false
namespace Go.Proofs.Ythpbkhagjgggjaa
open Go.RowKit Go.Proofs.YthpbkhagjgggjaaW.PrintWords
open Go.Maps (Keyed)

/-- All but the blocks of S, and what is new since, is as it was. -/
structure Kp (w w' : World) (S : Nat → Prop) : Prop where
  os : w'.os = w.os
  tape : w'.tape = w.tape
  output : w'.output = w.output
  size : w.heap.size ≤ w'.heap.size
  block : ∀ k, k < w.heap.size → ¬ S k → w'.heap[k]? = w.heap[k]?
theorem Kp.refl (w : World) (S : Nat → Prop) : Kp w w S := ⟨rfl, rfl, rfl, Nat.le_refl _, fun _ _ _ => rfl⟩
theorem Kp.mono {w w' : World} {S S' : Nat → Prop} (h : Kp w w' S) (hs : ∀ k, S k → S' k) : Kp w w' S' := ⟨h.os, h.tape, h.output, h.size, fun k hk hn => h.block k hk (fun h' => hn (hs k h'))⟩
theorem Kp.trans {w w1 w2 : World} {S S2 : Nat → Prop} (h : Kp w w1 S) (h2 : Kp w1 w2 S2) (hs : ∀ k, S2 k → S k ∨ w.heap.size ≤ k) : Kp w w2 S :=
  ⟨h2.os.trans h.os, h2.tape.trans h.tape, h2.output.trans h.output, Nat.le_trans h.size h2.size, fun k hk hn => (h2.block k (Nat.lt_of_lt_of_le hk h.size) (fun h' => (hs k h').elim hn (fun h'' => by omega))).trans (h.block k hk hn)⟩
theorem Kp.of_below {w w' : World} (h : Below w.heap.size w w') (S : Nat → Prop) : Kp w w' S := ⟨h.os, h.tape, h.output, h.size, fun k hk _ => h.block k hk⟩
theorem Kp.below {w w1 w2 : World} {S : Nat → Prop} (h : Kp w w1 S) (h2 : Below w1.heap.size w1 w2) : Kp w w2 S := h.trans (Kp.of_below h2 (fun _ => False)) (fun _ h => h.elim)
theorem Kp.to_below {w w' : World} {S : Nat → Prop} (h : Kp w w' S) (hs : ∀ k, S k → w.heap.size ≤ k) : Below w.heap.size w w' := ⟨h.os, h.tape, h.output, h.size, fun k hk => h.block k hk (fun h' => by have := hs k h'; omega)⟩
theorem Kp.drew {w w' : World} {S : Nat → Prop} (h : Kp w w' S) : Kp w w'.drew S := ⟨h.os, h.tape, h.output, h.size, h.block⟩
theorem Kp.drewN {w w' : World} {S : Nat → Prop} (h : Kp w w' S) (n : Nat) : Kp w (w'.drewN n) S := ⟨h.os, h.tape, h.output, h.size, h.block⟩
theorem Kp.alloc {w w' : World} {S : Nat → Prop} (h : Kp w w' S) (o : Obj) : Kp w (w'.alloc o) S := h.below ((Below.refl _ _).alloc (Nat.le_refl _) o)
theorem Kp.setCell {w w' : World} {S : Nat → Prop} (h : Kp w w' S) {p : Addr} (hp : S p.block ∨ w.heap.size ≤ p.block) (u : Value) : Kp w (w'.setCell p u) S :=
  h.trans (S2 := fun k => k = p.block) ⟨rfl, rfl, rfl, by simp [World.setCell], fun k hk hn => Below.heap_setCell w' p u k hn⟩ (fun k hk => by rw [hk]; exact hp)
theorem Kp.grown {w w1 w2 : World} {S : Nat → Prop} {row : Option Nat} (h : Kp w w1 S) (hg : w1.grownBy w2 row) (hr : ∀ k, row = some k → S k ∨ w.heap.size ≤ k) : Kp w w2 S :=
  h.trans (S2 := fun k => row = some k) ⟨hg.os, hg.tape, hg.output, hg.size, fun k hk hn => hg.block k hk (fun e => hn e.symm)⟩ (fun k hk => hr k hk)
theorem Kp.heap {w w' : World} {S : Nat → Prop} (h : Kp w w' S) {k : Nat} {o : Obj} (ho : w.heap[k]? = some o) (hn : ¬ S k) : w'.heap[k]? = some o := (h.block k (Array.getElem?_eq_some_iff.1 ho).1 hn).trans ho
theorem cell_of_blk {w : World} {g : Nat} {cs : Array Value} {t : TypeId} {fr : Nat × Nat} (h : w.heap[g]? = some (.cells cs t fr)) (i : Nat) : w.cell? ⟨g, i, none⟩ = cs[i]? := by simp [World.cell?, h]
def litS (s : ByteArray) : Lit := .string s.data.toList
theorem litS_ne {s u : ByteArray} (h : s ≠ u) : litS s ≠ litS u := by
  intro e
  simp only [litS, Lit.string.injEq] at e
  exact h (ByteArray.ext (Array.ext' e))
/-- The map has each text's place, and nothing else. -/
structure PlacesOk (D : DataW Unit) (l : List ByteArray) : Prop where
  tidy : Maps.Tidy D
  size : Maps.size D ≤ l.length
  has : ∀ s, Maps.has D (litS s) = isIn l s
  at_ : ∀ s, D.atKey (litS s) (.lit (.int .i64 0)) = .lit (.int .i64 (if isIn l s then (posOf l s : Int) else 0))
theorem PlacesOk.empty : PlacesOk (.map []) [] := ⟨Maps.tidy_empty, Nat.le_refl _, fun _ => rfl, fun _ => rfl⟩
theorem PlacesOk.put {D : DataW Unit} {l : List ByteArray} (h : PlacesOk D l) {s : ByteArray} (hs : s ∉ l) (ht : Maps.Tidy (D.put (litS s) (.lit (.int .i64 (l.length : Int))))) : PlacesOk (D.put (litS s) (.lit (.int .i64 (l.length : Int)))) (l ++ [s]) := by
  refine ⟨ht, ?_, fun u => ?_, fun u => ?_⟩
  · rw [Maps.size_put h.tidy, h.has, isIn_ne.2 hs]
    have := h.size
    simp; exact this
  · by_cases e : u = s
    · subst e
      rw [Maps.has_put_same h.tidy.isMap (show WideAt.IsKeyLit (litS u) from trivial), isIn_iff.2 (by simp)]
    · rw [Maps.has_put_other (litS_ne e), h.has, Bool.eq_iff_iff, isIn_iff, isIn_iff]
      simp [e]
  · by_cases e : u = s
    · subst e
      rw [Maps.atKey_put_same h.tidy.isMap (show WideAt.IsKeyLit (litS u) from trivial), isIn_iff.2 (by simp), posOf_app_not hs]
      simp [posOf, sEq_refl]
    · rw [Maps.atKey_put_other (litS_ne e), h.at_]
      have e1 : isIn (l ++ [s]) u = isIn l u := by rw [Bool.eq_iff_iff, isIn_iff, isIn_iff]; simp [e]
      rw [e1]
      by_cases hu : u ∈ l
      · rw [isIn_iff.2 hu, posOf_app hu]
      · rw [isIn_ne.2 hu]; rfl
/-- without some of the last ones -/
theorem PlacesOk.cut {D D' : DataW Unit} {l : List ByteArray} (h : PlacesOk D l) (hn : l.Nodup) (n : Nat) (hd : n < l.length) (hD : D' = D.del (litS l[n])) (ht : Maps.Tidy D') (hz : n + 1 = l.length) : PlacesOk D' (l.take n) := by
  subst hD
  have hl : l = l.take n ++ [l[n]] := by
    conv => lhs; rw [← List.take_append_drop n l]
    rw [List.drop_eq_getElem_cons hd, List.drop_of_length_le (by omega)]
  have hni : l[n] ∉ l.take n := by
    intro hm
    have h1 := posOf_at hn n hd
    have h2 := posOf_lt hm
    rw [posOf_take n hm, h1, List.length_take] at h2
    omega
  refine ⟨ht, ?_, fun u => ?_, fun u => ?_⟩
  · have h1 := Maps.size_del (k := litS l[n]) h.tidy
    rw [h.has, isIn_iff.2 (List.getElem_mem hd)] at h1
    have := h.size
    simp only [if_true] at h1
    rw [List.length_take]; omega
  · by_cases e : u = l[n]
    · subst e
      rw [Maps.has_del_same, isIn_ne.2 hni]
    · rw [Maps.has_del_other (litS_ne e), h.has, Bool.eq_iff_iff, isIn_iff, isIn_iff]
      conv => lhs; rw [hl]
      rw [List.mem_append, List.mem_singleton]
      exact ⟨fun h => h.resolve_right e, .inl⟩
  · by_cases e : u = l[n]
    · subst e
      rw [Maps.atKey_del_same, isIn_ne.2 hni]; rfl
    · rw [Maps.atKey_del_other (litS_ne e), h.at_]
      have e1 : isIn (l.take n) u = isIn l u := by
        rw [Bool.eq_iff_iff, isIn_iff, isIn_iff]
        conv => rhs; rw [hl]
        rw [List.mem_append, List.mem_singleton]
        exact ⟨.inl, fun h => h.resolve_right e⟩
      rw [e1]
      by_cases hu : u ∈ l.take n
      · rw [posOf_take n hu]
      · rw [isIn_ne.2 hu] at e1
        rw [← e1]; rfl
/-- what the map's lookup answers -/
def atI (l : List ByteArray) (s : ByteArray) : Int := if isIn l s then (posOf l s : Int) else 0
theorem law9 : Keyed Try.prog 9 := Maps.string_keyed Try.underlying9
theorem zero_int (w : World) : (zeroValue 3).run Try.prog w = .ok (.int .i64 0) w := by kernel_rfl
theorem info_str : (Try.prog.info? 9).map (fun i => (i.zero, i.size, i.bytes)) = some (some (.string ⟨#[]⟩), 1, 16) := by kernel_rfl
theorem look_run {w : World} {b n : Nat} {D : DataW Unit} {l : List ByteArray} (h : w.ownsMap Try.prog 9 (plainElem (H := Unit) Try.prog 3) b n D) (hp : PlacesOk D l) {s : ByteArray} (hs : s.size ≤ maxLen) :
    (Instr.lookup 124 (.map (some b)) (.string s) true).run Try.prog w = .ok (.tuple #[.int .i64 (atI l s), .bool (isIn l s)]) w := by
  have hk : keyOf Try.prog 9 (.string s) = some (litS s) := Go.WideMaps.keyOf_string_mk Try.underlying9 hs
  obtain ⟨v, ps, hrun, hv⟩ := h.look_ok (t := 124) law9 Try.underlying124 (zero_int w) (plainElem_int (H := Unit) Try.underlying3 (by decide)) hk
  rw [hp.has] at hrun
  rw [hp.at_] at hv
  obtain ⟨c, rfl, hc, _⟩ := plainElem_int_inv Try.underlying3 hv
  simp only [Prod.mk.injEq, DataW.lit.injEq, Lit.int.injEq, true_and] at hc
  rw [hrun, ← hc.1]; rfl
theorem look_run_nil {w : World} {s : ByteArray} (hs : s.size ≤ maxLen) :
    (Instr.lookup 124 (.map none) (.string s) true).run Try.prog w = .ok (.tuple #[.int .i64 0, .bool false]) w := by
  have hk : keyOf Try.prog 9 (.string s) = some (litS s) := Go.WideMaps.keyOf_string_mk Try.underlying9 hs
  have := Maps.look_nil (P := Try.prog) (w := w) (t := 124) true law9 Try.underlying124 (zero_int w) hk
  simpa using this
theorem C_move {α : Type} {d : Kd α} {W W' : World} {A : Option Addr} {xs : List α} (hd : ∀ {x : α} {cs : List Value}, d.K W x cs → d.K W' x cs) (h : d.C W A xs.length xs) (hb : ∀ a, A = some a → xs ≠ [] → W'.heap[a.block]? = W.heap[a.block]?) : d.C W' A xs.length xs :=
  ⟨h.1, h.2.1, fun hn => by
    obtain ⟨ad, e, hc⟩ := h.2.2 hn
    refine ⟨ad, e, fun j p hj => ?_⟩
    obtain ⟨c, hs, hr, hcell⟩ := hc j p hj
    refine ⟨c, hs, hd hr, fun i u hu => ?_⟩
    have h1 := hcell i u hu
    have h2 := hb ad e (by intro e0; rw [e0] at hn; exact absurd hn (by simp))
    have h3 : (ad.add (j * d.sz + i)).block = ad.block := by unfold Addr.add; split <;> rfl
    simpa [World.cell?, h3, h2] using h1⟩
/-- A row of texts: of one's own, or one that is full to its capacity. -/
def AllR (W : World) (ok : Nat → Prop) (v : Value) (l : List ByteArray) : Prop :=
  Kd.R Kd.string 9 W 0 ok v l ∨ ∃ A, v = .slice A l.length l.length ∧ (A = none → l = []) ∧ Kd.C Kd.string W A l.length l ∧ ∀ a, A = some a → l ≠ [] → ok a.block
theorem AllR.mono {W : World} {ok ok' : Nat → Prop} {v : Value} {l : List ByteArray} (h : AllR W ok v l) (hi : ∀ k, ok k → ok' k) : AllR W ok' v l :=
  h.imp (fun h => Kd.R_mono h hi) (fun ⟨A, e, h1, h2, h3⟩ => ⟨A, e, h1, h2, fun a ha hl => hi _ (h3 a ha hl)⟩)
theorem AllR.move {W W' : World} {ok : Nat → Prop} {v : Value} {l : List ByteArray} (h : AllR W ok v l) (hb : ∀ k, ok k → k < W.heap.size → W'.heap[k]? = W.heap[k]?) : AllR W' ok v l := by
  rcases h with h | ⟨A, e, h1, h2, h3⟩
  · exact .inl (Kd.R_step h hb)
  · refine .inr ⟨A, e, h1, C_move (W := W) (W' := W') (d := Kd.string) (fun h => h) h2 (fun a ha hl => hb _ (h3 a ha hl) ?_), h3⟩
    subst ha
    obtain ⟨x, xs, rfl⟩ := List.exists_cons_of_ne_nil hl
    obtain ⟨ad, e, hc⟩ := Kd.at_string h2 0 (by omega) (by simp)
    cases e
    have := World.block_lt_of_cell? W _ hc
    unfold Addr.add at this
    split at this <;> exact this
theorem AllR.typed {W : World} {ok : Nat → Prop} {v : Value} {l : List ByteArray} (h : AllR W ok v l) : AllR W (fun k => ok k ∧ k < W.heap.size ∧ ∃ c t fr, W.heap[k]? = some (.cells c t fr)) v l := by
  rcases h with h | ⟨A, e, h1, h2, h3⟩
  · refine .inl (Kd.R_mono (Kd.R_bound h) (fun k hk => ⟨hk.1, hk.2.2.1, ?_⟩))
    obtain ⟨_, _, cells, hc⟩ := hk.2.2.2
    exact ⟨_, _, _, hc⟩
  · refine .inr ⟨A, e, h1, h2, fun a ha hl => ⟨h3 a ha hl, ?_⟩⟩
    subst ha
    obtain ⟨x, xs, rfl⟩ := List.exists_cons_of_ne_nil hl
    obtain ⟨ad, e, hc⟩ := Kd.at_string h2 0 (by omega) (by simp)
    cases e
    have hbk : (a.add (Int.toNat 0)).block = a.block := by unfold Addr.add; split <;> rfl
    have h5 := World.block_lt_of_cell? W _ hc
    rw [hbk] at h5
    refine ⟨h5, ?_⟩
    unfold World.cell? at hc
    rw [hbk] at hc
    split at hc
    · rename_i c t fr heq; exact ⟨_, _, _, heq⟩
    · cases hc
theorem AllR.slice {W : World} {ok : Nat → Prop} {v : Value} {l : List ByteArray} (h : AllR W ok v l) : ∃ A c, v = .slice A l.length c ∧ l.length ≤ c ∧ Kd.C Kd.string W A l.length l := by
  rcases h with h | ⟨A, e, h1, h2, h3⟩
  · obtain ⟨A, c, rfl⟩ := Kd.R_slice h
    have h2 := Kd.R_reads' h
    exact ⟨A, c, rfl, h2.2.1, h2.2.2⟩
  · exact ⟨A, _, e, Nat.le_refl _, h2⟩
theorem AllR.append {P : Program} {ops : Array Oper} {rest : List Oper} {o : Oper} {a : Act} {Q : Exit → Act → World → Prop} {W : World} {ok : Nat → Prop} {v : Value} {l : List ByteArray} (h : AllR W ok v l) (hfresh : ∀ k, W.heap.size ≤ k → ok k)
    (hgd : o.guard = none) (sv x : Operand) (t : TypeId) (ho : o.op = .call { callee := .builtin .append, args := #[sv, x], argTypes := #[t, t] }) (ht : P.underlying t = some (.slice 9))
    (hinfo : (P.info? 9).map (fun i => (i.zero, i.size, i.bytes)) = some (some (.string ⟨#[]⟩), 1, 16)) (s : ByteArray) (hs : a.eval sv = v) (hx : a.eval x = .slice (some ⟨W.heap.size, 0, none⟩) 1 1) (hl : l.length < 1000000)
    (hk : ∀ v1 w1 row, Kd.R Kd.string 9 w1 0 ok v1 (l ++ [s]) → W.grownBy w1 row → (∀ k, row = some k → ok k) → wpList P ops Q rest (a.put o.dst v1) w1) :
    wpList P ops Q (o :: rest) a (W.alloc (.cells #[.string s] 9)) := by
  rcases h with h | ⟨A, e, h1, h2, h3⟩
  · refine Kd.R_append Kd.string (w0 := W) 0 hgd sv x t 9 (.string ⟨#[]⟩) 16 ho ht hinfo rfl (by decide) (by decide) v l s [.string s] ok (fun _ => False) hs hx rfl (fun _ h => h.elim) hfresh h (Below.refl 0 W) (Nat.zero_le _) (by omega) ?_
    intro v1 w1 hr _ hg _
    exact hk v1 w1 _ hr hg (fun k hk => h.1 k hk)
  · obtain ⟨i0, hi, hzz⟩ := Option.map_eq_some_iff.1 hinfo
    simp only [Prod.mk.injEq] at hzz
    obtain ⟨hz0, hz1, hz2⟩ := hzz
    refine wpList_append_grows _ hgd sv x t ho 9 i0 (.string ⟨#[]⟩) 1 16 ht hi hz0 hz1 hz2 rfl (by decide) A l.length l.length (l.map Value.string) (hs.trans e) (fun e => by rw [h1 e]; exact ⟨rfl, rfl⟩) (by simp) ?_
      ⟨W.heap.size, 0, none⟩ 1 1 [.string s] hx rfl ?_ (by simp [Value.oneCell']) (by omega) (by simp only [maxLen]; omega) (by omega) ?_
    · intro b hb j u hu
      rw [List.getElem?_map, Option.map_eq_some_iff] at hu
      obtain ⟨p, hp, rfl⟩ := hu
      have hj := (List.getElem?_eq_some_iff.1 hp).1
      obtain ⟨ad, e1, hc⟩ := Kd.at_string h2 (j : Int) (by omega) (by omega)
      rw [hb] at e1; cases e1
      rw [Int.toNat_natCast] at hc
      have : rdOf ByteArray.empty l (j : Int) = p := by
        unfold rdOf
        rw [Int.toNat_natCast, List.getD_eq_getElem?_getD, hp]; rfl
      rw [this] at hc
      exact pw_cell_below ((Below.refl _ _).alloc (Nat.le_refl _) _) hc
    · intro j u hu
      match j with
      | 0 =>
        simp at hu; subst hu
        have e0 : (⟨W.heap.size, 0, none⟩ : Addr).add 0 = ⟨W.heap.size, 0, none⟩ := by simp [Addr.add]
        rw [e0]
        exact (cell_of_blk (heap_new W _) 0).trans rfl
      | j + 1 => simp at hu
    · intro v1 w1 hown hg
      have hown' : w1.ownsRow (W.alloc (.cells #[.string s] 9)).heap.size 9 1 v1 (l ++ [s]).length (encs Value.string (l ++ [s])) := by simpa [encs] using hown
      have hbase : ∀ k, v1.ownBlock = some k → ok k := fun k hk' => hfresh k (by have := own_base hown' k hk'; simp at this; omega)
      exact hk v1 w1 none (Kd.R_lower (Kd.R_of_own hown' hbase) (Nat.zero_le _)) (World.grownBy.trans (World.grownBy_alloc W _ _) hg) (fun k e => by cases e)
/-- The map that a table has. -/
def MapAt (W : World) (S : Nat → Prop) (mv : Value) (l : List ByteArray) : Prop :=
  (mv = .map none ∧ l = []) ∨ ∃ b D, mv = .map (some b) ∧ S b ∧ W.ownsMap Try.prog 9 (plainElem (H := Unit) Try.prog 3) b (Maps.size D) D ∧ PlacesOk D l
/-- The table at block g, all of whose blocks are in S, has these texts. -/
structure Tab (W : World) (S : Nat → Prop) (g : Nat) (l : List ByteArray) : Prop where
  lt : ∀ k, S k → k < W.heap.size
  mem : S g
  nodup : l.Nodup
  len : l.length ≤ 1000000
  wide : ∀ s ∈ l, s.size ≤ maxLen
  out : ∃ allv mv, W.heap[g]? = some (.cells #[allv, mv] 128 (0, 0)) ∧ AllR W (fun k => S k ∧ k ≠ g) allv l ∧ MapAt W S mv l
theorem Tab.keep {W W' : World} {S S2 : Nat → Prop} {g : Nat} {l : List ByteArray} (h : Tab W S g l) (hk : Kp W W' S2) (hn : ∀ k, S k → ¬ S2 k) : Tab W' S g l := by
  have hb : ∀ k, S k → W'.heap[k]? = W.heap[k]? := fun k hk' => hk.block k (h.lt k hk') (hn k hk')
  obtain ⟨allv, mv, h1, h2, h3⟩ := h.out
  refine ⟨fun k hk' => Nat.lt_of_lt_of_le (h.lt k hk') hk.size, h.mem, h.nodup, h.len, h.wide, allv, mv, (hb g h.mem).trans h1, h2.move (fun k hk' _ => hb k hk'.1), ?_⟩
  rcases h3 with h3 | ⟨b, D, rfl, hS, ⟨es, clock, hh, r⟩, hp⟩
  · exact .inl h3
  · exact .inr ⟨b, D, rfl, hS, ⟨es, clock, (hb b hS).trans hh, r⟩, hp⟩
/-- What a call that writes a table leaves. -/
def TabDone (w w' : World) (S : Nat → Prop) (g : Nat) (l : List ByteArray) : Prop := ∃ S', Tab w' S' g l ∧ (∀ k, S' k → S k ∨ w.heap.size ≤ k) ∧ Kp w w' S
end Go.Proofs.Ythpbkhagjgggjaa
