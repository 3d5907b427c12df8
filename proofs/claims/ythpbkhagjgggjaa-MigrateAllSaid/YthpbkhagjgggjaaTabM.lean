/- Texts, each once: the mathematics of a table of texts. -/
import Derived.Test.YthpbkhagjgggjaaMy
set_option linter.unusedVariables false
namespace Go.Proofs.Ythpbkhagjgggjaa
/-- two texts are one -/
def sEq (s t : ByteArray) : Bool := s.data.toList == t.data.toList
theorem sEq_iff {s t : ByteArray} : sEq s t = true ↔ s = t := by
  unfold sEq
  rw [beq_iff_eq]
  exact ⟨fun h => ByteArray.ext (Array.ext' h), fun h => by rw [h]⟩
theorem sEq_refl (s : ByteArray) : sEq s s = true := sEq_iff.2 rfl
theorem sEq_ne {s t : ByteArray} : sEq s t = false ↔ s ≠ t := by
  cases h : sEq s t
  · simp; intro e; rw [sEq_iff.2 e] at h; cases h
  · simp; exact sEq_iff.1 h
def isIn (l : List ByteArray) (s : ByteArray) : Bool := l.any (sEq s)
def posOf (l : List ByteArray) (s : ByteArray) : Nat := l.findIdx (sEq s)
theorem isIn_iff {l : List ByteArray} {s : ByteArray} : isIn l s = true ↔ s ∈ l := by
  unfold isIn
  rw [List.any_eq_true]
  exact ⟨fun ⟨x, hx, h⟩ => by rw [sEq_iff.1 h]; exact hx, fun h => ⟨s, h, sEq_refl s⟩⟩
theorem isIn_ne {l : List ByteArray} {s : ByteArray} : isIn l s = false ↔ s ∉ l := by
  rw [← isIn_iff]; simp
theorem posOf_le (l : List ByteArray) (s : ByteArray) : posOf l s ≤ l.length := List.findIdx_le_length
theorem posOf_lt {l : List ByteArray} {s : ByteArray} (h : s ∈ l) : posOf l s < l.length := List.findIdx_lt_length_of_exists ⟨s, h, sEq_refl s⟩
theorem posOf_get {l : List ByteArray} {s : ByteArray} (h : s ∈ l) : l[posOf l s]? = some s := by
  have hlt := posOf_lt h
  rw [List.getElem?_eq_getElem hlt]
  have := List.findIdx_getElem (w := hlt)
  exact congrArg some (sEq_iff.1 this).symm
theorem posOf_none {l : List ByteArray} {s : ByteArray} (h : s ∉ l) : posOf l s = l.length := by
  unfold posOf
  rw [List.findIdx_eq_length]
  intro x hx
  exact sEq_ne.2 (fun e => h (by rw [e]; exact hx))
theorem posOf_inj {l : List ByteArray} {s u : ByteArray} (hs : s ∈ l) (hu : u ∈ l) (h : posOf l s = posOf l u) : s = u := by
  have h1 := posOf_get hs
  rw [h, posOf_get hu] at h1
  exact (Option.some.inj h1).symm
theorem posOf_app {l r : List ByteArray} {s : ByteArray} (h : s ∈ l) : posOf (l ++ r) s = posOf l s := by
  unfold posOf
  rw [List.findIdx_append, if_pos]
  exact posOf_lt h
theorem posOf_app_not {l r : List ByteArray} {s : ByteArray} (h : s ∉ l) : posOf (l ++ r) s = l.length + posOf r s := by
  unfold posOf
  rw [List.findIdx_append, if_neg]
  · omega
  · have := posOf_none h
    unfold posOf at this
    omega
theorem posOf_at {l : List ByteArray} (hn : l.Nodup) (i : Nat) (h : i < l.length) : posOf l l[i] = i := by
  have hm := List.getElem_mem h
  have h1 := posOf_get hm
  have hlt := posOf_lt hm
  rw [List.getElem?_eq_getElem hlt] at h1
  have h2 := Option.some.inj h1
  exact (List.getElem_inj hn).1 h2
/-- with a text, if it isn't there -/
def tput (l : List ByteArray) (s : ByteArray) : List ByteArray := if isIn l s then l else l ++ [s]
theorem tput_in {l : List ByteArray} {s : ByteArray} (h : s ∈ l) : tput l s = l := by unfold tput; rw [isIn_iff.2 h]; rfl
theorem tput_out {l : List ByteArray} {s : ByteArray} (h : s ∉ l) : tput l s = l ++ [s] := by unfold tput; rw [isIn_ne.2 h]; rfl
theorem mem_tput {l : List ByteArray} {s u : ByteArray} : u ∈ tput l s ↔ u ∈ l ∨ u = s := by
  by_cases h : s ∈ l
  · rw [tput_in h]
    exact ⟨.inl, fun h' => h'.elim id (fun e => by rw [e]; exact h)⟩
  · rw [tput_out h, List.mem_append]; simp
theorem tput_nodup {l : List ByteArray} (s : ByteArray) (h : l.Nodup) : (tput l s).Nodup := by
  by_cases hs : s ∈ l
  · rw [tput_in hs]; exact h
  · rw [tput_out hs, List.nodup_append]
    refine ⟨h, by simp, ?_⟩
    intro a ha b hb
    simp at hb
    subst hb
    intro e; subst e; exact hs ha
theorem tput_len_le (l : List ByteArray) (s : ByteArray) : (tput l s).length ≤ l.length + 1 := by
  unfold tput; split
  · omega
  · simp
theorem tput_len_ge (l : List ByteArray) (s : ByteArray) : l.length ≤ (tput l s).length := by
  unfold tput; split
  · omega
  · simp
theorem posOf_tput_self (l : List ByteArray) (s : ByteArray) : posOf (tput l s) s = posOf l s := by
  by_cases h : s ∈ l
  · rw [tput_in h]
  · rw [tput_out h, posOf_app_not h, posOf_none h]
    simp [posOf, sEq_refl]
/-- of texts, each once -/
def tnewOn (l ts : List ByteArray) : List ByteArray := ts.foldl tput l
def tnew (ts : List ByteArray) : List ByteArray := tnewOn [] ts
theorem tnewOn_snoc (l ts : List ByteArray) (s : ByteArray) : tnewOn l (ts ++ [s]) = tput (tnewOn l ts) s := by
  unfold tnewOn; rw [List.foldl_append]; rfl
theorem tnew_snoc (ts : List ByteArray) (s : ByteArray) : tnew (ts ++ [s]) = tput (tnew ts) s := tnewOn_snoc _ _ _
theorem tnew_take (ts : List ByteArray) (i : Nat) (h : i < ts.length) : tnew (ts.take (i + 1)) = tput (tnew (ts.take i)) ts[i] := by
  rw [List.take_succ_eq_append_getElem h, tnew_snoc]
theorem tnewOn_nodup (l ts : List ByteArray) (h : l.Nodup) : (tnewOn l ts).Nodup := by
  unfold tnewOn
  induction ts generalizing l with
  | nil => exact h
  | cons s ts ih => exact ih _ (tput_nodup s h)
theorem tnew_nodup (ts : List ByteArray) : (tnew ts).Nodup := tnewOn_nodup [] ts (by simp)
theorem mem_tnewOn (l ts : List ByteArray) (u : ByteArray) : u ∈ tnewOn l ts ↔ u ∈ l ∨ u ∈ ts := by
  unfold tnewOn
  induction ts generalizing l with
  | nil => simp
  | cons s ts ih =>
    rw [List.foldl_cons, ih, mem_tput, List.mem_cons]
    constructor
    · rintro ((h | h) | h)
      · exact .inl h
      · exact .inr (.inl h)
      · exact .inr (.inr h)
    · rintro (h | h | h)
      · exact .inl (.inl h)
      · exact .inl (.inr h)
      · exact .inr h
theorem mem_tnew (ts : List ByteArray) (u : ByteArray) : u ∈ tnew ts ↔ u ∈ ts := by
  unfold tnew; rw [mem_tnewOn]; simp
theorem tnewOn_len (l ts : List ByteArray) : (tnewOn l ts).length ≤ l.length + ts.length := by
  unfold tnewOn
  induction ts generalizing l with
  | nil => simp
  | cons s ts ih =>
    have h1 := ih (tput l s)
    have h2 := tput_len_le l s
    rw [List.foldl_cons, List.length_cons]; omega
theorem tnew_len (ts : List ByteArray) : (tnew ts).length ≤ ts.length := by have := tnewOn_len [] ts; simpa [tnew] using this
theorem tnewOn_self (l : List ByteArray) : ∀ (ts : List ByteArray), (l ++ ts).Nodup → tnewOn l ts = l ++ ts := by
  intro ts
  induction ts generalizing l with
  | nil => intro _; simp [tnewOn]
  | cons s ts ih =>
    intro h
    have hs : s ∉ l := by
      rw [List.nodup_append] at h
      exact fun hm => h.2.2 s hm s (by simp) rfl
    show tnewOn (tput l s) ts = _
    rw [tput_out hs, ih (l ++ [s]) (by simpa using h)]
    simp
theorem tnew_self {l : List ByteArray} (h : l.Nodup) : tnew l = l := by
  have := tnewOn_self [] l (by simpa using h)
  simpa [tnew] using this
theorem take_nodup {l : List ByteArray} (n : Nat) (h : l.Nodup) : (l.take n).Nodup := h.sublist (List.take_sublist n l)
theorem isIn_take {l : List ByteArray} (n : Nat) (s : ByteArray) : isIn (l.take n) s = (isIn l s && decide (posOf l s < n)) := by
  rw [Bool.eq_iff_iff, Bool.and_eq_true, isIn_iff, isIn_iff, decide_eq_true_eq]
  constructor
  · intro h
    refine ⟨List.mem_of_mem_take h, ?_⟩
    have h1 := posOf_lt h
    have h2 := posOf_app (r := l.drop n) h
    rw [List.take_append_drop] at h2
    rw [List.length_take] at h1
    omega
  · rintro ⟨h, hlt⟩
    have h1 := posOf_get h
    have h2 : (l.take n)[posOf l s]? = some s := by rw [List.getElem?_take_of_lt hlt]; exact h1
    exact List.mem_of_getElem? h2
theorem posOf_take {l : List ByteArray} (n : Nat) {s : ByteArray} (h : s ∈ l.take n) : posOf (l.take n) s = posOf l s := by
  have h2 := posOf_app (r := l.drop n) h
  rw [List.take_append_drop] at h2
  exact h2.symm
end Go.Proofs.Ythpbkhagjgggjaa
