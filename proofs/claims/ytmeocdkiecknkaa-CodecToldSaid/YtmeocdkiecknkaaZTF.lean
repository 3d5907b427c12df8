/- Texts laid as one by shake.py, cut to what the claim needs: CoJ, CoF, CoH, CoL, CoM, CoT, CoI, WCodecTold. (Names that begin with W and the print's groups (G..x, G..z): laid by the kit's print, cut.) -/
import Derived.Test.YtmeocdkiecknkaaZTx
import Derived.Test.YtmeocdkiecknkaaZTE
import Derived.Test.YtmeocdkiecknkaaZTD
import Derived.Test.YtmeocdkiecknkaaZTt
import Derived.Test.YtmeocdkiecknkaaZTk
import Derived.Test.YtmeocdkiecknkaaZTe
set_option linter.unusedVariables false
set_option linter.unusedSimpArgs false
namespace Go.Proofs.Ytmeocdkiecknkaa
open Go.RowKit Go.Proofs.YtmeocdkiecknkaaW.PrintWords Go.Proofs.Ytmeocdkiecknkaa.GRR
def stF (v : Int) (ps : List (List Int)) : Nat → List ByteArray × Int → List ByteArray × Int
 | 0, s => s
 | i + 1, s => stF v ps i ((getF v s.1 ps s.2).2.2.1, (getF v s.1 ps s.2).2.1)
theorem stF_succ (v : Int) (ps : List (List Int)) : ∀ (i : Nat) (s : List ByteArray × Int), stF v ps (i + 1) s = ((getF v (stF v ps i s).1 ps (stF v ps i s).2).2.2.1, (getF v (stF v ps i s).1 ps (stF v ps i s).2).2.1) := by
 intro i
 induction i with
 | zero => intro s; rfl
 | succ i ih => intro s; rw [stF, ih]; rfl
theorem recsL_at (v : Int) (ps : List (List Int)) : ∀ (f : Nat) (T : List ByteArray) (a : Int), (ps.length : Int) - a < f → 1 ≤ f → ∀ i, i ≤ (recsL v ps f T a).length →
  (∀ x, (recsL v ps f T a)[i]? = some x → (getF v (stF v ps i (T, a)).1 ps (stF v ps i (T, a)).2).2.2.2 = 0 ∧ x = ((getF v (stF v ps i (T, a)).1 ps (stF v ps i (T, a)).2).1, (getF v (stF v ps i (T, a)).1 ps (stF v ps i (T, a)).2).2.1)) ∧
  ((recsL v ps f T a)[i]? = none → (getF v (stF v ps i (T, a)).1 ps (stF v ps i (T, a)).2).2.2.2 ≠ 0) := by
 intro f
 induction f with
 | zero => intro T a _ h; omega
 | succ f ih =>
  intro T a hf _ i hi
  by_cases h : (getF v T ps a).2.2.2 = 0
  ·obtain ⟨n, hn, h1, h2, _, h3⟩ := getF_next h
   have e : recsL v ps (f + 1) T a = ((getF v T ps a).1, (getF v T ps a).2.1) :: recsL v ps f (getF v T ps a).2.2.1 (getF v T ps a).2.1 := by rw [recsL, if_pos h]
   rw [e] at hi ⊢
   match i with
   | 0 => exact ⟨fun x hx => ⟨h, by simpa [stF] using hx.symm⟩, fun hx => by simp at hx⟩
   | i + 1 =>
    have hi' : i ≤ (recsL v ps f (getF v T ps a).2.2.1 (getF v T ps a).2.1).length := by simpa using hi
    have := ih (getF v T ps a).2.2.1 (getF v T ps a).2.1 (by omega) (by omega) i hi'
    rw [List.getElem?_cons_succ, stF]
    exact this
  ·have e : recsL v ps (f + 1) T a = [] := by rw [recsL, if_neg h]
   rw [e] at hi ⊢
   have : i = 0 := by simpa using hi
   subst this
   exact ⟨fun x hx => by simp at hx, fun _ => h⟩
theorem stF_bd (v : Int) (ps : List (List Int)) (f : Nat) (T : List ByteArray) (a : Int) (hf : (ps.length : Int) - a < f) (h1 : 1 ≤ f) (ha : 0 ≤ a ∧ a ≤ ps.length) : ∀ i, i ≤ (recsL v ps f T a).length →
  (stF v ps i (T, a)).1.length ≤ T.length + 18 * i ∧ a + i ≤ (stF v ps i (T, a)).2 ∧ (stF v ps i (T, a)).2 ≤ ps.length := by
 intro i
 induction i with
 | zero => intro _; exact ⟨by simp [stF], by simp [stF], by simp [stF]; omega⟩
 | succ i ih =>
  intro hi
  have h := ih (by omega)
  obtain ⟨y, hy⟩ : ∃ y, (recsL v ps f T a)[i]? = some y := ⟨_, List.getElem?_eq_getElem (by omega)⟩
  have he := ((recsL_at v ps f T a hf h1 i (by omega)).1 y hy).1
  obtain ⟨n, hn, h3, h4, h5, _⟩ := getF_next he
  rw [stF_succ]
  dsimp only
  rw [hn]
  omega
theorem recsL_few (v : Int) (ps : List (List Int)) (f : Nat) (T : List ByteArray) (a : Int) (hf : (ps.length : Int) - a < f) (h1 : 1 ≤ f) (ha : 0 ≤ a ∧ a ≤ ps.length) : (recsL v ps f T a).length ≤ ps.length := by
 have := stF_bd v ps f T a hf h1 ha _ (Nat.le_refl _)
 omega
variable {F : Fence} {n : Nat} {P : Program}
theorem range_rel2 {g : Operand} {ps : Array Tmp} {assign body : Code} {Q : Exit → Act → World → Prop} {a : Act} {w : World}
  (hro : F.round = none) (h1 : F.depth.isSome = true → 1 ≤ n) {gf : Nat} {lb : Array Value} (hg : a.eval g = .func (.func gf) #[] lb) (hFg : F.fn gf) (eg : ∀ args w, (callFunc gf args).run P w = .ok (.enter gf args) w)
  (N : Nat) (J0 : World → Prop) (J : Nat → World → Prop) (Mid : Nat → Array Value → World → Prop) (Mid2 : Nat → Act → World → Prop) (hps : ∀ i x W, Mid i x W → x.size = ps.size)
  (hJ0 : ∀ r, J0 ((w.alloc (.deferred (some []))).alloc (.loop r)))
  (hJp : ∀ i W r o, W.heap[w.heap.size + 1]? = some (.loop r) → J i W → J i (W.putObj (w.heap.size + 1) o))
  (hMp : ∀ i a1 W r o, W.heap[w.heap.size + 1]? = some (.loop r) → Mid2 i a1 W → Mid2 i a1 (W.putObj (w.heap.size + 1) o))
  (hassign : ∀ (i : Nat) (x : Array Value) (W : World) (K : Act → World → Prop), w.heap.size + 1 < W.heap.size → i < N → Mid i x W → (∀ a1 W1, Mid2 i a1 W1 → W1.heap[w.heap.size + 1]? = W.heap[w.heap.size + 1]? → W1.heap[w.heap.size]? = W.heap[w.heap.size]? → K a1 W1) →
   assign.wpIn (F.inRound (w.heap.size + 1)) (n - 1 - 1) P (Exit.then K (fun _ _ _ => False)) { tmps := (ps.zip x).foldl (fun t (p, v) => t.setIfInBounds p v) a.tmps, defers := [] } W)
  (hbody : ∀ (i : Nat) (a1 : Act) (W : World), w.heap.size + 1 < W.heap.size → (∃ r, W.heap[w.heap.size + 1]? = some (.loop r)) → W.heap[w.heap.size]? = some (.deferred (some [])) → i < N → Mid2 i a1 W → body.wpIn (F.inRound (w.heap.size + 1)) (n - 1 - 1) P (bodyEnd (w.heap.size + 1) w.heap.size W (J (i + 1))) a1 W)
  (hiter : ∀ (r : Loop) (W : World), J0 W → Ready (w.heap.size + 1) w.heap.size r W →
   (∀ i x W1, i < N → Mid i x W1 → Ready (w.heap.size + 1) w.heap.size r W1 → Round F (n - 1 - 1) P (w.heap.size + 1) w.heap.size r x W1 (J (i + 1))) →
   CallsIn F (n - 1) P gf (#[.func (.yield (w.heap.size + 1)) #[] #[]] ++ lb) W fun e W' => (∃ v, e = .returned v) ∧ J N W' ∧ Ready (w.heap.size + 1) w.heap.size r W')
  (hdone : ∀ (W : World), J N W → W.heap[w.heap.size]? = some (.deferred (some [])) → Q .normal { a with defers := { target := .collected w.heap.size, args := #[] } :: a.defers } W) :
  (Code.rangeFunc g ps assign body).wpIn F n P Q a w := by
 refine wpIn_rangeFunc ?_
 intro fn hfn
 rw [hro]
 obtain ⟨rec, hrec⟩ : ∃ rec : LoopState → Option Code → Loop, rec = fun st pe => { state := st, pending := pe, fn, tmps := a.tmps, params := ps, assign, body, defers := w.heap.size } := ⟨_, rfl⟩
 obtain ⟨W1, hW1⟩ : ∃ W1, (w.alloc (.deferred (some []))).alloc (.loop (rec .ready none)) = W1 := ⟨_, rfl⟩
 have hL1 : W1.heap[w.heap.size + 1]? = some (.loop (rec .ready none)) := by
  rw [← hW1]; have := World.alloc_heap_new (w.alloc (.deferred (some []))) (.loop (rec .ready none)); rwa [World.size_alloc] at this
 have hK1 : W1.heap[w.heap.size]? = some (.deferred (some [])) := by
  rw [← hW1]; exact (Below.heap_alloc _ _ _ (by simp)).trans (World.alloc_heap_new w _)
 have hI1 : J0 W1 := by rw [← hW1]; exact hJ0 _
 refine ⟨w.heap.size + 1, [{ target := .collected w.heap.size, args := #[] }], W1, { target := .fn (.func gf) lb, args := #[.func (.yield (w.heap.size + 1)) #[] #[]] }, W1, gf,
  #[.func (.yield (w.heap.size + 1)) #[] #[]] ++ lb, W1, ?_, ?_, ?_, ?_, h1, ?_⟩
 ·rw [← hW1, hrec]; exact run_enterLoop_outer _ _ _ _ _
 ·simp only [resolve, hg]
  simp [go_sem]
 ·intro f' hf'; simp [Target.leads] at hf'; subst hf'; exact hFg
 ·simp [invoke, go_sem, eg]
 ·refine (hiter (rec .ready none) W1 hI1 ⟨hL1, hK1⟩ ?_).mono ?_
  ·rintro i x W hx hi ⟨hl, hk⟩
   have hlt : w.heap.size + 1 < W.heap.size := (Array.getElem?_eq_some_iff.1 hl).1
   have hkt : w.heap.size < W.heap.size := (Array.getElem?_eq_some_iff.1 hk).1
   have hy := run_yield (P := P) (args := x) hl (by rw [hrec]; exact hps i x W hi)
   rw [hrec] at hy
   refine ⟨fn, _, assign, body, hy, roundIn_of_wpIn hfn (hassign i x W _ hlt hx hi fun a1 W1 hm hl1 hk1 => ⟨_, run_beginRound (hl1.trans hl) (by rw [hrec]), ?_⟩)⟩
   have hlt1 : w.heap.size + 1 < W1.heap.size := (Array.getElem?_eq_some_iff.1 (hl1.trans hl)).1
   have hl2 : (W1.putObj (w.heap.size + 1) (.loop { rec .ready none with state := .busy })).heap[w.heap.size + 1]? = some (.loop { rec .ready none with state := .busy }) := World.putObj_heap_same hlt1
   have hk2 : (W1.putObj (w.heap.size + 1) (.loop { rec .ready none with state := .busy })).heap[w.heap.size]? = some (.deferred (some [])) := (World.putObj_heap_other (by omega)).trans (hk1.trans hk)
   refine wpIn_mono (hbody i a1 _ (by rw [World.putObj_size]; exact hlt1) ⟨_, hl2⟩ hk2 hx (hMp i a1 W1 _ _ (hl1.trans hl) hm)) ?_
   rintro e a3 W3 hp
   cases e with
   | normal =>
    obtain ⟨hi3, hl3', hk3'⟩ := hp
    have hl3 := hl3'.trans hl2
    have hk3 := hk3'.trans hk2
    have hr := run_endRound (P := P) none hl3
    refine ⟨_, _, hr, rfl, hJp _ _ _ _ hl3 hi3, ?_, (World.putObj_heap_other (by omega)).trans hk3⟩
    rw [World.putObj_heap_same (Array.getElem?_eq_some_iff.1 hl3).1]
    rw [hrec]; rfl
   | ret => exact hp.elim
   | exit id => exact hp.elim
   | goto t => exact hp.elim
   | panic ch => exact hp.elim
   | outgrown => exact hp.elim
  ·rintro e W2 ⟨⟨v, rfl⟩, hi, hl, hk⟩
   exact ⟨none, _, by have := run_endLoop (P := P) hl (by rw [hrec]; simp); rw [hrec] at this; exact this, hdone _ (hJp _ _ _ _ hl hi) ((World.putObj_heap_other (by omega)).trans hk)⟩
end Go.Proofs.Ytmeocdkiecknkaa
namespace Go.Proofs.Ytmeocdkiecknkaa
open Go.RowKit Go.Proofs.YtmeocdkiecknkaaW.PrintWords Go.Proofs.Ytmeocdkiecknkaa.GVB
def PayC (p : List Int) : Prop := 1 ≤ p.length ∧ p.length ≤ 2048 ∧ ∀ x ∈ p, 0 ≤ x ∧ x < 256
theorem frs_is (ps : List (List Int)) : frs ps = framesL ps := List.flatMap_def ..
theorem frameC_bytes (p : List Int) (h : PayC p) : ∀ x ∈ frameL p, 0 ≤ x ∧ x < 256 := frameS_bytes (strOfNums p) (by rw [strOfNums_size]; have := h.2.1; omega)
theorem frsC_bytes (ps : List (List Int)) (h : ∀ p ∈ ps, PayC p) : ∀ x ∈ frs ps, 0 ≤ x ∧ x < 256 := by
 intro x hx
 obtain ⟨p, hp, hx⟩ := List.mem_flatMap.1 hx
 exact frameC_bytes p (h p hp) x hx
theorem frameC_le (p : List Int) (h : PayC p) : 6 ≤ (frameL p).length ∧ (frameL p).length ≤ 2062 := by
 have h1 := frameS_le (strOfNums p) (by rw [strOfNums_size]; have := h.2.1; omega)
 have h2 := frameS_len (strOfNums p)
 have h3 := blob_len (strOfNums p)
 have h4 := List.length_pos_iff.2 (vb_ne (strOfNums p).size)
 rw [strOfNums_size] at h1 h3 h4
 rw [frameL_is]
 have := h.1
 have := h.2.1
 omega
theorem frsC_le (ps : List (List Int)) (h : ∀ p ∈ ps, PayC p) : 6 * ps.length ≤ (frs ps).length ∧ (frs ps).length ≤ 2062 * ps.length := by
 induction ps with
 | nil => simp [frs]
 | cons p ps ih =>
  have h1 := frameC_le p (h p (by simp))
  have h2 := ih (fun q hq => h q (by simp [hq]))
  rw [frs_cons, List.length_append, List.length_cons]; omega
theorem fgetC_at (m p u : List Int) (hp : PayC p) (hm : ∀ x ∈ m, 0 ≤ x ∧ x < 256) (hu : ∀ x ∈ u, 0 ≤ x ∧ x < 256) : fgetS (m ++ (frameL p ++ u)) (m.length : Int) = (strOfNums p, ((m.length + (frameL p).length : Nat) : Int), 0) :=
 fget_frame m (strOfNums p) u (by rw [strOfNums_size]; have := hp.1; have := hp.2.1; omega) hm hu
theorem frunC_frames (ps : List (List Int)) (h : ∀ p ∈ ps, PayC p) : ∀ (k : Nat) (m u : List Int), (∀ x ∈ m, 0 ≤ x ∧ x < 256) → (∀ x ∈ u, 0 ≤ x ∧ x < 256) →
  frunS (ps.length + k) (m ++ (frs ps ++ u)) (m.length : Int) = items m.length ps ++ frunS k (m ++ (frs ps ++ u)) ((m.length + (frs ps).length : Nat) : Int) := by
 induction ps with
 | nil => intro k m u _ _; simp [frs, items]
 | cons p ps ih =>
  intro k m u hm hu
  have hp := h p (by simp)
  have hps := fun q hq => h q (List.mem_cons_of_mem p hq)
  have hm' : ∀ x ∈ m ++ frameL p, 0 ≤ x ∧ x < 256 := by
   intro x hx
   rcases List.mem_append.1 hx with hx | hx
   ·exact hm x hx
   ·exact frameC_bytes p hp x hx
  have hu' : ∀ x ∈ frs ps ++ u, 0 ≤ x ∧ x < 256 := by
   intro x hx
   rcases List.mem_append.1 hx with hx | hx
   ·exact frsC_bytes ps hps x hx
   ·exact hu x hx
  have e : m ++ (frs (p :: ps) ++ u) = m ++ (frameL p ++ (frs ps ++ u)) := by rw [frs_cons, List.append_assoc]
  have e2 : m ++ (frameL p ++ (frs ps ++ u)) = (m ++ frameL p) ++ (frs ps ++ u) := (List.append_assoc _ _ _).symm
  rw [e, List.length_cons, show ps.length + 1 + k = (ps.length + k) + 1 by omega, frunS, fgetC_at m p _ hp hm hu', if_pos rfl]
  dsimp only
  rw [e2, show m.length + (frameL p).length = (m ++ frameL p).length by rw [List.length_append], ih hps k (m ++ frameL p) u hm' hu, items, frs_cons, List.length_append, List.length_append, List.cons_append, Nat.add_assoc]
theorem fgetC_cut (m p : List Int) (j : Nat) (hp : PayC p) (hj : j < (frameL p).length) : (fgetS (m ++ (frameL p).take j) (m.length : Int)).2.2 ≠ 0 := by
 have hsz : (strOfNums p).size = p.length := strOfNums_size p
 have hfl := frameS_len (strOfNums p)
 rw [← frameL_is] at hfl
 have hp1 := hp.1
 have hp2 := hp.2.1
 have hlen : (m ++ (frameL p).take j).length = m.length + j := by rw [List.length_append, List.length_take]; omega
 unfold fgetS
 rw [hlen]
 by_cases h0 : j = 0
 ·rw [if_pos (by omega)]; decide
 rw [if_neg (by omega)]
 by_cases h1 : j < (blob (strOfNums p)).length
 ·have e : m ++ (frameL p).take j = m ++ (blob (strOfNums p)).take j := by unfold frameL; rw [List.take_append_of_le_length (by omega)]
  have := bget_cut m (strOfNums p) j 2048 (by omega) (by omega) h1
  rw [e, if_pos (by rw [this]; decide)]
  dsimp only
  rw [this]; decide
 ·have e : m ++ (frameL p).take j = m ++ (blob (strOfNums p) ++ (crcB (Crc.sum (nats (blob (strOfNums p))))).take (j - (blob (strOfNums p)).length)) := by
   unfold frameL
   rw [List.take_append, List.take_of_length_le (by omega)]
  rw [e, f_bget_blob m (strOfNums p) _ 2048 (by omega) (by omega), if_neg (by simp), if_neg (by show ¬ (strOfNums p).size = 0; omega)]
  dsimp only
  rw [if_pos (by omega)]; decide
theorem endsC_ge (ps : List (List Int)) : ∀ (o i : Nat) (z : Int), (endsO o ps)[i]? = some z → (o : Int) ≤ z := by
 induction ps with
 | nil => intro o i z h; simp [endsO] at h
 | cons p ps ih =>
  intro o i z h
  match i with
  | 0 => simp [endsO] at h; omega
  | i + 1 =>
   rw [endsO, List.getElem?_cons_succ] at h
   have := ih _ _ _ h
   omega
theorem cutC_split (ps : List (List Int)) : ∀ (o k : Nat), ∃ (m : Nat) (u : List Int), m ≤ ps.length ∧ (frs ps).take k = frs (ps.take m) ++ u ∧ (u = [] ∨ ∃ p ∈ ps, ∃ j, u = (frameL p).take j ∧ j < (frameL p).length) ∧ ∀ (i : Nat) (z : Int), (endsO o ps)[i]? = some z → (z ≤ ((o + k : Nat) : Int) ↔ i < m) := by
 induction ps with
 | nil => intro o k; exact ⟨0, [], by simp, by simp [frs], .inl rfl, fun i z h => by simp [endsO] at h⟩
 | cons p ps ih =>
  intro o k
  by_cases h : (frameL p).length ≤ k
  ·obtain ⟨m, u, h1, h2, h3, h4⟩ := ih (o + (frameL p).length) (k - (frameL p).length)
   refine ⟨m + 1, u, by simp; omega, ?_, ?_, fun i z hz => ?_⟩
   ·rw [frs_cons, List.take_append, List.take_of_length_le h, h2, List.take_succ_cons, frs_cons, List.append_assoc]
   ·rcases h3 with h3 | ⟨q, hq, j, hj⟩
    ·exact .inl h3
    ·exact .inr ⟨q, by simp [hq], j, hj⟩
   ·match i with
    | 0 => simp [endsO] at hz; omega
    | i + 1 =>
     rw [endsO, List.getElem?_cons_succ] at hz
     have := h4 i z hz
     omega
  ·refine ⟨0, (frameL p).take k, by simp, ?_, .inr ⟨p, by simp, k, rfl, by omega⟩, fun i z hz => ?_⟩
   ·rw [frs_cons, List.take_append_of_le_length (by omega)]; rfl
   ·match i with
    | 0 => simp [endsO] at hz; omega
    | i + 1 =>
     rw [endsO, List.getElem?_cons_succ] at hz
     have := endsC_ge _ _ _ _ hz
     omega
theorem runsC_frames (hd : List Int) (hh : ∀ x ∈ hd, 0 ≤ x ∧ x < 256) (ps : List (List Int)) (h : ∀ p ∈ ps, PayC p) (u : List Int) (hu : ∀ x ∈ u, 0 ≤ x ∧ x < 256) (hend : (fgetS (hd ++ (frs ps ++ u)) ((hd.length + (frs ps).length : Nat) : Int)).2.2 ≠ 0) : runs (hd ++ (frs ps ++ u)) (hd.length : Int) = items hd.length ps := by
 have hl := (frsC_le ps h).1
 have hlen : (hd ++ (frs ps ++ u)).length = hd.length + ((frs ps).length + u.length) := by rw [List.length_append, List.length_append]
 have := frunC_frames ps h ((hd ++ (frs ps ++ u)).length + 1 - ps.length) hd u hh hu
 rw [show ps.length + ((hd ++ (frs ps ++ u)).length + 1 - ps.length) = (hd ++ (frs ps ++ u)).length + 1 by omega] at this
 unfold runs
 rw [this]
 obtain ⟨q, hq⟩ : ∃ q, (hd ++ (frs ps ++ u)).length + 1 - ps.length = q + 1 := ⟨(hd ++ (frs ps ++ u)).length - ps.length, by omega⟩
 rw [hq, frunS, if_neg hend, List.append_nil]
theorem runsC_cut (hd : List Int) (hh : ∀ x ∈ hd, 0 ≤ x ∧ x < 256) (ps : List (List Int)) (h : ∀ p ∈ ps, PayC p) (k : Nat) (hk : hd.length ≤ k) : ∃ m, m ≤ ps.length ∧ runs ((hd ++ frs ps).take k) (hd.length : Int) = items hd.length (ps.take m) ∧ ∀ (i : Nat) (z : Int), (endsO hd.length ps)[i]? = some z → (z ≤ (k : Int) ↔ i < m) := by
 obtain ⟨m, u, h1, h2, h3, h4⟩ := cutC_split ps hd.length (k - hd.length)
 refine ⟨m, h1, ?_, fun i z hz => by have := h4 i z hz; rwa [show hd.length + (k - hd.length) = k by omega] at this⟩
 have hm : ∀ p ∈ ps.take m, PayC p := fun p hp => h p (List.mem_of_mem_take hp)
 rw [List.take_append, List.take_of_length_le hk, h2]
 rcases h3 with rfl | ⟨p, hp, j, rfl, hj⟩
 ·refine runsC_frames hd hh _ hm [] (by simp) ?_
  unfold fgetS
  rw [if_pos (by rw [List.append_nil, List.length_append])]; decide
 ·refine runsC_frames hd hh _ hm _ (fun x hx => frameC_bytes p (h p hp) x (List.mem_of_mem_take hx)) ?_
  have := fgetC_cut (hd ++ frs (ps.take m)) p j (h p hp) hj
  rwa [List.append_assoc, List.length_append] at this
def fileG (v : Int) (its : List (ByteArray × Int)) : List Rec9 × List Int × Int :=
 let rs := recsL v (its.map fun y => bytesOf y.1) (its.length + 1) [] 0
 let es := rs.map fun x => (its.getD (x.2.toNat - 1) (⟨#[]⟩, 0)).2
 (rs.map (·.1), es, es.getLast?.getD 8)
def recEnds (v : Int) (l : List Rec9) : List Int := (List.range l.length).map fun i => ((8 + (frs (layF v (l.take (i + 1))).1).length : Nat) : Int)
theorem recEnds_len (v : Int) (l : List Rec9) : (recEnds v l).length = l.length := by simp [recEnds]
theorem recEnds_get (v : Int) (l : List Rec9) (i : Nat) (hi : i < l.length) : (recEnds v l)[i]? = some ((8 + (frs (layF v (l.take (i + 1))).1).length : Nat) : Int) := by
 simp [recEnds, hi]
theorem lay_payC {v : Int} (l : List Rec9) (hl : l.length ≤ 1000) (hg : ∀ r ∈ l, GoodR v r) : ∀ p ∈ (layF v l).1, PayC p := by
 have hf := lay_fit (v := v) l hl hg
 have h : ∀ n, n ≤ l.length → ∀ p ∈ (layF v (l.take n)).1, 1 ≤ p.length ∧ p.length ≤ 2048 := by
  intro n
  induction n with
  | zero => intro _ p hp; simp [layF] at hp
  | succ n ih =>
   intro hn p hp
   have e : l.take (n + 1) = l.take n ++ [l[n]] := List.take_succ_eq_append_getElem (by omega)
   have hfn := lay_fit (v := v) (l.take n) (by rw [List.length_take]; omega) (fun r hr => hg r (List.mem_of_mem_take hr))
   rw [e, layF_snoc] at hp
   unfold layStep at hp
   rcases List.mem_append.1 hp with hp | hp
   ·exact ih (by omega) p hp
   ·exact put_len (by have := hfn.t; rw [List.length_take] at this; omega) hfn.nd (hg l[n] (List.getElem_mem _)) p hp
 intro p hp
 have h2 := h l.length (Nat.le_refl _)
 rw [List.take_length] at h2
 exact ⟨(h2 p hp).1, (h2 p hp).2, (hf.b p hp).2⟩
theorem items_map (ps : List (List Int)) (h : ∀ p ∈ ps, PayC p) : ∀ o, (items o ps).map (fun y => bytesOf y.1) = ps := by
 induction ps with
 | nil => intro o; rfl
 | cons p ps ih =>
  intro o
  rw [items, List.map_cons, ih (fun q hq => h q (List.mem_cons_of_mem _ hq))]
  dsimp only
  rw [bytesOf_str p (h p List.mem_cons_self).2.2]
theorem layF_len_mono {v : Int} (l : List Rec9) (i j : Nat) (hij : i ≤ j) : (layF v (l.take i)).1.length ≤ (layF v (l.take j)).1.length := by
 have e : l.take j = l.take i ++ (l.take j).drop i := by
  have h := (List.take_append_drop i (l.take j)).symm
  rwa [List.take_take, Nat.min_eq_left hij] at h
 obtain ⟨post, hp⟩ := layF_pre v (l.take i) ((l.take j).drop i)
 rw [← e] at hp
 rw [hp, List.length_append]; omega
theorem recsL_fuel (v : Int) (ps : List (List Int)) : ∀ (f f' : Nat) (T : List ByteArray) (a : Int), (ps.length : Int) - a < f → (ps.length : Int) - a < f' → 1 ≤ f → 1 ≤ f' → recsL v ps f T a = recsL v ps f' T a := by
 intro f
 induction f with
 | zero => intro f' T a _ _ h; omega
 | succ f ih =>
  intro f' T a h1 h2 _ h4
  obtain ⟨f', rfl⟩ : ∃ q, f' = q + 1 := ⟨f' - 1, by omega⟩
  rw [recsL, recsL]
  by_cases h : (getF v T ps a).2.2.2 = 0
  ·rw [if_pos h, if_pos h]
   obtain ⟨n, hn, h5, h6, _, _⟩ := getF_next h
   rw [hn]
   congr 1
   exact ih f' _ _ (by omega) (by omega) (by omega) (by omega)
  ·rw [if_neg h, if_neg h]
theorem lay_take {v : Int} (l : List Rec9) (j : Nat) : (layF v l).1.take (layF v (l.take j)).1.length = (layF v (l.take j)).1 := by
 obtain ⟨post, hp⟩ := layF_pre v (l.take j) (l.drop j)
 rw [List.take_append_drop] at hp
 rw [hp, List.take_left]
theorem lay_lt {v : Int} {l : List Rec9} (hl : l.length ≤ 1000) (hg : ∀ r ∈ l, GoodR v r) (j : Nat) (hj : j < l.length) : 1 ≤ (layF v (l.take (j + 1))).1.length ∧ (layF v (l.take (j + 1))).1.length ≤ (layF v l).1.length := by
 have h1 := (getF_lay hl hg j hj).2
 have h2 := layF_len_mono (v := v) l (j + 1) l.length (by omega)
 rw [List.take_length] at h2
 omega
theorem file_cut {v : Int} {l : List Rec9} (hl : l.length ≤ 1000) (hg : ∀ r ∈ l, GoodR v r) (hv : 1 ≤ v ∧ v ≤ 3) (hd : List Int) (hh : hd.length = 8 ∧ ∀ x ∈ hd, 0 ≤ x ∧ x < 256) (k : Nat) (hk : 8 ≤ k) :
  ∃ m, m ≤ l.length ∧ fileG v (runs ((hd ++ frs (layF v l).1).take k) 8) = (l.take m, (recEnds v l).take m, ((recEnds v l).take m).getLast?.getD 8) ∧ ∀ (i : Nat) (z : Int), (recEnds v l)[i]? = some z → (z ≤ (k : Int) ↔ i < m) := by
 have hp := lay_payC (v := v) l hl hg
 obtain ⟨m, hm, hr, hz⟩ := runsC_cut hd hh.2 (layF v l).1 hp k (by omega)
 rw [hh.1] at hr hz
 have hr8 : runs ((hd ++ frs (layF v l).1).take k) 8 = items 8 ((layF v l).1.take m) := hr
 obtain ⟨q, _, hq1, hq2, hq3, hrs⟩ := recsL_take hl hg m hv l.length 0 (m + 1 + l.length) (by omega) (by omega) (by simp [layF])
 have hlen : ((layF v l).1.take m).length = m := by rw [List.length_take]; omega
 have hend : ∀ i, i < l.length → (endsO 8 (layF v l).1)[(layF v (l.take (i + 1))).1.length - 1]? = some ((8 + (frs (layF v (l.take (i + 1))).1).length : Nat) : Int) := by
  intro i hi
  have h1 := lay_lt hl hg i hi
  rw [endsO_get _ _ (by omega) 8, show (layF v (l.take (i + 1))).1.length - 1 + 1 = (layF v (l.take (i + 1))).1.length by omega, lay_take]
 have hiff : ∀ i, i < l.length → ((layF v (l.take (i + 1))).1.length ≤ m ↔ i < q) := by
  intro i hi
  constructor
  ·intro h
   rcases Nat.lt_or_ge i q with h1 | h1
   ·exact h1
   ·have h2 := hq3 (by omega)
    have h3 := layF_len_mono (v := v) l (q + 1) (i + 1) (by omega)
    omega
  ·intro h
   have h3 := layF_len_mono (v := v) l (i + 1) q (by omega)
   omega
 have hes : (List.range' 0 q).map (fun i => ((items 8 ((layF v l).1.take m)).getD ((((layF v (l.take (i + 1))).1.length : Nat) : Int).toNat - 1) (⟨#[]⟩, 0)).2) = (recEnds v l).take q := by
  apply List.ext_getElem?
  intro i
  rcases Nat.lt_or_ge i q with h | h
  ·have hi : i < l.length := by omega
   have h1 := lay_lt hl hg i hi
   have h2 := (hiff i hi).2 h
   have e1 : ((layF v l).1.take m)[(layF v (l.take (i + 1))).1.length - 1]? = some ((layF v l).1[(layF v (l.take (i + 1))).1.length - 1]'(by omega)) := by
    rw [List.getElem?_take_of_lt (by omega), List.getElem?_eq_getElem]
   have e2 : (endsO 8 ((layF v l).1.take m))[(layF v (l.take (i + 1))).1.length - 1]? = some ((8 + (frs (layF v (l.take (i + 1))).1).length : Nat) : Int) := by
    have h3 := hend i hi
    have e : endsO 8 (layF v l).1 = endsO 8 ((layF v l).1.take m) ++ endsO (8 + (frs ((layF v l).1.take m)).length) ((layF v l).1.drop m) := by rw [← endsO_append, List.take_append_drop]
    rw [e, List.getElem?_append_left (by rw [endsO_len, hlen]; omega)] at h3
    exact h3
   have e3 := items_get _ 8 _ _ _ e1 e2
   rw [List.getElem?_take_of_lt h, recEnds_get v l i hi, List.getElem?_map, List.getElem?_range' (by omega)]
   simp only [Option.map_some, Nat.zero_add, Nat.one_mul, Int.toNat_natCast]
   rw [List.getD_eq_getElem?_getD, e3]
   rfl
  ·rw [List.getElem?_eq_none (by simp; omega), List.getElem?_eq_none (by rw [List.length_take]; omega)]
 refine ⟨q, hq1, ?_, fun i z h => ?_⟩
 ·rw [hr8]
  unfold fileG
  rw [items_map _ (fun p hp2 => hp p (List.mem_of_mem_take hp2)), items_len, hlen, recsL_fuel v _ (m + 1) (m + 1 + l.length) [] 0 (by rw [hlen]; omega) (by rw [hlen]; omega) (by omega) (by omega)]
  have hrs0 : recsL v ((layF v l).1.take m) (m + 1 + l.length) [] 0 = (List.range' 0 q).map (fun i => (l.getD i rec0, ((layF v (l.take (i + 1))).1.length : Int))) := hrs
  rw [hrs0]
  dsimp only
  rw [List.map_map, List.map_map]
  rw [show ((List.range' 0 q).map ((fun x : Rec9 × Int => ((items 8 ((layF v l).1.take m)).getD (x.2.toNat - 1) (⟨#[]⟩, 0)).2) ∘ fun i => (l.getD i rec0, ((layF v (l.take (i + 1))).1.length : Int)))) = (recEnds v l).take q from hes]
  congr 1
  apply List.ext_getElem?
  intro i
  rcases Nat.lt_or_ge i q with h | h
  ·have hi : i < l.length := by omega
   rw [List.getElem?_map, List.getElem?_range' (by omega), List.getElem?_take_of_lt h]
   simp [hi]
  ·rw [List.getElem?_eq_none (by simp; omega), List.getElem?_eq_none (by rw [List.length_take]; omega)]
 ·have hi : i < l.length := by
   have := (List.getElem?_eq_some_iff.1 h).1
   rwa [recEnds_len] at this
  rw [recEnds_get v l i hi] at h
  have h1 := lay_lt hl hg i hi
  have h2 := hz _ _ (hend i hi)
  obtain rfl : _ = z := Option.some.inj h
  rw [h2, ← hiff i hi]
  omega
theorem codL_ok {v : Int} : ∀ (l : List Rec9) (P : List (List Int)) (b : List Int) (T : List ByteArray), (codL v l (b ++ framesL P) T).2 = 0 → (∀ r ∈ l, ∃ T, (putR v T r).2.2 = 0) ∧ (codL v l (b ++ framesL P) T).1 = b ++ framesL (l.foldl (layStep v) (P, T)).1 := by
 intro l
 induction l with
 | nil => intro P b T _; exact ⟨by simp, rfl⟩
 | cons r rs ih =>
  intro P b T h
  rw [codL] at h ⊢
  by_cases he : (putR v T r).2.2 = 0
  ·rw [if_pos he] at h ⊢
   rw [List.append_assoc, ← framesL_app] at h ⊢
   obtain ⟨h1, h2⟩ := ih _ b _ h
   refine ⟨fun x hx => ?_, ?_⟩
   ·rcases List.mem_cons.1 hx with rfl | hx
    ·exact ⟨T, he⟩
    ·exact h1 x hx
   ·rw [h2, List.foldl_cons]; rfl
  ·rw [if_neg he] at h
   exact absurd h he
theorem codF_ok {v : Int} {l : List Rec9} (hn : ∀ r ∈ l, NumR r) (h : (codF v l).2 = 0) : (1 ≤ v ∧ v ≤ 3) ∧ (∀ r ∈ l, GoodR v r) ∧ (codF v l).1 = headL v ++ frs (layF v l).1 := by
 unfold codF at h ⊢
 by_cases hv : 1 ≤ v ∧ v ≤ 3
 ·rw [if_pos hv] at h ⊢
  have e : headL v = headL v ++ framesL [] := by simp [framesL]
  rw [e] at h ⊢
  obtain ⟨h1, h2⟩ := codL_ok l [] (headL v) [] h
  refine ⟨hv, fun r hr => ?_, ?_⟩
  ·obtain ⟨T, hT⟩ := h1 r hr
   exact ⟨putF_yes hT, hn r hr⟩
  ·rw [h2, frs_is, ← e]; rfl
 ·rw [if_neg hv] at h
  exact absurd h (show ¬ (11 : Int) = 0 by decide)
end Go.Proofs.Ytmeocdkiecknkaa
namespace Go.Proofs.Ytmeocdkiecknkaa
open Go.RowKit Go.Proofs.YtmeocdkiecknkaaW.PrintWords Go.Proofs.Ytmeocdkiecknkaa.GRR
theorem grownBy_cell (w : World) (g i : Nat) (v : Value) : w.grownBy (w.setCell ⟨g, i, none⟩ v) (some g) :=
 ⟨rfl, rfl, rfl, by simp [World.setCell], fun k hk hne => Below.heap_setCell _ _ _ _ (by rintro rfl; exact hne rfl)⟩
abbrev cells9v (r : Rec9) (dv : Value) : List Value := [.int .i64 r.1, .string r.2.1, .int .u64 r.2.2.1, dv, .int .u64 r.2.2.2.2.1, .int .u64 r.2.2.2.2.2.1, .string r.2.2.2.2.2.2]
theorem kdRec_M {w : World} {base : Nat} {ok : Nat → Prop} (r : Rec9) {dv : Value} (h : Kd.R k109 109 w base ok dv r.2.2.2.1) : kdRec.M w base ok r (cells9v r dv) :=
 ⟨[_], _, rfl, rfl, [_], _, rfl, rfl, [_], _, rfl, rfl, [_], _, rfl, ⟨dv, rfl, h⟩, [_], _, rfl, rfl, [_], _, rfl, rfl, rfl⟩
theorem E_rec : (62 : Nat) :: kdRec.E = [62, 109] := rfl
theorem E_dep : (109 : Nat) :: Kd.E k109 = [109] := rfl
theorem E_rec_int : ∀ q, q ∈ (62 : Nat) :: kdRec.E → q ≠ 3 := by rw [E_rec]; decide
theorem E_dep_int : ∀ q, q ∈ (109 : Nat) :: Kd.E k109 → q ≠ 3 := by rw [E_dep]; decide
theorem E_dep_rec : ∀ q, q ∈ (109 : Nat) :: Kd.E k109 → q ≠ 62 := by rw [E_dep]; decide
theorem E_int_rec : ∀ q, q ∈ (3 : Nat) :: (Kd.int .i64).E → q ≠ 62 := by
 intro q hq
 rw [show (3 : Nat) :: (Kd.int .i64).E = [3] from rfl] at hq
 revert q; decide
theorem rows_fresh {B : Nat} {W : World} {A : Option Addr} {n : Nat} {vs : List {v : Value // v.oneCell' = true}} {its : List (ByteArray × Int)} (h : Kd.C valK W A n vs) (hl : vs.length = its.length)
  (hf : ∀ (k : Nat) (x : {v : Value // v.oneCell' = true}) (y : ByteArray × Int), vs[k]? = some x → its[k]? = some y → Fresh B W x.1 (bytesOf y.1)) : Kd.C kRows W A its.length (its.map fun y => bytesOf y.1) := by
 have hn : its.length = n := hl ▸ h.1
 refine ⟨by simp, by have := h.2.1; omega, fun hp => ?_⟩
 obtain ⟨ad, e, hc⟩ := h.2.2 (by omega)
 refine ⟨ad, e, fun j p hj => ?_⟩
 rw [List.getElem?_map] at hj
 obtain ⟨y, hy, rfl⟩ := Option.map_eq_some_iff.1 hj
 have hjl : j < vs.length := by have := (List.getElem?_eq_some_iff.1 hy).1; omega
 obtain ⟨cs, h1, h2, h3⟩ := hc j vs[j] (List.getElem?_eq_getElem hjl)
 obtain ⟨b, c', C, fr, f1, f2, f3, f4, f5, f6⟩ := hf j vs[j] y (List.getElem?_eq_getElem hjl) hy
 have h2' : cs = [vs[j].1] := h2
 exact ⟨cs, h1, ⟨_, _, by rw [h2', f1], f2, f6⟩, h3⟩
structure GoC (W0 X : World) (fb : Nat) (S : Nat → Prop) (v : Int) (rs : List Rec9) (es : List Int) (good : Int) : Prop where
 kp : Kp W0 X (fun k => k = fb)
 sb : ∀ k, S k → W0.heap.size + 2 ≤ k
 fl : ∃ vr ve, X.heap[fb]? = some (.cells #[.int .i64 v, vr, ve, .int .i64 good] 90 (0, 0)) ∧ Kd.R kdRec 62 X W0.heap.size (fun k => ¬ S k) vr rs ∧ Kd.R (Kd.int .i64) 3 X W0.heap.size (fun k => ¬ S k) ve es
section
variable {W0 X X' : World} {fb : Nat} {S S' : Nat → Prop} {v : Int} {rs : List Rec9} {es : List Int} {good : Int}
theorem GoC.below (h : GoC W0 X fb S v rs es good) (hb : Below X.heap.size X X') : GoC W0 X' fb S v rs es good := by
 obtain ⟨vr, ve, h1, h2, h3⟩ := h.fl
 exact ⟨h.kp.below hb, h.sb, vr, ve, blk_below h1 hb, Kd.R_below h2 hb, Kd.R_below h3 hb⟩
theorem GoC.wrote (h : GoC W0 X fb S v rs es good) (hfb : fb < W0.heap.size) (hs : ∀ k, S' k → S k ∨ X.heap.size ≤ k) (hk : Kp X X' S) (hsz : W0.heap.size + 2 ≤ X.heap.size) : GoC W0 X' fb S' v rs es good := by
 obtain ⟨vr, ve, h1, h2, h3⟩ := h.fl
 exact ⟨h.kp.trans hk (fun k hk => .inr (by have := h.sb k hk; omega)), fun k hk => (hs k hk).elim (h.sb k) (fun h3 => by omega), vr, ve, hk.heap h1 (fun h4 => by have := h.sb _ h4; omega), R_wrote h2 hk hs, R_wrote h3 hk hs⟩
theorem GoC.putObj (h : GoC W0 X fb S v rs es good) {k : Nat} {r : Loop} (o : Obj) (hk : W0.heap.size ≤ k) (hl : X.heap[k]? = some (.loop r)) : GoC W0 (X.putObj k o) fb S v rs es good := by
 obtain ⟨vr, ve, h1, h2, h3⟩ := h.fl
 exact ⟨h.kp.grown (grownBy_putObj' X k o) (fun q e => .inr (by cases e; exact hk)), h.sb, vr, ve, heap_putObj o h1 hl, R_putObj o h2 hl, R_putObj o h3 hl⟩
theorem Tab.putObj {g : Nat} {T : List ByteArray} (h : Tab X S g T) {k : Nat} (o : Obj) (hk : ¬ S k) : Tab (X.putObj k o) S g T :=
 h.keep ((Kp.refl X (fun q => q = k)).grown (grownBy_putObj' X k o) (fun q e => .inl (by cases e; rfl))) (fun q hs e => hk (e ▸ hs))
theorem GoC.less (h : GoC W0 X fb S v rs es good) (hs : ∀ k, S' k → S k) : GoC W0 X fb S' v rs es good := by
 obtain ⟨vr, ve, h1, h2, h3⟩ := h.fl
 exact ⟨h.kp, fun k hk => h.sb k (hs k hk), vr, ve, h1, Kd.R_mono h2 (fun k hk h => hk (hs k h)), Kd.R_mono h3 (fun k hk h => hk (hs k h))⟩
theorem GoC.fresh (h : GoC W0 X fb S v rs es good) (m : Nat) (hm : X.heap.size ≤ m) (hm2 : W0.heap.size + 2 ≤ m) : GoC W0 X fb (fun k => S k ∨ k = m) v rs es good := by
 obtain ⟨vr, ve, h1, h2, h3⟩ := h.fl
 refine ⟨h.kp, fun k hk => hk.elim (h.sb k) (fun e => e ▸ hm2), vr, ve, h1, Kd.R_mono (Kd.R_bound h2) (fun k hk h => ?_), Kd.R_mono (Kd.R_bound h3) (fun k hk h => ?_)⟩
 ·rcases h with h | h
  ·exact hk.1 h
  ·have := hk.2.2.1; omega
 ·rcases h with h | h
  ·exact hk.1 h
  ·have := hk.2.2.1; omega
theorem GoC.setGood (h : GoC W0 X fb S v rs es good) (hfb : fb < W0.heap.size) (z : Int) : GoC W0 (X.setCell ⟨fb, 3, none⟩ (.int .i64 z)) fb S v rs es z := by
 obtain ⟨vr, ve, h1, h2, h3⟩ := h.fl
 have hm : ∀ q, q ≠ fb → (X.setCell ⟨fb, 3, none⟩ (.int .i64 z)).heap[q]? = X.heap[q]? := fun q hq => Below.heap_setCell _ _ _ _ hq
 refine ⟨h.kp.setCell (.inl rfl) _, h.sb, vr, ve, ?_, ?_, ?_⟩
 ·have := blk_set h1 3 (.int .i64 z)
  simpa using this
 ·exact Kd.R_mono (Kd.R_step (Kd.R_bound h2) (fun k hk _ => hm k (by have := hk.2.1; omega))) (fun k hk => hk.1)
 ·exact Kd.R_mono (Kd.R_step (Kd.R_bound h3) (fun k hk _ => hm k (by have := hk.2.1; omega))) (fun k hk => hk.1)
end
def rowG (r4 r10 : Option Nat) (fb : Nat) (i : Nat) : Option Nat := match i with | 4 => r4 | 10 => r10 | 12 => some fb | 14 => some fb | _ => none
theorem rowG_ne {r4 r10 : Option Nat} {fb : Nat} (i k : Nat) (h4 : i ≠ 4 ∨ some k ≠ r4) (h10 : i ≠ 10 ∨ some k ≠ r10) (hf : (i ≠ 12 ∧ i ≠ 14) ∨ k ≠ fb) : some k ≠ rowG r4 r10 fb i := by
 unfold rowG
 split
 ·exact h4.resolve_left (by omega)
 ·exact h10.resolve_left (by omega)
 ·intro e; cases e; exact (hf.resolve_left (by omega)) rfl
 ·intro e; cases e; exact (hf.resolve_left (by omega)) rfl
 ·intro e; cases e
theorem rowG_lt {r4 r10 : Option Nat} {fb m : Nat} (h4 : ∀ k, r4 = some k → k < m) (h10 : ∀ k, r10 = some k → k < m) (hf : fb < m) (i k : Nat) (h : rowG r4 r10 fb i = some k) : k < m := by
 unfold rowG at h
 split at h
 ·exact h4 k h
 ·exact h10 k h
 ·cases h; exact hf
 ·cases h; exact hf
 ·cases h
section
variable (Sz B fb rb : Nat) (v z : Int) (vr ve dv : Value) (r : Rec9) (rs : List Rec9) (es : List Int) (okR okE okD : Nat → Prop) (Rest : World → Prop)
def VG : Nat → Value → World → Prop
 | 0, u, _ => u = .pointer (some ⟨fb, 1, none⟩)
 | 1, u, _ => u = vr
 | 2, u, _ => u = .agg (cells9v r dv).toArray
 | 3, u, X => ∃ b, u = .slice (some ⟨b, 0, none⟩) 1 1 ∧ Sz ≤ b ∧ X.heap[b]? = some (.cells (cells9v r dv).toArray 62 (0, 0))
 | 4, u, X => Kd.R kdRec 62 X B okR u (rs ++ [r])
 | 5, u, _ => u = .pointer (some ⟨fb, 2, none⟩)
 | 6, u, _ => u = ve
 | 7, u, _ => u = .pointer (some ⟨fb, 3, none⟩)
 | 8, u, _ => u = .int .i64 z
 | 9, u, X => ∃ b, u = .slice (some ⟨b, 0, none⟩) 1 1 ∧ Sz ≤ b ∧ X.heap[b]? = some (.cells #[.int .i64 z] 3 (0, 0))
 | 10, u, X => Kd.R (Kd.int .i64) 3 X B okE u (es ++ [z])
 | 11, u, _ => u = .pointer (some ⟨fb, 1, none⟩)
 | 13, u, _ => u = .pointer (some ⟨fb, 2, none⟩)
 | _, _, _ => True
def BoxG (X : World) : Prop := X.heap[fb]? = some (.cells #[.int .i64 v, vr, ve, .int .i64 z] 90 (0, 0))
def FG : Nat → World → Prop
 | 12, X => ∃ vr', X.heap[fb]? = some (.cells #[.int .i64 v, vr', ve, .int .i64 z] 90 (0, 0)) ∧ Kd.R kdRec 62 X B okR vr' (rs ++ [r])
 | 14, X => (∃ vr' ve', X.heap[fb]? = some (.cells #[.int .i64 v, vr', ve', .int .i64 z] 90 (0, 0)) ∧ Kd.R kdRec 62 X B okR vr' (rs ++ [r]) ∧ Kd.R (Kd.int .i64) 3 X B okE ve' (es ++ [z])) ∧ Rest X
 | _, _ => True
def GG : Nat → World → Prop
 | 1, X => BoxG fb v z vr ve X
 | 6, X => BoxG fb v z vr ve X
 | 8, X => BoxG fb v z vr ve X
 | 12, X => BoxG fb v z vr ve X
 | 2, X => X.heap[rb]? = some (.cells (cells9v r dv).toArray 62 (0, 0))
 | 4, X => Kd.R kdRec 62 X B okR vr rs ∧ Kd.R k109 109 X B okD dv r.2.2.2.1
 | 10, X => Kd.R (Kd.int .i64) 3 X B okE ve es
 | 14, X => Rest X
 | _, _ => True
end
def kilG (i : Nat) : Nat := if i = 12 then 14 else 15
theorem GoC.region {W0 X X' : World} {fb : Nat} {S S1 : Nat → Prop} (hS1 : ∀ k, S1 k → S k) {g : Nat} {T : List ByteArray} {v : Int} {rs rs' : List Rec9} {es es' : List Int} {good : Int} {vr ve vr' ve' : Value} (h : GoC W0 X fb S v rs es good) (hfb : fb < W0.heap.size) (ht : Tab X S1 g T)
  (hR : Kd.R kdRec 62 X W0.heap.size (fun k => ¬ S k) vr rs) (hE : Kd.R (Kd.int .i64) 3 X W0.heap.size (fun k => ¬ S k) ve es)
  (hB : Below fb X X') (hrest : RestOf (rowG vr.ownBlock ve.ownBlock fb) X X')
  (hf : X'.heap[fb]? = some (.cells #[.int .i64 v, vr', ve', .int .i64 good] 90 (0, 0))) (hR' : Kd.R kdRec 62 X' W0.heap.size (fun k => ¬ S k) vr' rs') (hE' : Kd.R (Kd.int .i64) 3 X' W0.heap.size (fun k => ¬ S k) ve' es') :
  GoC W0 X' fb S v rs' es' good ∧ Tab X' S1 g T ∧ ∀ (q : Nat) (o : Obj), X.heap[q]? = some o → (∀ C e fr, o ≠ Obj.cells C e fr) → X'.heap[q]? = some o := by
 have t4 := own_typed_R hR
 have t10 := own_typed_R hE
 have hk : Kp X X' (fun k => k = fb ∨ vr.ownBlock = some k ∨ ve.ownBlock = some k) := ⟨hB.os, hB.tape, hB.output, hB.size, fun k hk hn => hrest k hk (fun i e => by
  unfold rowG at e
  split at e
  ·exact hn (.inr (.inl e))
  ·exact hn (.inr (.inr e))
  ·exact hn (.inl (by injection e with e; exact e.symm))
  ·exact hn (.inl (by injection e with e; exact e.symm))
  ·cases e)⟩
 refine ⟨⟨h.kp.trans hk (fun k hk => ?_), h.sb, vr', ve', hf, hR', hE'⟩, ht.keep hk (fun k hs1 hk => ?_), fun q o hq ho => hk.heap hq (fun hk => ?_)⟩
 ·rcases hk with hk | hk | hk
  ·exact .inl hk
  ·exact .inr (t4 k hk).1
  ·exact .inr (t10 k hk).1
 ·have hs := hS1 k hs1
  rcases hk with hk | hk | hk
  ·have := h.sb k hs; omega
  ·exact hR.1 k hk hs
  ·exact hE.1 k hk hs
 ·rcases hk with hk | hk | hk
  ·obtain ⟨_, _, h1, _⟩ := h.fl
   rw [hk, h1] at hq; cases hq; exact ho _ _ _ rfl
  ·obtain ⟨_, _, C, hC⟩ := t4 q hk
   rw [hC] at hq; cases hq; exact ho _ _ _ rfl
  ·obtain ⟨_, _, C, hC⟩ := t10 q hk
   rw [hC] at hq; cases hq; exact ho _ _ _ rfl
theorem records_any (v : Int) (A : Option Addr) (n c : Nat) (w : World) :
  Calls Try.prog 77 #[.int .i64 v, .slice A n c] w fun e w' => e = .returned (.func (.func 107) #[] #[.pointer (some ⟨w.heap.size, 0, none⟩), .pointer (some ⟨w.heap.size + 1, 0, none⟩)]) ∧ (w.alloc (.cells #[.int .i64 v] 3)).alloc (.cells #[.slice A n c] 41) = w' := by
 go_enter Try.func77, Try.ntmps77
 go_wp2
 go_ret
 exact ⟨rfl, rfl⟩
def codG (l : List Int) : (Int × List Rec9 × List Int × Int) × Int := if (versF l).2 ≠ 0 then ((0, [], [], 0), (versF l).2) else (((versF l).1, fileG (versF l).1 (runs l 8)), 0)
def CGetPost (W : World) (F : (Int × List Rec9 × List Int × Int) × Int) (e : Ending) (W' : World) : Prop :=
 ∃ vr ve, e = .returned (.tuple #[.agg #[.int .i64 F.1.1, vr, ve, .int .i64 F.1.2.2.2], .int .i64 F.2]) ∧ Kd.R kdRec 62 W' W.heap.size (fun _ => True) vr F.1.2.1 ∧ Kd.R (Kd.int .i64) 3 W' W.heap.size (fun _ => True) ve F.1.2.2.1 ∧ Below W.heap.size W W'
end Go.Proofs.Ytmeocdkiecknkaa
namespace Go.Proofs.Ytmeocdkiecknkaa
open Go.RowKit Go.Proofs.YtmeocdkiecknkaaW.PrintWords Go.Proofs.Ytmeocdkiecknkaa.GRR
theorem fixed10_any (w : World) : Calls Try.prog 42 #[] w fun e w' => e = .returned (.bool true) ∧ Below w.heap.size w w' := by
 have hp := codput_any 2 none 0 [] w (Kd.C_nil _ _) (Nat.le_refl _) (by simp) (by simp) (by simp)
 have e : codF 2 [] = (headL 2, 0) := by unfold codF; rw [if_pos (by omega)]; rfl
 rw [e] at hp
 have HP := Lib.hid hp
 clear hp e
 go_enter Try.func42, Try.ntmps42
 go_wp2_with fail
 refine HP.out.mono ?_
 rintro e w1 ⟨vb, rfl, hR, hB⟩
 obtain ⟨A1, c1, rfl⟩ := Kd.R_slice hR
 dsimp only
 rw [headL_len]
 have HB := Lib.hid hB
 clear hR hB
 go_wp2_with fail
 go_ret
 exact ⟨rfl, HB.out⟩
set_option maxRecDepth 100000 in
set_option maxHeartbeats 1000000 in
theorem great10_any (A : Option Addr) (c : Nat) (l : List Rec9) (w : World) (hC : Kd.C kdRec w A l.length l) :
  Calls Try.prog 41 #[.slice A l.length c] w fun e w' => ∃ g : Bool, e = .returned (.bool g) ∧ (g = false → l.length ≤ 30 ∧ ∀ r ∈ l, RecFew r.2.1 r.2.2.2.1 r.2.2.2.2.2.2) ∧ Below w.heap.size w w' := by
 have hm := hC.2.1
 have HC := Lib.hid hC
 clear hC
 go_enter Try.func41, Try.ntmps41
 go_wp2_with fail
 go_loopw [7] (fun u wr => ∃ (i : Nat), i ≤ l.length ∧ u = .int .i64 (i : Int) ∧ Hid (Below w.heap.size w wr) ∧ Hid (∀ r ∈ l.take i, RecFew r.2.1 r.2.2.2.1 r.2.2.2.2.2.2)) (fun u _ => l.length - (intOf u).toNat)
 case atStart => exact ⟨0, by omega, rfl, Lib.hid (Below.refl _ _), Lib.hid (by simp)⟩
 case round =>
  obtain ⟨i, hi, rfl, HB, HF⟩ := hrel
  by_cases hlt : i < l.length
  ·have hdl : decide ((i : Int) < (l.length : Int)) = true := decide_eq_true (by omega)
   obtain ⟨r, hr⟩ : ∃ r, l[i] = r := ⟨_, rfl⟩
   obtain ⟨ad, A3, c3, hA, h0, h1, h2, h3, h4, h5, h6, hle, hrow⟩ := at_row9 (w := w) (W := w) rfl (fun _ _ h => h) HC.out i hlt r hr
   subst hA
   have htk : l.take (i + 1) = l.take i ++ [r] := by rw [List.take_succ_eq_append_getElem hlt, hr]
   obtain ⟨k0, x1, x2, ds, x4, x5, x6⟩ := r
   dsimp only at h0 h1 h2 h3 h4 h5 h6 hle hrow
   have hbl := HB.out
   replace h0 := pw_cell_below hbl h0
   replace h1 := pw_cell_below hbl h1
   replace h2 := pw_cell_below hbl h2
   replace h3 := pw_cell_below hbl h3
   replace h4 := pw_cell_below hbl h4
   replace h5 := pw_cell_below hbl h5
   replace h6 := pw_cell_below hbl h6
   have hba : Below wr.heap.size wr (wr.alloc (.cells #[.int .i64 k0, .string x1, .int .u64 x2, .slice A3 ds.length c3, .int .u64 x4, .int .u64 x5, .string x6] 62)) := (Below.refl _ _).alloc (Nat.le_refl _) _
   have hbw := hbl.trans (hba.mono hbl.size)
   have HGR := Lib.hid (great8_any k0 x1 x2 ds x4 x5 x6 A3 c3 _ (Kd.C_below hrow hbw))
   have HBW := Lib.hid hbw
   have HTK := Lib.hid htk
   clear hr hba hbw hrow htk hbl HB
   go_wp2_with fail
   clear h0 h1 h2 h3 h4 h5 h6
   refine HGR.out.mono ?_
   rintro e wb ⟨g, rfl, hgf, hbb⟩
   have HGF := Lib.hid hgf
   have HB2 := Lib.hid (HBW.out.trans (hbb.mono HBW.out.size))
   clear hbb hgf HBW HGR
   cases g with
   | true =>
    go_wp2_with fail
    go_ret
    exact ⟨true, rfl, by simp, HB2.out⟩
   | false =>
    have HF2 : Hid (∀ r ∈ l.take (i + 1), RecFew r.2.1 r.2.2.2.1 r.2.2.2.2.2.2) := Lib.hid (by
     rw [HTK.out]
     intro r hr
     rcases List.mem_append.1 hr with hr | hr
     ·exact HF.out r hr
     ·simp only [List.mem_singleton] at hr
      subst hr
      exact HGF.out rfl)
    go_wp2_with fail
    go_roundw
    case rel => exact ⟨i + 1, by omega, by go_num, HB2, HF2⟩
    case measure => simp [intOf]; omega
  ·obtain rfl : i = l.length := by omega
   have hF := HF.out
   rw [List.take_length] at hF
   have HF2 := Lib.hid hF
   clear hF
   by_cases h30 : 30 < l.length
   ·have d30 : decide (30 < (l.length : Int)) = true := decide_eq_true (by omega)
    go_wp2_with fail
    go_ret
    exact ⟨true, rfl, by simp, HB.out⟩
   ·have d30 : decide (30 < (l.length : Int)) = false := decide_eq_false (by omega)
    go_wp2_with fail
    go_ret
    exact ⟨false, rfl, fun _ => ⟨by omega, HF2.out⟩, HB.out⟩
set_option maxRecDepth 100000 in
set_option maxHeartbeats 1000000 in
theorem all8_any (A1 A2 : Option Addr) (c1 c2 : Nat) (l : List Rec9) (w : World) (hC1 : Kd.C kdRec w A1 l.length l) (hC2 : Kd.C kdRec w A2 l.length l) (hf : ∀ r ∈ l, r.2.2.2.1.length ≤ 1000) :
  Calls Try.prog 45 #[.slice A1 l.length c1, .slice A2 l.length c2] w fun e w' => e = .returned (.bool true) ∧ Below w.heap.size w w' := by
 have hm := hC1.2.1
 have HC1 := Lib.hid hC1
 have HC2 := Lib.hid hC2
 have HF := Lib.hid hf
 clear hC1 hC2 hf
 go_enter Try.func45, Try.ntmps45
 go_wp2_with fail
 go_loopw [5] (fun u wr => ∃ (i : Nat), i ≤ l.length ∧ u = .int .i64 (i : Int) ∧ Hid (Below w.heap.size w wr)) (fun u _ => l.length - (intOf u).toNat)
 case atStart => exact ⟨0, by omega, rfl, Lib.hid (Below.refl _ _)⟩
 case round =>
  obtain ⟨i, hi, rfl, HB⟩ := hrel
  by_cases hlt : i < l.length
  ·have hdl : decide ((i : Int) < (l.length : Int)) = true := decide_eq_true (by omega)
   obtain ⟨r, hr⟩ : ∃ r, l[i] = r := ⟨_, rfl⟩
   obtain ⟨ad1, A3, c3, hA1, g0, g1, g2, g3, g4, g5, g6, hle3, hrow3⟩ := at_row9 (w := w) (W := w) rfl (fun _ _ h => h) HC1.out i hlt r hr
   obtain ⟨ad2, A4, c4, hA2, q0, q1, q2, q3, q4, q5, q6, hle4, hrow4⟩ := at_row9 (w := w) (W := w) rfl (fun _ _ h => h) HC2.out i hlt r hr
   subst hA1 hA2
   have hfr := HF.out r (hr ▸ List.getElem_mem _)
   obtain ⟨k0, x1, x2, ds, x4, x5, x6⟩ := r
   dsimp only at g0 g1 g2 g3 g4 g5 g6 q0 q1 q2 q3 q4 q5 q6 hle3 hrow3 hle4 hrow4 hfr
   have hbl := HB.out
   have HQ := Lib.hid (fun (W : World) (h : Below wr.heap.size wr W) => (let hb := hbl.trans (h.mono hbl.size)
    And.intro (pw_cell_below hb g0) (And.intro (pw_cell_below hb g1) (And.intro (pw_cell_below hb g2) (And.intro (pw_cell_below hb g3) (And.intro (pw_cell_below hb g4) (And.intro (pw_cell_below hb g5) (pw_cell_below hb g6))))))))
   have HQ2 := Lib.hid (fun (W : World) (h : Below wr.heap.size wr W) => (let hb := hbl.trans (h.mono hbl.size)
    And.intro (pw_cell_below hb q0) (And.intro (pw_cell_below hb q1) (And.intro (pw_cell_below hb q2) (And.intro (pw_cell_below hb q3) (And.intro (pw_cell_below hb q4) (And.intro (pw_cell_below hb q5) (pw_cell_below hb q6))))))))
   have HS := Lib.hid (fun (W : World) (h : Below wr.heap.size wr W) => rsame_any k0 x1 x2 ds x4 x5 x6 A3 A4 c3 c4 W (Kd.C_below hrow3 (hbl.trans (h.mono hbl.size))) (Kd.C_below hrow4 (hbl.trans (h.mono hbl.size))))
   clear hr g0 g1 g2 g3 g4 g5 g6 q0 q1 q2 q3 q4 q5 q6 hle3 hrow3 hle4 hrow4 hfr hbl
   go_wp2_with fail
   refine region_calm (n := 10) (byList [isV (.slice (some ad1) l.length c1), isV (.int .i64 (i : Int)), isV (.pointer (some (ad1.add (i * 7)))), isV (.agg #[.int .i64 k0, .string x1, .int .u64 x2, .slice A3 ds.length c3, .int .u64 x4, .int .u64 x5, .string x6]), isV (.slice (some ad2) l.length c2), isV (.int .i64 (i : Int)), isV (.pointer (some (ad2.add (i * 7)))), isV (.agg #[.int .i64 k0, .string x1, .int .u64 x2, .slice A4 ds.length c4, .int .u64 x4, .int .u64 x5, .string x6]), isV (.bool true), isV (.bool false)]) (by kernel_rfl) rfl (byList_lasts ?_) (by kernel_rfl) (by kernel_rfl) (by kernel_rfl) (show AllLt 10 _ from ?_) ?_
   ·intro p hp
    simp only [List.mem_cons, List.not_mem_nil, or_false] at hp
    rcases hp with rfl | rfl | rfl | rfl | rfl | rfl | rfl | rfl | rfl | rfl <;> first | exact isV_lasts | exact isC_lasts
   ·refine allLt_succ (allLt_succ (allLt_succ (allLt_succ (allLt_succ (allLt_succ (allLt_succ (allLt_succ (allLt_succ (allLt_succ (allLt_zero _) ?_) ?_) ?_) ?_) ?_) ?_) ?_) ?_) ?_) ?_
    ·refine StepOk.run (o := ?o0) ?ho0 ?hg0 ?h0
     case ho0 => simp only [List.getElem?_toArray, List.getElem?_cons_succ, List.getElem?_cons_zero]; rfl
     case hg0 => rfl
     case h0 =>
     intro a W hS hB hd
     have e0 : a.tmps[0]? = some (.slice (some ad1) l.length c1) := hS.get rfl rfl
     refine wp_value (c := .slice (some ad1) l.length c1) ?_ rfl
     go_simp
    ·refine StepOk.run (o := ?o1) ?ho1 ?hg1 ?h1
     case ho1 => simp only [List.getElem?_toArray, List.getElem?_cons_succ, List.getElem?_cons_zero]; rfl
     case hg1 => rfl
     case h1 =>
     intro a W hS hB hd
     have e5 : a.tmps[5]? = some (.int .i64 (i : Int)) := hS.get rfl rfl
     refine wp_value (c := .int .i64 (i : Int)) ?_ rfl
     go_simp
    ·refine StepOk.run (o := ?o2) ?ho2 ?hg2 ?h2
     case ho2 => simp only [List.getElem?_toArray, List.getElem?_cons_succ, List.getElem?_cons_zero]; rfl
     case hg2 => rfl
     case h2 =>
     intro a W hS hB hd
     have e17 : a.tmps[17]? = some (.slice (some ad1) l.length c1) := (hd 0 rfl).bool rfl rfl rfl
     have e18 : a.tmps[18]? = some (.int .i64 (i : Int)) := (hd 1 rfl).bool rfl rfl rfl
     refine wp_value (c := .pointer (some (ad1.add (i * 7)))) ?_ rfl
     go_simp
    ·refine StepOk.run (o := ?o3) ?ho3 ?hg3 ?h3
     case ho3 => simp only [List.getElem?_toArray, List.getElem?_cons_succ, List.getElem?_cons_zero]; rfl
     case hg3 => rfl
     case h3 =>
     intro a W hS hB hd
     have e19 : a.tmps[19]? = some (.pointer (some (ad1.add (i * 7)))) := (hd 2 rfl).bool rfl rfl rfl
     refine wp_value (c := .agg #[.int .i64 k0, .string x1, .int .u64 x2, .slice A3 ds.length c3, .int .u64 x4, .int .u64 x5, .string x6]) ?_ rfl
     obtain ⟨z0, z1, z2, z3, z4, z5, z6⟩ := HQ.out W hB
     go_simp
    ·refine StepOk.run (o := ?o4) ?ho4 ?hg4 ?h4
     case ho4 => simp only [List.getElem?_toArray, List.getElem?_cons_succ, List.getElem?_cons_zero]; rfl
     case hg4 => rfl
     case h4 =>
     intro a W hS hB hd
     have e1 : a.tmps[1]? = some (.slice (some ad2) l.length c2) := hS.get rfl rfl
     refine wp_value (c := .slice (some ad2) l.length c2) ?_ rfl
     go_simp
    ·refine StepOk.run (o := ?o5) ?ho5 ?hg5 ?h5
     case ho5 => simp only [List.getElem?_toArray, List.getElem?_cons_succ, List.getElem?_cons_zero]; rfl
     case hg5 => rfl
     case h5 =>
     intro a W hS hB hd
     have e5 : a.tmps[5]? = some (.int .i64 (i : Int)) := hS.get rfl rfl
     refine wp_value (c := .int .i64 (i : Int)) ?_ rfl
     go_simp
    ·refine StepOk.run (o := ?o6) ?ho6 ?hg6 ?h6
     case ho6 => simp only [List.getElem?_toArray, List.getElem?_cons_succ, List.getElem?_cons_zero]; rfl
     case hg6 => rfl
     case h6 =>
     intro a W hS hB hd
     have e21 : a.tmps[21]? = some (.slice (some ad2) l.length c2) := (hd 4 rfl).bool rfl rfl rfl
     have e22 : a.tmps[22]? = some (.int .i64 (i : Int)) := (hd 5 rfl).bool rfl rfl rfl
     refine wp_value (c := .pointer (some (ad2.add (i * 7)))) ?_ rfl
     go_simp
    ·refine StepOk.run (o := ?o7) ?ho7 ?hg7 ?h7
     case ho7 => simp only [List.getElem?_toArray, List.getElem?_cons_succ, List.getElem?_cons_zero]; rfl
     case hg7 => rfl
     case h7 =>
     intro a W hS hB hd
     have e23 : a.tmps[23]? = some (.pointer (some (ad2.add (i * 7)))) := (hd 6 rfl).bool rfl rfl rfl
     refine wp_value (c := .agg #[.int .i64 k0, .string x1, .int .u64 x2, .slice A4 ds.length c4, .int .u64 x4, .int .u64 x5, .string x6]) ?_ rfl
     obtain ⟨z0, z1, z2, z3, z4, z5, z6⟩ := HQ2.out W hB
     go_simp
    ·refine StepOk.run (o := ?o8) ?ho8 ?hg8 ?h8
     case ho8 => simp only [List.getElem?_toArray, List.getElem?_cons_succ, List.getElem?_cons_zero]; rfl
     case hg8 => rfl
     case h8 =>
     intro a W hS hB hd
     have e20 : a.tmps[20]? = some (.agg #[.int .i64 k0, .string x1, .int .u64 x2, .slice A3 ds.length c3, .int .u64 x4, .int .u64 x5, .string x6]) := (hd 3 rfl).bool rfl rfl rfl
     have e24 : a.tmps[24]? = some (.agg #[.int .i64 k0, .string x1, .int .u64 x2, .slice A4 ds.length c4, .int .u64 x4, .int .u64 x5, .string x6]) := (hd 7 rfl).bool rfl rfl rfl
     refine wp_called Try.func38 (by kernel_rfl) rfl #[.agg #[.int .i64 k0, .string x1, .int .u64 x2, .slice A3 ds.length c3, .int .u64 x4, .int .u64 x5, .string x6], .agg #[.int .i64 k0, .string x1, .int .u64 x2, .slice A4 ds.length c4, .int .u64 x4, .int .u64 x5, .string x6]] rfl (by simp [Act.eval, *]) ?_
     refine (HS.out W hB).mono ?_
     rintro e9 w9 ⟨rfl, hb9⟩
     exact ⟨_, rfl, rfl, hb9⟩
    ·refine StepOk.run (o := ?o9) ?ho9 ?hg9 ?h9
     case ho9 => simp only [List.getElem?_toArray, List.getElem?_cons_succ, List.getElem?_cons_zero]; rfl
     case hg9 => rfl
     case h9 =>
     intro a W hS hB hd
     have e25 : a.tmps[25]? = some (.bool true) := (hd 8 rfl).bool rfl rfl rfl
     refine wp_value (c := .bool false) ?_ rfl
     go_simp
   ·intro a W hS hB hh
    have e26 : a.tmps[26]? = some (.bool false) := (hh 9 (by omega)).bool rfl rfl rfl
    have HBR := Lib.hid hB
    have hlit := same_lit hS
    clear hh hS hB
    simp only [List.filterMap_cons, List.filterMap_nil, List.foldl_cons, List.foldl_nil, List.setIfInBounds_toArray, List.set_cons_zero, List.set_cons_succ] at hlit
    rw [show a.tmps.getD 26 undef = .bool false by simp [Array.getD_eq_getD_getElem?, e26]] at hlit
    generalize a.tmps.getD 17 undef = z17 at hlit
    generalize a.tmps.getD 18 undef = z18 at hlit
    generalize a.tmps.getD 19 undef = z19 at hlit
    generalize a.tmps.getD 20 undef = z20 at hlit
    generalize a.tmps.getD 21 undef = z21 at hlit
    generalize a.tmps.getD 22 undef = z22 at hlit
    generalize a.tmps.getD 23 undef = z23 at hlit
    generalize a.tmps.getD 24 undef = z24 at hlit
    generalize a.tmps.getD 25 undef = z25 at hlit
    clear e26
    subst hlit
    have HB2 := Lib.hid (HB.out.trans (HBR.out.mono HB.out.size))
    go_wp2_with fail
    go_roundw
    case rel => exact ⟨i + 1, by omega, by go_num, HB2⟩
    case measure => simp [intOf]; omega
  ·obtain rfl : i = l.length := by omega
   go_wp2_with fail
   go_ret
   exact ⟨rfl, HB.out⟩
end Go.Proofs.Ytmeocdkiecknkaa
namespace Go.Proofs.Ytmeocdkiecknkaa
open Go.RowKit Go.Proofs.YtmeocdkiecknkaaW.PrintWords Go.Proofs.Ytmeocdkiecknkaa.GRR
theorem lay_frames_len {v : Int} (l : List Rec9) (hl : l.length ≤ 1000) (hg : ∀ r ∈ l, GoodR v r) : (frs (layF v l).1).length ≤ 4000 * l.length := by
 have h : ∀ n, n ≤ l.length → (frs (layF v (l.take n)).1).length ≤ 4000 * n := by
  intro n
  induction n with
  | zero => intro _; simp [layF, frs]
  | succ n ih =>
   intro hn
   have h := ih (by omega)
   have e : l.take (n + 1) = l.take n ++ [l[n]] := List.take_succ_eq_append_getElem (by omega)
   have hfn := lay_fit (v := v) (l.take n) (by rw [List.length_take]; omega) (fun r hr => hg r (List.mem_of_mem_take hr))
   have hp := put_frames_len (by have := hfn.t; rw [List.length_take] at this; omega) hfn.nd (hg l[n] (List.getElem_mem _))
   rw [e, layF_snoc]
   unfold layStep
   dsimp only
   rw [frs_append, List.length_append, frs_is (putR v _ _).1]
   omega
 have := h l.length (Nat.le_refl _)
 rwa [List.take_length] at this
theorem headL_bytes {v : Int} (hv : 1 ≤ v ∧ v ≤ 3) : ∀ x ∈ headL v, 0 ≤ x ∧ x < 256 := by
 unfold headL
 refine app_bytes ?_ (fun x hx => crcB_byte _ x hx)
 intro x hx
 simp only [List.mem_cons, List.not_mem_nil, or_false] at hx
 rcases hx with rfl | rfl | rfl | rfl <;> omega
structure CodFile (v : Int) (l : List Rec9) (f : List Int) : Prop where
 ver : 1 ≤ v ∧ v ≤ 3
 good : ∀ r ∈ l, GoodR v r
 n0 : 8 ≤ f.length
 n1 : f.length ≤ 120008
 b : ∀ x ∈ f, 0 ≤ x ∧ x < 256
 few : ∀ k, (runs (f.take k) 8).length ≤ 2700
 all : codG f = ((v, l, recEnds v l, (f.length : Int)), 0)
 short : ∀ k, k < 8 → codG (f.take k) = ((0, [], [], 0), 2)
 cut : ∀ k, 8 ≤ k → ∃ m, m ≤ l.length ∧ codG (f.take k) = ((v, l.take m, (recEnds v l).take m, ((recEnds v l).take m).getLast?.getD 8), 0) ∧ ∀ (i : Nat) (z : Int), (recEnds v l)[i]? = some z → (z ≤ (k : Int) ↔ i < m)
theorem cod_file {v : Int} {l : List Rec9} (hl : l.length ≤ 30) (hn : ∀ r ∈ l, NumR r) (h : (codF v l).2 = 0) : CodFile v l (codF v l).1 := by
 obtain ⟨hv, hg, hf⟩ := codF_ok hn h
 rw [hf]
 have hh := headL_bytes hv
 have hl1 := headL_len v
 have hfl := lay_frames_len (v := v) l (by omega) hg
 have hp := lay_payC (v := v) l (by omega) hg
 have hfit := lay_fit (v := v) l (by omega) hg
 have hb := frsC_bytes _ hp
 have hcut := fun k hk => file_cut (v := v) (l := l) (by omega) hg hv (headL v) ⟨hl1, hh⟩ k hk
 have hvers : ∀ k, 8 ≤ k → versF ((headL v ++ frs (layF v l).1).take k) = (v, 0) := by
  intro k hk
  rw [List.take_append, List.take_of_length_le (by omega)]
  exact vers_head v hv _
 have hcg : ∀ k, 8 ≤ k → ∃ m, m ≤ l.length ∧ codG ((headL v ++ frs (layF v l).1).take k) = ((v, l.take m, (recEnds v l).take m, ((recEnds v l).take m).getLast?.getD 8), 0) ∧ ∀ (i : Nat) (z : Int), (recEnds v l)[i]? = some z → (z ≤ (k : Int) ↔ i < m) := by
  intro k hk
  obtain ⟨m, h1, h2, h3⟩ := hcut k hk
  refine ⟨m, h1, ?_, h3⟩
  unfold codG
  rw [hvers k hk, if_neg (by simp)]
  dsimp only
  rw [h2]
 have hlen : (headL v ++ frs (layF v l).1).length = 8 + (frs (layF v l).1).length := by rw [List.length_append, hl1]
 refine ⟨hv, hg, by omega, by omega, app_bytes hh hb, fun k => ?_, ?_, fun k hk => ?_, hcg⟩
 ·by_cases hk : 8 ≤ k
  ·obtain ⟨m, h1, h2, _⟩ := runsC_cut (headL v) hh (layF v l).1 hp k (by omega)
   rw [hl1] at h2
   have h3 : runs ((headL v ++ frs (layF v l).1).take k) 8 = items 8 ((layF v l).1.take m) := h2
   rw [h3, items_len, List.length_take]
   have := hfit.n
   omega
  ·have h1 := runs_len (((headL v ++ frs (layF v l).1).take k).length + 1) ((headL v ++ frs (layF v l).1).take k) 8
   rw [List.length_take] at h1
   unfold runs
   rw [List.length_take]
   omega
 ·obtain ⟨m, h1, h2, h3⟩ := hcg (headL v ++ frs (layF v l).1).length (by omega)
  rw [List.take_length] at h2
  have hm : m = l.length := by
   rcases Nat.eq_zero_or_pos l.length with h0 | h0
   ·omega
   ·have hz := recEnds_get v l (l.length - 1) (by omega)
    rw [show l.length - 1 + 1 = l.length by omega, List.take_length] at hz
    have := (h3 _ _ hz).1 (by rw [hlen]; exact Int.le_refl _)
    omega
  subst hm
  rw [h2, List.take_length, List.take_of_length_le (by rw [recEnds_len]; exact Nat.le_refl _)]
  congr 3
  congr 1
  rcases Nat.eq_zero_or_pos l.length with h0 | h0
  ·have : l = [] := List.eq_nil_of_length_eq_zero h0
   subst this
   rw [hlen]
   simp [recEnds, layF, frs]
  ·have hz := recEnds_get v l (l.length - 1) (by omega)
   rw [show l.length - 1 + 1 = l.length by omega, List.take_length] at hz
   rw [List.getLast?_eq_getElem?, recEnds_len, hz, hlen]
   rfl
 ·unfold codG
  have e : versF ((headL v ++ frs (layF v l).1).take k) = (0, 2) := by
   unfold versF
   rw [if_pos (by rw [List.length_take]; omega)]
  rw [e, if_pos (by show (2 : Int) ≠ 0; decide)]
end Go.Proofs.Ytmeocdkiecknkaa
namespace Go.Proofs.Ytmeocdkiecknkaa
open Go.RowKit Go.Proofs.YtmeocdkiecknkaaW.PrintWords Go.Proofs.Ytmeocdkiecknkaa.GRR
section
open Go.Proofs.Ytmeocdkiecknkaa.GVB
theorem rd_app (l m : List Int) (i j : Int) (h : i = l.length + j) (hj : 0 ≤ j) : rd (l ++ m) i = rd m j := by
 unfold rd
 rw [List.getD_eq_getElem?_getD, List.getD_eq_getElem?_getD, List.getElem?_append_right (by omega)]
 congr 2; omega
theorem bit_one (y : Int) (k : Nat) (hy : 0 ≤ y ∧ y < 4294967296) (h : y / 2 ^ k % 2 = 1) : Go.bits .and .u32 (y / 2 ^ k) 1 = 1 := by
 have h1 : 0 ≤ y / 2 ^ k := Int.ediv_nonneg hy.1 (Int.pow_nonneg (by omega))
 have h2 : y / 2 ^ k ≤ y := Int.ediv_le_self _ hy.1
 rw [u32_and (y / 2 ^ k) 1 h1 (by omega) (by omega) (by omega), show (1 : Int).toNat = 1 from rfl, nat_mask1]
 omega
theorem bit_zero (y : Int) (k : Nat) (hy : 0 ≤ y ∧ y < 4294967296) (h : ¬ y / 2 ^ k % 2 = 1) : Go.bits .and .u32 (y / 2 ^ k) 1 = 0 := by
 have h1 : 0 ≤ y / 2 ^ k := Int.ediv_nonneg hy.1 (Int.pow_nonneg (by omega))
 have h2 : y / 2 ^ k ≤ y := Int.ediv_le_self _ hy.1
 rw [u32_and (y / 2 ^ k) 1 h1 (by omega) (by omega) (by omega), show (1 : Int).toNat = 1 from rfl, nat_mask1]
 omega
theorem nats_set (cs : List Int) (j : Nat) (v : Int) : nats (cs.set j v) = (nats cs).set j v.toNat := by simp [nats, List.map_set]
theorem flip (cs : List Int) (hb : ∀ b ∈ cs, 0 ≤ b ∧ b < 256) (p : Nat) (h : p / 8 < cs.length) :
  (∀ b ∈ cs.set (p / 8) (Go.bits .xor .u8 (cs.getD (p / 8) 0) (2 ^ (p % 8) % 256)), 0 ≤ b ∧ b < 256) ∧ Crc.le (nats (cs.set (p / 8) (Go.bits .xor .u8 (cs.getD (p / 8) 0) (2 ^ (p % 8) % 256)))) = Crc.le (nats cs) ^^^ 2 ^ p := by
 have hr : p % 8 < 8 := by omega
 have hp : 2 ^ (p % 8) < 256 := Nat.lt_of_lt_of_le (Nat.pow_lt_pow_right (by omega) hr) (by decide)
 have hg : cs.getD (p / 8) 0 = cs[p / 8] := by simp [List.getD_eq_getElem?_getD, h]
 have hbx := hb cs[p / 8] (by simp)
 have e : Go.bits .xor .u8 (cs.getD (p / 8) 0) (2 ^ (p % 8) % 256) = (((cs[p / 8]).toNat ^^^ 2 ^ (p % 8) : Nat) : Int) := by
  have e2 : ((2 : Int) ^ (p % 8)) % 256 = ((2 ^ (p % 8) : Nat) : Int) := by
   rw [Int.natCast_pow]
   have : ((2 ^ (p % 8) : Nat) : Int) < 256 := by omega
   rw [Int.natCast_pow] at this
   exact Int.emod_eq_of_lt (Int.pow_nonneg (by omega)) this
  rw [hg, e2, u8_xor _ _ hbx.1 hbx.2 (by omega) (by omega), Int.toNat_natCast]
 have hx : (cs[p / 8]).toNat ^^^ 2 ^ (p % 8) < 256 := Nat.xor_lt_two_pow (n := 8) (by omega) hp
 rw [e]
 refine ⟨fun b hb' => ?_, ?_⟩
 ·rcases List.mem_or_eq_of_mem_set hb' with h1 | rfl
  ·exact hb b h1
  ·omega
 ·rw [nats_set, Int.toNat_natCast]
  have hl : p / 8 < (nats cs).length := by simpa [nats] using h
  have := Crc.le_turn (nats cs) (p / 8) (p % 8) hl (nats_lt hb) hr
  rw [show 8 * (p / 8) + p % 8 = p by omega] at this
  rw [← this]
  congr 2
  simp [nats]
theorem pow_mul_xor (f a b : Nat) : 2 ^ f * (a ^^^ b) = (2 ^ f * a) ^^^ (2 ^ f * b) := by
 apply Nat.eq_of_testBit_eq
 intro i
 rw [Nat.testBit_xor, Nat.testBit_two_pow_mul, Nat.testBit_two_pow_mul, Nat.testBit_two_pow_mul, Nat.testBit_xor]
 by_cases hi : i ≥ f <;> simp [hi]
theorem xor_two_pow (W k : Nat) (h : W < 2 ^ k) : W ^^^ 2 ^ k = W + 2 ^ k := by
 have := Crc.split_xor (W + 2 ^ k) k
 have e1 : (W + 2 ^ k) / 2 ^ k = 1 := by rw [Nat.add_div_right _ (Nat.two_pow_pos k), Nat.div_eq_of_lt h]
 have e2 : (W + 2 ^ k) % 2 ^ k = W := by rw [Nat.add_mod_right, Nat.mod_eq_of_lt h]
 rw [e1, e2, Nat.mul_one, Nat.xor_comm] at this
 exact this.symm
theorem nats_bytes (v : Nat) : nats [(v : Int) % 256, (v : Int) / 256 % 256, (v : Int) / 65536 % 256, (v : Int) / 16777216 % 256] = Crc.bytes v := by
 simp only [nats, Crc.bytes, List.map_cons, List.map_nil]
 congr 1
theorem told (l cs : List Int) (f W : Nat) (hl : ∀ b ∈ l, 0 ≤ b ∧ b < 256) (hb : ∀ b ∈ cs, 0 ≤ b ∧ b < 256) (hlen : cs.length = l.length + 4) (hf : f < 8 * cs.length) (hW : W < 4294967296)
  (hle : Crc.le (nats cs) = Crc.le (nats l ++ Crc.bytes (Crc.sum (nats l))) ^^^ (2 ^ f * W)) :
  (at4 cs l.length == ((Crc.sum (nats (cs.take l.length)) : Nat) : Int)) = decide (W = 0) := by
 have hd : (cs.drop l.length).length = 4 := by rw [List.length_drop]; omega
 obtain ⟨r0, r1, r2, r3, hr⟩ : ∃ r0 r1 r2 r3, cs.drop l.length = [r0, r1, r2, r3] := by
  match hdr : cs.drop l.length, hd with
  | [r0, r1, r2, r3], _ => exact ⟨r0, r1, r2, r3, rfl⟩
 have hbr : ∀ b ∈ [r0, r1, r2, r3], 0 ≤ b ∧ b < 256 := fun b hb' => hb b (List.mem_of_mem_drop (hr ▸ hb'))
 have h0 := hbr r0 (by simp)
 have h1 := hbr r1 (by simp)
 have h2 := hbr r2 (by simp)
 have h3 := hbr r3 (by simp)
 have hcs : cs = cs.take l.length ++ [r0, r1, r2, r3] := by rw [← hr, List.take_append_drop]
 have hm : (cs.take l.length).length = l.length := by rw [List.length_take]; omega
 have hbm : ∀ b ∈ cs.take l.length, 0 ≤ b ∧ b < 256 := fun b hb' => hb b (List.mem_of_mem_take hb')
 generalize cs.take l.length = m at *
 have hat : at4 cs l.length = r0 + 256 * r1 + 65536 * r2 + 16777216 * r3 := by
  unfold at4
  rw [hcs, rd_app m _ (l.length : Int) 0 (by omega) (by omega), rd_app m _ _ 1 (by omega) (by omega), rd_app m _ _ 2 (by omega) (by omega), rd_app m _ _ 3 (by omega) (by omega)]
  simp [rd]
 obtain ⟨v, hv⟩ : ∃ v : Nat, r0 + 256 * r1 + 65536 * r2 + 16777216 * r3 = v := ⟨_, (Int.toNat_of_nonneg (by omega)).symm⟩
 have hvlt : v < 4294967296 := by omega
 have hnb : nats [r0, r1, r2, r3] = Crc.bytes v := by
  rw [← nats_bytes, ← hv]
  congr 1
  rw [show (r0 + 256 * r1 + 65536 * r2 + 16777216 * r3) % 256 = r0 by omega, show (r0 + 256 * r1 + 65536 * r2 + 16777216 * r3) / 256 % 256 = r1 by omega, show (r0 + 256 * r1 + 65536 * r2 + 16777216 * r3) / 65536 % 256 = r2 by omega, show (r0 + 256 * r1 + 65536 * r2 + 16777216 * r3) / 16777216 % 256 = r3 by omega]
 have hn : nats cs = nats m ++ Crc.bytes v := by rw [hcs]; unfold nats at hnb ⊢; rw [List.map_append, hnb]
 have t1 := Crc.told_iff (nats m) v (nats_lt hbm) hvlt
 have t0 := (Crc.told_iff (nats l) (Crc.sum (nats l)) (nats_lt hl) (Crc.sum_lt _ (nats_lt hl))).1 rfl
 have hll : (nats l).length = l.length := by simp [nats]
 have hml : (nats m).length = l.length := by simp [nats, hm]
 rw [hml, ← hn, hle, ← Nat.xor_assoc, Crc.stn_xor] at t1
 rw [hll] at t0
 rw [t0] at t1
 rw [hat, hv]
 by_cases h : W = 0
 ·rw [decide_eq_true h]
  have : v = Crc.sum (nats m) := t1.2 (by rw [h, Nat.mul_zero, Crc.stn_zero, Nat.xor_zero])
  simp [← this]
 ·rw [decide_eq_false h]
  have hne := Crc.burst (8 * l.length + 32) f W (by omega) hW h
  have : v ≠ Crc.sum (nats m) := by
   intro e
   have h2 := t1.1 e
   apply hne
   have : (Crc.stn 32 Crc.top ^^^ Crc.stn (8 * l.length + 32) (2 ^ f * W)) ^^^ Crc.stn 32 Crc.top = 0 := by rw [h2, Nat.xor_self]
   rw [Nat.xor_comm (Crc.stn 32 Crc.top), Nat.xor_assoc, Nat.xor_self, Nat.xor_zero] at this
   exact this
  simp; omega
def hdr (p : List Int) : Nat := (vb p.length).length
theorem hdr_is (p : List Int) (hp : PayC p) : hdr p = if 128 ≤ p.length then 2 else 1 := by
 unfold hdr
 split
 ·rename_i h
  rw [vb_great _ (by omega), vb_small _ (by have := hp.2.1; omega)]; rfl
 ·rename_i h
  rw [vb_small _ (by omega)]; rfl
theorem frameL_parts (p : List Int) (hp : PayC p) : frameL p = (ints (vb p.length) ++ p) ++ crcB (Crc.sum (nats (ints (vb p.length) ++ p))) := by
 have hs : (strOfNums p).size = p.length := strOfNums_size p
 unfold frameL blob
 rw [hs, bytesOf_str p hp.2.2]
theorem frameL_length (p : List Int) (hp : PayC p) : (frameL p).length = hdr p + p.length + 4 := by
 rw [frameL_parts p hp, List.length_append, List.length_append]
 unfold hdr
 simp [ints, crcB]
theorem fgetC_turned (m cs u p : List Int) (f W : Nat) (hp : PayC p) (hm : ∀ x ∈ m, 0 ≤ x ∧ x < 256) (hb : ∀ x ∈ cs, 0 ≤ x ∧ x < 256) (hu : ∀ x ∈ u, 0 ≤ x ∧ x < 256) (hlen : cs.length = (frameL p).length) (hf : f < 8 * cs.length) (hW : W < 4294967296) (h0 : W ≠ 0)
  (hle : Crc.le (nats cs) = Crc.le (nats (frameL p)) ^^^ (2 ^ f * W)) (hh : cs.take (hdr p) = ints (vb p.length)) : (fgetS (m ++ (cs ++ u)) (m.length : Int)).2.2 ≠ 0 := by
 have hfl := frameL_length p hp
 have hp1 := hp.1
 have hp2 := hp.2.1
 have hhd : hdr p ≤ 10 := vb_len10 p.length (by omega)
 have hpos : 1 ≤ hdr p := List.length_pos_iff.2 (vb_ne p.length)
 have hcs : cs = ints (vb p.length) ++ cs.drop (hdr p) := by rw [← hh, List.take_append_drop]
 have hd : (nats (m ++ (cs ++ u))).drop m.length = vb p.length ++ nats (cs.drop (hdr p) ++ u) := by
  rw [f_nats_app, show m.length = (nats m).length by simp [nats], List.drop_left]
  conv => lhs; rw [hcs]
  rw [List.append_assoc, f_nats_app, nats_ints]
 have hg : getS (m ++ (cs ++ u)) (m.length : Int) = ((p.length : Int), ((m.length + hdr p : Nat) : Int), 0) := by
  unfold getS
  rw [if_neg (by simp only [List.length_append]; omega), Int.toNat_natCast, hd, dec_vb0 _ _ (by omega)]
  rfl
 have hL : (m ++ (cs ++ u)).length = m.length + (hdr p + p.length + 4) + u.length := by rw [List.length_append, List.length_append]; omega
 have hbg : bgetS (m ++ (cs ++ u)) (m.length : Int) 2048 = (strOfNums (((m ++ (cs ++ u)).take (m.length + hdr p + p.length)).drop (m.length + hdr p)), ((m.length + hdr p + p.length : Nat) : Int), 0) := by
  unfold bgetS
  rw [hg, if_neg (by simp), if_neg (by dsimp only; omega), if_neg (by rw [hL]; dsimp only; omega)]
  rfl
 have hsz : (strOfNums (((m ++ (cs ++ u)).take (m.length + hdr p + p.length)).drop (m.length + hdr p))).size = p.length := by
  rw [strOfNums_size, List.length_drop, List.length_take, hL]; omega
 have hblob : ∀ x ∈ ints (vb p.length) ++ p, 0 ≤ x ∧ x < 256 := by
  intro x hx
  rcases List.mem_append.1 hx with hx | hx
  ·exact ints_bytes _ (vb_bytes _ (by omega)) x hx
  ·exact hp.2.2 x hx
 have hbl : (ints (vb p.length) ++ p).length = hdr p + p.length := by rw [List.length_append]; simp [ints, hdr]
 have ht := told (ints (vb p.length) ++ p) cs f W hblob hb (by rw [hbl]; omega) hf hW (by
  rw [hle, frameL_parts p hp]
  unfold nats
  rw [List.map_append]
  congr 2)
 rw [decide_eq_false h0, hbl] at ht
 have hbd : ∀ x ∈ cs ++ u, 0 ≤ x ∧ x < 256 := by
  intro x hx
  rcases List.mem_append.1 hx with hx | hx
  ·exact hb x hx
  ·exact hu x hx
 have hw : wholeB (cs ++ u) ((hdr p + p.length : Nat) : Int) = false := by
  unfold wholeB
  rw [Int.toNat_natCast, List.take_append_of_le_length (by omega)]
  have hat : at4 (cs ++ u) ((hdr p + p.length : Nat) : Int) = at4 cs ((hdr p + p.length : Nat) : Int) := by
   have hr : ∀ i : Int, 0 ≤ i → i < cs.length → rd (cs ++ u) i = rd cs i := by
    intro i h1 h2
    unfold rd
    rw [List.getD_eq_getElem?_getD, List.getD_eq_getElem?_getD, List.getElem?_append_left (by omega)]
   unfold at4
   rw [hr _ (by omega) (by omega), hr _ (by omega) (by omega), hr _ (by omega) (by omega), hr _ (by omega) (by omega)]
  rw [hat, Bool.and_eq_false_iff]
  refine .inr (decide_eq_false (fun e => ?_))
  rw [e] at ht
  simp at ht
 unfold fgetS
 rw [hL, if_neg (by omega), hbg, if_neg (by simp), if_neg (by show ¬ (strOfNums _).size = 0; omega)]
 dsimp only
 rw [if_neg (by omega), Int.toNat_natCast, List.drop_left, show ((m.length + hdr p + p.length : Nat) : Int) - (m.length : Int) = ((hdr p + p.length : Nat) : Int) by omega, hw, if_pos rfl]
 decide
theorem set_mid (m cs u : List Int) (j : Nat) (v : Int) (hj : j < cs.length) : (m ++ (cs ++ u)).set (m.length + j) v = m ++ (cs.set j v ++ u) := by
 rw [List.set_append_right _ _ (by omega), Nat.add_sub_cancel_left, List.set_append_left _ _ hj]
theorem getD_mid (m cs u : List Int) (j : Nat) (hj : j < cs.length) : (m ++ (cs ++ u)).getD (m.length + j) 0 = cs.getD j 0 := by
 rw [List.getD_eq_getElem?_getD, List.getD_eq_getElem?_getD, List.getElem?_append_right (by omega), Nat.add_sub_cancel_left, List.getElem?_append_left hj]
end
theorem frs_split (ps : List (List Int)) (k : Nat) (hk : k < ps.length) : frs ps = frs (ps.take k) ++ (frameL ps[k] ++ frs (ps.drop (k + 1))) := by
 conv => lhs; rw [← List.take_append_drop k ps]
 rw [frs_append, List.drop_eq_getElem_cons hk, frs_cons]
theorem runsC_turned (hd : List Int) (hh : ∀ x ∈ hd, 0 ≤ x ∧ x < 256) (ps : List (List Int)) (h : ∀ p ∈ ps, PayC p) (k : Nat) (hk : k < ps.length) (cs : List Int) (f W : Nat) (hb : ∀ x ∈ cs, 0 ≤ x ∧ x < 256) (hlen : cs.length = (frameL ps[k]).length) (hf : f < 8 * cs.length) (hW : W < 4294967296) (hz : W ≠ 0)
  (hle : Crc.le (nats cs) = Crc.le (nats (frameL ps[k])) ^^^ (2 ^ f * W)) (ht : cs.take (hdr ps[k]) = ints (vb ps[k].length)) :
  runs (hd ++ (frs (ps.take k) ++ (cs ++ frs (ps.drop (k + 1))))) (hd.length : Int) = runs ((hd ++ frs ps).take (hd.length + (frs (ps.take k)).length)) (hd.length : Int) := by
 have hm : ∀ p ∈ ps.take k, PayC p := fun p hp => h p (List.mem_of_mem_take hp)
 have hr : ∀ p ∈ ps.drop (k + 1), PayC p := fun p hp => h p (List.mem_of_mem_drop hp)
 have hu : ∀ x ∈ cs ++ frs (ps.drop (k + 1)), 0 ≤ x ∧ x < 256 := app_bytes hb (frsC_bytes _ hr)
 have hg := fgetC_turned (hd ++ frs (ps.take k)) cs (frs (ps.drop (k + 1))) ps[k] f W (h _ (List.getElem_mem _)) (app_bytes hh (frsC_bytes _ hm)) hb (frsC_bytes _ hr) hlen hf hW hz hle ht
 rw [List.append_assoc, List.length_append] at hg
 rw [runsC_frames hd hh (ps.take k) hm _ hu hg]
 have e : (hd ++ frs ps).take (hd.length + (frs (ps.take k)).length) = hd ++ (frs (ps.take k) ++ []) := by
  rw [frs_split ps k hk, ← List.append_assoc, ← List.length_append, List.take_left, List.append_nil]
 rw [e]
 refine (runsC_frames hd hh (ps.take k) hm [] (by simp) ?_).symm
 unfold fgetS
 rw [if_pos (by rw [List.append_nil, List.length_append])]; decide
structure TolFile (v : Int) (l : List Rec9) (k : Nat) (f pre F rest p : List Int) : Prop where
 parts : f = pre ++ (F ++ rest)
 fr : F = frameL p
 pay : PayC p
 b1 : ∀ x ∈ pre, 0 ≤ x ∧ x < 256
 b2 : ∀ x ∈ rest, 0 ≤ x ∧ x < 256
 n8 : 8 ≤ pre.length
 fin : (recEnds v l)[k]? = some ((pre.length + F.length : Nat) : Int)
 told : ∀ (cs : List Int) (g W : Nat), (∀ x ∈ cs, 0 ≤ x ∧ x < 256) → cs.length = F.length → g < 8 * cs.length → W < 4294967296 → (W = 0 → cs = F) → Crc.le (nats cs) = Crc.le (nats F) ^^^ (2 ^ g * W) → cs.take (hdr p) = ints (vb p.length) →
  (runs (pre ++ (cs ++ rest)) 8).length ≤ 2700 ∧ (W = 0 → codG (pre ++ (cs ++ rest)) = ((v, l, recEnds v l, (f.length : Int)), 0)) ∧ (W ≠ 0 → ∃ es good, codG (pre ++ (cs ++ rest)) = ((v, l.take k, es, good), 0) ∧ es.length = k)
theorem tol_file {v : Int} {l : List Rec9} (hl : l.length ≤ 30) (hn : ∀ r ∈ l, NumR r) (h : (codF v l).2 = 0) (k : Nat) (hk : k < l.length) : ∃ pre F rest p, TolFile v l k (codF v l).1 pre F rest p := by
 have hC := cod_file (v := v) hl hn h
 obtain ⟨hv, hg, hf⟩ := codF_ok hn h
 rw [hf] at hC ⊢
 have hh := headL_bytes hv
 have hl1 := headL_len v
 have hp := lay_payC (v := v) l (by omega) hg
 have hlt := lay_lt (v := v) (l := l) (by omega) hg k hk
 obtain ⟨m, hm⟩ : ∃ m, (layF v (l.take (k + 1))).1.length = m + 1 := ⟨(layF v (l.take (k + 1))).1.length - 1, by omega⟩
 have hmr : m < (layF v l).1.length := by omega
 have hsp := frs_split (layF v l).1 m hmr
 have hlk := lay_take (v := v) l (k + 1)
 have hfk : (frs (layF v (l.take (k + 1))).1).length = (frs ((layF v l).1.take m)).length + (frameL (layF v l).1[m]).length := by
  rw [← hlk, hm, List.take_succ_eq_append_getElem hmr, frs_append, List.length_append]
  congr 1
  show (frameL _ ++ []).length = _
  rw [List.append_nil]
 have hend := recEnds_get v l k hk
 have hpm : ∀ p ∈ (layF v l).1.take m, PayC p := fun p hp' => hp p (List.mem_of_mem_take hp')
 have hrm : ∀ p ∈ (layF v l).1.drop (m + 1), PayC p := fun p hp' => hp p (List.mem_of_mem_drop hp')
 have hpay := hp (layF v l).1[m] (List.getElem_mem _)
 have hFl := frameC_le _ hpay
 have hsplit : headL v ++ frs (layF v l).1 = (headL v ++ frs ((layF v l).1.take m)) ++ (frameL (layF v l).1[m] ++ frs ((layF v l).1.drop (m + 1))) := by
  rw [hsp, List.append_assoc]
 have hprl : (headL v ++ frs ((layF v l).1.take m)).length = 8 + (frs ((layF v l).1.take m)).length := by rw [List.length_append, hl1]
 refine ⟨headL v ++ frs ((layF v l).1.take m), frameL (layF v l).1[m], frs ((layF v l).1.drop (m + 1)), (layF v l).1[m], hsplit, rfl, hpay, app_bytes hh (frsC_bytes _ hpm), frsC_bytes _ hrm, by omega, ?_, ?_⟩
 ·rw [hend, hprl, hfk]
  congr 2; omega
 ·intro cs g W hb hlen hgl hW h0 hle ht
  have hvers : ∀ u, versF (headL v ++ u) = (v, 0) := fun u => vers_head v hv u
  by_cases hz : W = 0
  ·have e : (headL v ++ frs ((layF v l).1.take m)) ++ (cs ++ frs ((layF v l).1.drop (m + 1))) = headL v ++ frs (layF v l).1 := by rw [h0 hz, ← hsplit]
   rw [e]
   refine ⟨?_, fun _ => hC.all, fun h => absurd hz h⟩
   have := hC.few (headL v ++ frs (layF v l).1).length
   rwa [List.take_length] at this
  ·have hr := runsC_turned (headL v) hh (layF v l).1 hp m hmr cs g W hb hlen hgl hW hz hle ht
   rw [hl1] at hr
   have hr8 : runs (headL v ++ (frs ((layF v l).1.take m) ++ (cs ++ frs ((layF v l).1.drop (m + 1))))) 8 = runs ((headL v ++ frs (layF v l).1).take (8 + (frs ((layF v l).1.take m)).length)) 8 := hr
   rw [List.append_assoc]
   refine ⟨by rw [hr8]; exact hC.few _, fun h => absurd h hz, fun _ => ?_⟩
   obtain ⟨q, hq, hcod, hiff⟩ := hC.cut (8 + (frs ((layF v l).1.take m)).length) (by omega)
   have hqk : q = k := by
    have h1 := hiff k _ hend
    have h2 : ¬ k < q := by rw [← h1, hfk]; omega
    rcases Nat.eq_zero_or_pos k with h3 | h3
    ·omega
    ·have h4 := recEnds_get v l (k - 1) (by omega)
     rw [show k - 1 + 1 = k by omega] at h4
     have h5 := hiff _ _ h4
     have h6 := lay_lt (v := v) (l := l) (by omega) hg (k - 1) (by omega)
     have h7 : (layF v (l.take k)).1.length ≤ m := by
      have := (getF_lay (v := v) (l := l) (by omega) hg k hk).2
      omega
     have h8 : (frs (layF v (l.take k)).1).length ≤ (frs ((layF v l).1.take m)).length := by
      have h9 := lay_take (v := v) l k
      have h10 : (layF v (l.take k)).1 = ((layF v l).1.take m).take (layF v (l.take k)).1.length := by
       rw [List.take_take, Nat.min_eq_left h7, h9]
      have h11 : frs ((layF v l).1.take m) = frs (((layF v l).1.take m).take (layF v (l.take k)).1.length) ++ frs (((layF v l).1.take m).drop (layF v (l.take k)).1.length) := by
       rw [← frs_append, List.take_append_drop]
      rw [h11, ← h10, List.length_append]
      omega
     have : k - 1 < q := by rw [← h5]; omega
     omega
   subst hqk
   refine ⟨(recEnds v l).take q, ((recEnds v l).take q).getLast?.getD 8, ?_, by rw [List.length_take, recEnds_len]; omega⟩
   have ht : (headL v ++ frs (layF v l).1).take (8 + (frs ((layF v l).1.take m)).length) = headL v ++ (frs (layF v l).1).take (frs ((layF v l).1.take m)).length := by
    rw [List.take_append, hl1, List.take_of_length_le (by omega), Nat.add_sub_cancel_left]
   rw [ht] at hr8 hcod
   rw [← hcod]
   unfold codG
   rw [hvers, hvers, if_neg (by simp), if_neg (by simp)]
   dsimp only
   rw [hr8]
end Go.Proofs.Ytmeocdkiecknkaa
namespace Go.Proofs.Ytmeocdkiecknkaa
open Go.RowKit Go.Proofs.YtmeocdkiecknkaaW.PrintWords Go.Proofs.Ytmeocdkiecknkaa.GRR
attribute [local go_sem] Oper.semAt_some
theorem Kp.to_below' {B : Nat} {w w' : World} {S : Nat → Prop} (h : Kp w w' S) (hB : B ≤ w.heap.size) (hs : ∀ k, S k → B ≤ k) : Below B w w' := ⟨h.os, h.tape, h.output, h.size, fun k hk => h.block k (by omega) (fun h' => by have := hs k h'; omega)⟩
theorem getF_same {v : Int} {T : List ByteArray} {ps : List (List Int)} {a : Int} (h : (getF v T ps a).2.2.2 ≠ 0) : (getF v T ps a).2.2.1 = T := by
 unfold getF at h ⊢
 split at h
 ·rename_i h1; rw [if_pos h1]
 ·rename_i h1
  rw [if_neg h1]
  split at h
  ·rename_i h2; rw [if_pos h2]
  ·rename_i h2
   rw [if_neg h2]
   dsimp only at h ⊢
   split at h
   ·rename_i h3; rw [if_pos h3]
   ·rename_i h3
    rw [if_neg h3]
    split at h
    ·exact absurd rfl h
    ·rename_i h4; rw [if_neg h4]
theorem runs_size (l : List Int) (hb : ∀ x ∈ l, 0 ≤ x ∧ x < 256) (a : Int) : ∀ y ∈ runs l a, y.1.size ≤ 2048 := by
 unfold runs
 generalize l.length + 1 = k
 induction k generalizing a with
 | zero => intro y hy; simp [frunS] at hy
 | succ k ih =>
  intro y hy
  rw [frunS] at hy
  split at hy
  ·rcases List.mem_cons.1 hy with rfl | hy
   ·rcases fgetS_cases l hb a with ⟨e, he, _⟩ | ⟨lo, p, q, _, h1, h2, h3, h4, he⟩
    ·rw [he]; exact Nat.zero_le _
    ·rw [he]; dsimp only; rw [strOfNums_size, List.length_drop, List.length_take]; omega
   ·exact ih _ y hy
  ·simp at hy
set_option maxRecDepth 100000 in
set_option maxHeartbeats 4000000 in
theorem cget_ok (A : Option Addr) (c : Nat) (l : List Int) (w : World) (hC : Kd.C (Kd.int .u8) w A l.length l) (hc : l.length ≤ c) (hb : ∀ x ∈ l, 0 ≤ x ∧ x < 256) (hl : l.length ≤ 1000000) (v : Int) (hv : versF l = (v, 0)) (hN : (runs l 8).length ≤ 2700) :
  Calls Try.prog 44 #[.slice A l.length c] w (CGetPost w ((v, fileG v (runs l 8)), 0)) := by
 obtain ⟨w1, hw1⟩ : ∃ w1, w.alloc (.cells #[.int .i64 0, .slice none 0 0, .slice none 0 0, .int .i64 0] 90) = w1 := ⟨_, rfl⟩
 have hb1 : Below w.heap.size w w1 := by rw [← hw1]; exact (Below.refl _ _).alloc (Nat.le_refl _) _
 have hk1 : w1.heap[w.heap.size]? = some (.cells #[.int .i64 0, .slice none 0 0, .slice none 0 0, .int .i64 0] 90 (0, 0)) := by rw [← hw1]; exact heap_new _ _
 have hs1 : w1.heap.size = w.heap.size + 1 := by rw [← hw1, heap_size_alloc]
 obtain ⟨b2, hb2⟩ : ∃ b, w.heap.size = b := ⟨_, rfl⟩
 rw [hb2] at hk1 hs1
 have hVC := vers_any A c l w1 (Kd.C_below hC hb1) hc hb hl
 rw [hv] at hVC
 have HVC := Lib.hid hVC
 have HC := Lib.hid hC
 have HB1 := Lib.hid hb1
 have HK1 := Lib.hid hk1
 have HS1 := Lib.hid hs1
 have HW1 := Lib.hid hw1
 have HB2 := Lib.hid hb2
 have HBY := Lib.hid hb
 clear hC hb1 hk1 hs1 hw1 hb2 hv hVC hb
 refine callsIn_wide (n := 9).1 ?_
 refine callsIn_of_wp_marks Try.func44 rfl trivial ?_
 simp only [Try.ntmps44, List.size_toArray, List.length_cons, List.length_nil, Nat.reduceAdd, Nat.reduceSub, Array.replicate_succ, Array.replicate_zero, List.push_toArray, List.append_toArray, List.nil_append, List.cons_append]
 gi_wp2_with fail
 rw [HW1.out, HB2.out]
 refine ⟨trivial, ?_⟩
 refine (callsIn_wide.2 HVC.out).mono ?_
 rintro e w2 ⟨rfl, hb2⟩
 have HB12 := Lib.hid (HB1.out.trans (hb2.mono HB1.out.size))
 have HK2 := Lib.hid (blk_below HK1.out hb2)
 clear hb2
 gi_wp2_with fail
 obtain ⟨fb, hfb⟩ : ∃ b, w2.heap.size = b := ⟨_, rfl⟩
 obtain ⟨w3, hw3⟩ : ∃ w3, w2.alloc (.cells #[.int .i64 v, .slice none 0 0, .slice none 0 0, .int .i64 8] 90) = w3 := ⟨_, rfl⟩
 have hb3 : Below w2.heap.size w2 w3 := by rw [← hw3]; exact (Below.refl _ _).alloc (Nat.le_refl _) _
 have hk3 : w3.heap[w2.heap.size]? = some (.cells #[.int .i64 v, .slice none 0 0, .slice none 0 0, .int .i64 8] 90 (0, 0)) := by rw [← hw3]; exact heap_new _ _
 rw [hw3, hfb]
 rw [hfb] at hk3
 have hB13 := HB12.out.trans (hb3.mono HB12.out.size)
 have HRN := Lib.hid (frun_any A c l 8 w3 (Kd.C_below HC.out hB13) hc HBY.out hl)
 have hk23 := blk_below HK2.out hb3
 have HK23 := Lib.hid hk23
 have HB13 := Lib.hid hB13
 have HK3 := Lib.hid hk3
 have HFB := Lib.hid (show b2 < fb by have := blk_lt HK2.out; omega)
 clear hb3 hk3 hw3 hfb hB13 hk23 HK2
 obtain ⟨its, hits⟩ : ∃ its, runs l 8 = its := ⟨_, rfl⟩
 rw [hits] at hN ⊢
 unfold FRunPost at HRN
 rw [hits] at HRN
 have HSZ := Lib.hid (fun (y : ByteArray × Int) (hy : y ∈ its) => runs_size l HBY.out 8 y (hits ▸ hy))
 have HITS := Lib.hid hits
 clear hits
 refine ⟨trivial, ?_⟩
 refine (callsIn_wide.2 HRN.out).mono ?_
 rintro e w4 ⟨v1, v2, vs, rfl, hr1, hr2, hvl, hfr, hb4⟩
 obtain ⟨A7, c7, rfl⟩ := Kd.R_slice hr1
 obtain ⟨A8, c8, rfl⟩ := Kd.R_slice hr2
 have hr2' : (its.map (·.2)).length = its.length := List.length_map ..
 rw [hr2', hvl]
 rw [hvl] at hr1
 rw [hr2'] at hr2
 have hk4 := blk_below HK3.out hb4
 have hk24 := blk_below HK23.out hb4
 have hB4 := HB13.out.trans (hb4.mono HB13.out.size)
 have HR := Lib.hid (And.intro hr1 (And.intro hr2 (And.intro hvl hfr)))
 have HK4 := Lib.hid hk4
 have HK24 := Lib.hid hk24
 have HB4 := Lib.hid hB4
 have HB34 := Lib.hid (show fb < w3.heap.size from blk_lt HK3.out)
 have HS34 := Lib.hid hb4.size
 clear hr1 hr2 hvl hfr hb4 hk4 hk24 hB4 hr2'
 gi_wp2_with fail
 refine ⟨trivial, ?_⟩
 refine (callsIn_wide.2 (records_any _ _ _ _ _)).mono ?_
 rintro e w5 ⟨rfl, rfl⟩
 gi_wp2_with fail
 have hdel := HR.out
 obtain ⟨W0, hW0⟩ : ∃ W0, ((w4.alloc (.cells #[.slice A8 its.length c8] 42)).alloc (.cells #[.int .i64 v] 3)).alloc (.cells #[.slice A7 its.length c7] 41) = W0 := ⟨_, rfl⟩
 rw [hW0]
 have hs0 : W0.heap.size = w4.heap.size + 3 := by rw [← hW0]; simp
 have hb0 : Below w4.heap.size w4 W0 := by
  rw [← hW0]
  exact (((Below.refl _ _).alloc (Nat.le_refl _) _).alloc (by simp) _).alloc (by simp; omega) _
 have e1 : W0.heap[w4.heap.size]? = some (.cells #[.slice A8 its.length c8] 42 (0, 0)) := by rw [← hW0]; exact blk_alloc (blk_alloc (blk_new _ _) _) _
 have e2 : W0.heap[w4.heap.size + 1]? = some (.cells #[.int .i64 v] 3 (0, 0)) := by
  rw [← hW0]
  have := blk_new (w4.alloc (.cells #[.slice A8 its.length c8] 42)) (.cells #[.int .i64 v] 3)
  rw [heap_size_alloc] at this
  exact blk_alloc this _
 have e3 : W0.heap[w4.heap.size + 2]? = some (.cells #[.slice A7 its.length c7] 41 (0, 0)) := by
  rw [← hW0]
  have := blk_new ((w4.alloc (.cells #[.slice A8 its.length c8] 42)).alloc (.cells #[.int .i64 v] 3)) (.cells #[.slice A7 its.length c7] 41)
  rw [heap_size_alloc, heap_size_alloc] at this
  exact this
 have hfb0 : W0.heap[fb]? = some (.cells #[.int .i64 v, .slice none 0 0, .slice none 0 0, .int .i64 8] 90 (0, 0)) := blk_below HK4.out hb0
 have hfbl : fb < W0.heap.size := blk_lt hfb0
 have hfb4 : fb < w3.heap.size := HB34.out
 have hs34 := HS34.out
 obtain ⟨rows, hrows⟩ : ∃ rows, (its.map fun y => bytesOf y.1) = rows := ⟨_, rfl⟩
 have hrl : rows.length = its.length := by rw [← hrows]; exact List.length_map ..
 -- what was there stays, whatever is written to the box
 have hROWS : ∀ X, Kp W0 X (fun k => k = fb) → Kd.C kRows X A7 rows.length rows := by
  intro X hk
  have hk4 : Kp w4 X (fun k => k = fb) := (Kp.of_below hb0 (fun k => k = fb)).trans hk (fun k h => .inl h)
  obtain ⟨h1, _, h3, h4⟩ := HR.out
  have h1' := Kd.R_step (Kd.R_bound h1) (fun k hk' hlt => hk4.block k hlt (by have := hk'.2.1; omega))
  have := rows_fresh (B := w3.heap.size) (its := its) (Kd.R_reads' h1').2.2 h3 (fun k x y hx hy => (h4 k x y hx hy).move (fun b C fr hb => hk4.block b (blk_lt hb) (by rintro rfl; rw [HK4.out] at hb; cases hb)))
  rw [hrows, ← hrl] at this
  exact this
 have hENDS : ∀ X, Kp W0 X (fun k => k = fb) → Kd.C (Kd.int .i64) X A8 its.length (its.map (·.2)) := by
  intro X hk
  have hk4 : Kp w4 X (fun k => k = fb) := (Kp.of_below hb0 (fun k => k = fb)).trans hk (fun k h => .inl h)
  have h := (Kd.R_reads' (Kd.R_step (Kd.R_bound HR.out.2.1) (fun k hk' hlt => hk4.block k hlt (by have := hk'.2.1; omega)))).2.2
  rwa [show (its.map (·.2)).length = its.length from List.length_map ..] at h
 have hc7 : rows.length ≤ c7 := by
  have := (Kd.R_reads' HR.out.1).2.1
  have h3 := HR.out.2.2.1
  omega
 have hbt : ∀ p ∈ rows, p.length ≤ 3000 ∧ ∀ x ∈ p, 0 ≤ x ∧ x < 256 := by
  intro p hp
  rw [← hrows] at hp
  obtain ⟨y, hy, rfl⟩ := List.mem_map.1 hp
  exact ⟨by rw [bytesOf_length]; have := HSZ.out y hy; omega, bytesOf_byte y.1⟩
 obtain ⟨rs, hrs⟩ : ∃ rs, recsL v rows (its.length + 1) [] 0 = rs := ⟨_, rfl⟩
 obtain ⟨es, hes⟩ : ∃ es, rs.map (fun x => (its.getD (x.2.toNat - 1) (⟨#[]⟩, 0)).2) = es := ⟨_, rfl⟩
 have hF : fileG v its = (rs.map (·.1), es, es.getLast?.getD 8) := by
  unfold fileG
  rw [hrows, hrs]
  dsimp only
  rw [hes]
 have hat := recsL_at v rows (its.length + 1) [] 0 (by omega) (by omega)
 have hbd := stF_bd v rows (its.length + 1) [] 0 (by omega) (by omega) ⟨by omega, by omega⟩
 have hfew := recsL_few v rows (its.length + 1) [] 0 (by omega) (by omega) ⟨by omega, by omega⟩
 rw [hrs] at hat hbd hfew
 have hesl : es.length = rs.length := by rw [← hes]; exact List.length_map ..
 have HF := Lib.hid hF
 have HAT := Lib.hid hat
 have HBD := Lib.hid hbd
 have HFEW := Lib.hid hfew
 have HROWS := Lib.hid hROWS
 have HENDS := Lib.hid hENDS
 have HC7 := Lib.hid hc7
 have HBT := Lib.hid hbt
 have HE := Lib.hid (And.intro e1 (And.intro e2 e3))
 have HS0 := Lib.hid hs0
 have HRL := Lib.hid hrl
 have HES := Lib.hid hes
 have HESL := Lib.hid hesl
 have HFBL := Lib.hid hfbl
 have HFB0 := Lib.hid hfb0
 have HB0 := Lib.hid hb0
 have hgo : GoC W0 W0 fb (fun _ => False) v ((rs.map (·.1)).take 0) (es.take 0) (((es.take 0).getLast?).getD 8) :=
  ⟨Kp.refl _ _, fun _ h => h.elim, .slice none 0 0, .slice none 0 0, hfb0, Kd.R_nil _ _ _ _ _, Kd.R_nil _ _ _ _ _⟩
 clear hdel hF hat hbd hfew hROWS hENDS hc7 hbt e1 e2 e3 hs0 hrl hes hesl hrs hrows hW0 hb0 hfbl hfb0
 refine range_rel2 rfl (by simp [Fence.wide]) (gf := 107) (lb := #[.pointer (some ⟨w4.heap.size + 1, 0, none⟩), .pointer (some ⟨w4.heap.size + 1 + 1, 0, none⟩)]) rfl trivial (fun args w => Go.Proofs.YtmeocdkiecknkaaW.PrintLast.enters_ Try.func107 (by kernel_rfl) rfl args w)
  rs.length (fun X => ∃ r, X = (W0.alloc (.deferred (some []))).alloc (.loop r))
  (fun i X => ∃ S, GoC W0 X fb S v ((rs.map (·.1)).take i) (es.take i) (((es.take i).getLast?).getD 8) ∧ (0 < i → Tab X S (W0.heap.size + 2) (stF v rows i ([], 0)).1))
  (fun i x X => ∃ (S : Nat → Prop) (r : Rec9) (n : Int) (dv : Value), GoC W0 X fb S v ((rs.map (·.1)).take i) (es.take i) (((es.take i).getLast?).getD 8) ∧ Tab X S (W0.heap.size + 2) (stF v rows (i + 1) ([], 0)).1 ∧ rs[i]? = some (r, n) ∧ Kd.R k109 109 X W0.heap.size (fun k => ¬ S k) dv r.2.2.2.1 ∧ x = #[.agg #[.int .i64 r.1, .string r.2.1, .int .u64 r.2.2.1, dv, .int .u64 r.2.2.2.2.1, .int .u64 r.2.2.2.2.2.1, .string r.2.2.2.2.2.2], .int .i64 n])
  (fun i a1 X => ∃ (S : Nat → Prop) (r : Rec9) (n : Int) (dv : Value) (rb : Nat), GoC W0 X fb (fun k => S k ∨ k = rb) v ((rs.map (·.1)).take i) (es.take i) (((es.take i).getLast?).getD 8) ∧ Tab X S (W0.heap.size + 2) (stF v rows (i + 1) ([], 0)).1 ∧ rs[i]? = some (r, n) ∧ Kd.R k109 109 X W0.heap.size (fun k => ¬ S k) dv r.2.2.2.1 ∧
   X.heap[rb]? = some (.cells #[.int .i64 r.1, .string r.2.1, .int .u64 r.2.2.1, dv, .int .u64 r.2.2.2.2.1, .int .u64 r.2.2.2.2.2.1, .string r.2.2.2.2.2.2] 62 (0, 0)) ∧ W0.heap.size ≤ rb ∧
   a1 = { tmps := #[.slice A l.length c, undef, .pointer (some ⟨b2, 0, none⟩), .int .i64 0, .int .i64 v, .int .i64 0, .pointer (some ⟨fb, 0, none⟩), .slice A7 its.length c7, .pointer (some ⟨w4.heap.size, 0, none⟩), .pointer (some ⟨rb, 0, none⟩), .int .i64 n, .tuple #[.int .i64 v, .int .i64 0], .slice A l.length c, .tuple #[.int .i64 v, .int .i64 0], .int .i64 v, .int .i64 0, .int .i64 0, .bool false, undef, undef, .int .i64 v, .agg #[.int .i64 v, .slice none 0 0, .slice none 0 0, .int .i64 8], .tuple #[.slice A7 its.length c7, .slice A8 its.length c8], .slice A l.length c, .tuple #[.slice A7 its.length c7, .slice A8 its.length c8], .slice A7 its.length c7, .slice A8 its.length c8, .int .i64 v, .slice A7 its.length c7, .func (.func 107) #[] #[.pointer (some ⟨w4.heap.size + 1, 0, none⟩), .pointer (some ⟨w4.heap.size + 1 + 1, 0, none⟩)], .agg #[.int .i64 r.1, .string r.2.1, .int .u64 r.2.2.1, dv, .int .u64 r.2.2.2.2.1, .int .u64 r.2.2.2.2.2.1, .string r.2.2.2.2.2.2], .int .i64 n, undef, undef, undef, undef, undef, undef, undef, undef, undef, undef, undef, undef, undef, undef, undef, undef, undef, undef, undef, undef], defers := [] })
  ?hps (fun r => ⟨r, rfl⟩) ?hJp ?hMp ?assign ?body ?iter ?done
 case hps =>
  rintro i x X ⟨S, r, n, dv, _, _, _, _, rfl⟩
  rfl
 case hJp =>
  rintro i X r o hr ⟨S, h1, h2⟩
  exact ⟨S, h1.putObj o (by omega) hr, fun hi => (h2 hi).putObj o (fun hs => by have := h1.sb _ hs; omega)⟩
 case hMp =>
  rintro i a1 X r o hr ⟨S, r', n, dv, rb, h1, h2, h3, h4, h5, h6, h7⟩
  exact ⟨S, r', n, dv, rb, h1.putObj o (by omega) hr, h2.putObj o (fun hs => by have := h1.sb _ (.inl hs); omega), h3, R_putObj o h4 hr, heap_putObj o h5 hr, h6, h7⟩
 case assign =>
  rintro i x X K hsz hi ⟨S, ⟨k0, x1, x2, ds, x4, x5, x6⟩, n, dv, h1, h2, h3, h4, rfl⟩ hK
  dsimp only at h4 ⊢
  obtain ⟨Ad, cd, rfl⟩ := Kd.R_slice h4
  gi_wp2_with fail
  obtain ⟨X1, hX1⟩ : ∃ X1, X.alloc (.cells #[.int .i64 k0, .string x1, .int .u64 x2, .slice Ad ds.length cd, .int .u64 x4, .int .u64 x5, .string x6] 62) = X1 := ⟨_, rfl⟩
  have hbx : Below X.heap.size X X1 := by rw [← hX1]; exact (Below.refl _ _).alloc (Nat.le_refl _) _
  have hkx : X1.heap[X.heap.size]? = some (.cells #[.int .i64 k0, .string x1, .int .u64 x2, .slice Ad ds.length cd, .int .u64 x4, .int .u64 x5, .string x6] 62 (0, 0)) := by rw [← hX1]; exact heap_new _ _
  rw [hX1]
  exact hK _ _ ⟨S, _, n, _, X.heap.size, (h1.fresh X.heap.size (Nat.le_refl _) (by omega)).below hbx, h2.keep (Kp.of_below hbx (fun _ => False)) (fun _ _ h => h), h3, Kd.R_below h4 hbx, hkx, h1.kp.size, rfl⟩ (hbx.block _ hsz) (hbx.block _ (by omega))
 case body =>
  rintro i a1 X hsz ⟨rl, hrl⟩ hD hi ⟨S, ⟨k0, x1, x2, ds, x4, x5, x6⟩, n, dv, rb, h1, h2, h3, h4, h5, h6, rfl⟩
  dsimp only at h4 h5 ⊢
  obtain ⟨Ad, cd, rfl⟩ := Kd.R_slice h4
  have hne := HAT.out i (by omega)
  have hx := (hne.1 _ h3)
  obtain ⟨m, hm, hm1, hm2, _, _⟩ := getF_next hx.1
  have hnm : n = (m : Int) := by
   have := congrArg Prod.snd hx.2
   dsimp only at this
   rw [this, hm]
  subst hnm
  have hbd := HBD.out i (by omega)
  have hml : m ≤ its.length := by have := HRL.out; omega
  have hm0 : 1 ≤ m := by omega
  obtain ⟨ad8, hA8, hc8⟩ := Kd.at_int (HENDS.out X h1.kp) ((m : Int) - 1) (by omega) (by omega)
  subst hA8
  rw [show ((m : Int) - 1).toNat = m - 1 by omega] at hc8
  obtain ⟨z, hz⟩ : ∃ z, rd (its.map (·.2)) ((m : Int) - 1) = z := ⟨_, rfl⟩
  rw [hz] at hc8
  have hze : es.take (i + 1) = es.take i ++ [z] := by
   have hil : i < es.length := by rw [HESL.out]; exact hi
   rw [List.take_succ_eq_append_getElem hil]
   congr 2
   rw [← hz]
   have hes := HES.out
   have hre : rs[i]'hi = ((k0, x1, x2, ds, x4, x5, x6), (m : Int)) := by
    have := List.getElem?_eq_getElem hi
    rw [h3] at this
    exact (Option.some.inj this).symm
   have e : es[i] = (its.getD (m - 1) (⟨#[]⟩, 0)).2 := by
    have : es[i]? = some (its.getD (m - 1) (⟨#[]⟩, 0)).2 := by
     rw [← hes, List.getElem?_map, h3]
     simp
    rw [List.getElem?_eq_getElem hil] at this
    exact Option.some.inj this
   rw [e]
   have hlt : m - 1 < its.length := by omega
   simp [rd, hlt, show ((m : Int) - 1).toNat = m - 1 by omega]
  have cE := (blk_cell (h1.kp.heap HE.out.1 (by have := HB34.out; have := HS34.out; omega)) 0).trans rfl
  have hw1 : IntKind.i64.wrap ((m : Int) - 1) = (m : Int) - 1 := by rw [IntKind.wrap_i64]; omega
  obtain ⟨vr, ve, hbox, hRr, hRe⟩ := id h1.fl
  have cF := (blk_cell hbox 3).trans rfl
  have fF := blk_frozen hbox 3
  have hgood := h1.setGood HFBL.out z
  have HG1 := Lib.hid hgood
  have HX3 := Lib.hid (And.intro h2 (And.intro h3 (And.intro h4 (And.intro h5 (And.intro hrl hD)))))
  have HZ := Lib.hid hze
  have HFW := Lib.hid (And.intro hm1 (And.intro hm2 hbd))
  clear hne hx hgood h1 h2 h3 h4 h5 hze hz hm hbd hbox hRr hRe hrl hD
  gi_wp2_with fail
  clear cE hw1 cF fF hc8
  obtain ⟨X2, hX2⟩ : ∃ Y, X.setCell ⟨fb, 3, none⟩ (.int .i64 z) = Y := ⟨_, rfl⟩
  rw [hX2] at HG1 ⊢
  obtain ⟨h2, h3, h4, h5, hrl, hD⟩ := HX3.out
  have hfbl := HFBL.out
  have hkX : Kp X X2 (fun k => k = fb) := by rw [← hX2]; exact (Kp.refl X (fun k => k = fb)).setCell (p := ⟨fb, 3, none⟩) (.inl rfl) _
  have hT := h2.keep hkX (fun k hs e => by have := HG1.out.sb k (.inl hs); omega)
  have hD4 := Kd.R_step (Kd.R_bound h4) (fun k hk hlt => hkX.block k hlt (by have := hk.2.1; omega))
  have hb5 := hkX.heap h5 (by omega)
  have hrl2 := hkX.heap hrl (by omega)
  have hD2 := hkX.heap hD (by omega)
  have hsz2 := hkX.size
  have HOB := Lib.hid (And.intro hrl hD)
  clear h2 h4 h5 hrl hD HX3 vr ve
  obtain ⟨vr, ve, hbox, hRr, hRe⟩ := HG1.out.fl
  obtain ⟨rsi, hrsi⟩ : ∃ y, (rs.map (·.1)).take i = y := ⟨_, rfl⟩
  obtain ⟨esi, hesi⟩ : ∃ y, es.take i = y := ⟨_, rfl⟩
  rw [hrsi] at hRr HG1
  rw [hesi] at hRe HG1
  have HZ2 : Hid (es.take (i + 1) = esi ++ [z]) := Lib.hid (hesi ▸ HZ.out)
  have hrsl : rsi.length = i := by rw [← hrsi, List.length_take, List.length_map]; omega
  have hesl : esi.length = i := by rw [← hesi, List.length_take, HESL.out]; omega
  have hi27 : i ≤ 2700 := by have := HFEW.out; have := HRL.out; omega
  have t4 := own_typed_R hRr
  have t10 := own_typed_R hRe
  have hne : ∀ q, vr.ownBlock = some q → ve.ownBlock ≠ some q := by
   intro q h4 h5
   obtain ⟨_, _, C1, e1⟩ := t4 q h4
   obtain ⟨_, _, C2, e2⟩ := t10 q h5
   rw [e1] at e2; cases e2
  obtain ⟨okR, hokR⟩ : ∃ ok : Nat → Prop, ok = fun q => ¬ (S q ∨ q = rb) ∧ some q ≠ ve.ownBlock ∧ q ≠ fb := ⟨_, rfl⟩
  obtain ⟨okE, hokE⟩ : ∃ ok : Nat → Prop, ok = fun q => ¬ (S q ∨ q = rb) ∧ some q ≠ vr.ownBlock ∧ q ≠ fb := ⟨_, rfl⟩
  obtain ⟨okD, hokD⟩ : ∃ ok : Nat → Prop, ok = fun q => ¬ (S q ∨ q = rb) ∧ some q ≠ vr.ownBlock ∧ some q ≠ ve.ownBlock ∧ q ≠ fb := ⟨_, rfl⟩
  have RR : Kd.R kdRec 62 X2 W0.heap.size okR vr rsi := Kd.R_mono (Kd.R_bound (R_not hRr ve.ownBlock (fun q hq => by obtain ⟨_, _, C, hC⟩ := t10 q hq; exact ⟨C, _, hC, E_rec_int⟩))) (fun q hq => by
   rw [hokR]; exact ⟨hq.1.1, hq.1.2, by have := hq.2.1; omega⟩)
  have RE : Kd.R (Kd.int .i64) 3 X2 W0.heap.size okE ve esi := Kd.R_mono (Kd.R_bound (R_not hRe vr.ownBlock (fun q hq => by obtain ⟨_, _, C, hC⟩ := t4 q hq; exact ⟨C, _, hC, E_int_rec⟩))) (fun q hq => by
   rw [hokE]; exact ⟨hq.1.1, hq.1.2, by have := hq.2.1; omega⟩)
  have RD : Kd.R k109 109 X2 W0.heap.size okD (.slice Ad ds.length cd) ds := by
   have a1 := Kd.R_types hD4 hb5 E_dep_rec
   have a2 := R_not a1 vr.ownBlock (fun q hq => by obtain ⟨_, _, C, hC⟩ := t4 q hq; exact ⟨C, _, hC, E_dep_rec⟩)
   have a3 := R_not a2 ve.ownBlock (fun q hq => by obtain ⟨_, _, C, hC⟩ := t10 q hq; exact ⟨C, _, hC, E_dep_int⟩)
   refine Kd.R_mono (Kd.R_bound a3) (fun q hq => ?_)
   rw [hokD]
   exact ⟨fun h => h.elim hq.1.1.1.1.1 hq.1.1.1.2, hq.1.1.2, hq.1.2, by have := hq.2.1; omega⟩
  obtain ⟨row, hrow⟩ : ∃ row, row = rowG vr.ownBlock ve.ownBlock fb := ⟨_, rfl⟩
  have hrbl := blk_lt hb5
  have hrowS : ∀ i k, row i = some k → k < X2.heap.size := by
   rw [hrow]
   exact rowG_lt (fun q hq => (t4 q hq).2.1) (fun q hq => (t10 q hq).2.1) (by omega)
  have hrowR : ∀ i, i ≠ 4 → ∀ q, okR q → some q ≠ row i := by
   intro i hi q hq
   rw [hokR] at hq
   rw [hrow]
   exact rowG_ne i q (.inl hi) (.inr hq.2.1) (.inr hq.2.2)
  have hrowE : ∀ i, i ≠ 10 → ∀ q, okE q → some q ≠ row i := by
   intro i hi q hq
   rw [hokE] at hq
   rw [hrow]
   exact rowG_ne i q (.inr hq.2.1) (.inl hi) (.inr hq.2.2)
  have hrowD : ∀ i, ∀ q, okD q → some q ≠ row i := by
   intro i q hq
   rw [hokD] at hq
   rw [hrow]
   exact rowG_ne i q (.inr hq.2.1) (.inr hq.2.2.1) (.inr hq.2.2.2)
  have hrowF : ∀ i, i ≠ 12 → i ≠ 14 → some fb ≠ row i := by
   intro i h12 h14
   rw [hrow]
   exact rowG_ne i fb (.inr (fun e => by have := (t4 _ e.symm).1; omega)) (.inr (fun e => by have := (t10 _ e.symm).1; omega)) (.inl ⟨h12, h14⟩)
  have hrowB : ∀ i, some rb ≠ row i := by
   intro i
   rw [hrow]
   exact rowG_ne i rb (.inr (fun e => hRr.1 rb e.symm (.inr rfl))) (.inr (fun e => by obtain ⟨_, _, C, hC⟩ := t10 _ e.symm; rw [hb5] at hC; cases hC)) (.inr (by omega))
  have hfreshR : ∀ q, X2.heap.size ≤ q → okR q := by
   intro q hq
   rw [hokR]
   exact ⟨fun h => h.elim (fun h => by have := hT.lt q h; omega) (fun h => by omega), fun e => by have := (t10 q e.symm).2.1; omega, by omega⟩
  have hfreshE : ∀ q, X2.heap.size ≤ q → okE q := by
   intro q hq
   rw [hokE]
   exact ⟨fun h => h.elim (fun h => by have := hT.lt q h; omega) (fun h => by omega), fun e => by have := (t4 q e.symm).2.1; omega, by omega⟩
  have hr4 : row 4 = vr.ownBlock := by rw [hrow]; rfl
  have hr10 : row 10 = ve.ownBlock := by rw [hrow]; rfl
  have hr12 : row 12 = some fb := by rw [hrow]; rfl
  have hr14 : row 14 = some fb := by rw [hrow]; rfl
  have HFIN := Lib.hid (And.intro hT (And.intro hRr (And.intro hRe (And.intro hrl2 hD2))))
  have HRS := Lib.hid (And.intro hrsi (And.intro hesi h3))
  have hfbX : fb ≤ X2.heap.size := by omega
  clear h3 hrsi hesi hT hD4 hkX hrl2 hD2 HZ hX2
  refine region_in (by kernel_rfl) (by kernel_rfl) (by rintro ⟨a, w, h⟩; exact h) ?_
  refine flowK_any kilG (n := 15) (base := fb) (w0 := X2)
   (VG X2.heap.size W0.heap.size fb z vr ve (.slice Ad ds.length cd) (k0, x1, x2, ds, x4, x5, x6) rsi esi okR okE) (FG W0.heap.size fb v z ve (k0, x1, x2, ds, x4, x5, x6) rsi esi okR okE (RestOf row X2)) (GG W0.heap.size fb rb v z vr ve (.slice Ad ds.length cd) (k0, x1, x2, ds, x4, x5, x6) rsi esi okR okE okD (RestOf row X2))
   row rfl (by kernel_rfl) (by kernel_rfl) ?hV ?hF ?hG ⟨rfl, rfl, rfl, Nat.le_refl _, fun _ _ => rfl⟩ ?hG0 (show AllLt 15 _ from ?hs) ?he
  case hV =>
   intro i j hi hj hij hw u Y Y' hB hg h
   have kb : ∀ (b : Nat) (o : Obj), X2.heap.size ≤ b → Y.heap[b]? = some o → Y'.heap[b]? = some o := fun b o h1 h2 => (hg.block b (Array.getElem?_eq_some_iff.1 h2).1 (fun e => by have := hrowS i b e.symm; omega)).trans h2
   unfold VG at h ⊢
   split at h
   ·exact h
   ·exact h
   ·exact h
   ·obtain ⟨b, h1, h2, h3⟩ := h; exact ⟨b, h1, h2, kb b _ h2 h3⟩
   ·exact Kd.R_grown h hg (hrowR i (by omega))
   ·exact h
   ·exact h
   ·exact h
   ·exact h
   ·obtain ⟨b, h1, h2, h3⟩ := h; exact ⟨b, h1, h2, kb b _ h2 h3⟩
   ·exact Kd.R_grown h hg (hrowE i (by omega))
   ·exact h
   ·exact h
   ·trivial
  case hF =>
   intro i j hi hj hij hw hkl Y Y' hB hg h
   unfold FG at h ⊢
   split at h
   ·obtain ⟨vr', h1, h2⟩ := h
    have i4 : i ≠ 4 := (fun e => by rw [e] at hw; exact Bool.noConfusion (hw.symm.trans (c := true) (by kernel_rfl)))
    have i14 : i ≠ 14 := fun e => hkl (by rw [e]; rfl)
    exact ⟨vr', (hg.block _ (Array.getElem?_eq_some_iff.1 h1).1 (hrowF i (by omega) i14)).trans h1, Kd.R_grown h2 hg (hrowR i i4)⟩
   ·exfalso
    have hi14 : i = 0 ∨ i = 1 ∨ i = 2 ∨ i = 3 ∨ i = 4 ∨ i = 5 ∨ i = 6 ∨ i = 7 ∨ i = 8 ∨ i = 9 ∨ i = 10 ∨ i = 11 ∨ i = 12 ∨ i = 13 := by omega
    rcases hi14 with rfl | rfl | rfl | rfl | rfl | rfl | rfl | rfl | rfl | rfl | rfl | rfl | rfl | rfl <;> exact Bool.noConfusion (hw.symm.trans (c := true) (by kernel_rfl))
   ·trivial
  case hG =>
   intro i j hi hj hij hw Y Y' hB hg h
   have kbx : i ≠ 12 → i ≠ 14 → BoxG fb v z vr ve Y → BoxG fb v z vr ve Y' := fun h12 h14 h => (hg.block _ (Array.getElem?_eq_some_iff.1 h).1 (hrowF i h12 h14)).trans h
   unfold GG at h ⊢
   split at h
   ·exact kbx (fun e => by rw [e] at hw; exact Bool.noConfusion (hw.symm.trans (c := true) (by kernel_rfl))) (fun e => by rw [e] at hw; exact Bool.noConfusion (hw.symm.trans (c := true) (by kernel_rfl))) h
   ·exact kbx (fun e => by rw [e] at hw; exact Bool.noConfusion (hw.symm.trans (c := true) (by kernel_rfl))) (fun e => by rw [e] at hw; exact Bool.noConfusion (hw.symm.trans (c := true) (by kernel_rfl))) h
   ·exact kbx (fun e => by rw [e] at hw; exact Bool.noConfusion (hw.symm.trans (c := true) (by kernel_rfl))) (fun e => by rw [e] at hw; exact Bool.noConfusion (hw.symm.trans (c := true) (by kernel_rfl))) h
   ·exact kbx (by omega) (fun e => by rw [e] at hw; exact Bool.noConfusion (hw.symm.trans (c := true) (by kernel_rfl))) h
   ·exact (hg.block _ (Array.getElem?_eq_some_iff.1 h).1 (hrowB i)).trans h
   ·exact ⟨Kd.R_grown h.1 hg (hrowR i (by omega)), Kd.R_grown h.2 hg (hrowD i)⟩
   ·exact Kd.R_grown h hg (hrowE i (by omega))
   ·exact RestOf.step h hB.size hg
   ·trivial
  case hG0 =>
   intro i hi
   unfold GG
   split
   ·exact hbox
   ·exact hbox
   ·exact hbox
   ·exact hbox
   ·exact hb5
   ·exact ⟨Kd.R_drew RR, Kd.R_drew RD⟩
   ·exact Kd.R_drew RE
   ·exact fun q _ _ => rfl
   ·trivial
  case hs =>
   refine allLt_succ (allLt_succ (allLt_succ (allLt_succ (allLt_succ (allLt_succ (allLt_succ (allLt_succ (allLt_succ (allLt_succ (allLt_succ (allLt_succ (allLt_succ (allLt_succ (allLt_succ (allLt_zero _) ?s0) ?s1) ?s2) ?s3) ?s4) ?s5) ?s6) ?s7) ?s8) ?s9) ?s10) ?s11) ?s12) ?s13) ?s14
   case s0 =>
    refine StepFlowK.run (o := ?o0) ?ho0 ?hg0 ?h0
    case ho0 => rfl
    case hg0 => rfl
    case h0 =>
     intro a Y hS2 hB hd hG
     have e6 : a.tmps[6]? = some (.pointer (some ⟨fb, 0, none⟩)) := hS2.get rfl rfl
     exact wpF (c := .pointer (some ⟨fb, 1, none⟩)) (W' := Y) (by go_simp) rfl trivial (World.grownBy.refl _ _) hB
   case s1 =>
    refine StepFlowK.run (o := ?o1) ?ho1 ?hg1 ?h1
    case ho1 => rfl
    case hg1 => rfl
    case h1 =>
     intro a Y hS2 hB hd hG
     obtain ⟨u, e38, hu⟩ := (hd 0 (by kernel_rfl)).1.get rfl rfl
     obtain rfl : u = .pointer (some ⟨fb, 1, none⟩) := hu
     have hG' : Y.heap[fb]? = some (.cells #[.int .i64 v, vr, ve, .int .i64 z] 90 (0, 0)) := hG
     have hcell : Y.cell? ⟨fb, 1, none⟩ = some (vr) := (blk_cell hG' 1).trans rfl
     exact wpF (c := vr) (W' := Y) (by go_simp) rfl trivial (World.grownBy.refl _ _) hB
   case s2 =>
    refine StepFlowK.run (o := ?o2) ?ho2 ?hg2 ?h2
    case ho2 => rfl
    case hg2 => rfl
    case h2 =>
     intro a Y hS2 hB hd hG
     have e9 : a.tmps[9]? = some (.pointer (some ⟨rb, 0, none⟩)) := hS2.get rfl rfl
     have hG' : Y.heap[rb]? = some (.cells #[.int .i64 k0, .string x1, .int .u64 x2, .slice Ad ds.length cd, .int .u64 x4, .int .u64 x5, .string x6] 62 (0, 0)) := hG
     have q0 := (blk_cell hG' 0).trans rfl
     have q1 := (blk_cell hG' 1).trans rfl
     have q2 := (blk_cell hG' 2).trans rfl
     have q3 := (blk_cell hG' 3).trans rfl
     have q4 := (blk_cell hG' 4).trans rfl
     have q5 := (blk_cell hG' 5).trans rfl
     have q6 := (blk_cell hG' 6).trans rfl
     exact wpF (c := .agg #[.int .i64 k0, .string x1, .int .u64 x2, .slice Ad ds.length cd, .int .u64 x4, .int .u64 x5, .string x6]) (W' := Y) (by go_simp) rfl trivial (World.grownBy.refl _ _) hB
   case s3 =>
    refine StepFlowK.run (o := ?o3) ?ho3 ?hg3 ?h3
    case ho3 => rfl
    case hg3 => rfl
    case h3 =>
     intro a Y hS2 hB hd hG
     obtain ⟨u, e40, hu⟩ := (hd 2 (by kernel_rfl)).1.get rfl rfl
     obtain rfl : u = .agg #[.int .i64 k0, .string x1, .int .u64 x2, .slice Ad ds.length cd, .int .u64 x4, .int .u64 x5, .string x6] := hu
     exact wpF (c := .slice (some ⟨Y.heap.size, 0, none⟩) 1 1) (W' := Y.alloc (.cells #[.int .i64 k0, .string x1, .int .u64 x2, .slice Ad ds.length cd, .int .u64 x4, .int .u64 x5, .string x6] 62)) (by go_simp) ⟨_, rfl, hB.size, blk_new _ _⟩ trivial (World.grownBy_alloc _ _ _) (hB.alloc (by have := hB.size; omega) _)
   case s4 =>
    refine StepFlowK.run (o := ?o4) ?ho4 ?hg4 ?h4
    case ho4 => rfl
    case hg4 => rfl
    case h4 =>
     intro a Y hS2 hB hd hG
     obtain ⟨u, e39, hu⟩ := (hd 1 (by kernel_rfl)).1.get rfl rfl
     obtain rfl : u = vr := hu
     obtain ⟨u2, e41, b, hu2, hb2, hb3⟩ := (hd 3 (by kernel_rfl)).1.get rfl rfl
     subst hu2
     exact wpF_append (ops := #[]) kdRec W0.heap.size (.tmp 39) (.tmp 41) 84 62 (.agg #[.int .i64 0, .string ⟨#[]⟩, .int .u64 0, .slice none 0 0, .int .u64 0, .int .u64 0, .string ⟨#[]⟩]) 88 rfl Try.underlying84 info_rec9 rfl (by decide) (by decide) u rsi (k0, x1, x2, ds, x4, x5, x6) (cells9v (k0, x1, x2, ds, x4, x5, x6) (.slice Ad ds.length cd)) b (0, 0) okR okD (by simp [Act.eval, e39]) (by simp [Act.eval, e41]) hb3 (kdRec_M _ hG.2)
      (fun q hq => by rw [hokD] at hq; rw [hokR]; exact ⟨⟨hq.1, hq.2.2.1, hq.2.2.2⟩, hq.2.1⟩) (fun q hq => by have := hB.size; exact hfreshR q (by omega)) hG.1 (by have := hB.size; omega) (by omega) hB (by omega) hr4 (fun v1 w1 g1 g2 => ⟨g1, trivial⟩)
   case s5 =>
    refine StepFlowK.run (o := ?o5) ?ho5 ?hg5 ?h5
    case ho5 => rfl
    case hg5 => rfl
    case h5 =>
     intro a Y hS2 hB hd hG
     have e6 : a.tmps[6]? = some (.pointer (some ⟨fb, 0, none⟩)) := hS2.get rfl rfl
     exact wpF (c := .pointer (some ⟨fb, 2, none⟩)) (W' := Y) (by go_simp) rfl trivial (World.grownBy.refl _ _) hB
   case s6 =>
    refine StepFlowK.run (o := ?o6) ?ho6 ?hg6 ?h6
    case ho6 => rfl
    case hg6 => rfl
    case h6 =>
     intro a Y hS2 hB hd hG
     obtain ⟨u, e43, hu⟩ := (hd 5 (by kernel_rfl)).1.get rfl rfl
     obtain rfl : u = .pointer (some ⟨fb, 2, none⟩) := hu
     have hG' : Y.heap[fb]? = some (.cells #[.int .i64 v, vr, ve, .int .i64 z] 90 (0, 0)) := hG
     have hcell : Y.cell? ⟨fb, 2, none⟩ = some (ve) := (blk_cell hG' 2).trans rfl
     exact wpF (c := ve) (W' := Y) (by go_simp) rfl trivial (World.grownBy.refl _ _) hB
   case s7 =>
    refine StepFlowK.run (o := ?o7) ?ho7 ?hg7 ?h7
    case ho7 => rfl
    case hg7 => rfl
    case h7 =>
     intro a Y hS2 hB hd hG
     have e6 : a.tmps[6]? = some (.pointer (some ⟨fb, 0, none⟩)) := hS2.get rfl rfl
     exact wpF (c := .pointer (some ⟨fb, 3, none⟩)) (W' := Y) (by go_simp) rfl trivial (World.grownBy.refl _ _) hB
   case s8 =>
    refine StepFlowK.run (o := ?o8) ?ho8 ?hg8 ?h8
    case ho8 => rfl
    case hg8 => rfl
    case h8 =>
     intro a Y hS2 hB hd hG
     obtain ⟨u, e45, hu⟩ := (hd 7 (by kernel_rfl)).1.get rfl rfl
     obtain rfl : u = .pointer (some ⟨fb, 3, none⟩) := hu
     have hG' : Y.heap[fb]? = some (.cells #[.int .i64 v, vr, ve, .int .i64 z] 90 (0, 0)) := hG
     have hcell : Y.cell? ⟨fb, 3, none⟩ = some (.int .i64 z) := (blk_cell hG' 3).trans rfl
     exact wpF (c := .int .i64 z) (W' := Y) (by go_simp) rfl trivial (World.grownBy.refl _ _) hB
   case s9 =>
    refine StepFlowK.run (o := ?o9) ?ho9 ?hg9 ?h9
    case ho9 => rfl
    case hg9 => rfl
    case h9 =>
     intro a Y hS2 hB hd hG
     obtain ⟨u, e46, hu⟩ := (hd 8 (by kernel_rfl)).1.get rfl rfl
     obtain rfl : u = .int .i64 z := hu
     exact wpF (c := .slice (some ⟨Y.heap.size, 0, none⟩) 1 1) (W' := Y.alloc (.cells #[.int .i64 z] 3)) (by go_simp) ⟨_, rfl, hB.size, blk_new _ _⟩ trivial (World.grownBy_alloc _ _ _) (hB.alloc (by have := hB.size; omega) _)
   case s10 =>
    refine StepFlowK.run (o := ?o10) ?ho10 ?hg10 ?h10
    case ho10 => rfl
    case hg10 => rfl
    case h10 =>
     intro a Y hS2 hB hd hG
     obtain ⟨u, e44, hu⟩ := (hd 6 (by kernel_rfl)).1.get rfl rfl
     obtain rfl : u = ve := hu
     obtain ⟨u2, e47, b, hu2, hb2, hb3⟩ := (hd 9 (by kernel_rfl)).1.get rfl rfl
     subst hu2
     exact wpF_append (ops := #[]) (Kd.int .i64) W0.heap.size (.tmp 44) (.tmp 47) 42 3 (.int .i64 0) 8 rfl Try.underlying42 info_i64 rfl (by decide) (by decide) u esi z [.int .i64 z] b (0, 0) okE (fun _ => False) (by simp [Act.eval, e44]) (by simp [Act.eval, e47]) hb3 rfl (fun _ h => h.elim)
      (fun q hq => by have := hB.size; exact hfreshE q (by omega)) hG (by have := hB.size; omega) (by omega) hB (by omega) hr10 (fun v1 w1 g1 g2 => ⟨g1, trivial⟩)
   case s11 =>
    refine StepFlowK.run (o := ?o11) ?ho11 ?hg11 ?h11
    case ho11 => rfl
    case hg11 => rfl
    case h11 =>
     intro a Y hS2 hB hd hG
     have e6 : a.tmps[6]? = some (.pointer (some ⟨fb, 0, none⟩)) := hS2.get rfl rfl
     exact wpF (c := .pointer (some ⟨fb, 1, none⟩)) (W' := Y) (by go_simp) rfl trivial (World.grownBy.refl _ _) hB
   case s12 =>
    refine StepFlowK.run (o := ?o12) ?ho12 ?hg12 ?h12
    case ho12 => rfl
    case hg12 => rfl
    case h12 =>
     intro a Y hS2 hB hd hG
     obtain ⟨u, e42, hu⟩ := (hd 4 (by kernel_rfl)).1.get rfl rfl
     obtain ⟨u2, e49, hu2⟩ := (hd 11 (by kernel_rfl)).1.get rfl rfl
     obtain rfl : u2 = .pointer (some ⟨fb, 1, none⟩) := hu2
     have hG' : Y.heap[fb]? = some (.cells #[.int .i64 v, vr, ve, .int .i64 z] 90 (0, 0)) := hG
     have hcell : Y.cell? ⟨fb, 1, none⟩ = some vr := (blk_cell hG' 1).trans rfl
     have hfz := blk_frozen hG' 1
     have hu' : Kd.R kdRec 62 Y W0.heap.size okR u (rsi ++ [(k0, x1, x2, ds, x4, x5, x6)]) := hu
     obtain ⟨Au, cu, rfl⟩ := Kd.R_slice hu'
     refine wpF_skip (W' := Y.setCell ⟨fb, 1, none⟩ _) (by go_simp) rfl ⟨_, blk_put (cs' := #[.int .i64 v, _, ve, .int .i64 z]) hG' 1 _ rfl, Kd.R_far hu' (fun q hq => by rw [hokR] at hq; exact hq.2.2) _⟩ (hr12 ▸ grownBy_cell Y fb 1 _) (hB.setCell (Nat.le_refl _) _)
   case s13 =>
    refine StepFlowK.run (o := ?o13) ?ho13 ?hg13 ?h13
    case ho13 => rfl
    case hg13 => rfl
    case h13 =>
     intro a Y hS2 hB hd hG
     have e6 : a.tmps[6]? = some (.pointer (some ⟨fb, 0, none⟩)) := hS2.get rfl rfl
     exact wpF (c := .pointer (some ⟨fb, 2, none⟩)) (W' := Y) (by go_simp) rfl trivial (World.grownBy.refl _ _) hB
   case s14 =>
    refine StepFlowK.run (o := ?o14) ?ho14 ?hg14 ?h14
    case ho14 => rfl
    case hg14 => rfl
    case h14 =>
     intro a Y hS2 hB hd hG
     obtain ⟨u, e48, hu⟩ := (hd 10 (by kernel_rfl)).1.get rfl rfl
     obtain ⟨u2, e50, hu2⟩ := (hd 13 (by kernel_rfl)).1.get rfl rfl
     obtain rfl : u2 = .pointer (some ⟨fb, 2, none⟩) := hu2
     obtain ⟨vr2, hbx2, hR2⟩ := (hd 12 (by kernel_rfl)).2 (.inl rfl)
     have hcell : Y.cell? ⟨fb, 2, none⟩ = some ve := (blk_cell hbx2 2).trans rfl
     have hfz := blk_frozen hbx2 2
     have hu' : Kd.R (Kd.int .i64) 3 Y W0.heap.size okE u (esi ++ [z]) := hu
     obtain ⟨Au, cu, rfl⟩ := Kd.R_slice hu'
     have hRest : RestOf row X2 Y := hG
     have hg14 := fun u => (hr14 ▸ grownBy_cell Y fb 2 u : Y.grownBy (Y.setCell ⟨fb, 2, none⟩ u) (row 14))
     refine wpF_skip (W' := Y.setCell ⟨fb, 2, none⟩ _) (by go_simp) rfl ⟨⟨vr2, _, blk_put (cs' := #[.int .i64 v, vr2, _, .int .i64 z]) hbx2 2 _ rfl, Kd.R_far hR2 (fun q hq => by rw [hokR] at hq; exact hq.2.2) _, Kd.R_far hu' (fun q hq => by rw [hokE] at hq; exact hq.2.2) _⟩, hRest.step hB.size (hg14 _)⟩ (hg14 _) (hB.setCell (Nat.le_refl _) _)
  case he =>
   intro a1 Y hS1 hB1 hh
   obtain ⟨⟨vr', ve', hbx, hR', hE'⟩, hrest⟩ := (hh 14 (by omega)).2 (by show 15 ≤ kilG 14; decide)
   obtain ⟨hT, hRr, hRe, hrl2, hD2⟩ := HFIN.out
   have hR2 : Kd.R kdRec 62 Y W0.heap.size (fun k => ¬ (S k ∨ k = rb)) vr' (rsi ++ [(k0, x1, x2, ds, x4, x5, x6)]) := Kd.R_mono hR' (fun q hq => by rw [hokR] at hq; exact hq.1)
   have hE2 : Kd.R (Kd.int .i64) 3 Y W0.heap.size (fun k => ¬ (S k ∨ k = rb)) ve' (esi ++ [z]) := Kd.R_mono hE' (fun q hq => by rw [hokE] at hq; exact hq.1)
   obtain ⟨hgo, hT3, hobj⟩ := GoC.region (fun k h => .inl h) HG1.out hfbl hT hRr hRe hB1 (hrow ▸ hrest) hbx hR2 hE2
   obtain ⟨hrsi, hesi, h3⟩ := HRS.out
   have hrn : (rs.map (·.1)).take (i + 1) = rsi ++ [(k0, x1, x2, ds, x4, x5, x6)] := by
    have hil : i < (rs.map (·.1)).length := by rw [List.length_map]; exact hi
    rw [List.take_succ_eq_append_getElem hil, hrsi]
    congr 2
    have : (rs.map (·.1))[i]? = some (k0, x1, x2, ds, x4, x5, x6) := by rw [List.getElem?_map, h3]; rfl
    rw [List.getElem?_eq_getElem hil] at this
    exact Option.some.inj this
   refine ⟨⟨S, ?_, fun _ => hT3⟩, ?_, ?_⟩
   ·rw [hrn, HZ2.out]
    rw [show (esi ++ [z]).getLast?.getD 8 = z by simp]
    exact hgo.less (fun k h => .inl h)
   ·exact (hobj _ _ hrl2 (fun _ _ _ h => by cases h)).trans HOB.out.1.symm
   ·exact (hobj _ _ hD2 (fun _ _ _ h => by cases h)).trans HOB.out.2.symm
 case iter =>
  rintro r W ⟨r0, hW⟩ hrdy hround
  have hbW : Below W0.heap.size W0 W := by rw [hW]; exact ((Below.refl _ _).alloc (Nat.le_refl _) _).alloc (by rw [heap_size_alloc]; omega) _
  have hsW : W.heap.size = W0.heap.size + 2 := by rw [hW, heap_size_alloc, heap_size_alloc]
  have HBW := Lib.hid hbW
  have HSW := Lib.hid hsW
  have HRDY := Lib.hid hrdy
  have HR := Lib.hid hround
  clear hround hrdy hW hbW hsW
  refine callsIn_of_wp Try.func107 rfl trivial ?_
  simp only [Try.ntmps107, List.size_toArray, List.length_cons, List.length_nil, Nat.reduceAdd, Nat.reduceSub, Array.replicate_succ, Array.replicate_zero, List.push_toArray, List.append_toArray, List.nil_append, List.cons_append]
  gi_wp2_with fail
  refine ⟨trivial, ?_⟩
  refine (callsIn_wide.2 (new_any none 0 [] W (Kd.C_nil _ _) (Nat.le_refl _) (by simp) (by simp))).mono ?_
  rintro e w5 ⟨rfl, S, hT, hS, hB⟩
  rw [HSW.out] at hT hS ⊢
  have hbs : Below W0.heap.size W0 w5 := HBW.out.trans (hB.mono HBW.out.size)
  have HG0 : Hid (GoC W0 w5 fb S v ((rs.map (·.1)).take 0) (es.take 0) (((es.take 0).getLast?).getD 8)) := Lib.hid ⟨Kp.of_below hbs _, hS, .slice none 0 0, .slice none 0 0, blk_below HFB0.out hbs, Kd.R_nil _ _ _ _ _, Kd.R_nil _ _ _ _ _⟩
  have HT0 : Hid (Tab w5 S (W0.heap.size + 2) (stF v rows 0 ([], 0)).1) := Lib.hid hT
  have HRD0 : Hid (Ready (W0.heap.size + 1) W0.heap.size r w5) := Lib.hid ⟨blk_below HRDY.out.1 (HSW.out ▸ hB), blk_below HRDY.out.2 (HSW.out ▸ hB)⟩
  clear hT hS hB hbs
  gi_wp2_with fail
  gi_loopw [5] (fun u5 wr => ∃ (i : Nat) (S : Nat → Prop), i ≤ rs.length ∧ u5 = .int .i64 (stF v rows i ([], 0)).2 ∧ Hid (GoC W0 wr fb S v ((rs.map (·.1)).take i) (es.take i) (((es.take i).getLast?).getD 8)) ∧ Hid (Tab wr S (W0.heap.size + 2) (stF v rows i ([], 0)).1) ∧ Hid (Ready (W0.heap.size + 1) W0.heap.size r wr)) (fun u _ => ((rows.length : Int) + 1 - intOf u).toNat)
  case atStart => exact ⟨0, S, by omega, rfl, HG0, HT0, HRD0⟩
  case round =>
   clear HG0 HT0 HRD0
   obtain ⟨i, S, hi, rfl, HGO, HT, HRD⟩ := hrel
   have hst := stF_succ v rows i ([], 0)
   have hati := HAT.out i hi
   have hbd := HBD.out i hi
   obtain ⟨Ti, hTi⟩ : ∃ T, (stF v rows i ([], 0)).1 = T := ⟨_, rfl⟩
   obtain ⟨ai, hai⟩ : ∃ a, (stF v rows i ([], 0)).2 = a := ⟨_, rfl⟩
   rw [hTi, hai] at hst hati hbd
   rw [hTi] at HT
   have HTI := Lib.hid hTi
   rw [hai]
   have hfb2 : fb < w4.heap.size := by omega
   have cV := (blk_cell (HGO.out.kp.heap HE.out.2.1 (by omega)) 0).trans rfl
   have cP := (blk_cell (HGO.out.kp.heap HE.out.2.2 (by omega)) 0).trans rfl
   have hwl : W0.heap.size + 2 ≤ wr.heap.size := by have := (Array.getElem?_eq_some_iff.1 HRD.out.1).1; omega
   have hfw := HFEW.out
   have hrl := HRL.out
   have hSG := sget_any HT.out v A7 c7 rows ai (fun W' hk => HROWS.out W' (HGO.out.kp.trans hk (fun k hk => .inr (by have := HGO.out.sb k hk; omega)))) HC7.out HBT.out (by simp only [List.length_nil] at hbd; omega) (by omega)
   have hnx := fun (h : (getF v Ti rows ai).2.2.2 = 0) => getF_next h
   have hsame := fun (h : (getF v Ti rows ai).2.2.2 ≠ 0) => getF_same h
   generalize getF v Ti rows ai = F at hst hati hSG hnx hsame
   obtain ⟨⟨k0, x1, x2, ds, x4, x5, x6⟩, nx, T', er⟩ := F
   dsimp only at hst hati hSG hnx hsame
   rw [hrl] at hSG
   have HSG := Lib.hid hSG
   clear hSG hTi hai
   have cV' : wr.cell? ⟨w4.heap.size + 1, 0, none⟩ = some (.int .i64 v) := cV
   have cP' : wr.cell? ⟨w4.heap.size + 1 + 1, 0, none⟩ = some (.slice A7 its.length c7) := cP
   clear cV cP
   by_cases he : er = 0
   ·subst he
    obtain ⟨y, hy⟩ : ∃ y, rs[i]? = some y := by
     cases h : rs[i]? with
     | none => exact absurd rfl (hati.2 h)
     | some y => exact ⟨y, rfl⟩
    have hye := (hati.1 y hy).2
    subst hye
    have hlt : i < rs.length := (List.getElem?_eq_some_iff.1 hy).1
    obtain ⟨m, hm, hm1, hm2, _, _⟩ := hnx rfl
    subst hm
    have HY := Lib.hid (And.intro hy (And.intro hlt (And.intro hst (And.intro hm1 hm2))))
    clear hati hnx hst hy hm1 hm2 hbd hsame
    gi_wp2_with fail
    refine ⟨trivial, ?_⟩
    refine (callsIn_wide.2 HSG.out).mono ?_
    rintro e w6 ⟨dv, S', rfl, hT6, hs6, hk6, hR6⟩
    dsimp only at hT6 hR6 ⊢
    obtain ⟨A5, c5, rfl⟩ := Kd.R_slice hR6
    have hG6 := HGO.out.wrote HFBL.out hs6 hk6 hwl
    have hrd6 : Ready (W0.heap.size + 1) W0.heap.size r w6 := ⟨hk6.heap HRD.out.1 (fun h => by have := HGO.out.sb _ h; omega), hk6.heap HRD.out.2 (fun h => by have := HGO.out.sb _ h; omega)⟩
    have hba : Below w6.heap.size w6 (w6.alloc (.cells #[.int .i64 k0, .string x1, .int .u64 x2, .slice A5 ds.length c5, .int .u64 x4, .int .u64 x5, .string x6] 62)) := (Below.refl _ _).alloc (Nat.le_refl _) _
    have hrn := HR.out i #[.agg #[.int .i64 k0, .string x1, .int .u64 x2, .slice A5 ds.length c5, .int .u64 x4, .int .u64 x5, .string x6], .int .i64 (m : Int)] (w6.alloc (.cells #[.int .i64 k0, .string x1, .int .u64 x2, .slice A5 ds.length c5, .int .u64 x4, .int .u64 x5, .string x6] 62)) HY.out.2.1
     ⟨S', (k0, x1, x2, ds, x4, x5, x6), (m : Int), .slice A5 ds.length c5, hG6.below hba, (by rw [HY.out.2.2.1]; exact hT6.keep (Kp.of_below hba (fun _ => False)) (fun _ _ h => h)), HY.out.1, Kd.R_lower (Kd.R_below hR6 hba) (by omega), rfl⟩ ⟨blk_below hrd6.1 hba, blk_below hrd6.2 hba⟩
    obtain ⟨fn', tm, as', bd, hyy, hRn⟩ := hrn
    have HRN := Lib.hid hRn
    clear hT6 hs6 hk6 hR6 hG6 hrd6 hba hRn HSG HRD HGO HT
    gi_wp2
    refine HRN.out.mono ?_
    rintro e W' ⟨rfl, ⟨S2, hG2, hT2⟩, hrd2⟩
    have HG2 := Lib.hid hG2
    have HT2 := Lib.hid (hT2 (by omega))
    have HRD2 := Lib.hid hrd2
    clear hG2 hT2 hrd2 hyy cV' cP'
    gi_wp2
    go_roundw
    case rel => exact ⟨i + 1, S2, HY.out.2.1, by rw [HY.out.2.2.1], HG2, HT2, HRD2⟩
    case measure =>
     have := HY.out.2.2.2
     simp [intOf]
     omega
   ·have hiN : i = rs.length := by
     rcases Nat.lt_or_ge i rs.length with h | h
     ·exact absurd (hati.1 _ (List.getElem?_eq_getElem h)).1 he
     ·omega
    have hne : (er != 0) = true := by simpa using he
    have hT' := hsame he
    subst hT'
    clear hati hnx hst hbd hsame
    gi_wp2_with fail
    refine ⟨trivial, ?_⟩
    refine (callsIn_wide.2 HSG.out).mono ?_
    rintro e w6 ⟨dv, S', rfl, hT6, hs6, hk6, hR6⟩
    dsimp only at hT6 hR6 ⊢
    obtain ⟨A5, c5, rfl⟩ := Kd.R_slice hR6
    have hG6 := HGO.out.wrote HFBL.out hs6 hk6 hwl
    have hrd6 : Ready (W0.heap.size + 1) W0.heap.size r w6 := ⟨hk6.heap HRD.out.1 (fun h => by have := HGO.out.sb _ h; omega), hk6.heap HRD.out.2 (fun h => by have := HGO.out.sb _ h; omega)⟩
    have hba : Below w6.heap.size w6 (w6.alloc (.cells #[.int .i64 k0, .string x1, .int .u64 x2, .slice A5 ds.length c5, .int .u64 x4, .int .u64 x5, .string x6] 62)) := (Below.refl _ _).alloc (Nat.le_refl _) _
    have HJ : Hid (GoC W0 (w6.alloc (.cells #[.int .i64 k0, .string x1, .int .u64 x2, .slice A5 ds.length c5, .int .u64 x4, .int .u64 x5, .string x6] 62)) fb S' v ((rs.map (·.1)).take rs.length) (es.take rs.length) (((es.take rs.length).getLast?).getD 8) ∧ Tab (w6.alloc (.cells #[.int .i64 k0, .string x1, .int .u64 x2, .slice A5 ds.length c5, .int .u64 x4, .int .u64 x5, .string x6] 62)) S' (W0.heap.size + 2) (stF v rows rs.length ([], 0)).1 ∧ Ready (W0.heap.size + 1) W0.heap.size r (w6.alloc (.cells #[.int .i64 k0, .string x1, .int .u64 x2, .slice A5 ds.length c5, .int .u64 x4, .int .u64 x5, .string x6] 62))) := Lib.hid (by
     rw [← hiN]
     exact ⟨hG6.below hba, (by rw [HTI.out]; exact hT6.keep (Kp.of_below hba (fun _ => False)) (fun _ _ h => h)), blk_below hrd6.1 hba, blk_below hrd6.2 hba⟩)
    clear hT6 hs6 hk6 hR6 hG6 hrd6 hba HSG HRD HGO HT cV' cP'
    gi_wp2
    refine ⟨fun _ h => (by cases h), ?_⟩
    gi_wp2
    (try simp only [Exit.inBlock, Exit.then])
    refine bodyPost_ret (results_none rfl _ _ _) rfl ?_
    exact ⟨⟨_, rfl⟩, ⟨S', HJ.out.1, fun _ => HJ.out.2.1⟩, HJ.out.2.2⟩
 case done =>
  rintro X ⟨S, hgo, _⟩ hD2
  rw [List.take_of_length_le (show (rs.map (·.1)).length ≤ rs.length by simp), List.take_of_length_le (show es.length ≤ rs.length by rw [HESL.out]; exact Nat.le_refl _)] at hgo
  have hF := HF.out
  generalize (rs.map fun x => x.1) = recs at hF hgo
  have HF2 := Lib.hid hF
  obtain ⟨gd, hgd⟩ : ∃ g, es.getLast?.getD 8 = g := ⟨_, rfl⟩
  rw [hgd] at HF2 hgo
  clear hF hgd
  obtain ⟨vr, ve, hbox, hRr, hRe⟩ := id hgo.fl
  obtain ⟨Ar, cr, rfl⟩ := Kd.R_slice hRr
  obtain ⟨Ae, ce, rfl⟩ := Kd.R_slice hRe
  have hb24 := hgo.kp.heap (blk_below HK24.out HB0.out) (by have := HFB.out; omega)
  have p0 := (blk_cell hbox 0).trans rfl
  have o0 := (blk_cell hb24 0).trans rfl
  have of0 := blk_frozen hb24 0
  have p1 := (blk_cell hbox 1).trans rfl
  have o1 := (blk_cell hb24 1).trans rfl
  have of1 := blk_frozen hb24 1
  have p2 := (blk_cell hbox 2).trans rfl
  have o2 := (blk_cell hb24 2).trans rfl
  have of2 := blk_frozen hb24 2
  have p3 := (blk_cell hbox 3).trans rfl
  have o3 := (blk_cell hb24 3).trans rfl
  have of3 := blk_frozen hb24 3
  have HGO := Lib.hid hgo
  have HBX := Lib.hid (And.intro hb24 (And.intro hRr (And.intro hRe hD2)))
  have HU := Lib.hid Try.underlying90
  clear hgo hbox hRr hRe hb24 hD2
  gi_wp2
  obtain ⟨X5, hX5⟩ : ∃ Y, (((X.setCell ⟨b2, 0, none⟩ (.int .i64 v)).setCell ⟨b2, 1, none⟩ (.slice Ar recs.length cr)).setCell ⟨b2, 2, none⟩ (.slice Ae es.length ce)).setCell ⟨b2, 3, none⟩ (.int .i64 gd) = Y := ⟨_, rfl⟩
  rw [hX5]
  have hb25 : b2 < W0.heap.size := by have := HFB.out; have := HFBL.out; omega
  have hk5 : Kp X X5 (fun k => k = b2) := by
   rw [← hX5]
   exact ((((Kp.refl X (fun k => k = b2)).setCell (p := ⟨b2, 0, none⟩) (.inl rfl) _).setCell (p := ⟨b2, 1, none⟩) (.inl rfl) _).setCell (p := ⟨b2, 2, none⟩) (.inl rfl) _).setCell (p := ⟨b2, 3, none⟩) (.inl rfl) _
  have hbx5 : X5.heap[b2]? = some (.cells #[.int .i64 v, .slice Ar recs.length cr, .slice Ae es.length ce, .int .i64 gd] 90 (0, 0)) := by
   rw [← hX5]
   have q0 := blk_put (cs' := #[.int .i64 v, .slice none 0 0, .slice none 0 0, .int .i64 0]) HBX.out.1 0 (.int .i64 v) rfl
   have q1 := blk_put (cs' := #[.int .i64 v, .slice Ar recs.length cr, .slice none 0 0, .int .i64 0]) q0 1 (.slice Ar recs.length cr) rfl
   have q2 := blk_put (cs' := #[.int .i64 v, .slice Ar recs.length cr, .slice Ae es.length ce, .int .i64 0]) q1 2 (.slice Ae es.length ce) rfl
   exact blk_put (cs' := #[.int .i64 v, .slice Ar recs.length cr, .slice Ae es.length ce, .int .i64 gd]) q2 3 (.int .i64 gd) rfl
  have hD5 := hk5.heap HBX.out.2.2.2 (by omega)
  have hR5 := Kd.R_step (Kd.R_bound HBX.out.2.1) (fun k hk hlt => hk5.block k hlt (by have := hk.2.1; omega))
  have hE5 := Kd.R_step (Kd.R_bound HBX.out.2.2.1) (fun k hk hlt => hk5.block k hlt (by have := hk.2.1; omega))
  have hKW : Kp w4 X5 (fun k => k = fb ∨ k = b2) := ((Kp.of_below HB0.out (fun k => k = fb ∨ k = b2)).trans HGO.out.kp (fun k h => .inl (.inl h))).trans hk5 (fun k h => .inl (.inr h))
  have hBW : Below w.heap.size w X5 := HB4.out.trans (hKW.to_below' (by have := HB4.out.size; exact this) (fun k hk => by have := HB2.out; have := HFB.out; omega))
  refine ⟨by simp, .inl ⟨_, _, rfl, run_takeDeferred hD5, ?_⟩⟩
  refine ⟨_, results_ct rfl _ _ b2 90 #[_, _, _, _] (0, 0) _ rfl ((World.putObj_heap_other (by omega)).trans hbx5) HU.out rfl (by kernel_rfl), ?_⟩
  rw [HITS.out]
  unfold CGetPost
  rw [HF2.out]
  have hw4 := HB4.out.size
  have hw0 := HS0.out
  exact ⟨_, _, rfl, Kd.R_mono (Kd.R_lower (R_putDef _ hR5 hD5) (by omega)) (fun _ _ => trivial), Kd.R_mono (Kd.R_lower (R_putDef _ hE5 hD5) (by omega)) (fun _ _ => trivial), below_putObj _ hBW (by omega)⟩
set_option maxRecDepth 100000 in
set_option maxHeartbeats 1000000 in
theorem cget_bad (A : Option Addr) (c : Nat) (l : List Int) (w : World) (hC : Kd.C (Kd.int .u8) w A l.length l) (hc : l.length ≤ c) (hb : ∀ x ∈ l, 0 ≤ x ∧ x < 256) (hl : l.length ≤ 1000000) (v ec : Int) (hv : versF l = (v, ec)) (he : ec ≠ 0) :
  Calls Try.prog 44 #[.slice A l.length c] w (CGetPost w ((0, [], [], 0), ec)) := by
 obtain ⟨w1, hw1⟩ : ∃ w1, w.alloc (.cells #[.int .i64 0, .slice none 0 0, .slice none 0 0, .int .i64 0] 90) = w1 := ⟨_, rfl⟩
 have hb1 : Below w.heap.size w w1 := by rw [← hw1]; exact (Below.refl _ _).alloc (Nat.le_refl _) _
 have hk1 : w1.heap[w.heap.size]? = some (.cells #[.int .i64 0, .slice none 0 0, .slice none 0 0, .int .i64 0] 90 (0, 0)) := by rw [← hw1]; exact heap_new _ _
 obtain ⟨b2, hb2⟩ : ∃ b, w.heap.size = b := ⟨_, rfl⟩
 rw [hb2] at hk1
 have hVC := vers_any A c l w1 (Kd.C_below hC hb1) hc hb hl
 rw [hv] at hVC
 have HVC := Lib.hid hVC
 have HB1 := Lib.hid hb1
 have HK1 := Lib.hid hk1
 have HW1 := Lib.hid hw1
 have HB2 := Lib.hid hb2
 have HU := Lib.hid Try.underlying90
 have hne : (ec != 0) = true := by simpa using he
 clear hC hb1 hk1 hw1 hb2 hv hVC hb
 go_enter Try.func44, Try.ntmps44
 go_wp2_with fail
 rw [HW1.out, HB2.out]
 refine HVC.out.mono ?_
 rintro e w2 ⟨rfl, hb2⟩
 have hk2 := blk_below HK1.out hb2
 have o0 := (blk_cell hk2 0).trans rfl
 have of0 := blk_frozen hk2 0
 have o1 := (blk_cell hk2 1).trans rfl
 have of1 := blk_frozen hk2 1
 have o2 := (blk_cell hk2 2).trans rfl
 have of2 := blk_frozen hk2 2
 have o3 := (blk_cell hk2 3).trans rfl
 have of3 := blk_frozen hk2 3
 have HB12 := Lib.hid (HB1.out.trans (hb2.mono HB1.out.size))
 have HK2 := Lib.hid hk2
 clear hb2 hk2
 go_wp2_with fail
 have q0 := blk_put (cs' := #[.int .i64 0, .slice none 0 0, .slice none 0 0, .int .i64 0]) HK2.out 0 (.int .i64 0) rfl
 have q1 := blk_put (cs' := #[.int .i64 0, .slice none 0 0, .slice none 0 0, .int .i64 0]) q0 1 (.slice none 0 0) rfl
 have q2 := blk_put (cs' := #[.int .i64 0, .slice none 0 0, .slice none 0 0, .int .i64 0]) q1 2 (.slice none 0 0) rfl
 have q3 := blk_put (cs' := #[.int .i64 0, .slice none 0 0, .slice none 0 0, .int .i64 0]) q2 3 (.int .i64 0) rfl
 refine bodyPost_ret (results_ct rfl _ _ b2 90 #[_, _, _, _] (0, 0) _ rfl q3 HU.out rfl (by kernel_rfl)) rfl ?_
 have hbb := HB2.out
 exact ⟨_, _, rfl, Kd.R_nil _ _ _ _ _, Kd.R_nil _ _ _ _ _, (((HB12.out.setCell (p := ⟨b2, 0, none⟩) (by show w.heap.size ≤ b2; omega) _).setCell (p := ⟨b2, 1, none⟩) (by show w.heap.size ≤ b2; omega) _).setCell (p := ⟨b2, 2, none⟩) (by show w.heap.size ≤ b2; omega) _).setCell (p := ⟨b2, 3, none⟩) (by show w.heap.size ≤ b2; omega) _⟩
theorem cget_any (A : Option Addr) (c : Nat) (l : List Int) (w : World) (hC : Kd.C (Kd.int .u8) w A l.length l) (hc : l.length ≤ c) (hb : ∀ x ∈ l, 0 ≤ x ∧ x < 256) (hl : l.length ≤ 1000000) (hN : (runs l 8).length ≤ 2700) :
  Calls Try.prog 44 #[.slice A l.length c] w (CGetPost w (codG l)) := by
 unfold codG
 obtain ⟨p, h⟩ : ∃ p, versF l = p := ⟨_, rfl⟩
 rw [h]
 obtain ⟨v, ec⟩ := p
 dsimp only
 by_cases he : ec = 0
 ·subst he
  rw [if_neg (by simp)]
  exact cget_ok A c l w hC hc hb hl v h hN
 ·rw [if_pos he]
  exact cget_bad A c l w hC hc hb hl v ec h he
end Go.Proofs.Ytmeocdkiecknkaa
namespace Go.Proofs.Ytmeocdkiecknkaa
open Go.RowKit
theorem add0 (b k : Nat) : (⟨b, 0, none⟩ : Addr).add k = ⟨b, k, none⟩ := by unfold Addr.add; split <;> simp_all
end Go.Proofs.Ytmeocdkiecknkaa
namespace Go.Proofs.Ytmeocdkiecknkaa.WCodecTold
open Go.RowKit Go.Proofs.YtmeocdkiecknkaaW.PrintWords Go.Proofs.Ytmeocdkiecknkaa.GRR
structure IsAt2 (W : World) (v : Value) (x : Int × Int) : Prop where
 val : v = .agg #[.int .u16 x.1, .int .u16 x.2]
 r1 : 0 ≤ x.1 ∧ x.1 < 65536
 r2 : 0 ≤ x.2 ∧ x.2 < 65536
set_option maxHeartbeats 8000000 in
set_option maxRecDepth 100000 in
theorem walk (v0 : Value) (p0 : Option Addr × Nat × List Rec9) (v1 : Value) (x1 : Int × Int) (a2 : Int) (w : World) (w0 : IsRows kdRec okRec w v0 p0) (w1 : IsAt2 w v1 x1) (w2 : (Lit.int .u32 a2).wf = true) :
  Calls Try.prog 12 #[v0, v1, .int .u32 a2] w fun e w' => e = .returned (.bool true) ∧ Below w.heap.size w w' := by
 obtain ⟨A, c, l⟩ := p0
 obtain ⟨rfl, hcA, hC, hml, hok⟩ := w0
 obtain ⟨a, q0⟩ := x1
 obtain ⟨rfl, hr1, hr2⟩ := w1
 dsimp only at hcA hC hml hok hr1 hr2 ⊢
 have hy : 0 ≤ a2 ∧ a2 < 4294967296 := by simp [Lit.wf, IntKind.min, IntKind.max, IntKind.signed, IntKind.bits] at w2; omega
 obtain ⟨q, rfl⟩ := Int.eq_ofNat_of_zero_le hr2.1
 have hG := fun (W : World) (h : Below w.heap.size w W) => great10_any A c l W (Kd.C_below hC h)
 have HG := Lib.hid hG
 have HC := Lib.hid hC
 have HOK := Lib.hid hok
 obtain ⟨y, hyy⟩ : ∃ y, a2 = y := ⟨_, rfl⟩
 rw [hyy] at hy ⊢
 obtain ⟨wp, hwp⟩ : ∃ x, w.alloc (.cells #[.int .u16 a, .int .u16 (q : Int)] 55) = x := ⟨_, rfl⟩
 have hbp : Below w.heap.size w wp := by rw [← hwp]; exact (Below.refl _ _).alloc (Nat.le_refl _) _
 have hkp : wp.heap[w.heap.size]? = some (.cells #[.int .u16 a, .int .u16 (q : Int)] 55 (0, 0)) := by rw [← hwp]; exact heap_new _ _
 obtain ⟨bp, hbpe⟩ : ∃ b, w.heap.size = b := ⟨_, rfl⟩
 rw [hbpe] at hkp
 have HBP := Lib.hid hbp
 have HKP := Lib.hid hkp
 have HWP := Lib.hid hwp
 have HBE := Lib.hid hbpe
 clear hC hok w2 hG hyy hwp hbp hkp hbpe
 go_enter Try.func12, Try.ntmps12
 go_wp2_with fail
 rw [HWP.out, HBE.out]
 refine (HG.out wp HBP.out).mono ?_
 rintro e wa ⟨g, rfl, hg, hba⟩
 have HG1 := Lib.hid hg
 have HBA := Lib.hid (HBP.out.trans (hba.mono HBP.out.size))
 have HKA := Lib.hid (blk_below HKP.out hba)
 clear hg hba HG HKP HWP
 cases g with
 | true =>
  go_wp2_with fail
  refine (fixed10_any _).mono ?_
  rintro e wf ⟨rfl, hbf⟩
  have HBF := Lib.hid (HBA.out.trans (hbf.mono HBA.out.size))
  clear hbf
  go_wp2_with fail
  go_ret
  exact ⟨rfl, HBF.out⟩
 | false =>
  obtain ⟨hl30, hfew⟩ := HG1.out rfl
  have HFEW := Lib.hid hfew
  by_cases hl0 : l.length = 0
  ·rw [hl0]
   have hz0 : Hid (l.length = 0) := Lib.hid hl0
   clear hl0
   go_wp2_with fail
   refine (fixed10_any _).mono ?_
   rintro e wf ⟨rfl, hbf⟩
   have HBF := Lib.hid (HBA.out.trans (hbf.mono HBA.out.size))
   clear hbf
   go_wp2_with fail
   go_ret
   exact ⟨rfl, HBF.out⟩
  have hlz : ((l.length : Int) == 0) = false := beq_false_of_ne (by omega)
  have hnum : ∀ r ∈ l, NumR r := fun r hr => NumR.of (HOK.out r hr)
  have hPT := codput_any 3 A c l wa (Kd.C_below HC.out HBA.out) hcA (.inl hl30) hnum (fun r hr => (HFEW.out r hr).ok)
  obtain ⟨k, hk⟩ : ∃ k : Nat, a % (l.length : Int) = (k : Int) := ⟨(a % (l.length : Int)).toNat, (Int.toNat_of_nonneg (Int.emod_nonneg _ (by omega))).symm⟩
  have hkl : k < l.length := by have := Int.emod_lt_of_pos a (show 0 < (l.length : Int) by omega); omega
  have hCF := fun (h : (codF 3 l).2 = 0) => And.intro (cod_file (v := 3) hl30 hnum h) (tol_file (v := 3) hl30 hnum h k hkl)
  generalize codF 3 l = F9 at hPT hCF
  obtain ⟨f9, er⟩ := F9
  dsimp only at hPT hCF
  have HPT := Lib.hid hPT
  have HCF0 := Lib.hid hCF
  have HK := Lib.hid hk
  clear hPT hCF hnum hfew HG1 hk
  go_wp2_with fail
  refine HPT.out.mono ?_
  rintro e wb ⟨vb, rfl, hR5, hbb⟩
  obtain ⟨A5, c5, rfl⟩ := Kd.R_slice hR5
  dsimp only at hR5 ⊢
  have HR5 := Lib.hid (Kd.R_lower hR5 HBA.out.size)
  have HBB := Lib.hid (HBA.out.trans (hbb.mono HBA.out.size))
  have HKB := Lib.hid (blk_below HKA.out hbb)
  clear hbb HPT HKA
  by_cases he : er = 0
  ·subst he
   obtain ⟨hcf, pre, F, rest, p, htf⟩ := HCF0.out rfl
   have HCF := Lib.hid hcf
   have HTF := Lib.hid htf
   clear hcf htf HCF0
   have hr5 := Kd.R_reads' hR5
   have hN := cget_any A5 c5 f9 wb hr5.2.2 hr5.2.1 HCF.out.b (by have := HCF.out.n1; omega) (by have := HCF.out.few f9.length; rwa [List.take_length] at this)
   rw [HCF.out.all] at hN
   obtain ⟨es, hes⟩ : ∃ es, recEnds 3 l = es := ⟨_, rfl⟩
   rw [hes] at hN
   have HN := Lib.hid hN
   have HES := Lib.hid hes
   have hesl : es.length = l.length := by rw [← hes, recEnds_len]
   have HESL := Lib.hid hesl
   clear hN hes hr5 hR5
   go_wp2_with fail
   refine HN.out.mono ?_
   rintro e wc ⟨vr, ve, rfl, hR3, hE3, hbc⟩
   obtain ⟨A3, c3, rfl⟩ := Kd.R_slice hR3
   obtain ⟨A4, c4, rfl⟩ := Kd.R_slice hE3
   dsimp only at hR3 hE3 ⊢
   rw [HESL.out]
   obtain ⟨wd, hwd⟩ : ∃ x, wc.alloc (.cells #[.int .i64 3, .slice A3 l.length c3, .slice A4 l.length c4, .int .i64 (f9.length : Int)] 90) = x := ⟨_, rfl⟩
   have hbd : Below wc.heap.size wc wd := by rw [← hwd]; exact (Below.refl _ _).alloc (Nat.le_refl _) _
   have hkd : wd.heap[wc.heap.size]? = some (.cells #[.int .i64 3, .slice A3 l.length c3, .slice A4 l.length c4, .int .i64 (f9.length : Int)] 90 (0, 0)) := by rw [← hwd]; exact heap_new _ _
   obtain ⟨b9, hb9⟩ : ∃ b, wc.heap.size = b := ⟨_, rfl⟩
   rw [hb9] at hkd
   have hbcd := hbc.trans (hbd.mono hbc.size)
   have hkp := blk_below HKB.out hbcd
   have hpc0 : wd.cell? ⟨bp, 0, none⟩ = some (.int .u16 a) := (blk_cell hkp 0).trans rfl
   have hpc1 : wd.cell? ⟨bp, 1, none⟩ = some (.int .u16 (q : Int)) := (blk_cell hkp 1).trans rfl
   have hx2 : wd.cell? ⟨b9, 2, none⟩ = some (.slice A4 l.length c4) := (blk_cell hkd 2).trans rfl
   obtain ⟨g, cp, hA5, hbase, hglt, C5, hC5⟩ := Kd.R_form HR5.out (by have := HCF.out.n0; omega)
   obtain ⟨g6, cp6, hA6, _, _, C6, hC6⟩ := Kd.R_form hE3 (by rw [HESL.out]; omega)
   have h6g : g6 ≠ g := by
    rintro rfl
    have h5 := hbc.block g6 hglt
    rw [hC6, hC5] at h5
    cases h5
   have h9g : b9 ≠ g := by have := hbc.size; omega
   cases hA5
   cases hA6
   have HBD := Lib.hid (HBB.out.trans (hbcd.mono HBB.out.size))
   have hrD := Kd.R_below HR5.out hbcd
   have hE4 := Kd.C_below (Kd.R_reads' hE3).2.2 hbd
   obtain ⟨ek, hek⟩ : ∃ ek, pre.length + F.length = ek := ⟨_, rfl⟩
   have hfin := HTF.out.fin
   rw [HES.out, hek] at hfin
   obtain ⟨ad6, he6, hcell6⟩ := Kd.at_int hE4 (k : Int) (by omega) (by rw [HESL.out]; omega)
   cases he6
   have hz6 : rd es (k : Int) = (ek : Int) := by simp [rd, hfin]
   rw [Int.toNat_natCast, hz6, add0] at hcell6
   have hpay := HTF.out.pay
   have hFl : F.length = hdr p + p.length + 4 := by rw [HTF.out.fr]; exact frameL_length p hpay
   have hp1 := hpay.1
   have hp2 := hpay.2.1
   have hdi := hdr_is p hpay
   have hpos : 1 ≤ hdr p := by rw [hdi]; split <;> omega
   have hF0 : F.take (hdr p) = ints (vb p.length) := by
    rw [HTF.out.fr, frameL_parts p hpay, List.append_assoc, List.take_append_of_le_length (by simp [ints, hdr]), List.take_of_length_le (by simp [ints, hdr])]
   have hFb : ∀ x ∈ F, 0 ≤ x ∧ x < 256 := by rw [HTF.out.fr]; exact frameC_bytes p hpay
   have hL : f9.length = pre.length + (F.length + rest.length) := by rw [HTF.out.parts, List.length_append, List.length_append]
   obtain ⟨L, hLL⟩ : ∃ L, f9.length = L := ⟨_, rfl⟩
   have hn0 := HCF.out.n0
   have hn1 := HCF.out.n1
   rw [hLL] at hL hn0 hn1 hwd hkd ⊢
   have hLen : (pre ++ (F ++ rest)).length = L := by rw [← HTF.out.parts]; exact hLL
   rw [HTF.out.parts, hLen] at hrD
   obtain ⟨pl, hpl⟩ : ∃ pl, pre.length = pl := ⟨_, rfl⟩
   obtain ⟨fl, hfl⟩ : ∃ fl, F.length = fl := ⟨_, rfl⟩
   have hpl8 := HTF.out.n8
   rw [hpl, hfl] at hek hL
   rw [hfl] at hFl
   rw [hpl] at hpl8
   have hekL : ek ≤ L := by omega
   have hek8 : 14 ≤ ek := by omega
   obtain ⟨d40, hd40⟩ : ∃ r, q % 40 = r := ⟨_, rfl⟩
   obtain ⟨F0, hF00⟩ : ∃ F0, 8 * (ek - 5) + d40 = F0 := ⟨_, rfl⟩
   have hdl : d40 < 40 := by omega
   have hF0l : F0 < 8 * ek := by omega
   obtain ⟨f, hf⟩ : ∃ f, F0 = 8 * pl + f := ⟨F0 - 8 * pl, by omega⟩
   have hf8 : 8 * hdr p ≤ f ∧ f < 8 * fl := by omega
   obtain ⟨e5, he5⟩ : ∃ e5 : Nat, ek - 5 = e5 := ⟨_, rfl⟩
   have w1 : IntKind.i64.wrap ((ek : Int) - 5) = (e5 : Int) := by rw [IntWalk.i64_in _ (by omega)]; omega
   obtain ⟨n8, hn8⟩ : ∃ n8 : Nat, 8 * e5 = n8 := ⟨_, rfl⟩
   have w2 : IntKind.i64.wrap (8 * (e5 : Int)) = (n8 : Int) := by rw [IntWalk.i64_in _ (by omega)]; omega
   have w3 : Int.tmod (q : Int) 40 = (d40 : Int) := by rw [Int.tmod_eq_emod_of_nonneg (by omega), ← hd40]; omega
   have w4 : IntKind.i64.wrap ((n8 : Int) + (d40 : Int)) = (F0 : Int) := by rw [IntWalk.i64_in _ (by omega)]; omega
   have HPL := Lib.hid (And.intro hpl (And.intro hfl hLen))
   have HF0 := Lib.hid hF0
   have HFB := Lib.hid hFb
   have HFF2 := Lib.hid hf
   have HF8 := Lib.hid hf8
   have HWDE := Lib.hid hwd
   have HB9 := Lib.hid hb9
   have HR3 := Lib.hid (Kd.R_below hR3 hbd)
   have HRD := Lib.hid hrD
   have HEK := Lib.hid hek
   have HLL := Lib.hid hLL
   have hL1 : L ≤ 120008 := hn1
   clear hbc hbd hkd hkp hR3 hE3 hwd hb9 hbcd hrD hE4 hfin hz6 hpay hFl hp1 hp2 hdi hpos hF0 hFb hL hn0 hn1 hLen hpl hfl hpl8 hek hd40 hF00 hdl hf hf8 he5 hn8 hLL hC5 hC6 hglt hesl HN
   have hpa0 : (wc.alloc (.cells #[.int .i64 3, .slice A3 l.length c3, .slice (some ⟨g6, 0, none⟩) l.length c4, .int .i64 (L : Int)] 90)).cell? ⟨bp, 0, none⟩ = some (.int .u16 a) := by rw [HWDE.out]; exact hpc0
   have hkk := HK.out
   have htm : Int.tmod a (l.length : Int) = (k : Int) := by rw [Int.tmod_eq_emod_of_nonneg hr1.1]; exact hkk
   clear hkk
   go_wp2_with fail
   rw [HWDE.out, HB9.out]
   clear hpa0
   go_quiet (fail)
   clear w1 w2 w3 w4 hpc0 hpc1
   have HR4 := Lib.hid (Kd.R_drewN HRD.out nq)
   have HB4 := Lib.hid (pw_below_drewN HBD.out nq)
   have hcell6' : (wd.drewN nq).cell? ⟨g6, k, none⟩ = some (.int .i64 (ek : Int)) := by simpa using hcell6
   have hx2' : (wd.drewN nq).cell? ⟨b9, 2, none⟩ = some (.slice (some ⟨g6, 0, none⟩) l.length c4) := by simpa using hx2
   obtain ⟨W1, hW1⟩ : ∃ W1, wd.drewN nq = W1 := ⟨_, rfl⟩
   rw [hW1] at HR4 HB4 hcell6' hx2' ⊢
   have HC6 := Lib.hid hcell6'
   have HX2 := Lib.hid hx2'
   clear hcell6 hx2 hW1 hcell6' hx2'
   go_wp2_with fail
   go_loopw [13, 67] (fun u13 u wr => ∃ (j W : Nat) (cs : List Int), j ≤ 32 ∧ u = .int .i64 j ∧ u13 = .bool (!decide (W = 0)) ∧ W < 2 ^ j ∧ Hid (Crc.le (nats cs) = Crc.le (nats F) ^^^ (2 ^ f * W)) ∧ Hid (∀ b ∈ cs, 0 ≤ b ∧ b < 256) ∧ Hid (cs.length = F.length) ∧ Hid (cs.take (hdr p) = ints (vb p.length)) ∧ Hid (W = 0 → cs = F) ∧ Hid (Kd.R (Kd.int .u8) 5 wr w.heap.size (fun _ => True) (.slice (some ⟨g, 0, none⟩) L c5) (pre ++ (cs ++ rest))) ∧ Hid (wr.cell? ⟨g6, k, none⟩ = some (.int .i64 (ek : Int))) ∧ Hid (wr.cell? ⟨b9, 2, none⟩ = some (.slice (some ⟨g6, 0, none⟩) l.length c4)) ∧ Hid (Below w.heap.size w wr)) (fun _ v _ => 32 - (intOf v).toNat)
   case atStart => exact ⟨0, 0, F, by omega, rfl, rfl, by decide, by simp [Hid], HFB.out, rfl, HF0.out, fun _ => rfl, HR4.out, HC6.out, HX2.out, HB4.out⟩
   case round =>
    obtain ⟨j, W, cs, hj, rfl, rfl, hW, HLE, HBY, HLN, HHD, HW0, HR, HC6', HX2', HBL⟩ := hrel
    have hc6 := HC6'.out
    have hx2 := HX2'.out
    by_cases hlt : j < 32
    ·by_cases hbit : y / 2 ^ j % 2 = 1
     ·have e1 := bit_one y j hy hbit
      clear hbit
      by_cases hat : F0 + j < 8 * ek
      ·have hjl : (f + j) / 8 < cs.length := by have := HLN.out; have := HPL.out; have := HEK.out; have := HFF2.out; omega
       have hjh : hdr p ≤ (f + j) / 8 := by have := HF8.out; omega
       have hix : (F0 + j) / 8 = pre.length + (f + j) / 8 := by have := HPL.out; have := HFF2.out; omega
       have hmx : (F0 + j) % 8 = (f + j) % 8 := by have := HFF2.out; omega
       have hxl : (F0 + j) / 8 < L := by omega
       obtain ⟨b, HBV⟩ : ∃ b, Hid (cs.getD ((f + j) / 8) 0 = b) := ⟨_, Lib.hid rfl⟩
       have hlen : (pre ++ (cs ++ rest)).length = L := by
        have h1 := HPL.out.2.2
        rw [List.length_append, List.length_append] at h1 ⊢
        rw [HLN.out]; exact h1
       have hcell : wr.cell? ⟨g, (F0 + j) / 8, none⟩ = some (.int .u8 b) := by
        have hR' : Kd.R (Kd.int .u8) 5 wr w.heap.size (fun _ => True) (.slice (some ⟨g, 0, none⟩) (pre ++ (cs ++ rest)).length c5) (pre ++ (cs ++ rest)) := by rw [hlen]; exact HR.out
        have := (Kd.R_cell (0 : Int) hR' (((F0 + j) / 8 : Nat) : Int) (by omega) (by omega)).1
        rw [Int.toNat_natCast] at this
        rw [this]
        congr 1
        show Value.int .u8 (rdOf 0 _ _) = _
        congr 1
        unfold rdOf
        rw [Int.toNat_natCast, hix, getD_mid _ _ _ _ hjl]
        exact HBV.out
       have hfz : wr.frozen? ⟨g, (F0 + j) / 8, none⟩ = false := by
        obtain ⟨g', c', cur', he, _, hh, _, _⟩ := R_open HR.out (by omega)
        injection he with he
        cases he
        exact unfrozen_of hh _
       have hfl := flip cs HBY.out (f + j) hjl
       rw [HBV.out] at hfl
       have HFL := Lib.hid hfl
       have hset := set_mid pre cs rest ((f + j) / 8) (Go.bits .xor .u8 b (2 ^ ((f + j) % 8) % 256)) hjl
       rw [← hix, ← hmx] at hset
       have HSET := Lib.hid hset
       have HJ := Lib.hid (And.intro hjl (And.intro hjh hmx))
       clear hfl hset hjl hjh hix hmx hlen
       go_wp2
       go_roundw
       case rel =>
        refine ⟨j + 1, W + 2 ^ j, cs.set ((f + j) / 8) (Go.bits .xor .u8 b (2 ^ ((f + j) % 8) % 256)), by omega, by go_num, ?_, ?_, ?_, HFL.out.1, ?_, ?_, ?_, ?_, ?_, ?_, HBL.out.setCell hbase _⟩
        ·have : 0 < 2 ^ j := Nat.two_pow_pos j
         rw [decide_eq_false (by omega)]; rfl
        ·rw [Nat.pow_succ]; omega
        ·show _ = _
         rw [HFL.out.2, HLE.out, ← xor_two_pow W j hW, pow_mul_xor, ← Nat.pow_add, Nat.xor_assoc]
        ·show _ = _
         rw [List.length_set]; exact HLN.out
        ·show _ = _
         rw [List.take_set_of_le HJ.out.2.1]; exact HHD.out
        ·intro h
         have : 0 < 2 ^ j := Nat.two_pow_pos j
         omega
        ·have := Kd.R_putn HR.out (((F0 + j) / 8 : Nat) : Int) (Go.bits .xor .u8 b (2 ^ ((F0 + j) % 8) % 256))
         rw [Int.toNat_natCast, HSET.out] at this
         rw [HJ.out.2.2] at this ⊢
         exact this
        ·show _ = _
         rw [World.cell?_setCell_other _ _ _ _ (by intro e; injection e with e; exact h6g e.symm)]
         exact HC6'.out
        ·show _ = _
         rw [World.cell?_setCell_other _ _ _ _ (by intro e; injection e with e; exact h9g e.symm)]
         exact HX2'.out
       case measure => simp [intOf]; omega
      ·go_wp2
       go_roundw
       case rel => exact ⟨j + 1, W, cs, by omega, by go_num, rfl, by rw [Nat.pow_succ]; omega, HLE, HBY, HLN, HHD, HW0, HR, HC6', HX2', HBL⟩
       case measure => simp [intOf]; omega
     ·have e1 := bit_zero y j hy hbit
      clear hbit
      go_wp2
      go_roundw
      case rel => exact ⟨j + 1, W, cs, by omega, by go_num, rfl, by rw [Nat.pow_succ]; omega, HLE, HBY, HLN, HHD, HW0, HR, HC6', HX2', HBL⟩
      case measure => simp [intOf]; omega
    ·obtain rfl : j = 32 := by omega
     have hcsl : (pre ++ (cs ++ rest)).length = L := by
      have h1 := HPL.out.2.2
      rw [List.length_append, List.length_append] at h1 ⊢
      rw [HLN.out]; exact h1
     have hbb : ∀ x ∈ pre ++ (cs ++ rest), 0 ≤ x ∧ x < 256 := app_bytes HTF.out.b1 (app_bytes HBY.out HTF.out.b2)
     have hR' : Kd.R (Kd.int .u8) 5 wr w.heap.size (fun _ => True) (.slice (some ⟨g, 0, none⟩) (pre ++ (cs ++ rest)).length c5) (pre ++ (cs ++ rest)) := by rw [hcsl]; exact HR.out
     obtain ⟨hfew, ht0, ht1⟩ := HTF.out.told cs f W HBY.out HLN.out (by rw [HLN.out, HPL.out.2.1]; exact HF8.out.2) hW HW0.out HLE.out HHD.out
     have hcg := cget_any (some ⟨g, 0, none⟩) c5 (pre ++ (cs ++ rest)) wr (Kd.R_reads' hR').2.2 (Kd.R_reads' hR').2.1 hbb (by omega) hfew
     rw [hcsl] at hcg
     obtain ⟨G, hG⟩ : ∃ G, codG (pre ++ (cs ++ rest)) = G := ⟨_, rfl⟩
     rw [hG] at hcg ht0 ht1
     have HCG := Lib.hid hcg
     have HT0 := Lib.hid ht0
     have HT1 := Lib.hid ht1
     clear hcg ht0 ht1 hR' hbb hcsl hfew hG hc6 hx2
     go_wp2_with fail
     refine HCG.out.mono ?_
     rintro e w2 ⟨vr2, ve2, rfl, hR2, hE2, hb2⟩
     by_cases hz : W = 0
     ·rw [HT0.out hz] at hR2 hE2 ⊢
      obtain ⟨A7, c7, rfl⟩ := Kd.R_slice hR2
      obtain ⟨A8, c8, rfl⟩ := Kd.R_slice hE2
      rw [decide_eq_true hz]
      have HBE2 := Lib.hid (HBL.out.trans (hb2.mono HBL.out.size))
      obtain ⟨e8, he8⟩ : ∃ x, (recEnds 3 l).length = x := ⟨_, rfl⟩
      dsimp only
      rw [he8, HLL.out]
      clear hR2 hE2 hb2 hz hW HT0 HT1 HCG he8
      obtain ⟨wg, hwg⟩ : ∃ x, w2.alloc (.cells #[.int .i64 3, .slice A7 l.length c7, .slice A8 e8 c8, .int .i64 (L : Int)] 90) = x := ⟨_, rfl⟩
      have hbg : Below w2.heap.size w2 wg := by rw [← hwg]; exact (Below.refl _ _).alloc (Nat.le_refl _) _
      have hkg : wg.heap[w2.heap.size]? = some (.cells #[.int .i64 3, .slice A7 l.length c7, .slice A8 e8 c8, .int .i64 (L : Int)] 90 (0, 0)) := by rw [← hwg]; exact heap_new _ _
      obtain ⟨b12, hb12⟩ : ∃ b, w2.heap.size = b := ⟨_, rfl⟩
      rw [hb12] at hkg
      have HBG := Lib.hid (HBE2.out.trans (hbg.mono HBE2.out.size))
      have HKG := Lib.hid hkg
      have HWG := Lib.hid hwg
      have HB12 := Lib.hid hb12
      clear hbg hkg hwg hb12
      go_wp2_with fail
      rw [HWG.out, HB12.out]
      refine (fixed10_any _).mono ?_
      rintro e wf ⟨rfl, hbf⟩
      have hkf2 := blk_below HKG.out hbf
      have s1 : wf.cell? ⟨b12, 1, none⟩ = some (.slice A7 l.length c7) := (blk_cell hkf2 1).trans rfl
      have HBF := Lib.hid (HBG.out.trans (hbf.mono HBG.out.size))
      clear hkf2 hbf
      go_wp2_with fail
      go_ret
      exact ⟨rfl, HBF.out⟩
     ·obtain ⟨es2, gd, hG2, hes2⟩ := HT1.out hz
      rw [hG2] at hR2 hE2 ⊢
      obtain ⟨A7, c7, rfl⟩ := Kd.R_slice hR2
      obtain ⟨A8, c8, rfl⟩ := Kd.R_slice hE2
      rw [decide_eq_false hz]
      have HBE2 := Lib.hid (HBL.out.trans (hb2.mono HBL.out.size))
      have hl2 : (l.take k).length = k := by rw [List.length_take]; omega
      dsimp only at hR2 hE2 ⊢
      rw [hl2, hes2]
      rw [hl2] at hR2
      have HR2 := Lib.hid (Kd.R_reads' hR2)
      clear hR2 hE2 hz hW HT0 HT1 HCG hG2 hes2
      obtain ⟨wg, hwg⟩ : ∃ x, w2.alloc (.cells #[.int .i64 3, .slice A7 k c7, .slice A8 k c8, .int .i64 gd] 90) = x := ⟨_, rfl⟩
      have hbg : Below w2.heap.size w2 wg := by rw [← hwg]; exact (Below.refl _ _).alloc (Nat.le_refl _) _
      have hkg : wg.heap[w2.heap.size]? = some (.cells #[.int .i64 3, .slice A7 k c7, .slice A8 k c8, .int .i64 gd] 90 (0, 0)) := by rw [← hwg]; exact heap_new _ _
      obtain ⟨b12, hb12⟩ : ∃ b, w2.heap.size = b := ⟨_, rfl⟩
      rw [hb12] at hkg
      have HBG := Lib.hid (HBE2.out.trans (hbg.mono HBE2.out.size))
      have HKG := Lib.hid hkg
      have HWG := Lib.hid hwg
      have HB12 := Lib.hid hb12
      have hA7 := Kd.C_below HR2.out.2.2 hbg
      have hAl := Kd.C_take (Kd.C_below HC.out HBG.out) (Nat.le_of_lt hkl)
      rw [hl2] at hAl
      have HALL := Lib.hid (fun (W : World) (h : Below wg.heap.size wg W) => all8_any A7 A c7 c (l.take k) W (Kd.C_below hA7 h) (by rw [hl2]; exact Kd.C_below hAl h) (fun r hr => by have := (HFEW.out r (List.mem_of_mem_take hr)).n; omega))
      rw [hl2] at HALL
      have hkc : k ≤ c := by omega
      clear hbg hkg hwg hb12 hA7 hAl hl2 hb2
      go_wp2_with fail
      rw [HWG.out, HB12.out]
      go_wp2_with fail
      refine region_calm (n := 14) (byList [isV (.bool true), isV (.bool true), isV (.int .i64 0), isV (.bool true), isV (.bool true), isV (.bool true), isV (.pointer (some ⟨b12, 1, none⟩)), isV (.slice A7 k c7), isV (.slice A l.length c), isV (.int .i64 (k : Int)), isV (.slice A k c), isV (.bool true), isV (.bool true), isV (.bool true)]) (by kernel_rfl) rfl (byList_lasts ?_) (by kernel_rfl) (by kernel_rfl) (by kernel_rfl) (show AllLt 14 _ from ?_) ?_
      ·intro p hp
       simp only [List.mem_cons, List.not_mem_nil, or_false] at hp
       rcases hp with rfl | rfl | rfl | rfl | rfl | rfl | rfl | rfl | rfl | rfl | rfl | rfl | rfl | rfl <;> first | exact isV_lasts | exact isC_lasts
      ·refine allLt_succ (allLt_succ (allLt_succ (allLt_succ (allLt_succ (allLt_succ (allLt_succ (allLt_succ (allLt_succ (allLt_succ (allLt_succ (allLt_succ (allLt_succ (allLt_succ (allLt_zero _) ?_) ?_) ?_) ?_) ?_) ?_) ?_) ?_) ?_) ?_) ?_) ?_) ?_) ?_
       ·refine StepOk.run (o := ?o0a) ?ho0a ?hg0a ?h0a
        case ho0a => simp only [List.getElem?_toArray, List.getElem?_cons_succ, List.getElem?_cons_zero]; rfl
        case hg0a => rfl
        case h0a =>
        intro a W hS hB hd
        refine wp_called Try.func42 (by kernel_rfl) rfl #[] rfl (by simp [Act.eval, *]) ?_
        refine (fixed10_any W).mono ?_
        rintro e9 w9 ⟨rfl, hb9⟩
        exact ⟨_, rfl, rfl, hb9⟩
       ·refine StepOk.run (o := ?o1a) ?ho1a ?hg1a ?h1a
        case ho1a => simp only [List.getElem?_toArray, List.getElem?_cons_succ, List.getElem?_cons_zero]; rfl
        case hg1a => rfl
        case h1a =>
        intro a W hS hB hd
        have e121 : a.tmps[121]? = some (.bool true) := (hd 0 rfl).bool rfl rfl rfl
        refine wp_value (c := .bool true) ?_ rfl
        go_simp
       ·refine StepOk.on (o := ?o2a) (g := 1) (u := true) ?ho2a ?hg2a rfl rfl ?hw2a rfl ?h2a
        case ho2a => simp only [List.getElem?_toArray, List.getElem?_cons_succ, List.getElem?_cons_zero]; rfl
        case hg2a => rfl
        case hw2a => rfl
        case h2a =>
        intro a W hS hB hd
        have e17 : a.tmps[17]? = some (.int .i64 0) := hS.get rfl rfl
        refine wp_value (c := .int .i64 0) ?_ rfl
        go_simp
       ·refine StepOk.on (o := ?o3a) (g := 1) (u := true) ?ho3a ?hg3a rfl rfl ?hw3a rfl ?h3a
        case ho3a => simp only [List.getElem?_toArray, List.getElem?_cons_succ, List.getElem?_cons_zero]; rfl
        case hg3a => rfl
        case hw3a => rfl
        case h3a =>
        intro a W hS hB hd
        have e123 : a.tmps[123]? = some (.int .i64 0) := (hd 2 rfl).bool rfl rfl rfl
        refine wp_value (c := .bool true) ?_ rfl
        go_simp
       ·refine StepOk.run (o := ?o4a) ?ho4a ?hg4a ?h4a
        case ho4a => simp only [List.getElem?_toArray, List.getElem?_cons_succ, List.getElem?_cons_zero]; rfl
        case hg4a => rfl
        case h4a =>
        intro a W hS hB hd
        have e122 : a.tmps[122]? = some (.bool true) := (hd 1 rfl).bool rfl rfl rfl
        have e124 : a.tmps[124]? = some (.bool true) := (hd 3 rfl).bool rfl rfl rfl
        refine wp_value (c := .bool true) ?_ rfl
        go_simp
       ·refine StepOk.run (o := ?o5a) ?ho5a ?hg5a ?h5a
        case ho5a => simp only [List.getElem?_toArray, List.getElem?_cons_succ, List.getElem?_cons_zero]; rfl
        case hg5a => rfl
        case h5a =>
        intro a W hS hB hd
        have e125 : a.tmps[125]? = some (.bool true) := (hd 4 rfl).bool rfl rfl rfl
        refine wp_value (c := .bool true) ?_ rfl
        go_simp
       ·refine StepOk.on (o := ?o6a) (g := 5) (u := true) ?ho6a ?hg6a rfl rfl ?hw6a rfl ?h6a
        case ho6a => simp only [List.getElem?_toArray, List.getElem?_cons_succ, List.getElem?_cons_zero]; rfl
        case hg6a => rfl
        case hw6a => rfl
        case h6a =>
        intro a W hS hB hd
        have e16 : a.tmps[16]? = some (.pointer (some ⟨b12, 0, none⟩)) := hS.get rfl rfl
        refine wp_value (c := .pointer (some ⟨b12, 1, none⟩)) ?_ rfl
        go_simp
       ·refine StepOk.on (o := ?o7a) (g := 5) (u := true) ?ho7a ?hg7a rfl rfl ?hw7a rfl ?h7a
        case ho7a => simp only [List.getElem?_toArray, List.getElem?_cons_succ, List.getElem?_cons_zero]; rfl
        case hg7a => rfl
        case hw7a => rfl
        case h7a =>
        intro a W hS hB hd
        have e127 : a.tmps[127]? = some (.pointer (some ⟨b12, 1, none⟩)) := (hd 6 rfl).bool rfl rfl rfl
        refine wp_value (c := .slice A7 k c7) ?_ rfl
        have hkW := blk_below HKG.out hB
        have s1 : W.cell? ⟨b12, 1, none⟩ = some (.slice A7 k c7) := (blk_cell hkW 1).trans rfl
        go_simp
       ·refine StepOk.on (o := ?o8a) (g := 5) (u := true) ?ho8a ?hg8a rfl rfl ?hw8a rfl ?h8a
        case ho8a => simp only [List.getElem?_toArray, List.getElem?_cons_succ, List.getElem?_cons_zero]; rfl
        case hg8a => rfl
        case hw8a => rfl
        case h8a =>
        intro a W hS hB hd
        have e0 : a.tmps[0]? = some (.slice A l.length c) := hS.get rfl rfl
        refine wp_value (c := .slice A l.length c) ?_ rfl
        go_simp
       ·refine StepOk.on (o := ?o9a) (g := 5) (u := true) ?ho9a ?hg9a rfl rfl ?hw9a rfl ?h9a
        case ho9a => simp only [List.getElem?_toArray, List.getElem?_cons_succ, List.getElem?_cons_zero]; rfl
        case hg9a => rfl
        case hw9a => rfl
        case h9a =>
        intro a W hS hB hd
        have e11 : a.tmps[11]? = some (.int .i64 (k : Int)) := hS.get rfl rfl
        refine wp_value (c := .int .i64 (k : Int)) ?_ rfl
        go_simp
       ·refine StepOk.on (o := ?o10a) (g := 5) (u := true) ?ho10a ?hg10a rfl rfl ?hw10a rfl ?h10a
        case ho10a => simp only [List.getElem?_toArray, List.getElem?_cons_succ, List.getElem?_cons_zero]; rfl
        case hg10a => rfl
        case hw10a => rfl
        case h10a =>
        intro a W hS hB hd
        have e129 : a.tmps[129]? = some (.slice A l.length c) := (hd 8 rfl).bool rfl rfl rfl
        have e130 : a.tmps[130]? = some (.int .i64 (k : Int)) := (hd 9 rfl).bool rfl rfl rfl
        refine wp_value (c := .slice A k c) ?_ rfl
        go_simp
       ·refine StepOk.on (o := ?o11a) (g := 5) (u := true) ?ho11a ?hg11a rfl rfl ?hw11a rfl ?h11a
        case ho11a => simp only [List.getElem?_toArray, List.getElem?_cons_succ, List.getElem?_cons_zero]; rfl
        case hg11a => rfl
        case hw11a => rfl
        case h11a =>
        intro a W hS hB hd
        have e128 : a.tmps[128]? = some (.slice A7 k c7) := (hd 7 rfl).bool rfl rfl rfl
        have e131 : a.tmps[131]? = some (.slice A k c) := (hd 10 rfl).bool rfl rfl rfl
        refine wp_called Try.func45 (by kernel_rfl) rfl #[.slice A7 k c7, .slice A k c] rfl (by simp [Act.eval, *]) ?_
        refine (HALL.out W hB).mono ?_
        rintro e9 w9 ⟨rfl, hb9⟩
        exact ⟨_, rfl, rfl, hb9⟩
       ·refine StepOk.run (o := ?o12a) ?ho12a ?hg12a ?h12a
        case ho12a => simp only [List.getElem?_toArray, List.getElem?_cons_succ, List.getElem?_cons_zero]; rfl
        case hg12a => rfl
        case h12a =>
        intro a W hS hB hd
        have e126 : a.tmps[126]? = some (.bool true) := (hd 5 rfl).bool rfl rfl rfl
        have e132 : a.tmps[132]? = some (.bool true) := (hd 11 rfl).bool rfl rfl rfl
        refine wp_value (c := .bool true) ?_ rfl
        go_simp
       ·refine StepOk.run (o := ?o13a) ?ho13a ?hg13a ?h13a
        case ho13a => simp only [List.getElem?_toArray, List.getElem?_cons_succ, List.getElem?_cons_zero]; rfl
        case hg13a => rfl
        case h13a =>
        intro a W hS hB hd
        have e133 : a.tmps[133]? = some (.bool true) := (hd 12 rfl).bool rfl rfl rfl
        refine wp_value (c := .bool true) ?_ rfl
        go_simp
      ·intro a W hS hB hh
       have e6 : a.tmps[6]? = some (.bool true) := (hh 13 (by omega)).bool rfl rfl rfl
       have HBR := Lib.hid hB
       have hlit := same_lit hS
       clear hh hS hB
       simp only [List.filterMap_cons, List.filterMap_nil, List.foldl_cons, List.foldl_nil, List.setIfInBounds_toArray, List.set_cons_zero, List.set_cons_succ] at hlit
       rw [show a.tmps.getD 6 undef = .bool true by simp [Array.getD_eq_getD_getElem?, e6]] at hlit
       generalize a.tmps.getD 121 undef = z121 at hlit
       generalize a.tmps.getD 122 undef = z122 at hlit
       generalize a.tmps.getD 123 undef = z123 at hlit
       generalize a.tmps.getD 124 undef = z124 at hlit
       generalize a.tmps.getD 125 undef = z125 at hlit
       generalize a.tmps.getD 126 undef = z126 at hlit
       generalize a.tmps.getD 127 undef = z127 at hlit
       generalize a.tmps.getD 128 undef = z128 at hlit
       generalize a.tmps.getD 129 undef = z129 at hlit
       generalize a.tmps.getD 130 undef = z130 at hlit
       generalize a.tmps.getD 131 undef = z131 at hlit
       generalize a.tmps.getD 132 undef = z132 at hlit
       generalize a.tmps.getD 133 undef = z133 at hlit
       clear e6
       subst hlit
       go_wp2_with fail
       go_ret
       exact ⟨rfl, HBG.out.trans (HBR.out.mono HBG.out.size)⟩
  ·have hne : (er != 0) = true := by simpa using he
   go_wp2_with fail
   refine (fixed10_any _).mono ?_
   rintro e wf ⟨rfl, hbf⟩
   have HBF := Lib.hid (HBB.out.trans (hbf.mono HBB.out.size))
   clear hbf
   go_wp2_with fail
   go_ret
   exact ⟨rfl, HBF.out⟩
end Go.Proofs.Ytmeocdkiecknkaa.WCodecTold
namespace Go.Proofs.Ytmeocdkiecknkaa
open Go.RowKit Go.Proofs.YtmeocdkiecknkaaW.PrintWords Go.ChangeShapes Go.WideShapes
theorem cellsOf_u16a : Try.prog.cellsOf 50 = 1 := by kernel_rfl
theorem cellsOf_at2 : Try.prog.cellsOf 55 = 2 := by kernel_rfl
theorem okWide_arr {P : Program} {W : World} {r : Reach} {b0 : Nat} {t e : TypeId} {n : Nat} {v : Value} (ht : P.underlying t = some (.array n e)) (h : Value.okWide P W r b0 t v) : ∃ cs, v = .agg cs ∧ cs.size = P.cellsOf t := by
 simp only [Value.okWide, ht] at h
 obtain ⟨cs, h1, h2, _⟩ := h
 exact ⟨cs, h1, h2⟩
theorem u16_of {n : Int} (h : (Lit.int .u16 n).wf = true) : 0 ≤ n ∧ n < 65536 := by
 simp [Lit.wf, IntKind.min, IntKind.max, IntKind.signed, IntKind.bits] at h; omega
theorem trod_two {H : Type} {enc : TypeId × Value → H} {P : Program} {W : World} {base : Nat} {held : Bool} {t e : TypeId} {fuel : Nat} {c0 c1 : Value} {x : DataW H × List MemPlace} (ht : P.underlying t = some (.array 2 e)) (hce : P.cellsOf e = 1)
  (h : DataW.trod enc P W base (fun _ => true) held fuel t [c0, c1] = some x) : ∃ y0 y1 n, DataW.trod enc P W base (fun _ => true) held n e [c0] = some y0 ∧ DataW.trod enc P W base (fun _ => true) held n e [c1] = some y1 := by
 match fuel, h with
 | 0, h => simp [DataW.trod] at h
 | n + 1, h =>
  simp only [DataW.trod, ht, show List.range 2 = [0, 1] from rfl] at h
  have h0 : ∃ y0, DataW.trod enc P W base (fun _ => true) held n e [c0] = some y0 := by
   cases hh : DataW.trod enc P W base (fun _ => true) held n e [c0] with
   | none => simp [hce, hh] at h
   | some y => exact ⟨y, rfl⟩
  have h1 : ∃ y1, DataW.trod enc P W base (fun _ => true) held n e [c1] = some y1 := by
   obtain ⟨y0, h0⟩ := h0
   cases hh : DataW.trod enc P W base (fun _ => true) held n e [c1] with
   | none => simp [hce, h0, hh] at h
   | some y => exact ⟨y, rfl⟩
  obtain ⟨y0, h0⟩ := h0
  obtain ⟨y1, h1⟩ := h1
  exact ⟨y0, y1, n, h0, h1⟩
set_option maxRecDepth 100000 in
theorem open_t55 {H : Type} {enc : TypeId × Value → H} {W : World} {base : Nat} {held : Bool} {v : Value} {d : DataW H} {ps : List MemPlace} {r : Reach} {b0 : Nat} (hval : Value.okWide Try.prog W r b0 55 v) (h : DataW.Trod enc Try.prog W base (fun _ => true) held 55 v d ps) :
  ∃ x, WCodecTold.IsAt2 W v x := by
 obtain ⟨cs, rfl, hs⟩ := okWide_arr Try.underlying55 hval
 rw [cellsOf_at2] at hs
 obtain ⟨c0, c1, rfl⟩ : ∃ c0 c1, cs = #[c0, c1] := by
  obtain ⟨l⟩ := cs
  match l, hs with
  | [a, b], _ => exact ⟨a, b, rfl⟩
 obtain ⟨fuel, hf⟩ := h
 have hf' : DataW.trod enc Try.prog W base (fun _ => true) held fuel 55 [c0, c1] = some (d, ps) := hf
 obtain ⟨y0, y1, n, h0, h1⟩ := trod_two Try.underlying55 cellsOf_u16a hf'
 obtain ⟨m0, e0, _, g0⟩ := DataW.trod_int Try.underlying50 h0
 obtain ⟨m1, e1, _, g1⟩ := DataW.trod_int Try.underlying50 h1
 simp only [List.cons.injEq, and_true] at e0 e1
 subst e0 e1
 exact ⟨(m0, m1), rfl, u16_of g0, u16_of g1⟩
end Go.Proofs.Ytmeocdkiecknkaa
