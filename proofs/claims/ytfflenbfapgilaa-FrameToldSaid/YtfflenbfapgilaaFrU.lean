/- Frames laid one behind the other: what is read of them, whole or cut off. -/
import Derived.Test.YtfflenbfapgilaaFrE
set_option linter.unusedVariables false
set_option linter.unusedSimpArgs false
namespace Go.Proofs.Ytfflenbfapgilaa
open Go.RowKit Go.Proofs.YtfflenbfapgilaaW.PrintWords Go.Proofs.Ytfflenbfapgilaa.GVB

/-- A payload. -/
def Pay (p : List Int) : Prop := 1 ≤ p.length ∧ p.length ≤ 200 ∧ ∀ x ∈ p, 0 ≤ x ∧ x < 256
def frs (ps : List (List Int)) : List Int := ps.flatMap frameL
def endsO : Nat → List (List Int) → List Int
  | _, [] => []
  | o, p :: ps => ((o + (frameL p).length : Nat) : Int) :: endsO (o + (frameL p).length) ps
def items : Nat → List (List Int) → List (ByteArray × Int)
  | _, [] => []
  | o, p :: ps => (strOfNums p, ((o + (frameL p).length : Nat) : Int)) :: items (o + (frameL p).length) ps
theorem frs_cons (p : List Int) (ps : List (List Int)) : frs (p :: ps) = frameL p ++ frs ps := rfl
theorem frs_append (ps qs : List (List Int)) : frs (ps ++ qs) = frs ps ++ frs qs := by unfold frs; rw [List.flatMap_append]
theorem items_len (ps : List (List Int)) : ∀ o, (items o ps).length = ps.length := by
  induction ps with
  | nil => intro o; rfl
  | cons p ps ih => intro o; rw [items, List.length_cons, List.length_cons, ih]
theorem endsO_len (ps : List (List Int)) : ∀ o, (endsO o ps).length = ps.length := by
  induction ps with
  | nil => intro o; rfl
  | cons p ps ih => intro o; rw [endsO, List.length_cons, List.length_cons, ih]
theorem items_get (ps : List (List Int)) : ∀ (o i : Nat) (p : List Int) (z : Int), ps[i]? = some p → (endsO o ps)[i]? = some z → (items o ps)[i]? = some (strOfNums p, z) := by
  induction ps with
  | nil => intro o i p z h; simp at h
  | cons q ps ih =>
    intro o i p z h1 h2
    match i with
    | 0 => simp [endsO] at h1 h2 ⊢; simp [items, h1, ← h2]
    | i + 1 =>
      rw [List.getElem?_cons_succ] at h1
      rw [endsO, List.getElem?_cons_succ] at h2
      rw [items, List.getElem?_cons_succ]
      exact ih _ _ _ _ h1 h2
theorem endsO_append (ps qs : List (List Int)) : ∀ o, endsO o (ps ++ qs) = endsO o ps ++ endsO (o + (frs ps).length) qs := by
  induction ps with
  | nil => intro o; rfl
  | cons p ps ih =>
    intro o
    rw [List.cons_append, endsO, endsO, ih, List.cons_append, frs_cons, List.length_append]
    congr 2
    rw [Nat.add_assoc]
theorem endsO_get (ps : List (List Int)) (i : Nat) (hi : i < ps.length) (o : Nat) : (endsO o ps)[i]? = some (((o + (frs (ps.take (i + 1))).length : Nat)) : Int) := by
  induction ps generalizing o i with
  | nil => simp at hi
  | cons p ps ih =>
    match i with
    | 0 => simp [endsO, frs]
    | i + 1 =>
      rw [endsO, List.getElem?_cons_succ, ih i (by simpa using hi), List.take_succ_cons, frs_cons, List.length_append]
      congr 2
      omega
theorem frameL_bytes (p : List Int) (h : Pay p) : ∀ x ∈ frameL p, 0 ≤ x ∧ x < 256 := frameS_bytes (strOfNums p) (by rw [strOfNums_size]; have := h.2.1; omega)
theorem frs_bytes (ps : List (List Int)) (h : ∀ p ∈ ps, Pay p) : ∀ x ∈ frs ps, 0 ≤ x ∧ x < 256 := by
  intro x hx
  obtain ⟨p, hp, hx⟩ := List.mem_flatMap.1 hx
  exact frameL_bytes p (h p hp) x hx
theorem frameL_le (p : List Int) (h : Pay p) : 6 ≤ (frameL p).length ∧ (frameL p).length ≤ 214 := by
  have h1 := frameS_le (strOfNums p) (by rw [strOfNums_size]; have := h.2.1; omega)
  have h2 := frameS_len (strOfNums p)
  have h3 := blob_len (strOfNums p)
  have h4 := List.length_pos_iff.2 (vb_ne (strOfNums p).size)
  rw [strOfNums_size] at h1 h3 h4
  rw [frameL_is]
  have := h.1
  have := h.2.1
  omega
theorem frs_le (ps : List (List Int)) (h : ∀ p ∈ ps, Pay p) : 6 * ps.length ≤ (frs ps).length ∧ (frs ps).length ≤ 214 * ps.length := by
  induction ps with
  | nil => simp [frs]
  | cons p ps ih =>
    have h1 := frameL_le p (h p (by simp))
    have h2 := ih (fun q hq => h q (by simp [hq]))
    rw [frs_cons, List.length_append, List.length_cons]; omega
theorem fget_at (m p u : List Int) (hp : Pay p) (hm : ∀ x ∈ m, 0 ≤ x ∧ x < 256) (hu : ∀ x ∈ u, 0 ≤ x ∧ x < 256) : fgetS (m ++ (frameL p ++ u)) (m.length : Int) = (strOfNums p, ((m.length + (frameL p).length : Nat) : Int), 0) :=
  fget_frame m (strOfNums p) u (by rw [strOfNums_size]; have := hp.1; have := hp.2.1; omega) hm hu
/-- whole frames are read, whatever stands behind them -/
theorem frun_frames (ps : List (List Int)) (h : ∀ p ∈ ps, Pay p) : ∀ (k : Nat) (m u : List Int), (∀ x ∈ m, 0 ≤ x ∧ x < 256) → (∀ x ∈ u, 0 ≤ x ∧ x < 256) →
    frunS (ps.length + k) (m ++ (frs ps ++ u)) (m.length : Int) = items m.length ps ++ frunS k (m ++ (frs ps ++ u)) ((m.length + (frs ps).length : Nat) : Int) := by
  induction ps with
  | nil => intro k m u _ _; simp [frs, items]
  | cons p ps ih =>
    intro k m u hm hu
    have hp := h p (by simp)
    have hps := fun q hq => h q (List.mem_cons_of_mem p hq)
    have hm' : ∀ x ∈ m ++ frameL p, 0 ≤ x ∧ x < 256 := by
      intro x hx
      rcases List.mem_append.1 hx with hx | hx
      · exact hm x hx
      · exact frameL_bytes p hp x hx
    have hu' : ∀ x ∈ frs ps ++ u, 0 ≤ x ∧ x < 256 := by
      intro x hx
      rcases List.mem_append.1 hx with hx | hx
      · exact frs_bytes ps hps x hx
      · exact hu x hx
    have e : m ++ (frs (p :: ps) ++ u) = m ++ (frameL p ++ (frs ps ++ u)) := by rw [frs_cons, List.append_assoc]
    have e2 : m ++ (frameL p ++ (frs ps ++ u)) = (m ++ frameL p) ++ (frs ps ++ u) := (List.append_assoc _ _ _).symm
    rw [e, List.length_cons, show ps.length + 1 + k = (ps.length + k) + 1 by omega, frunS, fget_at m p _ hp hm hu', if_pos rfl]
    dsimp only
    rw [e2, show m.length + (frameL p).length = (m ++ frameL p).length by rw [List.length_append], ih hps k (m ++ frameL p) u hm' hu, items, frs_cons, List.length_append, List.length_append, List.cons_append, Nat.add_assoc]
theorem bget_cut (pre : List Int) (s : ByteArray) (j : Nat) (lim : Int) (hs : s.size ≤ 1000000) (hlim : (s.size : Int) ≤ lim) (hj : j < (blob s).length) :
    (bgetS (pre ++ (blob s).take j) (pre.length : Int) lim).2.2 = 2 := by
  have hv := vb_len10 s.size (by omega)
  have hbl := blob_len s
  have hd : (nats (pre ++ (blob s).take j)).drop pre.length = (vb s.size ++ nats (bytesOf s)).take j := by
    rw [nats_app, show pre.length = (nats pre).length by simp [nats], List.drop_left]
    unfold blob
    rw [show nats ((ints (vb s.size) ++ bytesOf s).take j) = (nats (ints (vb s.size) ++ bytesOf s)).take j by simp [nats], nats_app, nats_ints]
  unfold bgetS
  by_cases h : j < (vb s.size).length
  · have hg : getS (pre ++ (blob s).take j) (pre.length : Int) = (0, 0, 2) := by
      unfold getS
      rw [if_neg (by simp only [List.length_append]; omega), Int.toNat_natCast, hd, List.take_append_of_le_length (by omega), dec_cut0 _ j (by omega) h]
      rfl
    rw [hg, if_pos (by decide)]
  · have hg : getS (pre ++ (blob s).take j) (pre.length : Int) = ((s.size : Int), ((pre.length + (vb s.size).length : Nat) : Int), 0) := by
      unfold getS
      rw [if_neg (by simp only [List.length_append]; omega), Int.toNat_natCast, hd, List.take_append, List.take_of_length_le (by omega), dec_vb0 _ _ (by omega)]
      rfl
    rw [hg, if_neg (by simp), if_neg (by split <;> omega), if_pos (by simp only [List.length_append, List.length_take]; omega)]
/-- a frame cut off is none -/
theorem fget_cut (m p : List Int) (j : Nat) (hp : Pay p) (hj : j < (frameL p).length) : (fgetS (m ++ (frameL p).take j) (m.length : Int)).2.2 ≠ 0 := by
  have hsz : (strOfNums p).size = p.length := strOfNums_size p
  have hfl := frameS_len (strOfNums p)
  rw [← frameL_is] at hfl
  have hp1 := hp.1
  have hp2 := hp.2.1
  have hlen : (m ++ (frameL p).take j).length = m.length + j := by rw [List.length_append, List.length_take]; omega
  unfold fgetS
  rw [hlen]
  by_cases h0 : j = 0
  · rw [if_pos (by omega)]; decide
  rw [if_neg (by omega)]
  by_cases h1 : j < (blob (strOfNums p)).length
  · have e : m ++ (frameL p).take j = m ++ (blob (strOfNums p)).take j := by unfold frameL; rw [List.take_append_of_le_length (by omega)]
    have := bget_cut m (strOfNums p) j 2048 (by omega) (by omega) h1
    rw [e, if_pos (by rw [this]; decide)]
    dsimp only
    rw [this]; decide
  · have e : m ++ (frameL p).take j = m ++ (blob (strOfNums p) ++ (crcB (Crc.sum (nats (blob (strOfNums p))))).take (j - (blob (strOfNums p)).length)) := by
      unfold frameL
      rw [List.take_append, List.take_of_length_le (by omega)]
    rw [e, bget_blob m (strOfNums p) _ 2048 (by omega) (by omega), if_neg (by simp), if_neg (by show ¬ (strOfNums p).size = 0; omega)]
    dsimp only
    rw [if_pos (by omega)]; decide
end Go.Proofs.Ytfflenbfapgilaa
