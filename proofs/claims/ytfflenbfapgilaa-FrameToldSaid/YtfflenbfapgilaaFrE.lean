/- A whole frame is read as its payload, wherever it stands; cut off it is none. -/
import Derived.Test.YtfflenbfapgilaaFrD
set_option linter.unusedVariables false
set_option linter.unusedSimpArgs false
namespace Go.Proofs.Ytfflenbfapgilaa
open Go.RowKit Go.Proofs.YtfflenbfapgilaaW.PrintWords Go.Proofs.Ytfflenbfapgilaa.GVB

theorem cell_keep {W W' : World} {a : Addr} {v : Value} (hb : Below W.heap.size W W') (hc : W.cell? a = some v) : W'.cell? a = some v := by
  have hlt : a.block < W.heap.size := by
    unfold World.cell? at hc
    cases h : W.heap[a.block]? with
    | none => rw [h] at hc; cases hc
    | some o => exact (Array.getElem?_eq_some_iff.1 h).1
  rw [hb.cell hlt]; exact hc
theorem nats_app (u v : List Int) : nats (u ++ v) = nats u ++ nats v := by simp [nats]
/-- a blob behind others is read as it -/
theorem bget_blob (l : List Int) (s : ByteArray) (u : List Int) (lim : Int) (hs : s.size ≤ 1000000000) (hlim : (s.size : Int) ≤ lim) :
    bgetS (l ++ (blob s ++ u)) (l.length : Int) lim = (s, ((l.length + (blob s).length : Nat) : Int), 0) := by
  have hv := vb_len10 s.size (by omega)
  have hbl := blob_len s
  have hd : (nats (l ++ (blob s ++ u))).drop l.length = vb s.size ++ (nats (bytesOf s) ++ nats u) := by
    rw [nats_app, show l.length = (nats l).length by simp [nats], List.drop_left]
    unfold blob
    rw [nats_app, nats_app, nats_ints, List.append_assoc]
  have hg : getS (l ++ (blob s ++ u)) (l.length : Int) = ((s.size : Int), ((l.length + (vb s.size).length : Nat) : Int), 0) := by
    unfold getS
    rw [if_neg (by simp only [List.length_append]; omega), Int.toNat_natCast, hd, dec_vb0 _ _ (by omega)]
    rfl
  unfold bgetS
  rw [hg, if_neg (by simp), if_neg (by split <;> omega), if_neg (by simp only [List.length_append]; omega)]
  have e1 : (((l.length + (vb s.size).length : Nat) : Int)).toNat = (l ++ ints (vb s.size)).length := by rw [Int.toNat_natCast, List.length_append]; simp [ints]
  have e2 : ((s.size : Int)).toNat = (bytesOf s).length := by rw [Int.toNat_natCast, bytesOf_length]
  have e3 : ((l ++ (blob s ++ u)).take ((l ++ ints (vb s.size)).length + (bytesOf s).length)).drop (l ++ ints (vb s.size)).length = bytesOf s := by
    rw [show l ++ (blob s ++ u) = (l ++ ints (vb s.size)) ++ (bytesOf s ++ u) by unfold blob; simp only [List.append_assoc], List.take_append, List.take_of_length_le (by omega), List.drop_left, Nat.add_sub_cancel_left, List.take_left]
  simp only [e1, e2, e3, bytes_str]
  congr 2
  rw [hbl]
  omega
theorem frameS_len (s : ByteArray) : (frameS s).length = (blob s).length + 4 := by unfold frameS; rw [List.length_append]; rfl
theorem frameS_bytes (s : ByteArray) (hs : s.size ≤ 1000000000) : ∀ x ∈ frameS s, 0 ≤ x ∧ x < 256 := by
  intro x hx
  rcases List.mem_append.1 hx with hx | hx
  · exact blob_bytes s (by omega) x hx
  · exact crcB_byte _ x hx
theorem frameS_le (s : ByteArray) (hs : s.size ≤ 1000000000) : (frameS s).length ≤ s.size + 14 := by
  have := vb_len10 s.size (by omega)
  rw [frameS_len, blob_len]; omega
theorem blob_pos (s : ByteArray) : 1 ≤ (blob s).length := by
  have := List.length_pos_iff.2 (vb_ne s.size)
  rw [blob_len]; omega
/-- a frame behind others is read as its payload -/
theorem fget_frame (m : List Int) (s : ByteArray) (u : List Int) (hs : 1 ≤ s.size ∧ s.size ≤ 2048) (hm : ∀ x ∈ m, 0 ≤ x ∧ x < 256) (hu : ∀ x ∈ u, 0 ≤ x ∧ x < 256) :
    fgetS (m ++ (frameS s ++ u)) (m.length : Int) = (s, ((m.length + (frameS s).length : Nat) : Int), 0) := by
  have hb := bget_blob m s (crcB (Crc.sum (nats (blob s))) ++ u) 2048 (by omega) (by omega)
  have e : m ++ (blob s ++ (crcB (Crc.sum (nats (blob s))) ++ u)) = m ++ (frameS s ++ u) := by unfold frameS; simp only [List.append_assoc]
  rw [e] at hb
  have hfl := frameS_len s
  have hbp := blob_pos s
  have hd : (m ++ (frameS s ++ u)).drop m.length = frameS s ++ u := List.drop_left
  have hbd : ∀ x ∈ frameS s ++ u, 0 ≤ x ∧ x < 256 := by
    intro x hx
    rcases List.mem_append.1 hx with hx | hx
    · exact frameS_bytes s (by omega) x hx
    · exact hu x hx
  have hw : wholeB (frameS s ++ u) (((blob s).length : Nat) : Int) = true := by
    rw [wholeB_iff _ hbd _ (by rw [List.length_append]; omega)]
    have t1 : (frameS s ++ u).take (blob s).length = blob s := by
      unfold frameS
      rw [List.append_assoc, List.take_left]
    have t2 : ((frameS s ++ u).take ((blob s).length + 4)).drop (blob s).length = crcB (Crc.sum (nats (blob s))) := by
      rw [← hfl, List.take_left]
      unfold frameS
      rw [List.drop_left]
    rw [t1, t2]
  unfold fgetS
  rw [if_neg (by simp only [List.length_append]; omega), hb, if_neg (by simp), if_neg (by show ¬ s.size = 0; omega)]
  dsimp only
  rw [if_neg (by simp only [List.length_append]; omega), Int.toNat_natCast, hd, show ((m.length + (blob s).length : Nat) : Int) - (m.length : Int) = (((blob s).length : Nat) : Int) by omega, hw, if_neg (by decide), hfl]
  congr 2
theorem bytesOf_str (l : List Int) (hb : ∀ x ∈ l, 0 ≤ x ∧ x < 256) : bytesOf (strOfNums l) = l := by
  apply List.ext_getElem
  · rw [bytesOf_length, strOfNums_size]
  · intro i h1 h2
    have := hb l[i] (List.getElem_mem _)
    simp [bytesOf, strOfNums]
    omega
end Go.Proofs.Ytfflenbfapgilaa
