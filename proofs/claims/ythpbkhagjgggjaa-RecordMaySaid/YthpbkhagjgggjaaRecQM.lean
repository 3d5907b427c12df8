/- The law RecordMay holds, in plain Lean. -/
import Derived.Test.YthpbkhagjgggjaaRecF
import Derived.Test.YthpbkhagjgggjaaGRRx12
set_option linter.unusedVariables false
set_option linter.unusedSimpArgs false
namespace Go.Proofs.Ythpbkhagjgggjaa
open Go.RowKit Go.Proofs.YthpbkhagjgggjaaW.PrintWords Go.Proofs.Ythpbkhagjgggjaa.GRR

/-- The document's place. -/
def posI8 (l : List ByteArray) (s : ByteArray) : Int := if isIn l s then (posOf l s : Int) else -1
theorem place_l08 (l : List ByteArray) (hl : l.length ≤ 1000000) (s : ByteArray) : ∀ (d i k : Nat), l.length = i + d → d < k → s ∉ l.take i → tephraref07_Place.l0 k l s (i : Int) = some (posI8 l s) := by
  intro d
  induction d with
  | zero =>
    intro i k hi hk hn
    obtain ⟨k, rfl⟩ : ∃ m, k = m + 1 := ⟨k - 1, by omega⟩
    simp only [tephraref07_Place.l0]
    rw [if_neg (by omega)]
    rw [List.take_of_length_le (by omega)] at hn
    unfold posI8; rw [isIn_ne.2 hn]; rfl
  | succ d ih =>
    intro i k hi hk hn
    obtain ⟨k, rfl⟩ : ∃ m, k = m + 1 := ⟨k - 1, by omega⟩
    have hlt : i < l.length := by omega
    have hz : rdOf ByteArray.empty l (i : Int) = l[i] := by simp [rdOf, hlt]
    simp only [tephraref07_Place.l0]
    rw [if_pos (by omega), if_pos (by omega), hz, Lib.toList_data, Lib.toList_data]
    by_cases e : l[i].data.toList = s.data.toList
    · rw [if_pos e]
      have e2 : l[i] = s := ByteArray.ext (Array.ext' e)
      have hm : s ∈ l := by rw [← e2]; exact List.getElem_mem _
      unfold posI8
      rw [isIn_iff.2 hm, if_pos rfl]
      congr 1
      have h1 : l = l.take i ++ l.drop i := (List.take_append_drop i l).symm
      have h2 : posOf l s = (l.take i).length + posOf (l.drop i) s := by
        conv => lhs; rw [h1]
        exact posOf_app_not hn
      rw [List.length_take, List.drop_eq_getElem_cons hlt, e2] at h2
      have h3 : posOf (s :: l.drop (i + 1)) s = 0 := by unfold posOf; rw [List.findIdx_cons, sEq_refl]; rfl
      rw [h3] at h2
      omega
    · rw [if_neg e]
      have hw : wrap64 ((i : Int) + 1) = ((i + 1 : Nat) : Int) := by unfold wrap64; omega
      rw [hw]
      refine ih (i + 1) k (by omega) (by omega) ?_
      rw [List.take_succ_eq_append_getElem hlt, List.mem_append, List.mem_singleton]
      rintro (h | h)
      · exact hn h
      · exact e (by rw [h])
theorem place_is8 (l : List ByteArray) (hl : l.length ≤ 1000000) (s : ByteArray) (k : Nat) (hk : l.length < k) : tephraref07_Place.f k l s = some (posI8 l s) := by
  unfold tephraref07_Place.f
  exact place_l08 l hl s l.length 0 k (by omega) hk (by simp)
theorem posI8_ge (l : List ByteArray) (s : ByteArray) : posI8 l s ≥ 0 ↔ s ∈ l := by
  unfold posI8
  cases h : isIn l s with
  | true => simp; exact isIn_iff.1 h
  | false => simp; exact isIn_ne.1 h
theorem rput_is8 (l : List ByteArray) (hl : l.length ≤ 1000000) (s : ByteArray) (k : Nat) (hk : l.length < k) : tephraref07_Put.f k l s = some (tput l s) := by
  unfold tephraref07_Put.f
  rw [place_is8 l hl s k hk]
  simp only [Option.bind_some, List.nil_append, List.length_nil]
  by_cases hs : s ∈ l
  · rw [if_pos ((posI8_ge l s).2 hs), tput_in hs]
  · rw [if_neg (fun h => hs ((posI8_ge l s).1 h)), if_pos (by omega), if_pos (by omega), tput_out hs]
theorem rnew_is8 (ts : List ByteArray) (hl : ts.length ≤ 1000) : ∀ (d i k : Nat), ts.length = i + d → 2000 + d < k → tephraref07_New.l0 k ts (tnew (ts.take i)) (i : Int) = some (tnew ts) := by
  intro d
  induction d with
  | zero =>
    intro i k hi hk
    obtain ⟨k, rfl⟩ : ∃ m, k = m + 1 := ⟨k - 1, by omega⟩
    simp only [tephraref07_New.l0]
    rw [if_neg (by omega), List.take_of_length_le (by omega)]
  | succ d ih =>
    intro i k hi hk
    obtain ⟨k, rfl⟩ : ∃ m, k = m + 1 := ⟨k - 1, by omega⟩
    have hlt : i < ts.length := by omega
    have hz : rdOf ByteArray.empty ts (i : Int) = ts[i] := by simp [rdOf, hlt]
    have hln := tnew_len (ts.take i)
    rw [List.length_take] at hln
    simp only [tephraref07_New.l0]
    rw [if_pos (by omega), if_pos (by omega), hz, rput_is8 _ (by omega) _ _ (by omega)]
    simp only [Option.bind_some]
    have hw : wrap64 ((i : Int) + 1) = ((i + 1 : Nat) : Int) := by unfold wrap64; omega
    rw [hw, ← tnew_take ts i hlt]
    exact ih (i + 1) k (by omega) (by omega)

theorem fixed8_is : tephralaw08_fixed.f = some true := rfl
/-- the document's names -/
theorem names_l0 (a0 : Int) (t : ByteArray) (a2 : Int) (l : List S76) (a4 a5 : Int) (tag : ByteArray) (hl : l.length ≤ 900) : ∀ (d i k : Nat), l.length = i + d → 5000 + d < k →
    tephraref08_Names.l0 k (t :: (l.take i).map (·.f0)) (i : Int) a0 t a2 l a4 a5 tag = some (tnew (namesL t l tag)) := by
  intro d
  induction d with
  | zero =>
    intro i k hi hk
    obtain ⟨k, rfl⟩ : ∃ m, k = m + 1 := ⟨k - 1, by omega⟩
    rw [List.take_of_length_le (by omega)]
    simp only [tephraref08_Names.l0]
    rw [if_neg (by omega)]
    unfold namesL tephraref07_New.f
    split
    · rename_i h
      rw [List.append_nil]
      have := rnew_is8 (t :: l.map (·.f0)) (by simp; omega) (t :: l.map (·.f0)).length 0 k (by omega) (by simp; omega)
      rw [List.take_zero] at this
      have h0 : tephraref07_New.l0 k (t :: l.map (·.f0)) ([] : List ByteArray) 0 = some (tnew (t :: l.map (·.f0))) := this
      rw [h0]; rfl
    · rw [if_pos (by simp; omega)]
      have := rnew_is8 (t :: l.map (·.f0) ++ [tag]) (by simp; omega) (t :: l.map (·.f0) ++ [tag]).length 0 k (by omega) (by simp; omega)
      rw [List.take_zero] at this
      have h0 : tephraref07_New.l0 k (t :: l.map (·.f0) ++ [tag]) ([] : List ByteArray) 0 = some (tnew (t :: l.map (·.f0) ++ [tag])) := this
      rw [h0]; rfl
  | succ d ih =>
    intro i k hi hk
    obtain ⟨k, rfl⟩ : ∃ m, k = m + 1 := ⟨k - 1, by omega⟩
    have hlt : i < l.length := by omega
    simp only [tephraref08_Names.l0]
    rw [if_pos (by omega), if_pos (by omega), if_pos (by simp; omega), rd_dep l i hlt, wr1 i l.length hlt (by omega), List.cons_append, ← names_take hlt]
    exact ih (i + 1) k (by omega) (by omega)
theorem names_is (a0 : Int) (t : ByteArray) (a2 : Int) (l : List S76) (a4 a5 : Int) (tag : ByteArray) (hl : l.length ≤ 900) (k : Nat) (hk : 6000 < k) : tephraref08_Names.f k a0 t a2 l a4 a5 tag = some (tnew (namesL t l tag)) := by
  unfold tephraref08_Names.f
  exact names_l0 a0 t a2 l a4 a5 tag hl l.length 0 k (by omega) (by omega)
theorem same4_l0 (l : List ByteArray) (hl : l.length ≤ 1000000) : ∀ (d i k : Nat), l.length = i + d → d < k → tephraref04_Same.l0 k l l (i : Int) = some true := by
  intro d
  induction d with
  | zero =>
    intro i k hi hk
    obtain ⟨k, rfl⟩ : ∃ m, k = m + 1 := ⟨k - 1, by omega⟩
    simp only [tephraref04_Same.l0]
    rw [if_neg (by omega)]
  | succ d ih =>
    intro i k hi hk
    obtain ⟨k, rfl⟩ : ∃ m, k = m + 1 := ⟨k - 1, by omega⟩
    have hlt : i < l.length := by omega
    simp only [tephraref04_Same.l0]
    rw [if_pos (by omega), if_pos (by omega), if_pos (by omega), wr1 i l.length hlt (by omega), if_pos trivial]
    exact ih (i + 1) k (by omega) (by omega)
theorem same4_is (l : List ByteArray) (hl : l.length ≤ 1000000) (k : Nat) (hk : l.length < k) : tephraref04_Same.f k l l = some true := by
  unfold tephraref04_Same.f
  rw [if_pos rfl]
  exact same4_l0 l hl l.length 0 k (by omega) hk
theorem recordMay_true (v k0 : Int) (t : ByteArray) (rule : Int) (l : List S76) (out when : Int) (tag : ByteArray) (hl : l.length ≤ 9223372036854775807) :
    ∃ k, tephralaw08_RecordMay.f k v k0 t rule l out when tag = some true := by
  refine ⟨l.length + 1100000, ?_⟩
  obtain ⟨g, hg, hg2⟩ := great_is k0 t rule l out when tag hl (l.length + 1100000) (by omega)
  unfold tephralaw08_RecordMay.f
  rw [hg]
  simp only [Option.bind_some]
  cases g with
  | true => rw [if_pos rfl, fixed8_is]; rfl
  | false =>
    have hf := hg2 rfl
    have hn := hf.n
    rw [if_neg (by simp), fixed8_is]
    simp only [Option.bind_some]
    rw [if_pos trivial, record_May_is hf.ok]
    simp only [Option.bind_some]
    rw [ref_May_is v k0 t rule l out when tag hf.ok _ (by omega)]
    simp only [Option.bind_some]
    rw [if_pos (by simp), names_is k0 t rule l out when tag (by omega) _ (by omega)]
    have hnf : record_Names.f k0 t rule l out when tag = some (tnew (namesL t l tag)) := by
      unfold record_Names.f
      rw [if_pos ⟨hf.ok.n, hf.ok.d, hf.ok.t, hf.ok.tag⟩]
    rw [hnf]
    simp only [Option.bind_some]
    have hlen : (tnew (namesL t l tag)).length ≤ 1000 := by
      refine Nat.le_trans (tnew_len _) ?_
      unfold namesL
      split <;> simp <;> omega
    rw [same4_is _ (by omega) _ (by omega)]
    simp only [Option.bind_some]
    rw [if_pos trivial, name_is, rname_is]
    simp only [Option.bind_some]
    rw [if_pos (by simp), name_is, rname_is]
    simp
end Go.Proofs.Ythpbkhagjgggjaa
