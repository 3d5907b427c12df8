/- Texts laid as one by shake.py, cut to what the claim needs: SchV, SchN, RowR, SchM, WSchemaPuts. (Names that begin with W and the print's groups (G..x, G..z): laid by the kit's print, cut.) -/
import Derived.Test.YtfflenbfapgilaaZPt
import Derived.Test.YtfflenbfapgilaaZPx
import Derived.Test.YtfflenbfapgilaaZPk
import Derived.Test.YtfflenbfapgilaaZPe
import Derived.Lib.SlBytesConst
set_option linter.unusedVariables false
set_option linter.unusedSimpArgs false
namespace Go.Proofs.Ytfflenbfapgilaa
open Go.RowKit Go.Proofs.YtfflenbfapgilaaW.PrintWords Go.Proofs.Ytfflenbfapgilaa.GRR
theorem wf_u64 {n : Int} (h : (Lit.int .u64 n).wf = true) : 0 ≤ n ∧ n < 18446744073709551616 := by
 simp [Lit.wf, IntKind.min, IntKind.max, IntKind.signed, IntKind.bits] at h; omega
abbrev putR (v : Int) (T : List ByteArray) (r : Rec9) := putF v T r.1 r.2.1 r.2.2.1 r.2.2.2.1 r.2.2.2.2.1 r.2.2.2.2.2.1 r.2.2.2.2.2.2
abbrev mayR (v : Int) (r : Rec9) := mayB v r.1 r.2.1 r.2.2.1 r.2.2.2.1 r.2.2.2.2.1 r.2.2.2.2.2.1 r.2.2.2.2.2.2
structure NumR (r : Rec9) : Prop where
 r2 : 0 ≤ r.2.2.1 ∧ r.2.2.1 < 18446744073709551616
 o : 0 ≤ r.2.2.2.2.1 ∧ r.2.2.2.2.1 < 18446744073709551616
 w : 0 ≤ r.2.2.2.2.2.1 ∧ r.2.2.2.2.2.1 < 18446744073709551616
 d : ∀ d ∈ r.2.2.2.1, 0 ≤ d.f1 ∧ d.f1 < 18446744073709551616
theorem NumR.of {r : Rec9} (h : okRec r) : NumR r := ⟨wf_u64 h.2.2.1, wf_u64 h.2.2.2.2.1, wf_u64 h.2.2.2.2.2.1, fun d hd => wf_u64 (h.2.2.2.1.2 d hd).2.1⟩
structure GoodR (v : Int) (r : Rec9) : Prop where
 may : mayR v r = true
 num : NumR r
theorem putF_no {v : Int} {T : List ByteArray} {r : Rec9} (h : (putR v T r).2.2 ≠ 0) : (putR v T r).1 = [] ∧ (putR v T r).2.1 = T := by
 unfold putR putF at *
 split
 ·rename_i hv
  split
  ·rename_i hm
   rw [if_pos hv, if_pos hm] at h
   exact absurd rfl h
  ·exact ⟨rfl, rfl⟩
 ·exact ⟨rfl, rfl⟩
theorem putF_yes {v : Int} {T : List ByteArray} {r : Rec9} (h : (putR v T r).2.2 = 0) : mayR v r = true := by
 unfold putR putF at h
 split at h
 ·split at h
  ·rename_i hm; exact hm
  ·exact absurd h (show ¬ (1 : Int) = 0 by decide)
 ·exact absurd h (show ¬ (11 : Int) = 0 by decide)
theorem putF_may {v : Int} (T : List ByteArray) {r : Rec9} (h : mayR v r = true) : putR v T r = (moreE T (if 1 < v then tnewOn T (tnew (namesL r.2.1 r.2.2.2.1 r.2.2.2.2.2.2)) else T) ++ [lastE v (if 1 < v then tnewOn T (tnew (namesL r.2.1 r.2.2.2.1 r.2.2.2.2.2.2)) else T) r.1 r.2.1 r.2.2.1 r.2.2.2.1 r.2.2.2.2.1 r.2.2.2.2.2.1 r.2.2.2.2.2.2], (if 1 < v then tnewOn T (tnew (namesL r.2.1 r.2.2.2.1 r.2.2.2.2.2.2)) else T), 0) := by
 unfold putR putF
 rw [if_pos (may_facts h).ver, if_pos h]
structure PutFit (v : Int) (T : List ByteArray) (F : List (List Int) × List ByteArray × Int) : Prop where
 n0 : 1 ≤ F.1.length
 n1 : F.1.length ≤ 19
 t : F.2.1.length ≤ T.length + 18
 nd : F.2.1.Nodup
 b : ∀ p ∈ F.1, p.length ≤ 3000 ∧ ∀ x ∈ p, 0 ≤ x ∧ x < 256
 z : ∀ s ∈ F.2.1, s ∈ T ∨ s.size ≤ 64
theorem put_fit {v : Int} {T : List ByteArray} {r : Rec9} (hT : T.length ≤ 50000) (hd : T.Nodup) (h : GoodR v r) : PutFit v T (putR v T r) := by
 have M := may_facts h.may
 have hnw := names_few (x1 := r.2.1) (l := r.2.2.2.1) (x6 := r.2.2.2.2.2.2) M.t.2 M.n (fun d hd => (M.d d hd).2.1) M.tag.1
 have hby : ∀ p ∈ (putR v T r).1, ∀ x ∈ p, 0 ≤ x ∧ x < 256 := putF_bytes v T (by omega) r.1 (by have := M.k; omega) r.2.1 (by have := M.t; simp only [maxLen]; omega) r.2.2.1 h.num.r2.2 r.2.2.2.1 (by have := M.n; omega) (fun d hd => ⟨by have := (M.d d hd).2.1; simp only [maxLen]; omega, (h.num.d d hd).2⟩) r.2.2.2.2.1 r.2.2.2.2.2.1 h.num.o.2 h.num.w.2 r.2.2.2.2.2.2
 have e := putF_may T h.may
 obtain ⟨T', hT'⟩ : ∃ T', (if 1 < v then tnewOn T (tnew (namesL r.2.1 r.2.2.2.1 r.2.2.2.2.2.2)) else T) = T' := ⟨_, rfl⟩
 rw [hT'] at e
 have hlen : T'.length ≤ T.length + 18 := by
  rw [← hT']
  split
  ·have := tnewOn_len T (tnew (namesL r.2.1 r.2.2.2.1 r.2.2.2.2.2.2)); omega
  ·omega
 have hmem : ∀ s ∈ T', s ∈ T ∨ s.size ≤ 64 := by
  rw [← hT']
  split
  ·intro s hs
   rw [mem_tnewOn] at hs
   exact hs.imp id (hnw.2 s)
  ·exact fun s hs => .inl hs
 have hpre : ∃ m, T' = T ++ m := by
  rw [← hT']
  split
  ·exact tnewOn_prefix _ _
  ·exact ⟨[], by simp⟩
 have hnd : T'.Nodup := by
  rw [← hT']
  split
  ·exact tnewOn_nodup _ _ hd
  ·exact hd
 rw [e] at hby ⊢
 have hml : (moreE T T').length ≤ 18 := by unfold moreE; rw [List.length_map, List.length_drop]; omega
 refine ⟨by simp, by simp only [List.length_append, List.length_cons, List.length_nil]; omega, hlen, hnd, fun p hp => ⟨?_, hby p hp⟩, hmem⟩
 rcases List.mem_append.1 hp with hp | hp
 ·unfold moreE at hp
  obtain ⟨s, hs, rfl⟩ := List.mem_map.1 hp
  obtain ⟨m, hm⟩ := hpre
  rw [hm, List.drop_left] at hs
  have hs64 : s.size ≤ 64 := by
   have h1 := hmem s (by rw [hm]; exact List.mem_append_right _ hs)
   rcases h1 with h1 | h1
   ·rw [hm] at hnd
    exact absurd rfl ((List.nodup_append.1 hnd).2.2 s h1 s hs)
   ·exact h1
  unfold defE
  rw [List.length_cons, bytesOf_length]
  omega
 ·simp only [List.mem_singleton] at hp
  subst hp
  have h1 := textE_len v T' (by omega) r.2.1 M.t.2
  have h2 := bodyE_len v T' (by omega) r.2.2.1 r.2.2.2.1 r.2.2.2.2.1 r.2.2.2.2.2.1 r.2.2.2.2.2.2 M.n (fun d hd => ⟨(M.d d hd).2.1, (h.num.d d hd).2⟩) h.num.r2.2 h.num.o.2 h.num.w.2
  unfold lastE
  simp only [List.length_append, List.length_cons, List.length_nil]
  split
  ·simp only [List.length_nil]; omega
  ·omega
structure LayFit (l : List Rec9) (s : List (List Int) × List ByteArray) : Prop where
 n : s.1.length ≤ 19 * l.length
 t : s.2.length ≤ 18 * l.length
 nd : s.2.Nodup
 b : ∀ p ∈ s.1, p.length ≤ 3000 ∧ ∀ x ∈ p, 0 ≤ x ∧ x < 256
abbrev kFix (w : World) : Kd Rec9 := Kd.fixed kdRec w
structure RwA (w X : World) (S1 S2 : Nat → Prop) (g1 g2 : Nat) (T1 T2 : List ByteArray) (va vg : Value) (rows : List (List Int)) (good : List Rec9) : Prop where
 t1 : Tab X S1 g1 T1
 t2 : Tab X S2 g2 T2
 dj : ∀ k, S1 k → ¬ S2 k
 s1 : ∀ k, S1 k → w.heap.size ≤ k
 s2 : ∀ k, S2 k → w.heap.size ≤ k
 bl : Below w.heap.size w X
 ra : Kd.R kRows 22 X w.heap.size (fun k => ¬ S1 k ∧ ¬ S2 k) va rows
 rg : Kd.R (kFix w) 62 X w.heap.size (fun k => ¬ S1 k ∧ ¬ S2 k) vg good
section
variable {w X X' : World} {S1 S2 : Nat → Prop} {g1 g2 : Nat} {T1 T2 : List ByteArray} {va vg : Value} {rows : List (List Int)} {good : List Rec9}
theorem RwA.below (h : RwA w X S1 S2 g1 g2 T1 T2 va vg rows good) (hb : Below X.heap.size X X') : RwA w X' S1 S2 g1 g2 T1 T2 va vg rows good :=
 ⟨h.t1.keep (Kp.of_below hb (fun _ => False)) (fun _ _ h => h), h.t2.keep (Kp.of_below hb (fun _ => False)) (fun _ _ h => h), h.dj, h.s1, h.s2, h.bl.trans (hb.mono h.bl.size), Kd.R_below h.ra hb, Kd.R_below h.rg hb⟩
theorem R_two {α : Type} {d : Kd α} {e : Nat} {W1 W2 : World} {Sa Sb Sa' : Nat → Prop} {base : Nat} {v : Value} {xs : List α} (h : d.R e W1 base (fun k => ¬ Sa k ∧ ¬ Sb k) v xs) (hk : Kp W1 W2 Sa) (hs : ∀ k, Sa' k → Sa k ∨ W1.heap.size ≤ k) : d.R e W2 base (fun k => ¬ Sa' k ∧ ¬ Sb k) v xs :=
 Kd.R_mono (Kd.R_step (Kd.R_bound h) (fun k hk' hlt => hk.block k hlt hk'.1.1)) (fun k hk' => ⟨fun h2 => (hs k h2).elim hk'.1.1 (fun h3 => by have := hk'.2.2.1; omega), hk'.1.2⟩)
theorem RwA.wrote1 {S1' : Nat → Prop} {T' : List ByteArray} (h : RwA w X S1 S2 g1 g2 T1 T2 va vg rows good) (ht : Tab X' S1' g1 T') (hs : ∀ k, S1' k → S1 k ∨ X.heap.size ≤ k) (hk : Kp X X' S1) : RwA w X' S1' S2 g1 g2 T' T2 va vg rows good :=
 ⟨ht, h.t2.keep hk (fun k h2 h1 => h.dj k h1 h2), fun k h1 h2 => (hs k h1).elim (fun h3 => h.dj k h3 h2) (fun h3 => by have := h.t2.lt k h2; omega), fun k h1 => (hs k h1).elim (h.s1 k) (fun h3 => Nat.le_trans h.bl.size h3), h.s2,
  ((Kp.of_below h.bl S1).trans hk (fun k h1 => .inl h1)).to_below h.s1, R_two h.ra hk hs, R_two h.rg hk hs⟩
theorem RwA.swap (h : RwA w X S1 S2 g1 g2 T1 T2 va vg rows good) : RwA w X S2 S1 g2 g1 T2 T1 va vg rows good :=
 ⟨h.t2, h.t1, fun k h2 h1 => h.dj k h1 h2, h.s2, h.s1, h.bl, Kd.R_mono h.ra (fun k hk => ⟨hk.2, hk.1⟩), Kd.R_mono h.rg (fun k hk => ⟨hk.2, hk.1⟩)⟩
theorem RwA.wrote2 {S2' : Nat → Prop} {T' : List ByteArray} (h : RwA w X S1 S2 g1 g2 T1 T2 va vg rows good) (ht : Tab X' S2' g2 T') (hs : ∀ k, S2' k → S2 k ∨ X.heap.size ≤ k) (hk : Kp X X' S2) : RwA w X' S1 S2' g1 g2 T1 T' va vg rows good :=
 (h.swap.wrote1 ht hs hk).swap
end
end Go.Proofs.Ytfflenbfapgilaa
namespace Go.Proofs.Ytfflenbfapgilaa
open Go.RowKit Go.Proofs.YtfflenbfapgilaaW.PrintWords Go.Proofs.Ytfflenbfapgilaa.GRR
def posI8 (l : List ByteArray) (s : ByteArray) : Int := if isIn l s then (posOf l s : Int) else -1
theorem place_l08 (l : List ByteArray) (hl : l.length ≤ 1000000) (s : ByteArray) : ∀ (d i k : Nat), l.length = i + d → d < k → s ∉ l.take i → tephraref07_Place.l0 k l s (i : Int) = some (posI8 l s) := by
 intro d
 induction d with
 | zero =>
  intro i k hi hk hn
  obtain ⟨k, rfl⟩ : ∃ m, k = m + 1 := ⟨k - 1, by omega⟩
  simp only [tephraref07_Place.l0]
  rw [if_neg (by omega)]
  rw [List.take_of_length_le (by omega)] at hn
  unfold posI8; rw [isIn_ne.2 hn]; rfl
 | succ d ih =>
  intro i k hi hk hn
  obtain ⟨k, rfl⟩ : ∃ m, k = m + 1 := ⟨k - 1, by omega⟩
  have hlt : i < l.length := by omega
  have hz : rdOf ByteArray.empty l (i : Int) = l[i] := by simp [rdOf, hlt]
  simp only [tephraref07_Place.l0]
  rw [if_pos (by omega), if_pos (by omega), hz, Lib.toList_data, Lib.toList_data]
  by_cases e : l[i].data.toList = s.data.toList
  ·rw [if_pos e]
   have e2 : l[i] = s := ByteArray.ext (Array.ext' e)
   have hm : s ∈ l := by rw [← e2]; exact List.getElem_mem _
   unfold posI8
   rw [isIn_iff.2 hm, if_pos rfl]
   congr 1
   have h1 : l = l.take i ++ l.drop i := (List.take_append_drop i l).symm
   have h2 : posOf l s = (l.take i).length + posOf (l.drop i) s := by
    conv => lhs; rw [h1]
    exact posOf_app_not hn
   rw [List.length_take, List.drop_eq_getElem_cons hlt, e2] at h2
   have h3 : posOf (s :: l.drop (i + 1)) s = 0 := by unfold posOf; rw [List.findIdx_cons, sEq_refl]; rfl
   rw [h3] at h2
   omega
  ·rw [if_neg e]
   have hw : wrap64 ((i : Int) + 1) = ((i + 1 : Nat) : Int) := by unfold wrap64; omega
   rw [hw]
   refine ih (i + 1) k (by omega) (by omega) ?_
   rw [List.take_succ_eq_append_getElem hlt, List.mem_append, List.mem_singleton]
   rintro (h | h)
   ·exact hn h
   ·exact e (by rw [h])
theorem place_is8 (l : List ByteArray) (hl : l.length ≤ 1000000) (s : ByteArray) (k : Nat) (hk : l.length < k) : tephraref07_Place.f k l s = some (posI8 l s) := by
 unfold tephraref07_Place.f
 exact place_l08 l hl s l.length 0 k (by omega) hk (by simp)
theorem posI8_ge (l : List ByteArray) (s : ByteArray) : posI8 l s ≥ 0 ↔ s ∈ l := by
 unfold posI8
 cases h : isIn l s with
 | true => simp; exact isIn_iff.1 h
 | false => simp; exact isIn_ne.1 h
theorem rput_is8 (l : List ByteArray) (hl : l.length ≤ 1000000) (s : ByteArray) (k : Nat) (hk : l.length < k) : tephraref07_Put.f k l s = some (tput l s) := by
 unfold tephraref07_Put.f
 rw [place_is8 l hl s k hk]
 simp only [Option.bind_some, List.nil_append, List.length_nil]
 by_cases hs : s ∈ l
 ·rw [if_pos ((posI8_ge l s).2 hs), tput_in hs]
 ·rw [if_neg (fun h => hs ((posI8_ge l s).1 h)), if_pos (by omega), if_pos (by omega), tput_out hs]
theorem rnew_is8 (ts : List ByteArray) (hl : ts.length ≤ 1000) : ∀ (d i k : Nat), ts.length = i + d → 2000 + d < k → tephraref07_New.l0 k ts (tnew (ts.take i)) (i : Int) = some (tnew ts) := by
 intro d
 induction d with
 | zero =>
  intro i k hi hk
  obtain ⟨k, rfl⟩ : ∃ m, k = m + 1 := ⟨k - 1, by omega⟩
  simp only [tephraref07_New.l0]
  rw [if_neg (by omega), List.take_of_length_le (by omega)]
 | succ d ih =>
  intro i k hi hk
  obtain ⟨k, rfl⟩ : ∃ m, k = m + 1 := ⟨k - 1, by omega⟩
  have hlt : i < ts.length := by omega
  have hz : rdOf ByteArray.empty ts (i : Int) = ts[i] := by simp [rdOf, hlt]
  have hln := tnew_len (ts.take i)
  rw [List.length_take] at hln
  simp only [tephraref07_New.l0]
  rw [if_pos (by omega), if_pos (by omega), hz, rput_is8 _ (by omega) _ _ (by omega)]
  simp only [Option.bind_some]
  have hw : wrap64 ((i : Int) + 1) = ((i + 1 : Nat) : Int) := by unfold wrap64; omega
  rw [hw, ← tnew_take ts i hlt]
  exact ih (i + 1) k (by omega) (by omega)
theorem names_l0 (a0 : Int) (t : ByteArray) (a2 : Int) (l : List S113) (a4 a5 : Int) (tag : ByteArray) (hl : l.length ≤ 900) : ∀ (d i k : Nat), l.length = i + d → 5000 + d < k →
  tephraref08_Names.l0 k (t :: (l.take i).map (·.f0)) (i : Int) a0 t a2 l a4 a5 tag = some (tnew (namesL t l tag)) := by
 intro d
 induction d with
 | zero =>
  intro i k hi hk
  obtain ⟨k, rfl⟩ : ∃ m, k = m + 1 := ⟨k - 1, by omega⟩
  rw [List.take_of_length_le (by omega)]
  simp only [tephraref08_Names.l0]
  rw [if_neg (by omega)]
  unfold namesL tephraref07_New.f
  split
  ·rename_i h
   rw [List.append_nil]
   have := rnew_is8 (t :: l.map (·.f0)) (by simp; omega) (t :: l.map (·.f0)).length 0 k (by omega) (by simp; omega)
   rw [List.take_zero] at this
   have h0 : tephraref07_New.l0 k (t :: l.map (·.f0)) ([] : List ByteArray) 0 = some (tnew (t :: l.map (·.f0))) := this
   rw [h0]; rfl
  ·rw [if_pos (by simp; omega)]
   have := rnew_is8 (t :: l.map (·.f0) ++ [tag]) (by simp; omega) (t :: l.map (·.f0) ++ [tag]).length 0 k (by omega) (by simp; omega)
   rw [List.take_zero] at this
   have h0 : tephraref07_New.l0 k (t :: l.map (·.f0) ++ [tag]) ([] : List ByteArray) 0 = some (tnew (t :: l.map (·.f0) ++ [tag])) := this
   rw [h0]; rfl
 | succ d ih =>
  intro i k hi hk
  obtain ⟨k, rfl⟩ : ∃ m, k = m + 1 := ⟨k - 1, by omega⟩
  have hlt : i < l.length := by omega
  simp only [tephraref08_Names.l0]
  rw [if_pos (by omega), if_pos (by omega), if_pos (by simp; omega), rd_dep l i hlt, wr1 i l.length hlt (by omega), List.cons_append, ← names_take hlt]
  exact ih (i + 1) k (by omega) (by omega)
theorem names_is (a0 : Int) (t : ByteArray) (a2 : Int) (l : List S113) (a4 a5 : Int) (tag : ByteArray) (hl : l.length ≤ 900) (k : Nat) (hk : 6000 < k) : tephraref08_Names.f k a0 t a2 l a4 a5 tag = some (tnew (namesL t l tag)) := by
 unfold tephraref08_Names.f
 exact names_l0 a0 t a2 l a4 a5 tag hl l.length 0 k (by omega) (by omega)
theorem atI_pos {T : List ByteArray} {s : ByteArray} (h : s ∈ T) : posI8 T s = atI T s := by unfold posI8 atI; rw [isIn_iff.2 h]; rfl
theorem rtput_any (A : Option Addr) (c : Nat) (T : List ByteArray) (s : ByteArray) (W : World) (hC : Kd.C Kd.string W A T.length T) (hc : T.length ≤ c) (hT : T.length ≤ 1000000) :
  Calls Try.prog 69 #[.slice A T.length c, .string s] W fun e W' => ∃ A' c', e = .returned (.slice A' (tput T s).length c') ∧ (tput T s).length ≤ c' ∧ Kd.C Kd.string W' A' (tput T s).length (tput T s) ∧ Below W.heap.size W W' ∧ (s ∉ T → Kd.R Kd.string 9 W' W.heap.size (fun _ => True) (.slice A' (tput T s).length c') (tput T s)) := by
 have HP := Lib.hid (tephraref07_Place.calls (T.length + 1) A c T s (posI8 T s) W hC hc (place_is8 T hT s _ (by omega)))
 have HC := Lib.hid hC
 have hge := posI8_ge T s
 by_cases hs : s ∈ T
 ·rw [tput_in hs]
  have hd : decide (0 ≤ posI8 T s) = true := decide_eq_true (hge.2 hs)
  have HIN := Lib.hid hs
  clear hC hge hs
  generalize posI8 T s = q at *
  go_enter Try.func69, Try.ntmps69
  go_wp2_with fail
  refine HP.out.mono ?_
  rintro e w1 ⟨rfl, hdr⟩
  have hb := hdr.below
  have HB := Lib.hid hb
  clear hdr hb HP
  go_wp2_with fail
  go_ret
  exact ⟨A, c, rfl, hc, Kd.C_below HC.out HB.out, HB.out, fun h => absurd HIN.out h⟩
 ·rw [tput_out hs]
  have hd : decide (0 ≤ posI8 T s) = false := decide_eq_false (fun h => hs (hge.1 h))
  clear hC hge hs
  generalize posI8 T s = q at *
  go_enter Try.func69, Try.ntmps69
  go_wp2_with fail
  refine HP.out.mono ?_
  rintro e w1 ⟨rfl, hdr⟩
  have hb := hdr.below
  have HB := Lib.hid hb
  clear hdr hb HP
  go_wp2_with (at_builtin; refine Halt.mk ?_)
  refine Halt.of ?_
  have hb2 : Below w1.heap.size w1 (w1.alloc (.cells #[] 9)) := (Below.refl _ _).alloc (Nat.le_refl _) _
  have hR2 := R_empty Kd.string (w1.alloc (.cells #[] 9)) w1.heap.size w1.heap.size 9 (fun _ => True) (heap_new _ _) (Nat.le_refl _) trivial
  have HC2 := Kd.C_below (Kd.C_below HC.out HB.out) hb2
  refine Kd.R_append_rows Kd.string (w0 := w1) w1.heap.size rfl (.tmp 10) (.tmp 11) 45 9 (.string ⟨#[]⟩) 16 rfl Try.underlying45 info_str9 rfl (by decide) (by omega) _ [] T _ _ _ (fun _ => True) (fun _ => False) rfl rfl hR2 HC2 ?_ (fun _ h => h.elim) (fun _ _ => trivial) hb2 hb2.size (by simp only [List.length_nil]; omega) ?_
  ·intro x cs h; exact h
  intro v3 w3 hR3 hb3 _ _
  rw [List.nil_append] at hR3
  have HR3 := Lib.hid hR3
  have HB3 := Lib.hid hb3
  obtain ⟨A3, c3, rfl⟩ := Kd.R_slice hR3
  clear hR3 hb3 hR2 HC2 hb2
  go_wp2_with (at_builtin; refine Halt.mk ?_)
  refine Halt.of ?_
  have hb4 : Below w3.heap.size w3 (w3.alloc (.cells #[.string s] 9)) := (Below.refl _ _).alloc (Nat.le_refl _) _
  have hk4 : (w3.alloc (.cells #[.string s] 9)).heap[w3.heap.size]? = some (.cells #[.string s] 9 (0, 0)) := heap_new _ _
  have hB4 := HB3.out.trans (hb4.mono HB3.out.size)
  refine Kd.R_append_rows Kd.string (w0 := w1) w1.heap.size rfl (.tmp 12) (.tmp 14) 45 9 (.string ⟨#[]⟩) 16 rfl Try.underlying45 info_str9 rfl (by decide) (by omega) _ T [s] _ _ _ (fun _ => True) (fun _ => False) rfl rfl (Kd.R_below HR3.out hb4) (row_val s hk4) ?_ (fun _ h => h.elim) (fun _ _ => trivial) hB4 hB4.size (by omega) ?_
  ·rintro _ _ ⟨rfl, rfl⟩; rfl
  intro v5 w5 hR5 hb5 _ _
  obtain ⟨A5, c5, rfl⟩ := Kd.R_slice hR5
  have HR5 := Lib.hid (Kd.R_reads' hR5)
  have HRR := Lib.hid (Kd.R_lower hR5 HB.out.size)
  have HB5 := Lib.hid (HB.out.trans (hb5.mono HB.out.size))
  clear hR5 hb5 hb4 hk4 hB4
  go_wp2_with fail
  go_ret
  have hl5 : (T ++ [s]).length = T.length + 1 := by simp
  exact ⟨A5, c5, rfl, hl5 ▸ HR5.out.2.1, hl5 ▸ HR5.out.2.2, HB5.out, fun _ => by have := HRR.out; rwa [hl5] at this⟩
theorem rtext9_any (v : Int) (A : Option Addr) (c : Nat) (T : List ByteArray) (s : ByteArray) (W : World) (hC : Kd.C Kd.string W A T.length T) (hc : T.length ≤ c) (hT : T.length ≤ 1000000) (hs : s.size ≤ 1000000) (hin : v ≠ 1 → s ∈ T) :
  Calls Try.prog 71 #[.int .i64 v, .slice A T.length c, .string s] W fun e W' => e = .returned (.string (strOfNums (textE v T s))) ∧ Below W.heap.size W W' := by
 by_cases hv : v = 1
 ·have hd : decide (v = 1) = true := decide_eq_true hv
  have hd2 : (v == 1) = true := by simp [hv]
  have HB := Lib.hid (rbput_any s (by omega))
  unfold textE
  rw [if_pos hv]
  clear hC hin hv
  go_enter Try.func71, Try.ntmps71
  go_wp2_with fail
  refine (HB.out _).mono ?_
  rintro e w1 ⟨rfl, hb⟩
  go_wp2_with fail
  go_ret
  exact ⟨rfl, hb⟩
 ·have hd : decide (v = 1) = false := decide_eq_false hv
  have hd2 : (v == 1) = false := by simp [hv]
  have hs2 := hin hv
  have HP := Lib.hid (tephraref07_Place.calls (T.length + 1) A c T s (posI8 T s) W hC hc (place_is8 T hT s _ (by omega)))
  rw [atI_pos hs2] at HP
  have hbd := atI_bd T s hT
  obtain ⟨q, hq⟩ : ∃ q : Nat, atI T s = (q : Int) := ⟨(atI T s).toNat, by omega⟩
  have HPU := Lib.hid (refput_any q (by omega))
  unfold textE numE
  rw [if_neg hv]
  rw [hq] at HP hbd ⊢
  rw [Int.toNat_natCast]
  have hw : IntKind.u64.wrap (q : Int) = (q : Int) := by rw [IntKind.wrap_u64]; omega
  clear hC hin hv hs2 hq hbd
  go_enter Try.func71, Try.ntmps71
  go_wp2_with fail
  refine HP.out.mono ?_
  rintro e w1 ⟨rfl, hdr⟩
  have hb1 := hdr.below
  have HB1 := Lib.hid hb1
  clear hdr hb1 HP
  go_wp2_with fail
  refine (HPU.out w1).mono ?_
  rintro e w2 ⟨rfl, hb⟩
  go_wp2_with fail
  go_ret
  exact ⟨rfl, HB1.out.trans (hb.mono HB1.out.size)⟩
end Go.Proofs.Ytfflenbfapgilaa
namespace Go.Proofs.Ytfflenbfapgilaa
open Go.RowKit Go.Proofs.YtfflenbfapgilaaW.PrintWords Go.Proofs.Ytfflenbfapgilaa.GRR
def rowRw (r2 r6 : Option Nat) (i : Nat) : Option Nat := match i with
 | 2 => r2
 | 6 => r6
 | _ => none
theorem rowRw_ne {r2 r6 : Option Nat} (i q : Nat) (h2 : i ≠ 2 ∨ some q ≠ r2) (h6 : i ≠ 6 ∨ some q ≠ r6) : some q ≠ rowRw r2 r6 i := by
 unfold rowRw
 split
 ·exact h2.resolve_left (fun h => h rfl)
 ·exact h6.resolve_left (fun h => h rfl)
 ·simp
structure RestRw (r2 r6 : Option Nat) (wc X : World) : Prop where
 size : wc.heap.size ≤ X.heap.size
 eq : ∀ q, q < wc.heap.size → some q ≠ r2 → some q ≠ r6 → X.heap[q]? = wc.heap[q]?
theorem RestRw.step {r2 r6 : Option Nat} {wc X X' : World} (h : RestRw r2 r6 wc X) {i : Nat} (hg : X.grownBy X' (rowRw r2 r6 i)) (hs : X.heap.size ≤ X'.heap.size) : RestRw r2 r6 wc X' :=
 ⟨Nat.le_trans h.size hs, fun q hq h2 h6 => (hg.block q (Nat.lt_of_lt_of_le hq h.size) (rowRw_ne i q (.inr h2) (.inr h6))).trans (h.eq q hq h2 h6)⟩
theorem own_typed_R {α : Type} {d : Kd α} {e base : Nat} {ok : Nat → Prop} {W : World} {v : Value} {xs : List α} (h : d.R e W base ok v xs) : ∀ k, v.ownBlock = some k → base ≤ k ∧ k < W.heap.size ∧ ∃ C, W.heap[k]? = some (.cells C e (0, 0)) := by
 intro k hk
 obtain ⟨inner, ho⟩ := Kd.R_own h
 exact ⟨own_base ho k hk, own_lt ho k hk, own_typed ho k hk⟩
end Go.Proofs.Ytfflenbfapgilaa
namespace Go.Proofs.Ytfflenbfapgilaa
open Go.RowKit Go.Proofs.YtfflenbfapgilaaW.PrintWords Go.Proofs.Ytfflenbfapgilaa.GRR
def RPutPost (W : World) (A : Option Addr) (c : Nat) (T : List ByteArray) (F : List (List Int) × List ByteArray × Int) (e : Ending) (W' : World) : Prop :=
 ∃ v1 A' c', e = .returned (.tuple #[v1, .slice A' F.2.1.length c', .int .i64 F.2.2]) ∧ Kd.R Kd.string 9 W' W.heap.size (fun _ => True) v1 (F.1.map strOfNums) ∧ F.2.1.length ≤ c' ∧ Kd.C Kd.string W' A' F.2.1.length F.2.1 ∧ Below W.heap.size W W' ∧ ((A' = A ∧ c' = c ∧ F.2.1 = T) ∨ Kd.R Kd.string 9 W' W.heap.size (fun _ => True) (.slice A' F.2.1.length c') F.2.1)
theorem add_str (a b : List Int) (h : a.length + b.length ≤ 1000000) (W : World) : (Op.stringOp .add (strOfNums a) (strOfNums b)).run Try.prog W = .ok (.string (strOfNums (a ++ b))) W := by
 rw [strOfNums_app]
 exact run_string_add_sum W _ _ (by rw [strOfNums_size, strOfNums_size]; omega)
theorem add_def (s : ByteArray) (h : s.size ≤ 1000000) (W : World) : (Op.stringOp .add ⟨#[0]⟩ s).run Try.prog W = .ok (.string (strOfNums (defE s))) W := by
 have e : strOfNums (defE s) = ⟨#[0]⟩ ++ s := by
  unfold defE
  rw [show (0 :: bytesOf s) = [0] ++ bytesOf s from rfl, strOfNums_app, bytes_str]
  rfl
 rw [e]
 exact run_string_add_sum W _ _ (by show 1 + s.size ≤ _; omega)
theorem put1_any (n : Int) (h : 0 ≤ n ∧ n < 18446744073709551616) (W : World) : Calls Try.prog 70 #[.int .u64 n] W fun e w' => e = .returned (.string (strOfNums (ints (vb n.toNat)))) ∧ Below W.heap.size W w' := by
 have := refput_any n.toNat (by omega) W
 rwa [Int.toNat_of_nonneg h.1] at this
structure RPSt (W X : World) (b5 : Nat) (rec : Array Value) (A : Option Addr) (c : Nat) (T : List ByteArray) (tv : Value) (L : List ByteArray) (ov : Value) (rows : List (List Int)) (nv : Value) (ns : List ByteArray) : Prop where
 bl : Below W.heap.size W X
 box : X.heap[b5]? = some (.cells rec 62 (0, 0))
 ini : Kd.C Kd.string W A T.length T ∧ T.length ≤ c
 tb : (L = T ∧ tv = .slice A T.length c) ∨ Kd.R Kd.string 9 X W.heap.size (fun k => some k ≠ ov.ownBlock) tv L
 rw : Kd.R Kd.string 9 X W.heap.size (fun _ => True) ov (rows.map strOfNums)
 nm : Kd.R Kd.string 9 X W.heap.size (fun k => some k ≠ ov.ownBlock) nv ns
section
variable {W X X' : World} {b5 : Nat} {rec : Array Value} {A : Option Addr} {c : Nat} {T : List ByteArray} {tv : Value} {L : List ByteArray} {ov : Value} {rows : List (List Int)} {nv : Value} {ns : List ByteArray}
theorem RPSt.tab (h : RPSt W X b5 rec A c T tv L ov rows nv ns) : ∃ A' c', tv = .slice A' L.length c' ∧ L.length ≤ c' ∧ Kd.C Kd.string X A' L.length L := by
 rcases h.tb with ⟨rfl, e⟩ | hR
 ·exact ⟨A, c, e, h.ini.2, Kd.C_below h.ini.1 h.bl⟩
 ·obtain ⟨A', c', e, h1, h2⟩ := Kd.R_reads hR
  exact ⟨A', c', e, h1, h2⟩
theorem RPSt.below (h : RPSt W X b5 rec A c T tv L ov rows nv ns) (hb : Below X.heap.size X X') : RPSt W X' b5 rec A c T tv L ov rows nv ns :=
 ⟨h.bl.trans (hb.mono h.bl.size), blk_below h.box hb, h.ini, h.tb.imp id (fun hR => Kd.R_below hR hb), Kd.R_below h.rw hb, Kd.R_below h.nm hb⟩
theorem RPSt.pushed {ov' : Value} {rows' : List (List Int)} (h : RPSt W X b5 rec A c T tv L ov rows nv ns) (hR : Kd.R Kd.string 9 X' W.heap.size (fun _ => True) ov' (rows'.map strOfNums)) (hB : Below W.heap.size W X') (hg : X.grownBy X' ov.ownBlock) (hat : ov'.ownBlock = ov.ownBlock ∨ ∃ b, ov'.ownBlock = some b ∧ X.heap.size ≤ b) : RPSt W X' b5 rec A c T tv L ov' rows' nv ns := by
 have keep : ∀ {v : Value} {xs : List ByteArray}, Kd.R Kd.string 9 X W.heap.size (fun k => some k ≠ ov.ownBlock) v xs → Kd.R Kd.string 9 X' W.heap.size (fun k => some k ≠ ov'.ownBlock) v xs := fun hT => by
  refine Kd.R_mono (Kd.R_grown (Kd.R_bound hT) hg (fun k hk => hk.1)) (fun k hk e => ?_)
  rcases hat with hat | ⟨b, hb, hle⟩
  ·rw [hat] at e; exact hk.1 e
  ·rw [hb] at e
   injection e with e
   have := hk.2.2.1
   omega
 refine ⟨hB, (hg.block b5 (blk_lt h.box) (fun e => ?_)).trans h.box, h.ini, h.tb.imp id (fun hT => keep hT), hR, keep h.nm⟩
 ·obtain ⟨_, _, C, hC⟩ := own_typed_R h.rw b5 e.symm
  rw [h.box] at hC
  injection hC with hC
  injection hC with _ hC
  exact absurd hC (by decide)
theorem RPSt.tabled {tv' : Value} {L' : List ByteArray} (h : RPSt W X b5 rec A c T tv L ov rows nv ns) (hb : Below X.heap.size X X') (hR : Kd.R Kd.string 9 X' X.heap.size (fun _ => True) tv' L') : RPSt W X' b5 rec A c T tv' L' ov rows nv ns :=
 ⟨h.bl.trans (hb.mono h.bl.size), blk_below h.box hb, h.ini, .inr (Kd.R_mono (Kd.R_lower (Kd.R_bound hR) h.bl.size) (fun k hk e => by have := (own_typed_R h.rw k e.symm).2.1; have := hk.2.1; omega)), Kd.R_below h.rw hb, Kd.R_below h.nm hb⟩
end
set_option maxHeartbeats 8000000 in
set_option maxRecDepth 100000 in
theorem rput9_1 (Wq : World) (v : Int) (A2 : Option Addr) (c2 : Nat) (T2 : List ByteArray) (hC : Kd.C Kd.string Wq A2 T2.length T2) (hc : T2.length ≤ c2) (hT : T2.length ≤ 100000) (k0 : Int) (x1 : ByteArray) (x2 : Int) (B : Option Addr) (d : Nat) (l : List S113) (x4 x5 : Int) (x6 : ByteArray)
  (hrow : Kd.C k113 Wq B l.length l) (hd : l.length ≤ d) (hok : RecOk x1 l x6) (hv : v = 1) (hm : mayB v k0 x1 x2 l x4 x5 x6 = true) (h2 : 0 ≤ x2 ∧ x2 < 18446744073709551616) (h4 : 0 ≤ x4 ∧ x4 < 18446744073709551616) (h5 : 0 ≤ x5 ∧ x5 < 18446744073709551616) (hdr : ∀ y ∈ l, 0 ≤ y.f1 ∧ y.f1 < 18446744073709551616) :
  Calls Try.prog 33 #[.int .i64 v, .slice A2 T2.length c2, .agg #[.int .i64 k0, .string x1, .int .u64 x2, .slice B l.length d, .int .u64 x4, .int .u64 x5, .string x6]] Wq (RPutPost Wq A2 c2 T2 (putF v T2 k0 x1 x2 l x4 x5 x6)) := by
 have hpf : putF v T2 k0 x1 x2 l x4 x5 x6 = ((moreE T2 T2) ++ [lastE v T2 k0 x1 x2 l x4 x5 x6], T2, 0) := by
  unfold putF
  rw [if_pos (show 1 ≤ v ∧ v ≤ 3 by omega), if_pos hm]
  rw [if_neg (show ¬ 1 < v by omega)]
 rw [hpf]
 obtain ⟨wz, hwz⟩ : ∃ wz, (Wq.alloc (.cells #[.int .i64 k0, .string x1, .int .u64 x2, .slice B l.length d, .int .u64 x4, .int .u64 x5, .string x6] 62)).alloc (.cells #[] 9) = wz := ⟨_, rfl⟩
 have hbz : Below Wq.heap.size Wq wz := by rw [← hwz]; exact ((Below.refl _ _).alloc (Nat.le_refl _) _).alloc (by rw [heap_size_alloc]; omega) _
 have hkz : wz.heap[Wq.heap.size]? = some (.cells #[.int .i64 k0, .string x1, .int .u64 x2, .slice B l.length d, .int .u64 x4, .int .u64 x5, .string x6] 62 (0, 0)) := by rw [← hwz, heap_new_old _ _ _ (by rw [heap_size_alloc]; omega)]; exact heap_new _ _
 have hke : wz.heap[Wq.heap.size + 1]? = some (.cells #[] 9 (0, 0)) := by rw [← hwz]; exact heap_new2 _ _ _
 obtain ⟨b5, hb5⟩ : ∃ b, Wq.heap.size = b := ⟨_, rfl⟩
 rw [hb5] at hkz hke
 have hre := R_empty Kd.string wz Wq.heap.size (b5 + 1) 9 (fun _ => True) hke (by omega) trivial
 have M := may_facts hm
 have HMY := Lib.hid (tephraref08_May.calls 9100000 v k0 x1 x2 B d l x4 x5 x6 _ wz (Kd.C_below hrow hbz) hd (ref_May_is v k0 x1 x2 l x4 x5 x6 hok _ (Nat.le_refl _)))
 rw [hm] at HMY
 have HC := Lib.hid hC
 have HRO := Lib.hid hrow
 have HBZ := Lib.hid hbz
 have HKZ := Lib.hid hkz
 have HWZ := Lib.hid hwz
 have HREZ := Lib.hid hre
 have HB5 := Lib.hid hb5
 have HM := Lib.hid M
 have HR2 := Lib.hid h2
 have HR4 := Lib.hid h4
 have HR5 := Lib.hid h5
 have HDR := Lib.hid hdr
 have HV := Lib.hid hv
 have HKW := Lib.hid (show IntKind.u64.wrap k0 = k0 by have := M.k; rw [IntKind.wrap_u64]; omega)
 have HLW := Lib.hid (show IntKind.u64.wrap (l.length : Int) = (l.length : Int) by have := M.n; rw [IntKind.wrap_u64]; omega)
 have hln : l.length ≤ 16 := M.n
 have d1 : decide (v < 1) = false := decide_eq_false (by omega)
 have d3 : decide (3 < v) = false := decide_eq_false (by omega)
 have d2 : decide (1 < v) = false := decide_eq_false (by omega)
 have d4 : decide (v < 3) = true := decide_eq_true (by omega)
 have d5 : decide (2 < v) = false := decide_eq_false (by omega)
 clear hpf hC hrow hbz hkz hke hre hwz hb5 M h2 h4 h5 hdr hm hv hok
 go_enter Try.func33, Try.ntmps33
 go_wp2_with fail
 rw [HWZ.out, HB5.out]
 refine HMY.out.mono ?_
 rintro e wa ⟨rfl, hb⟩
 have HBA := Lib.hid (HBZ.out.trans (hb.mono HBZ.out.size))
 have HBX := Lib.hid (blk_below HKZ.out hb)
 have HRE := Lib.hid (Kd.R_below HREZ.out hb)
 clear hb HREZ HWZ HKZ
 obtain ⟨y0, y1, y2, y3, y4, y5, y6⟩ := facts7 HBX.out
 have hst : RPSt Wq wa b5 #[.int .i64 k0, .string x1, .int .u64 x2, .slice B l.length d, .int .u64 x4, .int .u64 x5, .string x6] A2 c2 T2 (.slice A2 T2.length c2) T2 (.slice (some ⟨b5 + 1, 0, none⟩) 0 0) [] (.slice none 0 0) [] := ⟨HBA.out, HBX.out, ⟨HC.out, hc⟩, .inl ⟨rfl, rfl⟩, HRE.out, Kd.R_nil _ _ _ _ _⟩
 have H := Lib.hid hst
 have hin : v ≠ 1 → ∀ s ∈ namesL x1 l x6, s ∈ T2 := fun h => absurd HV.out h
 have hrl : ([] : List (List Int)).length ≤ 100 := by simp
 clear hst HRE HBA HBX y1 y2 y3 y4 y5 y6 y0
 obtain ⟨A2', c2', e2, hc2, hC2⟩ := H.out.tab
 obtain ⟨rfl, _, rfl⟩ : A2 = A2' ∧ T2.length = T2.length ∧ c2 = c2' := by injection e2 with a1 a2 a3; exact ⟨a1, a2, a3⟩
 have HC2 := Lib.hid hC2
 have HRW := Lib.hid hrl
 have HRL := Lib.hid hrl
 have HIN := Lib.hid hin
 obtain ⟨q0, hq0⟩ : ∃ q, ints (vb k0.toNat) = q := ⟨_, rfl⟩
 obtain ⟨q1, hq1⟩ : ∃ q, textE v T2 x1 = q := ⟨_, rfl⟩
 obtain ⟨q2, hq2⟩ : ∃ q, ints (vb x2.toNat) = q := ⟨_, rfl⟩
 obtain ⟨q3, hq3⟩ : ∃ q, ints (vb ((l.length : Int)).toNat) = q := ⟨_, rfl⟩
 have hK := HM.out.k
 have l0 : q0.length ≤ 10 := by rw [← hq0]; exact vbI_len k0 (by omega)
 have l1 : q1.length ≤ 74 := by rw [← hq1]; exact textE_len v T2 (by omega) x1 HM.out.t.2
 have l2 : q2.length ≤ 10 := by rw [← hq2]; exact vbI_len x2 HR2.out.2
 have l3 : q3.length ≤ 10 := by rw [← hq3]; exact vbI_len (l.length : Int) (by omega)
 have HQ0 := Lib.hid (fun (W' : World) => put1_any k0 (by omega) W')
 have HQ1 := Lib.hid (fun (W' : World) (hb : Below wa.heap.size wa W') => rtext9_any v A2 c2 T2 x1 W' (Kd.C_below HC2.out hb) hc2 (by omega) (by have := HM.out.t.2; omega) (fun h => hin h x1 (by unfold namesL; simp)))
 have HQ2 := Lib.hid (fun (W' : World) => put1_any x2 HR2.out W')
 have HQ3 := Lib.hid (fun (W' : World) => put1_any (l.length : Int) (by omega) W')
 rw [hq0] at HQ0
 rw [hq1] at HQ1
 rw [hq2] at HQ2
 rw [hq3] at HQ3
 have HAD := Lib.hid (add_str q0 q1 (by omega))
 obtain ⟨p0, hp0⟩ : ∃ p, q0 ++ q1 = p := ⟨_, rfl⟩
 have lp0 : p0.length ≤ 84 := by rw [← hp0, List.length_append]; omega
 have HAD2 := Lib.hid (add_str p0 q2 (by omega))
 have HAD3 := Lib.hid (add_str (p0 ++ q2) q3 (by rw [List.length_append]; omega))
 obtain ⟨P, hP⟩ : ∃ p, p0 ++ q2 ++ q3 = p := ⟨_, rfl⟩
 have lP : P.length ≤ 104 := by rw [← hP, List.length_append, List.length_append]; omega
 have HQE := Lib.hid (And.intro hq0 (And.intro hq1 (And.intro hq2 hq3)))
 have HP0 := Lib.hid hp0
 have HPP := Lib.hid hP
 have HBX := Lib.hid H.out.box
 have HKK := Lib.hid hK
 clear hC2 hq0 hq1 hq2 hq3 hp0 hP hin hK
 go_wp2_with fail
 refine region_calm (n := 11) (byList [isV (.pointer (some ⟨b5, 0, none⟩)), isV (.int .i64 k0), isV (.int .u64 k0), isV (.string (strOfNums q0)), isV (.int .i64 v), isV (.slice A2 T2.length c2), isV (.pointer (some ⟨b5, 1, none⟩)), isV (.string x1), isV (.string (strOfNums q1)), isV (.string (strOfNums (q0 ++ q1))), isV (.string (strOfNums (q0 ++ q1)))]) (by kernel_rfl) rfl (byList_lasts ?_) (by kernel_rfl) (by kernel_rfl) (by kernel_rfl) (show AllLt 11 _ from ?_) ?_
 ·intro p hp
  simp only [List.mem_cons, List.not_mem_nil, or_false] at hp
  rcases hp with rfl | rfl | rfl | rfl | rfl | rfl | rfl | rfl | rfl | rfl | rfl <;> first | exact isV_lasts | exact isC_lasts
 ·refine allLt_succ (allLt_succ (allLt_succ (allLt_succ (allLt_succ (allLt_succ (allLt_succ (allLt_succ (allLt_succ (allLt_succ (allLt_succ (allLt_zero _) ?_) ?_) ?_) ?_) ?_) ?_) ?_) ?_) ?_) ?_) ?_
  ·refine StepOk.run (o := ?o0) ?ho0 ?hg0 ?h0
   case ho0 => simp only [List.getElem?_toArray, List.getElem?_cons_succ, List.getElem?_cons_zero]; rfl
   case hg0 => rfl
   case h0 =>
   intro a W hS hB hd
   have e5 : a.tmps[5]? = some (.pointer (some ⟨b5, 0, none⟩)) := hS.get rfl rfl
   refine wp_value (c := .pointer (some ⟨b5, 0, none⟩)) ?_ rfl
   go_simp
  ·refine StepOk.run (o := ?o1) ?ho1 ?hg1 ?h1
   case ho1 => simp only [List.getElem?_toArray, List.getElem?_cons_succ, List.getElem?_cons_zero]; rfl
   case hg1 => rfl
   case h1 =>
   intro a W hS hB hd
   have e62 : a.tmps[62]? = some (.pointer (some ⟨b5, 0, none⟩)) := (hd 0 rfl).bool rfl rfl rfl
   refine wp_value (c := .int .i64 k0) ?_ rfl
   have hx := blk_below HBX.out hB
   have hcW : W.cell? ⟨b5, 0, none⟩ = some (.int .i64 k0) := (blk_cell hx 0).trans rfl
   go_simp
  ·refine StepOk.run (o := ?o2) ?ho2 ?hg2 ?h2
   case ho2 => simp only [List.getElem?_toArray, List.getElem?_cons_succ, List.getElem?_cons_zero]; rfl
   case hg2 => rfl
   case h2 =>
   intro a W hS hB hd
   have e63 : a.tmps[63]? = some (.int .i64 k0) := (hd 1 rfl).bool rfl rfl rfl
   refine wp_value (c := .int .u64 k0) ?_ rfl
   have hw := HKW.out
   go_simp
  ·refine StepOk.run (o := ?o3) ?ho3 ?hg3 ?h3
   case ho3 => simp only [List.getElem?_toArray, List.getElem?_cons_succ, List.getElem?_cons_zero]; rfl
   case hg3 => rfl
   case h3 =>
   intro a W hS hB hd
   have e64 : a.tmps[64]? = some (.int .u64 k0) := (hd 2 rfl).bool rfl rfl rfl
   refine wp_called Try.func70 (by kernel_rfl) rfl #[.int .u64 k0] rfl (by simp [Act.eval, *]) ?_
   refine (HQ0.out W).mono ?_
   rintro e w9 ⟨rfl, hb9⟩
   exact ⟨_, rfl, rfl, hb9⟩
  ·refine StepOk.run (o := ?o4) ?ho4 ?hg4 ?h4
   case ho4 => simp only [List.getElem?_toArray, List.getElem?_cons_succ, List.getElem?_cons_zero]; rfl
   case hg4 => rfl
   case h4 =>
   intro a W hS hB hd
   have e0 : a.tmps[0]? = some (.int .i64 v) := hS.get rfl rfl
   refine wp_value (c := .int .i64 v) ?_ rfl
   go_simp
  ·refine StepOk.run (o := ?o5) ?ho5 ?hg5 ?h5
   case ho5 => simp only [List.getElem?_toArray, List.getElem?_cons_succ, List.getElem?_cons_zero]; rfl
   case hg5 => rfl
   case h5 =>
   intro a W hS hB hd
   have e1 : a.tmps[1]? = some (.slice A2 T2.length c2) := hS.get rfl rfl
   refine wp_value (c := .slice A2 T2.length c2) ?_ rfl
   go_simp
  ·refine StepOk.run (o := ?o6) ?ho6 ?hg6 ?h6
   case ho6 => simp only [List.getElem?_toArray, List.getElem?_cons_succ, List.getElem?_cons_zero]; rfl
   case hg6 => rfl
   case h6 =>
   intro a W hS hB hd
   have e5 : a.tmps[5]? = some (.pointer (some ⟨b5, 0, none⟩)) := hS.get rfl rfl
   refine wp_value (c := .pointer (some ⟨b5, 1, none⟩)) ?_ rfl
   go_simp
  ·refine StepOk.run (o := ?o7) ?ho7 ?hg7 ?h7
   case ho7 => simp only [List.getElem?_toArray, List.getElem?_cons_succ, List.getElem?_cons_zero]; rfl
   case hg7 => rfl
   case h7 =>
   intro a W hS hB hd
   have e68 : a.tmps[68]? = some (.pointer (some ⟨b5, 1, none⟩)) := (hd 6 rfl).bool rfl rfl rfl
   refine wp_value (c := .string x1) ?_ rfl
   have hx := blk_below HBX.out hB
   have hcW : W.cell? ⟨b5, 1, none⟩ = some (.string x1) := (blk_cell hx 1).trans rfl
   go_simp
  ·refine StepOk.run (o := ?o8) ?ho8 ?hg8 ?h8
   case ho8 => simp only [List.getElem?_toArray, List.getElem?_cons_succ, List.getElem?_cons_zero]; rfl
   case hg8 => rfl
   case h8 =>
   intro a W hS hB hd
   have e66 : a.tmps[66]? = some (.int .i64 v) := (hd 4 rfl).bool rfl rfl rfl
   have e67 : a.tmps[67]? = some (.slice A2 T2.length c2) := (hd 5 rfl).bool rfl rfl rfl
   have e69 : a.tmps[69]? = some (.string x1) := (hd 7 rfl).bool rfl rfl rfl
   refine wp_called Try.func71 (by kernel_rfl) rfl #[.int .i64 v, .slice A2 T2.length c2, .string x1] rfl (by simp [Act.eval, *]) ?_
   refine (HQ1.out W hB).mono ?_
   rintro e w9 ⟨rfl, hb9⟩
   exact ⟨_, rfl, rfl, hb9⟩
  ·refine StepOk.run (o := ?o9) ?ho9 ?hg9 ?h9
   case ho9 => simp only [List.getElem?_toArray, List.getElem?_cons_succ, List.getElem?_cons_zero]; rfl
   case hg9 => rfl
   case h9 =>
   intro a W hS hB hd
   have e65 : a.tmps[65]? = some (.string (strOfNums q0)) := (hd 3 rfl).bool rfl rfl rfl
   have e70 : a.tmps[70]? = some (.string (strOfNums q1)) := (hd 8 rfl).bool rfl rfl rfl
   refine wp_value (c := .string (strOfNums (q0 ++ q1))) ?_ rfl
   have hadd := HAD.out W
   go_simp
  ·refine StepOk.run (o := ?o10) ?ho10 ?hg10 ?h10
   case ho10 => simp only [List.getElem?_toArray, List.getElem?_cons_succ, List.getElem?_cons_zero]; rfl
   case hg10 => rfl
   case h10 =>
   intro a W hS hB hd
   have e71 : a.tmps[71]? = some (.string (strOfNums (q0 ++ q1))) := (hd 9 rfl).bool rfl rfl rfl
   refine wp_value (c := .string (strOfNums (q0 ++ q1))) ?_ rfl
   go_simp
 ·intro a W hS hB hh
  have e12 : a.tmps[12]? = some (.string (strOfNums (q0 ++ q1))) := (hh 10 (by omega)).bool rfl rfl rfl
  have HBR := Lib.hid hB
  have hlit := same_lit hS
  clear hh hS hB
  simp only [List.filterMap_cons, List.filterMap_nil, List.foldl_cons, List.foldl_nil, List.setIfInBounds_toArray, List.set_cons_zero, List.set_cons_succ] at hlit
  rw [show a.tmps.getD 12 undef = .string (strOfNums (q0 ++ q1)) by simp [Array.getD_eq_getD_getElem?, e12]] at hlit
  generalize a.tmps.getD 62 undef = z62 at hlit
  generalize a.tmps.getD 63 undef = z63 at hlit
  generalize a.tmps.getD 64 undef = z64 at hlit
  generalize a.tmps.getD 65 undef = z65 at hlit
  generalize a.tmps.getD 66 undef = z66 at hlit
  generalize a.tmps.getD 67 undef = z67 at hlit
  generalize a.tmps.getD 68 undef = z68 at hlit
  generalize a.tmps.getD 69 undef = z69 at hlit
  generalize a.tmps.getD 70 undef = z70 at hlit
  generalize a.tmps.getD 71 undef = z71 at hlit
  clear e12
  subst hlit
  have HX := Lib.hid (H.out.below HBR.out)
  rw [HP0.out]
  clear HBX HQ0 HQ1 HAD H
  have HBX := Lib.hid HX.out.box
  rcases HKK.out with hk | hk
  ·have hkd : (k0 == 1) = true := by rw [hk]; rfl
   have hkd2 : decide (k0 = 1) = true := decide_eq_true hk
   have hkn : ¬ k0 = 2 := by omega
   have HKN := Lib.hid (And.intro hk hkn)
   clear hk hkn
   have y0 : (W).cell? ⟨b5, 0, none⟩ = some (.int .i64 k0) := (blk_cell HBX.out 0).trans rfl
   go_wp2_with fail
   clear y0
   refine region_calm2 (n := 12) (byList [isV (.string (strOfNums p0)), isV (.pointer (some ⟨b5, 2, none⟩)), isV (.int .u64 x2), isV (.string (strOfNums q2)), isV (.string (strOfNums (p0 ++ q2))), isV (.pointer (some ⟨b5, 3, none⟩)), isV (.slice B l.length d), isV (.int .i64 (l.length : Int)), isV (.int .u64 (l.length : Int)), isV (.string (strOfNums q3)), isV (.string (strOfNums (p0 ++ q2 ++ q3))), isV (.string (strOfNums (p0 ++ q2 ++ q3)))]) (by kernel_rfl) rfl (byList_lasts ?_) (by kernel_rfl) (by kernel_rfl) (by kernel_rfl) (show AllLt 12 _ from ?_) ?_
   ·intro p hp
    simp only [List.mem_cons, List.not_mem_nil, or_false] at hp
    rcases hp with rfl | rfl | rfl | rfl | rfl | rfl | rfl | rfl | rfl | rfl | rfl | rfl <;> first | exact isV_lasts | exact isC_lasts
   ·refine allLt_succ (allLt_succ (allLt_succ (allLt_succ (allLt_succ (allLt_succ (allLt_succ (allLt_succ (allLt_succ (allLt_succ (allLt_succ (allLt_succ (allLt_zero _) ?_) ?_) ?_) ?_) ?_) ?_) ?_) ?_) ?_) ?_) ?_) ?_
    ·refine StepOk2.run (o := ?o0b) ?ho0b ?hg0b ?h0b
     case ho0b => first | (simp only [List.getElem?_toArray, List.getElem?_cons_succ, List.getElem?_cons_zero]; done) | (simp only [List.getElem?_toArray, List.getElem?_cons_succ, List.getElem?_cons_zero]; rfl)
     case hg0b => rfl
     case h0b =>
     intro a W hS hB hd hE
     have e12 : a.tmps[12]? = some (.string (strOfNums p0)) := hE.get (j := 11) rfl rfl rfl rfl
     refine wp_value (c := .string (strOfNums p0)) ?_ rfl
     go_simp
    ·refine StepOk2.of ?_
     refine StepOk.run (o := ?o1b) ?ho1b ?hg1b ?h1b
     case ho1b => first | (simp only [List.getElem?_toArray, List.getElem?_cons_succ, List.getElem?_cons_zero]; done) | (simp only [List.getElem?_toArray, List.getElem?_cons_succ, List.getElem?_cons_zero]; rfl)
     case hg1b => rfl
     case h1b =>
     intro a W hS hB hd
     have e5 : a.tmps[5]? = some (.pointer (some ⟨b5, 0, none⟩)) := hS.get rfl rfl
     refine wp_value (c := .pointer (some ⟨b5, 2, none⟩)) ?_ rfl
     go_simp
    ·refine StepOk2.of ?_
     refine StepOk.run (o := ?o2b) ?ho2b ?hg2b ?h2b
     case ho2b => first | (simp only [List.getElem?_toArray, List.getElem?_cons_succ, List.getElem?_cons_zero]; done) | (simp only [List.getElem?_toArray, List.getElem?_cons_succ, List.getElem?_cons_zero]; rfl)
     case hg2b => rfl
     case h2b =>
     intro a W hS hB hd
     have e76 : a.tmps[76]? = some (.pointer (some ⟨b5, 2, none⟩)) := (hd 1 rfl).bool rfl rfl rfl
     refine wp_value (c := .int .u64 x2) ?_ rfl
     have hx := blk_below HBX.out hB
     have hcW : W.cell? ⟨b5, 2, none⟩ = some (.int .u64 x2) := (blk_cell hx 2).trans rfl
     go_simp
    ·refine StepOk2.of ?_
     refine StepOk.run (o := ?o3b) ?ho3b ?hg3b ?h3b
     case ho3b => first | (simp only [List.getElem?_toArray, List.getElem?_cons_succ, List.getElem?_cons_zero]; done) | (simp only [List.getElem?_toArray, List.getElem?_cons_succ, List.getElem?_cons_zero]; rfl)
     case hg3b => rfl
     case h3b =>
     intro a W hS hB hd
     have e77 : a.tmps[77]? = some (.int .u64 x2) := (hd 2 rfl).bool rfl rfl rfl
     refine wp_called Try.func70 (by kernel_rfl) rfl #[.int .u64 x2] rfl (by simp [Act.eval, *]) ?_
     refine (HQ2.out W).mono ?_
     rintro e w9 ⟨rfl, hb9⟩
     exact ⟨_, rfl, rfl, hb9⟩
    ·refine StepOk2.of ?_
     refine StepOk.run (o := ?o4b) ?ho4b ?hg4b ?h4b
     case ho4b => first | (simp only [List.getElem?_toArray, List.getElem?_cons_succ, List.getElem?_cons_zero]; done) | (simp only [List.getElem?_toArray, List.getElem?_cons_succ, List.getElem?_cons_zero]; rfl)
     case hg4b => rfl
     case h4b =>
     intro a W hS hB hd
     have e75 : a.tmps[75]? = some (.string (strOfNums p0)) := (hd 0 rfl).bool rfl rfl rfl
     have e78 : a.tmps[78]? = some (.string (strOfNums q2)) := (hd 3 rfl).bool rfl rfl rfl
     refine wp_value (c := .string (strOfNums (p0 ++ q2))) ?_ rfl
     have hadd := HAD2.out W
     go_simp
    ·refine StepOk2.of ?_
     refine StepOk.run (o := ?o5b) ?ho5b ?hg5b ?h5b
     case ho5b => first | (simp only [List.getElem?_toArray, List.getElem?_cons_succ, List.getElem?_cons_zero]; done) | (simp only [List.getElem?_toArray, List.getElem?_cons_succ, List.getElem?_cons_zero]; rfl)
     case hg5b => rfl
     case h5b =>
     intro a W hS hB hd
     have e5 : a.tmps[5]? = some (.pointer (some ⟨b5, 0, none⟩)) := hS.get rfl rfl
     refine wp_value (c := .pointer (some ⟨b5, 3, none⟩)) ?_ rfl
     go_simp
    ·refine StepOk2.of ?_
     refine StepOk.run (o := ?o6b) ?ho6b ?hg6b ?h6b
     case ho6b => first | (simp only [List.getElem?_toArray, List.getElem?_cons_succ, List.getElem?_cons_zero]; done) | (simp only [List.getElem?_toArray, List.getElem?_cons_succ, List.getElem?_cons_zero]; rfl)
     case hg6b => rfl
     case h6b =>
     intro a W hS hB hd
     have e80 : a.tmps[80]? = some (.pointer (some ⟨b5, 3, none⟩)) := (hd 5 rfl).bool rfl rfl rfl
     refine wp_value (c := .slice B l.length d) ?_ rfl
     have hx := blk_below HBX.out hB
     have hcW : W.cell? ⟨b5, 3, none⟩ = some (.slice B l.length d) := (blk_cell hx 3).trans rfl
     go_simp
    ·refine StepOk2.of ?_
     refine StepOk.run (o := ?o7b) ?ho7b ?hg7b ?h7b
     case ho7b => first | (simp only [List.getElem?_toArray, List.getElem?_cons_succ, List.getElem?_cons_zero]; done) | (simp only [List.getElem?_toArray, List.getElem?_cons_succ, List.getElem?_cons_zero]; rfl)
     case hg7b => rfl
     case h7b =>
     intro a W hS hB hd
     have e81 : a.tmps[81]? = some (.slice B l.length d) := (hd 6 rfl).bool rfl rfl rfl
     refine wp_value (c := .int .i64 (l.length : Int)) ?_ rfl
     go_simp
    ·refine StepOk2.of ?_
     refine StepOk.run (o := ?o8b) ?ho8b ?hg8b ?h8b
     case ho8b => first | (simp only [List.getElem?_toArray, List.getElem?_cons_succ, List.getElem?_cons_zero]; done) | (simp only [List.getElem?_toArray, List.getElem?_cons_succ, List.getElem?_cons_zero]; rfl)
     case hg8b => rfl
     case h8b =>
     intro a W hS hB hd
     have e82 : a.tmps[82]? = some (.int .i64 (l.length : Int)) := (hd 7 rfl).bool rfl rfl rfl
     refine wp_value (c := .int .u64 (l.length : Int)) ?_ rfl
     have hw := HLW.out
     go_simp
    ·refine StepOk2.of ?_
     refine StepOk.run (o := ?o9b) ?ho9b ?hg9b ?h9b
     case ho9b => first | (simp only [List.getElem?_toArray, List.getElem?_cons_succ, List.getElem?_cons_zero]; done) | (simp only [List.getElem?_toArray, List.getElem?_cons_succ, List.getElem?_cons_zero]; rfl)
     case hg9b => rfl
     case h9b =>
     intro a W hS hB hd
     have e83 : a.tmps[83]? = some (.int .u64 (l.length : Int)) := (hd 8 rfl).bool rfl rfl rfl
     refine wp_called Try.func70 (by kernel_rfl) rfl #[.int .u64 (l.length : Int)] rfl (by simp [Act.eval, *]) ?_
     refine (HQ3.out W).mono ?_
     rintro e w9 ⟨rfl, hb9⟩
     exact ⟨_, rfl, rfl, hb9⟩
    ·refine StepOk2.of ?_
     refine StepOk.run (o := ?o10b) ?ho10b ?hg10b ?h10b
     case ho10b => first | (simp only [List.getElem?_toArray, List.getElem?_cons_succ, List.getElem?_cons_zero]; done) | (simp only [List.getElem?_toArray, List.getElem?_cons_succ, List.getElem?_cons_zero]; rfl)
     case hg10b => rfl
     case h10b =>
     intro a W hS hB hd
     have e79 : a.tmps[79]? = some (.string (strOfNums (p0 ++ q2))) := (hd 4 rfl).bool rfl rfl rfl
     have e84 : a.tmps[84]? = some (.string (strOfNums q3)) := (hd 9 rfl).bool rfl rfl rfl
     refine wp_value (c := .string (strOfNums (p0 ++ q2 ++ q3))) ?_ rfl
     have hadd := HAD3.out W
     go_simp
    ·refine StepOk2.of ?_
     refine StepOk.run (o := ?o11b) ?ho11b ?hg11b ?h11b
     case ho11b => first | (simp only [List.getElem?_toArray, List.getElem?_cons_succ, List.getElem?_cons_zero]; done) | (simp only [List.getElem?_toArray, List.getElem?_cons_succ, List.getElem?_cons_zero]; rfl)
     case hg11b => rfl
     case h11b =>
     intro a W hS hB hd
     have e85 : a.tmps[85]? = some (.string (strOfNums (p0 ++ q2 ++ q3))) := (hd 10 rfl).bool rfl rfl rfl
     refine wp_value (c := .string (strOfNums (p0 ++ q2 ++ q3))) ?_ rfl
     go_simp
   ·intro a W hS hB hh
    have e12 : a.tmps[12]? = some (.string (strOfNums (p0 ++ q2 ++ q3))) := (hh 11 (by omega)).bool rfl rfl rfl
    have HBR := Lib.hid hB
    have hlit := same_lit hS
    clear hh hS hB
    simp only [List.filterMap_cons, List.filterMap_nil, List.foldl_cons, List.foldl_nil, List.setIfInBounds_toArray, List.set_cons_zero, List.set_cons_succ] at hlit
    rw [show a.tmps.getD 12 undef = .string (strOfNums (p0 ++ q2 ++ q3)) by simp [Array.getD_eq_getD_getElem?, e12]] at hlit
    generalize a.tmps.getD 75 undef = z75 at hlit
    generalize a.tmps.getD 76 undef = z76 at hlit
    generalize a.tmps.getD 77 undef = z77 at hlit
    generalize a.tmps.getD 78 undef = z78 at hlit
    generalize a.tmps.getD 79 undef = z79 at hlit
    generalize a.tmps.getD 80 undef = z80 at hlit
    generalize a.tmps.getD 81 undef = z81 at hlit
    generalize a.tmps.getD 82 undef = z82 at hlit
    generalize a.tmps.getD 83 undef = z83 at hlit
    generalize a.tmps.getD 84 undef = z84 at hlit
    generalize a.tmps.getD 85 undef = z85 at hlit
    clear e12
    subst hlit
    rw [HPP.out]
    have HX2 := Lib.hid (HX.out.below HBR.out)
    clear HBX HX HQ2 HQ3 HAD2 HAD3
    have y3 : (W).cell? ⟨b5, 3, none⟩ = some (.slice B l.length d) := (blk_cell HX2.out.box 3).trans rfl
    go_wp2_with fail
    clear y3
    go_loopw [12, 13] (fun u12 u13 wr => ∃ (i : Nat), i ≤ l.length ∧ u13 = .int .i64 (i : Int) ∧ u12 = .string (strOfNums (P ++ depsE v T2 (l.take i))) ∧ Hid (RPSt Wq wr b5 #[.int .i64 k0, .string x1, .int .u64 x2, .slice B l.length d, .int .u64 x4, .int .u64 x5, .string x6] A2 c2 T2 (.slice A2 T2.length c2) T2 (.slice (some ⟨b5 + 1, 0, none⟩) 0 0) ([] : List (List Int)) (.slice none 0 0) [])) (fun _ u _ => l.length - (intOf u).toNat)
    case atStart => exact ⟨0, by omega, rfl, by simp [depsE], HX2⟩
    case round =>
     clear HX2
     obtain ⟨i, hi, rfl, rfl, H⟩ := hrel
     have y3 : (wr).cell? ⟨b5, 3, none⟩ = some (.slice B l.length d) := (blk_cell H.out.box 3).trans rfl
     by_cases hlt : i < l.length
     ·have hdl : decide ((i : Int) < (l.length : Int)) = true := decide_eq_true (by omega)
      obtain ⟨ad, hAd, g0, g1, g2⟩ := at_T113 (Kd.C_below HRO.out H.out.bl) (i : Int) (by omega) (by omega)
      subst hAd
      obtain ⟨dd, hdd⟩ : ∃ d, l[i] = d := ⟨_, rfl⟩
      have hrd : rd_T113 l (i : Int) = dd := by simp [rd_T113, hlt, hdd]
      rw [hrd, Int.toNat_natCast] at g0 g1 g2
      have hmem : dd ∈ l := hdd ▸ List.getElem_mem _
      have htk := depsE_take v T2 l i hlt
      rw [hdd] at htk
      have hdf := HM.out.d dd hmem
      have hdg := HDR.out dd hmem
      have hdn : v ≠ 1 → dd.f0 ∈ T2 := fun h => HIN.out h dd.f0 (by unfold namesL; rw [List.mem_append]; exact .inl (List.mem_cons_of_mem _ (List.mem_map.2 ⟨dd, hmem, rfl⟩)))
      have hle := depsE_len v T2 (by omega) (l.take i) (fun y hy => ⟨(HM.out.d y (List.mem_of_mem_take hy)).2.1, (HDR.out y (List.mem_of_mem_take hy)).2⟩)
      rw [List.length_take] at hle
      obtain ⟨s, hh, o⟩ := dd
      dsimp only at g0 g1 g2 hdf hdg hdn htk
      obtain ⟨PD, hPD⟩ : ∃ p, P ++ depsE v T2 (l.take i) = p := ⟨_, rfl⟩
      have lPD : PD.length ≤ 2000 := by rw [← hPD, List.length_append]; omega
      have hnx : P ++ depsE v T2 (l.take (i + 1)) = (PD ++ depE v T2 ⟨s, hh, o⟩) ++ ints (vb hh.toNat) := by rw [htk, ← hPD]; simp only [List.append_assoc]
      rw [hPD]
      have hDe := depE_len v T2 (by omega) ⟨s, hh, o⟩ hdf.2.1
      have hHe := vbI_len hh hdg.2
      have HPU := Lib.hid (fun (W' : World) => put1_any hh hdg W')
      have HNX := Lib.hid hnx
      have hC2r : Kd.C Kd.string wr A2 T2.length T2 := by
       obtain ⟨A2', c2', e, _, h2⟩ := H.out.tab
       injection e with e1 e2 e3
       subst e1
       exact h2
      have HTX := Lib.hid (fun (W' : World) (hb : Below wr.heap.size wr W') => rtext9_any v A2 c2 T2 s W' (Kd.C_below hC2r hb) hc2 (by omega) (by have := hdf.2.1; omega) hdn)
      have hde : depE v T2 ⟨s, hh, o⟩ = textE v T2 s := by unfold depE; rw [if_pos (by have := HV.out; omega)]
      rw [hde] at hDe HNX
      clear htk hdd hrd hmem hdf hdg hdn hle hPD hnx hC2r hde
      generalize textE v T2 s = t1 at *
      generalize ints (vb hh.toNat) = t2 at *
      have hadd1 := add_str PD t1 (by omega)
      have hadd2 := add_str (PD ++ t1) t2 (by rw [List.length_append]; omega)
      have hba : Below wr.heap.size wr (wr.alloc (.cells #[.string s, .int .u64 hh, .bool o] 113)) := (Below.refl _ _).alloc (Nat.le_refl _) _
      have hka : (wr.alloc (.cells #[.string s, .int .u64 hh, .bool o] 113)).heap[wr.heap.size]? = some (.cells #[.string s, .int .u64 hh, .bool o] 113 (0, 0)) := heap_new _ _
      have HBA := Lib.hid hba
      have HKA := Lib.hid hka
      clear hba hka
      go_wp2_with fail
      refine (HTX.out _ HBA.out).mono ?_
      rintro e wb ⟨rfl, hb⟩
      have hk := blk_below HKA.out hb
      have e1 : wb.cell? ⟨wr.heap.size, 1, none⟩ = some (.int .u64 hh) := (blk_cell hk 1).trans rfl
      have HB1 := Lib.hid (HBA.out.trans (hb.mono HBA.out.size))
      clear hb hk g0 g1 g2
      go_wp2_with fail
      refine (HPU.out wb).mono ?_
      rintro e wc ⟨rfl, hb⟩
      have HH := Lib.hid (H.out.below (HB1.out.trans (hb.mono HB1.out.size)))
      clear hb e1
      go_wp2_with fail
      go_roundw
      case rel => exact ⟨i + 1, by omega, by go_num, by rw [HNX.out, List.append_assoc], HH⟩
      case measure => simp [intOf]; omega
     ·obtain rfl : i = l.length := by omega
      have hdl : decide ((l.length : Int) < (l.length : Int)) = false := decide_eq_false (by omega)
      rw [List.take_length]
      obtain ⟨PE, hPE⟩ : ∃ p, P ++ depsE v T2 l = p := ⟨_, rfl⟩
      have hle := depsE_len v T2 (by omega) l (fun y hy => ⟨(HM.out.d y hy).2.1, (HDR.out y hy).2⟩)
      have lPE : PE.length ≤ 2000 := by rw [← hPE, List.length_append]; omega
      rw [hPE]
      obtain ⟨q4, hq4⟩ : ∃ q, ints (vb x4.toNat) = q := ⟨_, rfl⟩
      obtain ⟨q5, hq5⟩ : ∃ q, ints (vb x5.toNat) = q := ⟨_, rfl⟩
      have l4 : q4.length ≤ 10 := by rw [← hq4]; exact vbI_len x4 HR4.out.2
      have l5 : q5.length ≤ 10 := by rw [← hq5]; exact vbI_len x5 HR5.out.2
      have HQ4 := Lib.hid (fun (W' : World) => put1_any x4 HR4.out W')
      have HQ5 := Lib.hid (fun (W' : World) => put1_any x5 HR5.out W')
      rw [hq4] at HQ4
      rw [hq5] at HQ5
      have hadd4 := add_str PE q4 (by omega)
      have hadd5 := add_str (PE ++ q4) q5 (by rw [List.length_append]; omega)
      have HPE := Lib.hid hPE
      have HQ45 := Lib.hid (And.intro hq4 hq5)
      clear hPE hle hq4 hq5
      have y4 : (wr).cell? ⟨b5, 4, none⟩ = some (.int .u64 x4) := (blk_cell H.out.box 4).trans rfl
      go_wp2_with fail
      refine (HQ4.out wr).mono ?_
      rintro e wb ⟨rfl, hb⟩
      have HZ := Lib.hid (H.out.below hb)
      clear hb y3 y4
      have HLE : Hid (lastE v T2 k0 x1 x2 l x4 x5 x6 = PE ++ q4) := Lib.hid (by
       unfold lastE bodyE
       rw [if_neg HKN.out.2, if_neg (show ¬ 2 ≤ v by have := HV.out; omega), if_neg (show ¬ 3 ≤ v by have := HV.out; omega), ← HPE.out, ← HPP.out, ← HP0.out, ← HQE.out.1, ← HQE.out.2.1, ← HQE.out.2.2.1, ← HQE.out.2.2.2, ← HQ45.out.1, HKN.out.1, Int.toNat_natCast]
       rw [show ints (vb ((1 : Int).toNat)) = [1] from vb_k 1 (by omega)]
       simp only [List.append_assoc, List.append_nil])
      have hmr : (([] : List (List Int)).map strOfNums).length ≤ 1000000 := by rw [List.length_map]; have := HRL.out; omega
      go_wp2_with (at_builtin; refine Halt.mk ?_)
      refine Halt.of ?_
      have hb4 : Below wb.heap.size wb (wb.alloc (.cells #[.string (strOfNums (PE ++ q4))] 9)) := (Below.refl _ _).alloc (Nat.le_refl _) _
      have hk4 : (wb.alloc (.cells #[.string (strOfNums (PE ++ q4))] 9)).heap[wb.heap.size]? = some (.cells #[.string (strOfNums (PE ++ q4))] 9 (0, 0)) := heap_new _ _
      have hZ4 := HZ.out.below hb4
      refine Kd.R_append_rows Kd.string (w0 := Wq) Wq.heap.size rfl (.tmp 164) (.tmp 166) 45 9 (.string ⟨#[]⟩) 16 rfl Try.underlying45 info_str9 rfl (by decide) (by omega) _ (([] : List (List Int)).map strOfNums) [strOfNums (PE ++ q4)] _ _ _ (fun _ => True) (fun _ => False) rfl rfl hZ4.rw (row_val _ hk4) ?_ (fun _ h => h.elim) (fun _ _ => trivial) hZ4.bl hZ4.bl.size (by omega) ?_
      ·rintro _ _ ⟨rfl, rfl⟩; rfl
      intro v6 w6 hR6 hb6 hg6 hat6
      have e6 : ([] : List (List Int)).map strOfNums ++ [strOfNums (PE ++ q4)] = ((([] : List (List Int)) ++ [(PE ++ q4)]).map strOfNums) := by rw [List.map_append]; rfl
      rw [e6] at hR6
      have h6 := hZ4.pushed hR6 hb6 hg6 hat6
      obtain ⟨A8, c8, e8, hc8, hC8⟩ := h6.tab
      obtain ⟨rfl, _, rfl⟩ : A2 = A8 ∧ T2.length = T2.length ∧ c2 = c8 := by injection e8 with a1 a2 a3; exact ⟨a1, a2, a3⟩
      have HE := Lib.hid (And.intro h6 (And.intro hc8 hC8))
      obtain ⟨Ar, cr, e9⟩ := Kd.R_slice hR6
      subst e9
      clear hR6 hb6 hg6 hat6 e6 h6 e8 hc8 hC8 hb4 hk4 hZ4
      go_wp2_with fail
      go_ret3
      obtain ⟨h6, hc8, hC8⟩ := HE.out
      refine ⟨_, A2, c2, rfl, ?_, hc8, hC8, h6.bl, h6.tb.imp (fun h => by obtain ⟨e1, e2⟩ := h; injection e2 with a1 a2 a3; exact ⟨a1, a3, e1⟩) (fun hR => Kd.R_mono hR (fun _ _ => trivial))⟩
      have h9 := h6.rw
      show Kd.R Kd.string 9 _ _ _ _ ((moreE T2 T2 ++ [lastE v T2 k0 x1 x2 l x4 x5 x6]).map strOfNums)
      rw [HLE.out]
      first | exact h9 | (rw [moreE_self]; exact h9)
  ·have hkd : (k0 == 1) = false := by rw [hk]; rfl
   have hkd2 : decide (k0 = 1) = false := decide_eq_false (by omega)
   have y0 : (W).cell? ⟨b5, 0, none⟩ = some (.int .i64 k0) := (blk_cell HBX.out 0).trans rfl
   have HZ := HX
   have HLE : Hid (lastE v T2 k0 x1 x2 l x4 x5 x6 = p0) := Lib.hid (by
    unfold lastE
    rw [if_pos hk, List.append_nil, ← HP0.out, ← HQE.out.1, ← HQE.out.2.1, hk]
    rw [show ints (vb ((2 : Int).toNat)) = [2] from vb_k 2 (by omega)])
   clear hk
   have hmr : (([] : List (List Int)).map strOfNums).length ≤ 1000000 := by rw [List.length_map]; have := HRL.out; omega
   go_wp2_with (at_builtin; refine Halt.mk ?_)
   refine Halt.of ?_
   have hb4 : Below W.heap.size W (W.alloc (.cells #[.string (strOfNums p0)] 9)) := (Below.refl _ _).alloc (Nat.le_refl _) _
   have hk4 : (W.alloc (.cells #[.string (strOfNums p0)] 9)).heap[W.heap.size]? = some (.cells #[.string (strOfNums p0)] 9 (0, 0)) := heap_new _ _
   have hZ4 := HZ.out.below hb4
   refine Kd.R_append_rows Kd.string (w0 := Wq) Wq.heap.size rfl (.tmp 164) (.tmp 166) 45 9 (.string ⟨#[]⟩) 16 rfl Try.underlying45 info_str9 rfl (by decide) (by omega) _ (([] : List (List Int)).map strOfNums) [strOfNums p0] _ _ _ (fun _ => True) (fun _ => False) rfl rfl hZ4.rw (row_val _ hk4) ?_ (fun _ h => h.elim) (fun _ _ => trivial) hZ4.bl hZ4.bl.size (by omega) ?_
   ·rintro _ _ ⟨rfl, rfl⟩; rfl
   intro v6 w6 hR6 hb6 hg6 hat6
   have e6 : ([] : List (List Int)).map strOfNums ++ [strOfNums p0] = ((([] : List (List Int)) ++ [p0]).map strOfNums) := by rw [List.map_append]; rfl
   rw [e6] at hR6
   have h6 := hZ4.pushed hR6 hb6 hg6 hat6
   obtain ⟨A8, c8, e8, hc8, hC8⟩ := h6.tab
   obtain ⟨rfl, _, rfl⟩ : A2 = A8 ∧ T2.length = T2.length ∧ c2 = c8 := by injection e8 with a1 a2 a3; exact ⟨a1, a2, a3⟩
   have HE := Lib.hid (And.intro h6 (And.intro hc8 hC8))
   obtain ⟨Ar, cr, e9⟩ := Kd.R_slice hR6
   subst e9
   clear hR6 hb6 hg6 hat6 e6 h6 e8 hc8 hC8 hb4 hk4 hZ4
   go_wp2_with fail
   go_ret3
   obtain ⟨h6, hc8, hC8⟩ := HE.out
   refine ⟨_, A2, c2, rfl, ?_, hc8, hC8, h6.bl, h6.tb.imp (fun h => by obtain ⟨e1, e2⟩ := h; injection e2 with a1 a2 a3; exact ⟨a1, a3, e1⟩) (fun hR => Kd.R_mono hR (fun _ _ => trivial))⟩
   have h9 := h6.rw
   show Kd.R Kd.string 9 _ _ _ _ ((moreE T2 T2 ++ [lastE v T2 k0 x1 x2 l x4 x5 x6]).map strOfNums)
   rw [HLE.out]
   first | exact h9 | (rw [moreE_self]; exact h9)
set_option maxHeartbeats 8000000 in
set_option maxRecDepth 100000 in
theorem rput9_2 (Wq : World) (v : Int) (A : Option Addr) (c : Nat) (T : List ByteArray) (hC : Kd.C Kd.string Wq A T.length T) (hc : T.length ≤ c) (hT : T.length ≤ 100000) (k0 : Int) (x1 : ByteArray) (x2 : Int) (B : Option Addr) (d : Nat) (l : List S113) (x4 x5 : Int) (x6 : ByteArray)
  (hrow : Kd.C k113 Wq B l.length l) (hd : l.length ≤ d) (hok : RecOk x1 l x6) (hv : v = 2) (hm : mayB v k0 x1 x2 l x4 x5 x6 = true) (h2 : 0 ≤ x2 ∧ x2 < 18446744073709551616) (h4 : 0 ≤ x4 ∧ x4 < 18446744073709551616) (h5 : 0 ≤ x5 ∧ x5 < 18446744073709551616) (hdr : ∀ y ∈ l, 0 ≤ y.f1 ∧ y.f1 < 18446744073709551616) :
  Calls Try.prog 33 #[.int .i64 v, .slice A T.length c, .agg #[.int .i64 k0, .string x1, .int .u64 x2, .slice B l.length d, .int .u64 x4, .int .u64 x5, .string x6]] Wq (RPutPost Wq A c T (putF v T k0 x1 x2 l x4 x5 x6)) := by
 have hpf : putF v T k0 x1 x2 l x4 x5 x6 = ((moreE T (tnewOn T (tnew (namesL x1 l x6)))) ++ [lastE v (tnewOn T (tnew (namesL x1 l x6))) k0 x1 x2 l x4 x5 x6], (tnewOn T (tnew (namesL x1 l x6))), 0) := by
  unfold putF
  rw [if_pos (show 1 ≤ v ∧ v ≤ 3 by omega), if_pos hm]
  rw [if_pos (show 1 < v by omega)]
 rw [hpf]
 obtain ⟨wz, hwz⟩ : ∃ wz, (Wq.alloc (.cells #[.int .i64 k0, .string x1, .int .u64 x2, .slice B l.length d, .int .u64 x4, .int .u64 x5, .string x6] 62)).alloc (.cells #[] 9) = wz := ⟨_, rfl⟩
 have hbz : Below Wq.heap.size Wq wz := by rw [← hwz]; exact ((Below.refl _ _).alloc (Nat.le_refl _) _).alloc (by rw [heap_size_alloc]; omega) _
 have hkz : wz.heap[Wq.heap.size]? = some (.cells #[.int .i64 k0, .string x1, .int .u64 x2, .slice B l.length d, .int .u64 x4, .int .u64 x5, .string x6] 62 (0, 0)) := by rw [← hwz, heap_new_old _ _ _ (by rw [heap_size_alloc]; omega)]; exact heap_new _ _
 have hke : wz.heap[Wq.heap.size + 1]? = some (.cells #[] 9 (0, 0)) := by rw [← hwz]; exact heap_new2 _ _ _
 obtain ⟨b5, hb5⟩ : ∃ b, Wq.heap.size = b := ⟨_, rfl⟩
 rw [hb5] at hkz hke
 have hre := R_empty Kd.string wz Wq.heap.size (b5 + 1) 9 (fun _ => True) hke (by omega) trivial
 have M := may_facts hm
 have HMY := Lib.hid (tephraref08_May.calls 9100000 v k0 x1 x2 B d l x4 x5 x6 _ wz (Kd.C_below hrow hbz) hd (ref_May_is v k0 x1 x2 l x4 x5 x6 hok _ (Nat.le_refl _)))
 rw [hm] at HMY
 have HC := Lib.hid hC
 have HRO := Lib.hid hrow
 have HBZ := Lib.hid hbz
 have HKZ := Lib.hid hkz
 have HWZ := Lib.hid hwz
 have HREZ := Lib.hid hre
 have HB5 := Lib.hid hb5
 have HM := Lib.hid M
 have HR2 := Lib.hid h2
 have HR4 := Lib.hid h4
 have HR5 := Lib.hid h5
 have HDR := Lib.hid hdr
 have HV := Lib.hid hv
 have HKW := Lib.hid (show IntKind.u64.wrap k0 = k0 by have := M.k; rw [IntKind.wrap_u64]; omega)
 have HLW := Lib.hid (show IntKind.u64.wrap (l.length : Int) = (l.length : Int) by have := M.n; rw [IntKind.wrap_u64]; omega)
 have hln : l.length ≤ 16 := M.n
 have HNM := Lib.hid (fun (Wq' : World) (hb : Below Wq.heap.size Wq Wq') => tephraref08_Names.calls 6001 k0 x1 x2 B d l x4 x5 x6 _ Wq' (Kd.C_below hrow hb) hd (names_is k0 x1 x2 l x4 x5 x6 (by omega) _ (by omega)))
 have d1 : decide (v < 1) = false := decide_eq_false (by omega)
 have d3 : decide (3 < v) = false := decide_eq_false (by omega)
 have d2 : decide (1 < v) = true := decide_eq_true (by omega)
 have d4 : decide (v < 3) = true := decide_eq_true (by omega)
 have d5 : decide (2 < v) = false := decide_eq_false (by omega)
 clear hpf hC hrow hbz hkz hke hre hwz hb5 M h2 h4 h5 hdr hm hv hok
 go_enter Try.func33, Try.ntmps33
 go_wp2_with fail
 rw [HWZ.out, HB5.out]
 refine HMY.out.mono ?_
 rintro e wa ⟨rfl, hb⟩
 have HBA := Lib.hid (HBZ.out.trans (hb.mono HBZ.out.size))
 have HBX := Lib.hid (blk_below HKZ.out hb)
 have HRE := Lib.hid (Kd.R_below HREZ.out hb)
 clear hb HREZ HWZ HKZ
 obtain ⟨y0, y1, y2, y3, y4, y5, y6⟩ := facts7 HBX.out
 go_wp2_with fail
 clear y0 y1 y2 y3 y4 y5 y6
 refine (HNM.out wa HBA.out).mono ?_
 rintro e wb ⟨vn, rfl, hRn, hb⟩
 obtain ⟨An, cn, rfl⟩ := Kd.R_slice hRn
 have HNS := Lib.hid (names_few (x1 := x1) (l := l) (x6 := x6) HM.out.t.2 HM.out.n (fun d hd => (HM.out.d d hd).2.1) HM.out.tag.1)
 generalize hns : tnew (namesL x1 l x6) = ns at *
 have HNN := Lib.hid hns
 have hbb : Below Wq.heap.size Wq wb := HBA.out.trans (hb.mono HBA.out.size)
 have hsa : b5 + 1 < wa.heap.size := (own_typed_R HRE.out (b5 + 1) rfl).2.1
 have hst : RPSt Wq wb b5 #[.int .i64 k0, .string x1, .int .u64 x2, .slice B l.length d, .int .u64 x4, .int .u64 x5, .string x6] A c T (.slice A T.length c) T (.slice (some ⟨b5 + 1, 0, none⟩) 0 0) [] (.slice An ns.length cn) ns :=
  ⟨hbb, blk_below HBX.out hb, ⟨HC.out, hc⟩, .inl ⟨rfl, rfl⟩, Kd.R_below HRE.out hb, Kd.R_mono (Kd.R_lower (Kd.R_bound hRn) HBA.out.size) (fun k hk e => by injection e with e; replace e : k = b5 + 1 := e; have := hk.2.1; have := HB5.out; omega)⟩
 have HST := Lib.hid hst
 clear hb hbb hRn hst hns HBX HRE HNM HBA hsa
 go_wp2_with fail
 go_loopw [1, 9, 11] (fun u1 u9 u11 wr => ∃ (i : Nat), i ≤ ns.length ∧ u11 = .int .i64 (i : Int) ∧ Hid (RPSt Wq wr b5 #[.int .i64 k0, .string x1, .int .u64 x2, .slice B l.length d, .int .u64 x4, .int .u64 x5, .string x6] A c T u1 (tnewOn T (ns.take i)) u9 (moreE T (tnewOn T (ns.take i))) (.slice An ns.length cn) ns)) (fun _ _ u _ => ns.length - (intOf u).toNat)
 case atStart => exact ⟨0, by omega, rfl, Lib.hid (by rw [List.take_zero, show tnewOn T [] = T from rfl, moreE_self]; exact HST.out)⟩
 case round =>
  clear HST
  obtain ⟨i, hi, rfl, H⟩ := hrel
  have hn18 := HNS.out.1
  by_cases hlt : i < ns.length
  ·have hdl : decide ((i : Int) < (ns.length : Int)) = true := decide_eq_true (by omega)
   obtain ⟨adn, hAn, hcell⟩ := Kd.at_string (Kd.R_reads' H.out.nm).2.2 (i : Int) (by omega) (by omega)
   subst hAn
   rw [Int.toNat_natCast] at hcell
   obtain ⟨s, hs⟩ : ∃ s, ns[i] = s := ⟨_, rfl⟩
   have hrd : rdOf ByteArray.empty ns (i : Int) = s := by simp [rdOf, hlt, hs]
   rw [hrd] at hcell
   have HRD := Lib.hid hrd
   have hsz := HNS.out.2 s (hs ▸ List.getElem_mem _)
   have htk := tnewOn_take T ns i hlt
   rw [hs] at htk
   have hll := tnewOn_len T (ns.take i)
   have hge := tnewOn_ge T (ns.take i)
   rw [List.length_take] at hll
   generalize tnewOn T (ns.take i) = L at *
   obtain ⟨A2, c2, rfl, hc2, hC2⟩ := H.out.tab
   have HPL := Lib.hid (tephraref07_Place.calls (L.length + 1) A2 c2 L s (posI8 L s) wr hC2 hc2 (place_is8 L (by omega) s _ (by omega)))
   have hpd : decide (posI8 L s < 0) = !(isIn L s) := by
    unfold posI8
    cases isIn L s with
    | true => simp
    | false => simp
   have HTK := Lib.hid htk
   have HSZ := Lib.hid (And.intro hsz (And.intro hll hge))
   clear hrd hs htk hsz hll hge hC2
   by_cases hin : s ∈ L
   ·rw [isIn_iff.2 hin, Bool.not_true] at hpd
    have HMO := Lib.hid (And.intro (moreE_in (T := T) hin) (tput_in hin))
    generalize posI8 L s = q at HPL hpd
    clear hin
    go_wp2_with fail
    refine HPL.out.mono ?_
    rintro e wc ⟨rfl, hdr⟩
    have hb := hdr.below
    have HH := Lib.hid (H.out.below hb)
    clear hdr hb hcell
    go_wp2_with fail
    go_roundw
    case rel => exact ⟨i + 1, by omega, by go_num, Lib.hid (by rw [HTK.out, HMO.out.2]; exact HH.out)⟩
    case measure => simp [intOf]; omega
   ·rw [isIn_ne.2 hin, Bool.not_false] at hpd
    have HMO := Lib.hid (moreE_out (T := T) HSZ.out.2.2 hin)
    have hadd := add_def s (by have := HSZ.out.1; omega)
    have HNI := Lib.hid hin
    generalize posI8 L s = q at HPL hpd
    clear hin
    go_wp2_with fail
    refine HPL.out.mono ?_
    rintro e wc ⟨rfl, hdr⟩
    have hb := hdr.below
    have HH := Lib.hid (H.out.below hb)
    have hcell2 := pw_cell_below hb hcell
    clear hdr hb hcell
    obtain ⟨A9, c9, e9⟩ := Kd.R_slice HH.out.rw
    rw [List.length_map] at e9
    subst e9
    have hmr : ((moreE T L).map strOfNums).length ≤ 1000000 := by have := HSZ.out.2.1; rw [List.length_map]; unfold moreE; rw [List.length_map, List.length_drop]; omega
    go_wp2_with (at_builtin; refine Halt.mk ?_)
    refine Halt.of ?_
    have hb4 : Below wc.heap.size wc (wc.alloc (.cells #[.string (strOfNums (defE s))] 9)) := (Below.refl _ _).alloc (Nat.le_refl _) _
    have hk4 : (wc.alloc (.cells #[.string (strOfNums (defE s))] 9)).heap[wc.heap.size]? = some (.cells #[.string (strOfNums (defE s))] 9 (0, 0)) := heap_new _ _
    have hH4 := HH.out.below hb4
    refine Kd.R_append_rows Kd.string (w0 := Wq) Wq.heap.size rfl (.tmp 48) (.tmp 54) 45 9 (.string ⟨#[]⟩) 16 rfl Try.underlying45 info_str9 rfl (by decide) (by omega) _ ((moreE T L).map strOfNums) [strOfNums (defE s)] _ _ _ (fun _ => True) (fun _ => False) rfl rfl hH4.rw (row_val _ hk4) ?_ (fun _ h => h.elim) (fun _ _ => trivial) hH4.bl hH4.bl.size (by omega) ?_
    ·rintro _ _ ⟨rfl, rfl⟩; rfl
    intro v6 w6 hR6 hb6 hg6 hat6
    have e6 : (moreE T L).map strOfNums ++ [strOfNums (defE s)] = ((moreE T L ++ [defE s]).map strOfNums) := by rw [List.map_append]; rfl
    rw [e6] at hR6
    have h6 := hH4.pushed hR6 hb6 hg6 hat6
    obtain ⟨A6, c6, e6v, hc6, hC6⟩ := h6.tab
    obtain ⟨rfl, _, rfl⟩ : A2 = A6 ∧ L.length = L.length ∧ c2 = c6 := by injection e6v with a1 a2 a3; exact ⟨a1, a2, a3⟩
    have HTP := Lib.hid (rtput_any A2 c2 L s w6 hC6 hc6 (by have := HSZ.out.2.1; omega))
    obtain ⟨ad9, hA9, hcell6⟩ := Kd.at_string (Kd.R_reads' h6.nm).2.2 (i : Int) (by omega) (by omega)
    obtain rfl : adn = ad9 := Option.some.inj hA9
    rw [Int.toNat_natCast, HRD.out] at hcell6
    have H6 := Lib.hid h6
    clear hR6 hb6 hg6 hat6 e6 h6 e6v hC6 hA9 hb4 hk4 hH4 hcell2 hadd HPL
    go_wp2_with fail
    refine HTP.out.mono ?_
    rintro e w7 ⟨A7, c7, rfl, hc7, hC7, hb7, hR7⟩
    have H7 := Lib.hid (H6.out.tabled hb7 (hR7 HNI.out))
    clear hC7 hb7 hR7 hcell6 HTP H6
    go_wp2_with fail
    go_roundw
    case rel => exact ⟨i + 1, by omega, by go_num, Lib.hid (by rw [HTK.out, HMO.out]; exact H7.out)⟩
    case measure => simp [intOf]; omega
  ·obtain rfl : i = ns.length := by omega
   rw [List.take_of_length_le (Nat.le_refl _)] at H
   have hrl : (moreE T (tnewOn T ns)).length ≤ 100 := by unfold moreE; rw [List.length_map, List.length_drop]; have := tnewOn_len T ns; omega
   have hin : v ≠ 1 → ∀ s ∈ namesL x1 l x6, s ∈ tnewOn T ns := fun _ s hs => by rw [mem_tnewOn, ← HNN.out, mem_tnew]; exact .inr hs
   have hT2 : (tnewOn T ns).length ≤ 200000 := by have := tnewOn_len T ns; omega
   generalize tnewOn T ns = T2 at *
   generalize moreE T T2 = rows at *
   obtain ⟨A9, c9, e9⟩ := Kd.R_slice H.out.rw
   rw [List.length_map] at e9
   subst e9
   obtain ⟨A2, c2, e2, hc2, hC2⟩ := H.out.tab
   subst e2
   have HC2 := Lib.hid hC2
   have HRW := Lib.hid hrl
   have HRL := Lib.hid hrl
   have HIN := Lib.hid hin
   obtain ⟨q0, hq0⟩ : ∃ q, ints (vb k0.toNat) = q := ⟨_, rfl⟩
   obtain ⟨q1, hq1⟩ : ∃ q, textE v T2 x1 = q := ⟨_, rfl⟩
   obtain ⟨q2, hq2⟩ : ∃ q, ints (vb x2.toNat) = q := ⟨_, rfl⟩
   obtain ⟨q3, hq3⟩ : ∃ q, ints (vb ((l.length : Int)).toNat) = q := ⟨_, rfl⟩
   have hK := HM.out.k
   have l0 : q0.length ≤ 10 := by rw [← hq0]; exact vbI_len k0 (by omega)
   have l1 : q1.length ≤ 74 := by rw [← hq1]; exact textE_len v T2 (by omega) x1 HM.out.t.2
   have l2 : q2.length ≤ 10 := by rw [← hq2]; exact vbI_len x2 HR2.out.2
   have l3 : q3.length ≤ 10 := by rw [← hq3]; exact vbI_len (l.length : Int) (by omega)
   have HQ0 := Lib.hid (fun (W' : World) => put1_any k0 (by omega) W')
   have HQ1 := Lib.hid (fun (W' : World) (hb : Below wr.heap.size wr W') => rtext9_any v A2 c2 T2 x1 W' (Kd.C_below HC2.out hb) hc2 (by omega) (by have := HM.out.t.2; omega) (fun h => hin h x1 (by unfold namesL; simp)))
   have HQ2 := Lib.hid (fun (W' : World) => put1_any x2 HR2.out W')
   have HQ3 := Lib.hid (fun (W' : World) => put1_any (l.length : Int) (by omega) W')
   rw [hq0] at HQ0
   rw [hq1] at HQ1
   rw [hq2] at HQ2
   rw [hq3] at HQ3
   have HAD := Lib.hid (add_str q0 q1 (by omega))
   obtain ⟨p0, hp0⟩ : ∃ p, q0 ++ q1 = p := ⟨_, rfl⟩
   have lp0 : p0.length ≤ 84 := by rw [← hp0, List.length_append]; omega
   have HAD2 := Lib.hid (add_str p0 q2 (by omega))
   have HAD3 := Lib.hid (add_str (p0 ++ q2) q3 (by rw [List.length_append]; omega))
   obtain ⟨P, hP⟩ : ∃ p, p0 ++ q2 ++ q3 = p := ⟨_, rfl⟩
   have lP : P.length ≤ 104 := by rw [← hP, List.length_append, List.length_append]; omega
   have HQE := Lib.hid (And.intro hq0 (And.intro hq1 (And.intro hq2 hq3)))
   have HP0 := Lib.hid hp0
   have HPP := Lib.hid hP
   have HBX := Lib.hid H.out.box
   have HKK := Lib.hid hK
   clear hC2 hq0 hq1 hq2 hq3 hp0 hP hin hK
   go_wp2_with fail
   refine region_calm (n := 11) (byList [isV (.pointer (some ⟨b5, 0, none⟩)), isV (.int .i64 k0), isV (.int .u64 k0), isV (.string (strOfNums q0)), isV (.int .i64 v), isV (.slice A2 T2.length c2), isV (.pointer (some ⟨b5, 1, none⟩)), isV (.string x1), isV (.string (strOfNums q1)), isV (.string (strOfNums (q0 ++ q1))), isV (.string (strOfNums (q0 ++ q1)))]) (by kernel_rfl) rfl (byList_lasts ?_) (by kernel_rfl) (by kernel_rfl) (by kernel_rfl) (show AllLt 11 _ from ?_) ?_
   ·intro p hp
    simp only [List.mem_cons, List.not_mem_nil, or_false] at hp
    rcases hp with rfl | rfl | rfl | rfl | rfl | rfl | rfl | rfl | rfl | rfl | rfl <;> first | exact isV_lasts | exact isC_lasts
   ·refine allLt_succ (allLt_succ (allLt_succ (allLt_succ (allLt_succ (allLt_succ (allLt_succ (allLt_succ (allLt_succ (allLt_succ (allLt_succ (allLt_zero _) ?_) ?_) ?_) ?_) ?_) ?_) ?_) ?_) ?_) ?_) ?_
    ·refine StepOk.run (o := ?o0) ?ho0 ?hg0 ?h0
     case ho0 => simp only [List.getElem?_toArray, List.getElem?_cons_succ, List.getElem?_cons_zero]; rfl
     case hg0 => rfl
     case h0 =>
     intro a W hS hB hd
     have e5 : a.tmps[5]? = some (.pointer (some ⟨b5, 0, none⟩)) := hS.get rfl rfl
     refine wp_value (c := .pointer (some ⟨b5, 0, none⟩)) ?_ rfl
     go_simp
    ·refine StepOk.run (o := ?o1) ?ho1 ?hg1 ?h1
     case ho1 => simp only [List.getElem?_toArray, List.getElem?_cons_succ, List.getElem?_cons_zero]; rfl
     case hg1 => rfl
     case h1 =>
     intro a W hS hB hd
     have e62 : a.tmps[62]? = some (.pointer (some ⟨b5, 0, none⟩)) := (hd 0 rfl).bool rfl rfl rfl
     refine wp_value (c := .int .i64 k0) ?_ rfl
     have hx := blk_below HBX.out hB
     have hcW : W.cell? ⟨b5, 0, none⟩ = some (.int .i64 k0) := (blk_cell hx 0).trans rfl
     go_simp
    ·refine StepOk.run (o := ?o2) ?ho2 ?hg2 ?h2
     case ho2 => simp only [List.getElem?_toArray, List.getElem?_cons_succ, List.getElem?_cons_zero]; rfl
     case hg2 => rfl
     case h2 =>
     intro a W hS hB hd
     have e63 : a.tmps[63]? = some (.int .i64 k0) := (hd 1 rfl).bool rfl rfl rfl
     refine wp_value (c := .int .u64 k0) ?_ rfl
     have hw := HKW.out
     go_simp
    ·refine StepOk.run (o := ?o3) ?ho3 ?hg3 ?h3
     case ho3 => simp only [List.getElem?_toArray, List.getElem?_cons_succ, List.getElem?_cons_zero]; rfl
     case hg3 => rfl
     case h3 =>
     intro a W hS hB hd
     have e64 : a.tmps[64]? = some (.int .u64 k0) := (hd 2 rfl).bool rfl rfl rfl
     refine wp_called Try.func70 (by kernel_rfl) rfl #[.int .u64 k0] rfl (by simp [Act.eval, *]) ?_
     refine (HQ0.out W).mono ?_
     rintro e w9 ⟨rfl, hb9⟩
     exact ⟨_, rfl, rfl, hb9⟩
    ·refine StepOk.run (o := ?o4) ?ho4 ?hg4 ?h4
     case ho4 => simp only [List.getElem?_toArray, List.getElem?_cons_succ, List.getElem?_cons_zero]; rfl
     case hg4 => rfl
     case h4 =>
     intro a W hS hB hd
     have e0 : a.tmps[0]? = some (.int .i64 v) := hS.get rfl rfl
     refine wp_value (c := .int .i64 v) ?_ rfl
     go_simp
    ·refine StepOk.run (o := ?o5) ?ho5 ?hg5 ?h5
     case ho5 => simp only [List.getElem?_toArray, List.getElem?_cons_succ, List.getElem?_cons_zero]; rfl
     case hg5 => rfl
     case h5 =>
     intro a W hS hB hd
     have e1 : a.tmps[1]? = some (.slice A2 T2.length c2) := hS.get rfl rfl
     refine wp_value (c := .slice A2 T2.length c2) ?_ rfl
     go_simp
    ·refine StepOk.run (o := ?o6) ?ho6 ?hg6 ?h6
     case ho6 => simp only [List.getElem?_toArray, List.getElem?_cons_succ, List.getElem?_cons_zero]; rfl
     case hg6 => rfl
     case h6 =>
     intro a W hS hB hd
     have e5 : a.tmps[5]? = some (.pointer (some ⟨b5, 0, none⟩)) := hS.get rfl rfl
     refine wp_value (c := .pointer (some ⟨b5, 1, none⟩)) ?_ rfl
     go_simp
    ·refine StepOk.run (o := ?o7) ?ho7 ?hg7 ?h7
     case ho7 => simp only [List.getElem?_toArray, List.getElem?_cons_succ, List.getElem?_cons_zero]; rfl
     case hg7 => rfl
     case h7 =>
     intro a W hS hB hd
     have e68 : a.tmps[68]? = some (.pointer (some ⟨b5, 1, none⟩)) := (hd 6 rfl).bool rfl rfl rfl
     refine wp_value (c := .string x1) ?_ rfl
     have hx := blk_below HBX.out hB
     have hcW : W.cell? ⟨b5, 1, none⟩ = some (.string x1) := (blk_cell hx 1).trans rfl
     go_simp
    ·refine StepOk.run (o := ?o8) ?ho8 ?hg8 ?h8
     case ho8 => simp only [List.getElem?_toArray, List.getElem?_cons_succ, List.getElem?_cons_zero]; rfl
     case hg8 => rfl
     case h8 =>
     intro a W hS hB hd
     have e66 : a.tmps[66]? = some (.int .i64 v) := (hd 4 rfl).bool rfl rfl rfl
     have e67 : a.tmps[67]? = some (.slice A2 T2.length c2) := (hd 5 rfl).bool rfl rfl rfl
     have e69 : a.tmps[69]? = some (.string x1) := (hd 7 rfl).bool rfl rfl rfl
     refine wp_called Try.func71 (by kernel_rfl) rfl #[.int .i64 v, .slice A2 T2.length c2, .string x1] rfl (by simp [Act.eval, *]) ?_
     refine (HQ1.out W hB).mono ?_
     rintro e w9 ⟨rfl, hb9⟩
     exact ⟨_, rfl, rfl, hb9⟩
    ·refine StepOk.run (o := ?o9) ?ho9 ?hg9 ?h9
     case ho9 => simp only [List.getElem?_toArray, List.getElem?_cons_succ, List.getElem?_cons_zero]; rfl
     case hg9 => rfl
     case h9 =>
     intro a W hS hB hd
     have e65 : a.tmps[65]? = some (.string (strOfNums q0)) := (hd 3 rfl).bool rfl rfl rfl
     have e70 : a.tmps[70]? = some (.string (strOfNums q1)) := (hd 8 rfl).bool rfl rfl rfl
     refine wp_value (c := .string (strOfNums (q0 ++ q1))) ?_ rfl
     have hadd := HAD.out W
     go_simp
    ·refine StepOk.run (o := ?o10) ?ho10 ?hg10 ?h10
     case ho10 => simp only [List.getElem?_toArray, List.getElem?_cons_succ, List.getElem?_cons_zero]; rfl
     case hg10 => rfl
     case h10 =>
     intro a W hS hB hd
     have e71 : a.tmps[71]? = some (.string (strOfNums (q0 ++ q1))) := (hd 9 rfl).bool rfl rfl rfl
     refine wp_value (c := .string (strOfNums (q0 ++ q1))) ?_ rfl
     go_simp
   ·intro a W hS hB hh
    have e12 : a.tmps[12]? = some (.string (strOfNums (q0 ++ q1))) := (hh 10 (by omega)).bool rfl rfl rfl
    have HBR := Lib.hid hB
    have hlit := same_lit hS
    clear hh hS hB
    simp only [List.filterMap_cons, List.filterMap_nil, List.foldl_cons, List.foldl_nil, List.setIfInBounds_toArray, List.set_cons_zero, List.set_cons_succ] at hlit
    rw [show a.tmps.getD 12 undef = .string (strOfNums (q0 ++ q1)) by simp [Array.getD_eq_getD_getElem?, e12]] at hlit
    generalize a.tmps.getD 62 undef = z62 at hlit
    generalize a.tmps.getD 63 undef = z63 at hlit
    generalize a.tmps.getD 64 undef = z64 at hlit
    generalize a.tmps.getD 65 undef = z65 at hlit
    generalize a.tmps.getD 66 undef = z66 at hlit
    generalize a.tmps.getD 67 undef = z67 at hlit
    generalize a.tmps.getD 68 undef = z68 at hlit
    generalize a.tmps.getD 69 undef = z69 at hlit
    generalize a.tmps.getD 70 undef = z70 at hlit
    generalize a.tmps.getD 71 undef = z71 at hlit
    clear e12
    subst hlit
    have HX := Lib.hid (H.out.below HBR.out)
    rw [HP0.out]
    clear HBX HQ0 HQ1 HAD H
    have HBX := Lib.hid HX.out.box
    rcases HKK.out with hk | hk
    ·have hkd : (k0 == 1) = true := by rw [hk]; rfl
     have hkd2 : decide (k0 = 1) = true := decide_eq_true hk
     have hkn : ¬ k0 = 2 := by omega
     have HKN := Lib.hid (And.intro hk hkn)
     clear hk hkn
     have y0 : (W).cell? ⟨b5, 0, none⟩ = some (.int .i64 k0) := (blk_cell HBX.out 0).trans rfl
     go_wp2_with fail
     clear y0
     refine region_calm2 (n := 12) (byList [isV (.string (strOfNums p0)), isV (.pointer (some ⟨b5, 2, none⟩)), isV (.int .u64 x2), isV (.string (strOfNums q2)), isV (.string (strOfNums (p0 ++ q2))), isV (.pointer (some ⟨b5, 3, none⟩)), isV (.slice B l.length d), isV (.int .i64 (l.length : Int)), isV (.int .u64 (l.length : Int)), isV (.string (strOfNums q3)), isV (.string (strOfNums (p0 ++ q2 ++ q3))), isV (.string (strOfNums (p0 ++ q2 ++ q3)))]) (by kernel_rfl) rfl (byList_lasts ?_) (by kernel_rfl) (by kernel_rfl) (by kernel_rfl) (show AllLt 12 _ from ?_) ?_
     ·intro p hp
      simp only [List.mem_cons, List.not_mem_nil, or_false] at hp
      rcases hp with rfl | rfl | rfl | rfl | rfl | rfl | rfl | rfl | rfl | rfl | rfl | rfl <;> first | exact isV_lasts | exact isC_lasts
     ·refine allLt_succ (allLt_succ (allLt_succ (allLt_succ (allLt_succ (allLt_succ (allLt_succ (allLt_succ (allLt_succ (allLt_succ (allLt_succ (allLt_succ (allLt_zero _) ?_) ?_) ?_) ?_) ?_) ?_) ?_) ?_) ?_) ?_) ?_) ?_
      ·refine StepOk2.run (o := ?o0b) ?ho0b ?hg0b ?h0b
       case ho0b => first | (simp only [List.getElem?_toArray, List.getElem?_cons_succ, List.getElem?_cons_zero]; done) | (simp only [List.getElem?_toArray, List.getElem?_cons_succ, List.getElem?_cons_zero]; rfl)
       case hg0b => rfl
       case h0b =>
       intro a W hS hB hd hE
       have e12 : a.tmps[12]? = some (.string (strOfNums p0)) := hE.get (j := 11) rfl rfl rfl rfl
       refine wp_value (c := .string (strOfNums p0)) ?_ rfl
       go_simp
      ·refine StepOk2.of ?_
       refine StepOk.run (o := ?o1b) ?ho1b ?hg1b ?h1b
       case ho1b => first | (simp only [List.getElem?_toArray, List.getElem?_cons_succ, List.getElem?_cons_zero]; done) | (simp only [List.getElem?_toArray, List.getElem?_cons_succ, List.getElem?_cons_zero]; rfl)
       case hg1b => rfl
       case h1b =>
       intro a W hS hB hd
       have e5 : a.tmps[5]? = some (.pointer (some ⟨b5, 0, none⟩)) := hS.get rfl rfl
       refine wp_value (c := .pointer (some ⟨b5, 2, none⟩)) ?_ rfl
       go_simp
      ·refine StepOk2.of ?_
       refine StepOk.run (o := ?o2b) ?ho2b ?hg2b ?h2b
       case ho2b => first | (simp only [List.getElem?_toArray, List.getElem?_cons_succ, List.getElem?_cons_zero]; done) | (simp only [List.getElem?_toArray, List.getElem?_cons_succ, List.getElem?_cons_zero]; rfl)
       case hg2b => rfl
       case h2b =>
       intro a W hS hB hd
       have e76 : a.tmps[76]? = some (.pointer (some ⟨b5, 2, none⟩)) := (hd 1 rfl).bool rfl rfl rfl
       refine wp_value (c := .int .u64 x2) ?_ rfl
       have hx := blk_below HBX.out hB
       have hcW : W.cell? ⟨b5, 2, none⟩ = some (.int .u64 x2) := (blk_cell hx 2).trans rfl
       go_simp
      ·refine StepOk2.of ?_
       refine StepOk.run (o := ?o3b) ?ho3b ?hg3b ?h3b
       case ho3b => first | (simp only [List.getElem?_toArray, List.getElem?_cons_succ, List.getElem?_cons_zero]; done) | (simp only [List.getElem?_toArray, List.getElem?_cons_succ, List.getElem?_cons_zero]; rfl)
       case hg3b => rfl
       case h3b =>
       intro a W hS hB hd
       have e77 : a.tmps[77]? = some (.int .u64 x2) := (hd 2 rfl).bool rfl rfl rfl
       refine wp_called Try.func70 (by kernel_rfl) rfl #[.int .u64 x2] rfl (by simp [Act.eval, *]) ?_
       refine (HQ2.out W).mono ?_
       rintro e w9 ⟨rfl, hb9⟩
       exact ⟨_, rfl, rfl, hb9⟩
      ·refine StepOk2.of ?_
       refine StepOk.run (o := ?o4b) ?ho4b ?hg4b ?h4b
       case ho4b => first | (simp only [List.getElem?_toArray, List.getElem?_cons_succ, List.getElem?_cons_zero]; done) | (simp only [List.getElem?_toArray, List.getElem?_cons_succ, List.getElem?_cons_zero]; rfl)
       case hg4b => rfl
       case h4b =>
       intro a W hS hB hd
       have e75 : a.tmps[75]? = some (.string (strOfNums p0)) := (hd 0 rfl).bool rfl rfl rfl
       have e78 : a.tmps[78]? = some (.string (strOfNums q2)) := (hd 3 rfl).bool rfl rfl rfl
       refine wp_value (c := .string (strOfNums (p0 ++ q2))) ?_ rfl
       have hadd := HAD2.out W
       go_simp
      ·refine StepOk2.of ?_
       refine StepOk.run (o := ?o5b) ?ho5b ?hg5b ?h5b
       case ho5b => first | (simp only [List.getElem?_toArray, List.getElem?_cons_succ, List.getElem?_cons_zero]; done) | (simp only [List.getElem?_toArray, List.getElem?_cons_succ, List.getElem?_cons_zero]; rfl)
       case hg5b => rfl
       case h5b =>
       intro a W hS hB hd
       have e5 : a.tmps[5]? = some (.pointer (some ⟨b5, 0, none⟩)) := hS.get rfl rfl
       refine wp_value (c := .pointer (some ⟨b5, 3, none⟩)) ?_ rfl
       go_simp
      ·refine StepOk2.of ?_
       refine StepOk.run (o := ?o6b) ?ho6b ?hg6b ?h6b
       case ho6b => first | (simp only [List.getElem?_toArray, List.getElem?_cons_succ, List.getElem?_cons_zero]; done) | (simp only [List.getElem?_toArray, List.getElem?_cons_succ, List.getElem?_cons_zero]; rfl)
       case hg6b => rfl
       case h6b =>
       intro a W hS hB hd
       have e80 : a.tmps[80]? = some (.pointer (some ⟨b5, 3, none⟩)) := (hd 5 rfl).bool rfl rfl rfl
       refine wp_value (c := .slice B l.length d) ?_ rfl
       have hx := blk_below HBX.out hB
       have hcW : W.cell? ⟨b5, 3, none⟩ = some (.slice B l.length d) := (blk_cell hx 3).trans rfl
       go_simp
      ·refine StepOk2.of ?_
       refine StepOk.run (o := ?o7b) ?ho7b ?hg7b ?h7b
       case ho7b => first | (simp only [List.getElem?_toArray, List.getElem?_cons_succ, List.getElem?_cons_zero]; done) | (simp only [List.getElem?_toArray, List.getElem?_cons_succ, List.getElem?_cons_zero]; rfl)
       case hg7b => rfl
       case h7b =>
       intro a W hS hB hd
       have e81 : a.tmps[81]? = some (.slice B l.length d) := (hd 6 rfl).bool rfl rfl rfl
       refine wp_value (c := .int .i64 (l.length : Int)) ?_ rfl
       go_simp
      ·refine StepOk2.of ?_
       refine StepOk.run (o := ?o8b) ?ho8b ?hg8b ?h8b
       case ho8b => first | (simp only [List.getElem?_toArray, List.getElem?_cons_succ, List.getElem?_cons_zero]; done) | (simp only [List.getElem?_toArray, List.getElem?_cons_succ, List.getElem?_cons_zero]; rfl)
       case hg8b => rfl
       case h8b =>
       intro a W hS hB hd
       have e82 : a.tmps[82]? = some (.int .i64 (l.length : Int)) := (hd 7 rfl).bool rfl rfl rfl
       refine wp_value (c := .int .u64 (l.length : Int)) ?_ rfl
       have hw := HLW.out
       go_simp
      ·refine StepOk2.of ?_
       refine StepOk.run (o := ?o9b) ?ho9b ?hg9b ?h9b
       case ho9b => first | (simp only [List.getElem?_toArray, List.getElem?_cons_succ, List.getElem?_cons_zero]; done) | (simp only [List.getElem?_toArray, List.getElem?_cons_succ, List.getElem?_cons_zero]; rfl)
       case hg9b => rfl
       case h9b =>
       intro a W hS hB hd
       have e83 : a.tmps[83]? = some (.int .u64 (l.length : Int)) := (hd 8 rfl).bool rfl rfl rfl
       refine wp_called Try.func70 (by kernel_rfl) rfl #[.int .u64 (l.length : Int)] rfl (by simp [Act.eval, *]) ?_
       refine (HQ3.out W).mono ?_
       rintro e w9 ⟨rfl, hb9⟩
       exact ⟨_, rfl, rfl, hb9⟩
      ·refine StepOk2.of ?_
       refine StepOk.run (o := ?o10b) ?ho10b ?hg10b ?h10b
       case ho10b => first | (simp only [List.getElem?_toArray, List.getElem?_cons_succ, List.getElem?_cons_zero]; done) | (simp only [List.getElem?_toArray, List.getElem?_cons_succ, List.getElem?_cons_zero]; rfl)
       case hg10b => rfl
       case h10b =>
       intro a W hS hB hd
       have e79 : a.tmps[79]? = some (.string (strOfNums (p0 ++ q2))) := (hd 4 rfl).bool rfl rfl rfl
       have e84 : a.tmps[84]? = some (.string (strOfNums q3)) := (hd 9 rfl).bool rfl rfl rfl
       refine wp_value (c := .string (strOfNums (p0 ++ q2 ++ q3))) ?_ rfl
       have hadd := HAD3.out W
       go_simp
      ·refine StepOk2.of ?_
       refine StepOk.run (o := ?o11b) ?ho11b ?hg11b ?h11b
       case ho11b => first | (simp only [List.getElem?_toArray, List.getElem?_cons_succ, List.getElem?_cons_zero]; done) | (simp only [List.getElem?_toArray, List.getElem?_cons_succ, List.getElem?_cons_zero]; rfl)
       case hg11b => rfl
       case h11b =>
       intro a W hS hB hd
       have e85 : a.tmps[85]? = some (.string (strOfNums (p0 ++ q2 ++ q3))) := (hd 10 rfl).bool rfl rfl rfl
       refine wp_value (c := .string (strOfNums (p0 ++ q2 ++ q3))) ?_ rfl
       go_simp
     ·intro a W hS hB hh
      have e12 : a.tmps[12]? = some (.string (strOfNums (p0 ++ q2 ++ q3))) := (hh 11 (by omega)).bool rfl rfl rfl
      have HBR := Lib.hid hB
      have hlit := same_lit hS
      clear hh hS hB
      simp only [List.filterMap_cons, List.filterMap_nil, List.foldl_cons, List.foldl_nil, List.setIfInBounds_toArray, List.set_cons_zero, List.set_cons_succ] at hlit
      rw [show a.tmps.getD 12 undef = .string (strOfNums (p0 ++ q2 ++ q3)) by simp [Array.getD_eq_getD_getElem?, e12]] at hlit
      generalize a.tmps.getD 75 undef = z75 at hlit
      generalize a.tmps.getD 76 undef = z76 at hlit
      generalize a.tmps.getD 77 undef = z77 at hlit
      generalize a.tmps.getD 78 undef = z78 at hlit
      generalize a.tmps.getD 79 undef = z79 at hlit
      generalize a.tmps.getD 80 undef = z80 at hlit
      generalize a.tmps.getD 81 undef = z81 at hlit
      generalize a.tmps.getD 82 undef = z82 at hlit
      generalize a.tmps.getD 83 undef = z83 at hlit
      generalize a.tmps.getD 84 undef = z84 at hlit
      generalize a.tmps.getD 85 undef = z85 at hlit
      clear e12
      subst hlit
      rw [HPP.out]
      have HX2 := Lib.hid (HX.out.below HBR.out)
      clear HBX HX HQ2 HQ3 HAD2 HAD3
      have y3 : (W).cell? ⟨b5, 3, none⟩ = some (.slice B l.length d) := (blk_cell HX2.out.box 3).trans rfl
      go_wp2_with fail
      clear y3
      go_loopw [12, 13] (fun u12 u13 wr => ∃ (i : Nat), i ≤ l.length ∧ u13 = .int .i64 (i : Int) ∧ u12 = .string (strOfNums (P ++ depsE v T2 (l.take i))) ∧ Hid (RPSt Wq wr b5 #[.int .i64 k0, .string x1, .int .u64 x2, .slice B l.length d, .int .u64 x4, .int .u64 x5, .string x6] A c T (.slice A2 T2.length c2) T2 (.slice A9 rows.length c9) rows (.slice An ns.length cn) ns)) (fun _ u _ => l.length - (intOf u).toNat)
      case atStart => exact ⟨0, by omega, rfl, by simp [depsE], HX2⟩
      case round =>
       clear HX2
       obtain ⟨i, hi, rfl, rfl, H⟩ := hrel
       have y3 : (wr).cell? ⟨b5, 3, none⟩ = some (.slice B l.length d) := (blk_cell H.out.box 3).trans rfl
       by_cases hlt : i < l.length
       ·have hdl : decide ((i : Int) < (l.length : Int)) = true := decide_eq_true (by omega)
        obtain ⟨ad, hAd, g0, g1, g2⟩ := at_T113 (Kd.C_below HRO.out H.out.bl) (i : Int) (by omega) (by omega)
        subst hAd
        obtain ⟨dd, hdd⟩ : ∃ d, l[i] = d := ⟨_, rfl⟩
        have hrd : rd_T113 l (i : Int) = dd := by simp [rd_T113, hlt, hdd]
        rw [hrd, Int.toNat_natCast] at g0 g1 g2
        have hmem : dd ∈ l := hdd ▸ List.getElem_mem _
        have htk := depsE_take v T2 l i hlt
        rw [hdd] at htk
        have hdf := HM.out.d dd hmem
        have hdg := HDR.out dd hmem
        have hdn : v ≠ 1 → dd.f0 ∈ T2 := fun h => HIN.out h dd.f0 (by unfold namesL; rw [List.mem_append]; exact .inl (List.mem_cons_of_mem _ (List.mem_map.2 ⟨dd, hmem, rfl⟩)))
        have hle := depsE_len v T2 (by omega) (l.take i) (fun y hy => ⟨(HM.out.d y (List.mem_of_mem_take hy)).2.1, (HDR.out y (List.mem_of_mem_take hy)).2⟩)
        rw [List.length_take] at hle
        obtain ⟨s, hh, o⟩ := dd
        dsimp only at g0 g1 g2 hdf hdg hdn htk
        obtain ⟨PD, hPD⟩ : ∃ p, P ++ depsE v T2 (l.take i) = p := ⟨_, rfl⟩
        have lPD : PD.length ≤ 2000 := by rw [← hPD, List.length_append]; omega
        have hnx : P ++ depsE v T2 (l.take (i + 1)) = (PD ++ depE v T2 ⟨s, hh, o⟩) ++ ints (vb hh.toNat) := by rw [htk, ← hPD]; simp only [List.append_assoc]
        rw [hPD]
        have hDe := depE_len v T2 (by omega) ⟨s, hh, o⟩ hdf.2.1
        have hHe := vbI_len hh hdg.2
        have HPU := Lib.hid (fun (W' : World) => put1_any hh hdg W')
        have HNX := Lib.hid hnx
        have hC2r : Kd.C Kd.string wr A2 T2.length T2 := by
         obtain ⟨A', c', e, _, h2⟩ := H.out.tab
         injection e with e1 e2 e3
         subst e1
         exact h2
        have HTX := Lib.hid (fun (W' : World) (hb : Below wr.heap.size wr W') => rtext9_any v A2 c2 T2 s W' (Kd.C_below hC2r hb) hc2 (by omega) (by have := hdf.2.1; omega) hdn)
        have hde : depE v T2 ⟨s, hh, o⟩ = textE v T2 s := by unfold depE; rw [if_pos (by have := HV.out; omega)]
        rw [hde] at hDe HNX
        clear htk hdd hrd hmem hdf hdg hdn hle hPD hnx hC2r hde
        generalize textE v T2 s = t1 at *
        generalize ints (vb hh.toNat) = t2 at *
        have hadd1 := add_str PD t1 (by omega)
        have hadd2 := add_str (PD ++ t1) t2 (by rw [List.length_append]; omega)
        have hba : Below wr.heap.size wr (wr.alloc (.cells #[.string s, .int .u64 hh, .bool o] 113)) := (Below.refl _ _).alloc (Nat.le_refl _) _
        have hka : (wr.alloc (.cells #[.string s, .int .u64 hh, .bool o] 113)).heap[wr.heap.size]? = some (.cells #[.string s, .int .u64 hh, .bool o] 113 (0, 0)) := heap_new _ _
        have HBA := Lib.hid hba
        have HKA := Lib.hid hka
        clear hba hka
        go_wp2_with fail
        refine (HTX.out _ HBA.out).mono ?_
        rintro e wb ⟨rfl, hb⟩
        have hk := blk_below HKA.out hb
        have e1 : wb.cell? ⟨wr.heap.size, 1, none⟩ = some (.int .u64 hh) := (blk_cell hk 1).trans rfl
        have HB1 := Lib.hid (HBA.out.trans (hb.mono HBA.out.size))
        clear hb hk g0 g1 g2
        go_wp2_with fail
        refine (HPU.out wb).mono ?_
        rintro e wc ⟨rfl, hb⟩
        have HH := Lib.hid (H.out.below (HB1.out.trans (hb.mono HB1.out.size)))
        clear hb e1
        go_wp2_with fail
        go_roundw
        case rel => exact ⟨i + 1, by omega, by go_num, by rw [HNX.out, List.append_assoc], HH⟩
        case measure => simp [intOf]; omega
       ·obtain rfl : i = l.length := by omega
        have hdl : decide ((l.length : Int) < (l.length : Int)) = false := decide_eq_false (by omega)
        rw [List.take_length]
        obtain ⟨PE, hPE⟩ : ∃ p, P ++ depsE v T2 l = p := ⟨_, rfl⟩
        have hle := depsE_len v T2 (by omega) l (fun y hy => ⟨(HM.out.d y hy).2.1, (HDR.out y hy).2⟩)
        have lPE : PE.length ≤ 2000 := by rw [← hPE, List.length_append]; omega
        rw [hPE]
        obtain ⟨q4, hq4⟩ : ∃ q, ints (vb x4.toNat) = q := ⟨_, rfl⟩
        obtain ⟨q5, hq5⟩ : ∃ q, ints (vb x5.toNat) = q := ⟨_, rfl⟩
        have l4 : q4.length ≤ 10 := by rw [← hq4]; exact vbI_len x4 HR4.out.2
        have l5 : q5.length ≤ 10 := by rw [← hq5]; exact vbI_len x5 HR5.out.2
        have HQ4 := Lib.hid (fun (W' : World) => put1_any x4 HR4.out W')
        have HQ5 := Lib.hid (fun (W' : World) => put1_any x5 HR5.out W')
        rw [hq4] at HQ4
        rw [hq5] at HQ5
        have hadd4 := add_str PE q4 (by omega)
        have hadd5 := add_str (PE ++ q4) q5 (by rw [List.length_append]; omega)
        have HPE := Lib.hid hPE
        have HQ45 := Lib.hid (And.intro hq4 hq5)
        clear hPE hle hq4 hq5
        have y4 : (wr).cell? ⟨b5, 4, none⟩ = some (.int .u64 x4) := (blk_cell H.out.box 4).trans rfl
        go_wp2_with fail
        refine (HQ4.out wr).mono ?_
        rintro e wb ⟨rfl, hb⟩
        have HZ := Lib.hid (H.out.below hb)
        clear hb y3 y4
        have y5 : (wb).cell? ⟨b5, 5, none⟩ = some (.int .u64 x5) := (blk_cell HZ.out.box 5).trans rfl
        go_wp2_with fail
        refine (HQ5.out wb).mono ?_
        rintro e wc ⟨rfl, hb⟩
        have HZ := Lib.hid (HZ.out.below hb)
        clear hb y5
        have HLE : Hid (lastE v T2 k0 x1 x2 l x4 x5 x6 = PE ++ (q4 ++ q5)) := Lib.hid (by
         unfold lastE bodyE
         rw [if_neg HKN.out.2, if_pos (show 2 ≤ v by have := HV.out; omega), if_neg (show ¬ 3 ≤ v by have := HV.out; omega), HQ45.out.2, ← HPE.out, ← HPP.out, ← HP0.out, ← HQE.out.1, ← HQE.out.2.1, ← HQE.out.2.2.1, ← HQE.out.2.2.2, ← HQ45.out.1, HKN.out.1, Int.toNat_natCast]
         rw [show ints (vb ((1 : Int).toNat)) = [1] from vb_k 1 (by omega)]
         simp only [List.append_assoc, List.append_nil])
        have hmr : (rows.map strOfNums).length ≤ 1000000 := by rw [List.length_map]; have := HRL.out; omega
        go_wp2_with (at_builtin; refine Halt.mk ?_)
        refine Halt.of ?_
        have hb4 : Below wc.heap.size wc (wc.alloc (.cells #[.string (strOfNums (PE ++ (q4 ++ q5)))] 9)) := (Below.refl _ _).alloc (Nat.le_refl _) _
        have hk4 : (wc.alloc (.cells #[.string (strOfNums (PE ++ (q4 ++ q5)))] 9)).heap[wc.heap.size]? = some (.cells #[.string (strOfNums (PE ++ (q4 ++ q5)))] 9 (0, 0)) := heap_new _ _
        have hZ4 := HZ.out.below hb4
        refine Kd.R_append_rows Kd.string (w0 := Wq) Wq.heap.size rfl (.tmp 164) (.tmp 166) 45 9 (.string ⟨#[]⟩) 16 rfl Try.underlying45 info_str9 rfl (by decide) (by omega) _ (rows.map strOfNums) [strOfNums (PE ++ (q4 ++ q5))] _ _ _ (fun _ => True) (fun _ => False) rfl rfl hZ4.rw (row_val _ hk4) ?_ (fun _ h => h.elim) (fun _ _ => trivial) hZ4.bl hZ4.bl.size (by omega) ?_
        ·rintro _ _ ⟨rfl, rfl⟩; rfl
        intro v6 w6 hR6 hb6 hg6 hat6
        have e6 : rows.map strOfNums ++ [strOfNums (PE ++ (q4 ++ q5))] = ((rows ++ [(PE ++ (q4 ++ q5))]).map strOfNums) := by rw [List.map_append]; rfl
        rw [e6] at hR6
        have h6 := hZ4.pushed hR6 hb6 hg6 hat6
        obtain ⟨A8, c8, e8, hc8, hC8⟩ := h6.tab
        obtain ⟨rfl, _, rfl⟩ : A2 = A8 ∧ T2.length = T2.length ∧ c2 = c8 := by injection e8 with a1 a2 a3; exact ⟨a1, a2, a3⟩
        have HE := Lib.hid (And.intro h6 (And.intro hc8 hC8))
        obtain ⟨Ar, cr, e9⟩ := Kd.R_slice hR6
        rw [List.length_map, List.length_append, List.length_singleton] at e9
        subst e9
        clear hR6 hb6 hg6 hat6 e6 h6 e8 hc8 hC8 hb4 hk4 hZ4
        go_wp2_with fail
        go_ret3
        obtain ⟨h6, hc8, hC8⟩ := HE.out
        refine ⟨_, A2, c2, rfl, ?_, hc8, hC8, h6.bl, h6.tb.imp (fun h => by obtain ⟨e1, e2⟩ := h; injection e2 with a1 a2 a3; exact ⟨a1, a3, e1⟩) (fun hR => Kd.R_mono hR (fun _ _ => trivial))⟩
        have h9 := h6.rw
        show Kd.R Kd.string 9 _ _ _ _ ((rows ++ [lastE v T2 k0 x1 x2 l x4 x5 x6]).map strOfNums)
        rw [HLE.out]
        first | exact h9 | (rw [moreE_self]; exact h9)
    ·have hkd : (k0 == 1) = false := by rw [hk]; rfl
     have hkd2 : decide (k0 = 1) = false := decide_eq_false (by omega)
     have y0 : (W).cell? ⟨b5, 0, none⟩ = some (.int .i64 k0) := (blk_cell HBX.out 0).trans rfl
     have HZ := HX
     have HLE : Hid (lastE v T2 k0 x1 x2 l x4 x5 x6 = p0) := Lib.hid (by
      unfold lastE
      rw [if_pos hk, List.append_nil, ← HP0.out, ← HQE.out.1, ← HQE.out.2.1, hk]
      rw [show ints (vb ((2 : Int).toNat)) = [2] from vb_k 2 (by omega)])
     clear hk
     have hmr : (rows.map strOfNums).length ≤ 1000000 := by rw [List.length_map]; have := HRL.out; omega
     go_wp2_with (at_builtin; refine Halt.mk ?_)
     refine Halt.of ?_
     have hb4 : Below W.heap.size W (W.alloc (.cells #[.string (strOfNums p0)] 9)) := (Below.refl _ _).alloc (Nat.le_refl _) _
     have hk4 : (W.alloc (.cells #[.string (strOfNums p0)] 9)).heap[W.heap.size]? = some (.cells #[.string (strOfNums p0)] 9 (0, 0)) := heap_new _ _
     have hZ4 := HZ.out.below hb4
     refine Kd.R_append_rows Kd.string (w0 := Wq) Wq.heap.size rfl (.tmp 164) (.tmp 166) 45 9 (.string ⟨#[]⟩) 16 rfl Try.underlying45 info_str9 rfl (by decide) (by omega) _ (rows.map strOfNums) [strOfNums p0] _ _ _ (fun _ => True) (fun _ => False) rfl rfl hZ4.rw (row_val _ hk4) ?_ (fun _ h => h.elim) (fun _ _ => trivial) hZ4.bl hZ4.bl.size (by omega) ?_
     ·rintro _ _ ⟨rfl, rfl⟩; rfl
     intro v6 w6 hR6 hb6 hg6 hat6
     have e6 : rows.map strOfNums ++ [strOfNums p0] = ((rows ++ [p0]).map strOfNums) := by rw [List.map_append]; rfl
     rw [e6] at hR6
     have h6 := hZ4.pushed hR6 hb6 hg6 hat6
     obtain ⟨A8, c8, e8, hc8, hC8⟩ := h6.tab
     obtain ⟨rfl, _, rfl⟩ : A2 = A8 ∧ T2.length = T2.length ∧ c2 = c8 := by injection e8 with a1 a2 a3; exact ⟨a1, a2, a3⟩
     have HE := Lib.hid (And.intro h6 (And.intro hc8 hC8))
     obtain ⟨Ar, cr, e9⟩ := Kd.R_slice hR6
     rw [List.length_map, List.length_append, List.length_singleton] at e9
     subst e9
     clear hR6 hb6 hg6 hat6 e6 h6 e8 hc8 hC8 hb4 hk4 hZ4
     go_wp2_with fail
     go_ret3
     obtain ⟨h6, hc8, hC8⟩ := HE.out
     refine ⟨_, A2, c2, rfl, ?_, hc8, hC8, h6.bl, h6.tb.imp (fun h => by obtain ⟨e1, e2⟩ := h; injection e2 with a1 a2 a3; exact ⟨a1, a3, e1⟩) (fun hR => Kd.R_mono hR (fun _ _ => trivial))⟩
     have h9 := h6.rw
     show Kd.R Kd.string 9 _ _ _ _ ((rows ++ [lastE v T2 k0 x1 x2 l x4 x5 x6]).map strOfNums)
     rw [HLE.out]
     first | exact h9 | (rw [moreE_self]; exact h9)
set_option maxHeartbeats 8000000 in
set_option maxRecDepth 100000 in
theorem rput9_3 (Wq : World) (v : Int) (A : Option Addr) (c : Nat) (T : List ByteArray) (hC : Kd.C Kd.string Wq A T.length T) (hc : T.length ≤ c) (hT : T.length ≤ 100000) (k0 : Int) (x1 : ByteArray) (x2 : Int) (B : Option Addr) (d : Nat) (l : List S113) (x4 x5 : Int) (x6 : ByteArray)
  (hrow : Kd.C k113 Wq B l.length l) (hd : l.length ≤ d) (hok : RecOk x1 l x6) (hv : v = 3) (hm : mayB v k0 x1 x2 l x4 x5 x6 = true) (h2 : 0 ≤ x2 ∧ x2 < 18446744073709551616) (h4 : 0 ≤ x4 ∧ x4 < 18446744073709551616) (h5 : 0 ≤ x5 ∧ x5 < 18446744073709551616) (hdr : ∀ y ∈ l, 0 ≤ y.f1 ∧ y.f1 < 18446744073709551616) :
  Calls Try.prog 33 #[.int .i64 v, .slice A T.length c, .agg #[.int .i64 k0, .string x1, .int .u64 x2, .slice B l.length d, .int .u64 x4, .int .u64 x5, .string x6]] Wq (RPutPost Wq A c T (putF v T k0 x1 x2 l x4 x5 x6)) := by
 have hpf : putF v T k0 x1 x2 l x4 x5 x6 = ((moreE T (tnewOn T (tnew (namesL x1 l x6)))) ++ [lastE v (tnewOn T (tnew (namesL x1 l x6))) k0 x1 x2 l x4 x5 x6], (tnewOn T (tnew (namesL x1 l x6))), 0) := by
  unfold putF
  rw [if_pos (show 1 ≤ v ∧ v ≤ 3 by omega), if_pos hm]
  rw [if_pos (show 1 < v by omega)]
 rw [hpf]
 obtain ⟨wz, hwz⟩ : ∃ wz, (Wq.alloc (.cells #[.int .i64 k0, .string x1, .int .u64 x2, .slice B l.length d, .int .u64 x4, .int .u64 x5, .string x6] 62)).alloc (.cells #[] 9) = wz := ⟨_, rfl⟩
 have hbz : Below Wq.heap.size Wq wz := by rw [← hwz]; exact ((Below.refl _ _).alloc (Nat.le_refl _) _).alloc (by rw [heap_size_alloc]; omega) _
 have hkz : wz.heap[Wq.heap.size]? = some (.cells #[.int .i64 k0, .string x1, .int .u64 x2, .slice B l.length d, .int .u64 x4, .int .u64 x5, .string x6] 62 (0, 0)) := by rw [← hwz, heap_new_old _ _ _ (by rw [heap_size_alloc]; omega)]; exact heap_new _ _
 have hke : wz.heap[Wq.heap.size + 1]? = some (.cells #[] 9 (0, 0)) := by rw [← hwz]; exact heap_new2 _ _ _
 obtain ⟨b5, hb5⟩ : ∃ b, Wq.heap.size = b := ⟨_, rfl⟩
 rw [hb5] at hkz hke
 have hre := R_empty Kd.string wz Wq.heap.size (b5 + 1) 9 (fun _ => True) hke (by omega) trivial
 have M := may_facts hm
 have HMY := Lib.hid (tephraref08_May.calls 9100000 v k0 x1 x2 B d l x4 x5 x6 _ wz (Kd.C_below hrow hbz) hd (ref_May_is v k0 x1 x2 l x4 x5 x6 hok _ (Nat.le_refl _)))
 rw [hm] at HMY
 have HC := Lib.hid hC
 have HRO := Lib.hid hrow
 have HBZ := Lib.hid hbz
 have HKZ := Lib.hid hkz
 have HWZ := Lib.hid hwz
 have HREZ := Lib.hid hre
 have HB5 := Lib.hid hb5
 have HM := Lib.hid M
 have HR2 := Lib.hid h2
 have HR4 := Lib.hid h4
 have HR5 := Lib.hid h5
 have HDR := Lib.hid hdr
 have HV := Lib.hid hv
 have HKW := Lib.hid (show IntKind.u64.wrap k0 = k0 by have := M.k; rw [IntKind.wrap_u64]; omega)
 have HLW := Lib.hid (show IntKind.u64.wrap (l.length : Int) = (l.length : Int) by have := M.n; rw [IntKind.wrap_u64]; omega)
 have hln : l.length ≤ 16 := M.n
 have HNM := Lib.hid (fun (Wq' : World) (hb : Below Wq.heap.size Wq Wq') => tephraref08_Names.calls 6001 k0 x1 x2 B d l x4 x5 x6 _ Wq' (Kd.C_below hrow hb) hd (names_is k0 x1 x2 l x4 x5 x6 (by omega) _ (by omega)))
 have d1 : decide (v < 1) = false := decide_eq_false (by omega)
 have d3 : decide (3 < v) = false := decide_eq_false (by omega)
 have d2 : decide (1 < v) = true := decide_eq_true (by omega)
 have d4 : decide (v < 3) = false := decide_eq_false (by omega)
 have d5 : decide (2 < v) = true := decide_eq_true (by omega)
 clear hpf hC hrow hbz hkz hke hre hwz hb5 M h2 h4 h5 hdr hm hv hok
 go_enter Try.func33, Try.ntmps33
 go_wp2_with fail
 rw [HWZ.out, HB5.out]
 refine HMY.out.mono ?_
 rintro e wa ⟨rfl, hb⟩
 have HBA := Lib.hid (HBZ.out.trans (hb.mono HBZ.out.size))
 have HBX := Lib.hid (blk_below HKZ.out hb)
 have HRE := Lib.hid (Kd.R_below HREZ.out hb)
 clear hb HREZ HWZ HKZ
 obtain ⟨y0, y1, y2, y3, y4, y5, y6⟩ := facts7 HBX.out
 go_wp2_with fail
 clear y0 y1 y2 y3 y4 y5 y6
 refine (HNM.out wa HBA.out).mono ?_
 rintro e wb ⟨vn, rfl, hRn, hb⟩
 obtain ⟨An, cn, rfl⟩ := Kd.R_slice hRn
 have HNS := Lib.hid (names_few (x1 := x1) (l := l) (x6 := x6) HM.out.t.2 HM.out.n (fun d hd => (HM.out.d d hd).2.1) HM.out.tag.1)
 generalize hns : tnew (namesL x1 l x6) = ns at *
 have HNN := Lib.hid hns
 have hbb : Below Wq.heap.size Wq wb := HBA.out.trans (hb.mono HBA.out.size)
 have hsa : b5 + 1 < wa.heap.size := (own_typed_R HRE.out (b5 + 1) rfl).2.1
 have hst : RPSt Wq wb b5 #[.int .i64 k0, .string x1, .int .u64 x2, .slice B l.length d, .int .u64 x4, .int .u64 x5, .string x6] A c T (.slice A T.length c) T (.slice (some ⟨b5 + 1, 0, none⟩) 0 0) [] (.slice An ns.length cn) ns :=
  ⟨hbb, blk_below HBX.out hb, ⟨HC.out, hc⟩, .inl ⟨rfl, rfl⟩, Kd.R_below HRE.out hb, Kd.R_mono (Kd.R_lower (Kd.R_bound hRn) HBA.out.size) (fun k hk e => by injection e with e; replace e : k = b5 + 1 := e; have := hk.2.1; have := HB5.out; omega)⟩
 have HST := Lib.hid hst
 clear hb hbb hRn hst hns HBX HRE HNM HBA hsa
 go_wp2_with fail
 go_loopw [1, 9, 11] (fun u1 u9 u11 wr => ∃ (i : Nat), i ≤ ns.length ∧ u11 = .int .i64 (i : Int) ∧ Hid (RPSt Wq wr b5 #[.int .i64 k0, .string x1, .int .u64 x2, .slice B l.length d, .int .u64 x4, .int .u64 x5, .string x6] A c T u1 (tnewOn T (ns.take i)) u9 (moreE T (tnewOn T (ns.take i))) (.slice An ns.length cn) ns)) (fun _ _ u _ => ns.length - (intOf u).toNat)
 case atStart => exact ⟨0, by omega, rfl, Lib.hid (by rw [List.take_zero, show tnewOn T [] = T from rfl, moreE_self]; exact HST.out)⟩
 case round =>
  clear HST
  obtain ⟨i, hi, rfl, H⟩ := hrel
  have hn18 := HNS.out.1
  by_cases hlt : i < ns.length
  ·have hdl : decide ((i : Int) < (ns.length : Int)) = true := decide_eq_true (by omega)
   obtain ⟨adn, hAn, hcell⟩ := Kd.at_string (Kd.R_reads' H.out.nm).2.2 (i : Int) (by omega) (by omega)
   subst hAn
   rw [Int.toNat_natCast] at hcell
   obtain ⟨s, hs⟩ : ∃ s, ns[i] = s := ⟨_, rfl⟩
   have hrd : rdOf ByteArray.empty ns (i : Int) = s := by simp [rdOf, hlt, hs]
   rw [hrd] at hcell
   have HRD := Lib.hid hrd
   have hsz := HNS.out.2 s (hs ▸ List.getElem_mem _)
   have htk := tnewOn_take T ns i hlt
   rw [hs] at htk
   have hll := tnewOn_len T (ns.take i)
   have hge := tnewOn_ge T (ns.take i)
   rw [List.length_take] at hll
   generalize tnewOn T (ns.take i) = L at *
   obtain ⟨A2, c2, rfl, hc2, hC2⟩ := H.out.tab
   have HPL := Lib.hid (tephraref07_Place.calls (L.length + 1) A2 c2 L s (posI8 L s) wr hC2 hc2 (place_is8 L (by omega) s _ (by omega)))
   have hpd : decide (posI8 L s < 0) = !(isIn L s) := by
    unfold posI8
    cases isIn L s with
    | true => simp
    | false => simp
   have HTK := Lib.hid htk
   have HSZ := Lib.hid (And.intro hsz (And.intro hll hge))
   clear hrd hs htk hsz hll hge hC2
   by_cases hin : s ∈ L
   ·rw [isIn_iff.2 hin, Bool.not_true] at hpd
    have HMO := Lib.hid (And.intro (moreE_in (T := T) hin) (tput_in hin))
    generalize posI8 L s = q at HPL hpd
    clear hin
    go_wp2_with fail
    refine HPL.out.mono ?_
    rintro e wc ⟨rfl, hdr⟩
    have hb := hdr.below
    have HH := Lib.hid (H.out.below hb)
    clear hdr hb hcell
    go_wp2_with fail
    go_roundw
    case rel => exact ⟨i + 1, by omega, by go_num, Lib.hid (by rw [HTK.out, HMO.out.2]; exact HH.out)⟩
    case measure => simp [intOf]; omega
   ·rw [isIn_ne.2 hin, Bool.not_false] at hpd
    have HMO := Lib.hid (moreE_out (T := T) HSZ.out.2.2 hin)
    have hadd := add_def s (by have := HSZ.out.1; omega)
    have HNI := Lib.hid hin
    generalize posI8 L s = q at HPL hpd
    clear hin
    go_wp2_with fail
    refine HPL.out.mono ?_
    rintro e wc ⟨rfl, hdr⟩
    have hb := hdr.below
    have HH := Lib.hid (H.out.below hb)
    have hcell2 := pw_cell_below hb hcell
    clear hdr hb hcell
    obtain ⟨A9, c9, e9⟩ := Kd.R_slice HH.out.rw
    rw [List.length_map] at e9
    subst e9
    have hmr : ((moreE T L).map strOfNums).length ≤ 1000000 := by have := HSZ.out.2.1; rw [List.length_map]; unfold moreE; rw [List.length_map, List.length_drop]; omega
    go_wp2_with (at_builtin; refine Halt.mk ?_)
    refine Halt.of ?_
    have hb4 : Below wc.heap.size wc (wc.alloc (.cells #[.string (strOfNums (defE s))] 9)) := (Below.refl _ _).alloc (Nat.le_refl _) _
    have hk4 : (wc.alloc (.cells #[.string (strOfNums (defE s))] 9)).heap[wc.heap.size]? = some (.cells #[.string (strOfNums (defE s))] 9 (0, 0)) := heap_new _ _
    have hH4 := HH.out.below hb4
    refine Kd.R_append_rows Kd.string (w0 := Wq) Wq.heap.size rfl (.tmp 48) (.tmp 54) 45 9 (.string ⟨#[]⟩) 16 rfl Try.underlying45 info_str9 rfl (by decide) (by omega) _ ((moreE T L).map strOfNums) [strOfNums (defE s)] _ _ _ (fun _ => True) (fun _ => False) rfl rfl hH4.rw (row_val _ hk4) ?_ (fun _ h => h.elim) (fun _ _ => trivial) hH4.bl hH4.bl.size (by omega) ?_
    ·rintro _ _ ⟨rfl, rfl⟩; rfl
    intro v6 w6 hR6 hb6 hg6 hat6
    have e6 : (moreE T L).map strOfNums ++ [strOfNums (defE s)] = ((moreE T L ++ [defE s]).map strOfNums) := by rw [List.map_append]; rfl
    rw [e6] at hR6
    have h6 := hH4.pushed hR6 hb6 hg6 hat6
    obtain ⟨A6, c6, e6v, hc6, hC6⟩ := h6.tab
    obtain ⟨rfl, _, rfl⟩ : A2 = A6 ∧ L.length = L.length ∧ c2 = c6 := by injection e6v with a1 a2 a3; exact ⟨a1, a2, a3⟩
    have HTP := Lib.hid (rtput_any A2 c2 L s w6 hC6 hc6 (by have := HSZ.out.2.1; omega))
    obtain ⟨ad9, hA9, hcell6⟩ := Kd.at_string (Kd.R_reads' h6.nm).2.2 (i : Int) (by omega) (by omega)
    obtain rfl : adn = ad9 := Option.some.inj hA9
    rw [Int.toNat_natCast, HRD.out] at hcell6
    have H6 := Lib.hid h6
    clear hR6 hb6 hg6 hat6 e6 h6 e6v hC6 hA9 hb4 hk4 hH4 hcell2 hadd HPL
    go_wp2_with fail
    refine HTP.out.mono ?_
    rintro e w7 ⟨A7, c7, rfl, hc7, hC7, hb7, hR7⟩
    have H7 := Lib.hid (H6.out.tabled hb7 (hR7 HNI.out))
    clear hC7 hb7 hR7 hcell6 HTP H6
    go_wp2_with fail
    go_roundw
    case rel => exact ⟨i + 1, by omega, by go_num, Lib.hid (by rw [HTK.out, HMO.out]; exact H7.out)⟩
    case measure => simp [intOf]; omega
  ·obtain rfl : i = ns.length := by omega
   rw [List.take_of_length_le (Nat.le_refl _)] at H
   have hrl : (moreE T (tnewOn T ns)).length ≤ 100 := by unfold moreE; rw [List.length_map, List.length_drop]; have := tnewOn_len T ns; omega
   have hin : v ≠ 1 → ∀ s ∈ namesL x1 l x6, s ∈ tnewOn T ns := fun _ s hs => by rw [mem_tnewOn, ← HNN.out, mem_tnew]; exact .inr hs
   have hT2 : (tnewOn T ns).length ≤ 200000 := by have := tnewOn_len T ns; omega
   generalize tnewOn T ns = T2 at *
   generalize moreE T T2 = rows at *
   obtain ⟨A9, c9, e9⟩ := Kd.R_slice H.out.rw
   rw [List.length_map] at e9
   subst e9
   obtain ⟨A2, c2, e2, hc2, hC2⟩ := H.out.tab
   subst e2
   have HC2 := Lib.hid hC2
   have HRW := Lib.hid hrl
   have HRL := Lib.hid hrl
   have HIN := Lib.hid hin
   obtain ⟨q0, hq0⟩ : ∃ q, ints (vb k0.toNat) = q := ⟨_, rfl⟩
   obtain ⟨q1, hq1⟩ : ∃ q, textE v T2 x1 = q := ⟨_, rfl⟩
   obtain ⟨q2, hq2⟩ : ∃ q, ints (vb x2.toNat) = q := ⟨_, rfl⟩
   obtain ⟨q3, hq3⟩ : ∃ q, ints (vb ((l.length : Int)).toNat) = q := ⟨_, rfl⟩
   have hK := HM.out.k
   have l0 : q0.length ≤ 10 := by rw [← hq0]; exact vbI_len k0 (by omega)
   have l1 : q1.length ≤ 74 := by rw [← hq1]; exact textE_len v T2 (by omega) x1 HM.out.t.2
   have l2 : q2.length ≤ 10 := by rw [← hq2]; exact vbI_len x2 HR2.out.2
   have l3 : q3.length ≤ 10 := by rw [← hq3]; exact vbI_len (l.length : Int) (by omega)
   have HQ0 := Lib.hid (fun (W' : World) => put1_any k0 (by omega) W')
   have HQ1 := Lib.hid (fun (W' : World) (hb : Below wr.heap.size wr W') => rtext9_any v A2 c2 T2 x1 W' (Kd.C_below HC2.out hb) hc2 (by omega) (by have := HM.out.t.2; omega) (fun h => hin h x1 (by unfold namesL; simp)))
   have HQ2 := Lib.hid (fun (W' : World) => put1_any x2 HR2.out W')
   have HQ3 := Lib.hid (fun (W' : World) => put1_any (l.length : Int) (by omega) W')
   rw [hq0] at HQ0
   rw [hq1] at HQ1
   rw [hq2] at HQ2
   rw [hq3] at HQ3
   have HAD := Lib.hid (add_str q0 q1 (by omega))
   obtain ⟨p0, hp0⟩ : ∃ p, q0 ++ q1 = p := ⟨_, rfl⟩
   have lp0 : p0.length ≤ 84 := by rw [← hp0, List.length_append]; omega
   have HAD2 := Lib.hid (add_str p0 q2 (by omega))
   have HAD3 := Lib.hid (add_str (p0 ++ q2) q3 (by rw [List.length_append]; omega))
   obtain ⟨P, hP⟩ : ∃ p, p0 ++ q2 ++ q3 = p := ⟨_, rfl⟩
   have lP : P.length ≤ 104 := by rw [← hP, List.length_append, List.length_append]; omega
   have HQE := Lib.hid (And.intro hq0 (And.intro hq1 (And.intro hq2 hq3)))
   have HP0 := Lib.hid hp0
   have HPP := Lib.hid hP
   have HBX := Lib.hid H.out.box
   have HKK := Lib.hid hK
   clear hC2 hq0 hq1 hq2 hq3 hp0 hP hin hK
   go_wp2_with fail
   refine region_calm (n := 11) (byList [isV (.pointer (some ⟨b5, 0, none⟩)), isV (.int .i64 k0), isV (.int .u64 k0), isV (.string (strOfNums q0)), isV (.int .i64 v), isV (.slice A2 T2.length c2), isV (.pointer (some ⟨b5, 1, none⟩)), isV (.string x1), isV (.string (strOfNums q1)), isV (.string (strOfNums (q0 ++ q1))), isV (.string (strOfNums (q0 ++ q1)))]) (by kernel_rfl) rfl (byList_lasts ?_) (by kernel_rfl) (by kernel_rfl) (by kernel_rfl) (show AllLt 11 _ from ?_) ?_
   ·intro p hp
    simp only [List.mem_cons, List.not_mem_nil, or_false] at hp
    rcases hp with rfl | rfl | rfl | rfl | rfl | rfl | rfl | rfl | rfl | rfl | rfl <;> first | exact isV_lasts | exact isC_lasts
   ·refine allLt_succ (allLt_succ (allLt_succ (allLt_succ (allLt_succ (allLt_succ (allLt_succ (allLt_succ (allLt_succ (allLt_succ (allLt_succ (allLt_zero _) ?_) ?_) ?_) ?_) ?_) ?_) ?_) ?_) ?_) ?_) ?_
    ·refine StepOk.run (o := ?o0) ?ho0 ?hg0 ?h0
     case ho0 => simp only [List.getElem?_toArray, List.getElem?_cons_succ, List.getElem?_cons_zero]; rfl
     case hg0 => rfl
     case h0 =>
     intro a W hS hB hd
     have e5 : a.tmps[5]? = some (.pointer (some ⟨b5, 0, none⟩)) := hS.get rfl rfl
     refine wp_value (c := .pointer (some ⟨b5, 0, none⟩)) ?_ rfl
     go_simp
    ·refine StepOk.run (o := ?o1) ?ho1 ?hg1 ?h1
     case ho1 => simp only [List.getElem?_toArray, List.getElem?_cons_succ, List.getElem?_cons_zero]; rfl
     case hg1 => rfl
     case h1 =>
     intro a W hS hB hd
     have e62 : a.tmps[62]? = some (.pointer (some ⟨b5, 0, none⟩)) := (hd 0 rfl).bool rfl rfl rfl
     refine wp_value (c := .int .i64 k0) ?_ rfl
     have hx := blk_below HBX.out hB
     have hcW : W.cell? ⟨b5, 0, none⟩ = some (.int .i64 k0) := (blk_cell hx 0).trans rfl
     go_simp
    ·refine StepOk.run (o := ?o2) ?ho2 ?hg2 ?h2
     case ho2 => simp only [List.getElem?_toArray, List.getElem?_cons_succ, List.getElem?_cons_zero]; rfl
     case hg2 => rfl
     case h2 =>
     intro a W hS hB hd
     have e63 : a.tmps[63]? = some (.int .i64 k0) := (hd 1 rfl).bool rfl rfl rfl
     refine wp_value (c := .int .u64 k0) ?_ rfl
     have hw := HKW.out
     go_simp
    ·refine StepOk.run (o := ?o3) ?ho3 ?hg3 ?h3
     case ho3 => simp only [List.getElem?_toArray, List.getElem?_cons_succ, List.getElem?_cons_zero]; rfl
     case hg3 => rfl
     case h3 =>
     intro a W hS hB hd
     have e64 : a.tmps[64]? = some (.int .u64 k0) := (hd 2 rfl).bool rfl rfl rfl
     refine wp_called Try.func70 (by kernel_rfl) rfl #[.int .u64 k0] rfl (by simp [Act.eval, *]) ?_
     refine (HQ0.out W).mono ?_
     rintro e w9 ⟨rfl, hb9⟩
     exact ⟨_, rfl, rfl, hb9⟩
    ·refine StepOk.run (o := ?o4) ?ho4 ?hg4 ?h4
     case ho4 => simp only [List.getElem?_toArray, List.getElem?_cons_succ, List.getElem?_cons_zero]; rfl
     case hg4 => rfl
     case h4 =>
     intro a W hS hB hd
     have e0 : a.tmps[0]? = some (.int .i64 v) := hS.get rfl rfl
     refine wp_value (c := .int .i64 v) ?_ rfl
     go_simp
    ·refine StepOk.run (o := ?o5) ?ho5 ?hg5 ?h5
     case ho5 => simp only [List.getElem?_toArray, List.getElem?_cons_succ, List.getElem?_cons_zero]; rfl
     case hg5 => rfl
     case h5 =>
     intro a W hS hB hd
     have e1 : a.tmps[1]? = some (.slice A2 T2.length c2) := hS.get rfl rfl
     refine wp_value (c := .slice A2 T2.length c2) ?_ rfl
     go_simp
    ·refine StepOk.run (o := ?o6) ?ho6 ?hg6 ?h6
     case ho6 => simp only [List.getElem?_toArray, List.getElem?_cons_succ, List.getElem?_cons_zero]; rfl
     case hg6 => rfl
     case h6 =>
     intro a W hS hB hd
     have e5 : a.tmps[5]? = some (.pointer (some ⟨b5, 0, none⟩)) := hS.get rfl rfl
     refine wp_value (c := .pointer (some ⟨b5, 1, none⟩)) ?_ rfl
     go_simp
    ·refine StepOk.run (o := ?o7) ?ho7 ?hg7 ?h7
     case ho7 => simp only [List.getElem?_toArray, List.getElem?_cons_succ, List.getElem?_cons_zero]; rfl
     case hg7 => rfl
     case h7 =>
     intro a W hS hB hd
     have e68 : a.tmps[68]? = some (.pointer (some ⟨b5, 1, none⟩)) := (hd 6 rfl).bool rfl rfl rfl
     refine wp_value (c := .string x1) ?_ rfl
     have hx := blk_below HBX.out hB
     have hcW : W.cell? ⟨b5, 1, none⟩ = some (.string x1) := (blk_cell hx 1).trans rfl
     go_simp
    ·refine StepOk.run (o := ?o8) ?ho8 ?hg8 ?h8
     case ho8 => simp only [List.getElem?_toArray, List.getElem?_cons_succ, List.getElem?_cons_zero]; rfl
     case hg8 => rfl
     case h8 =>
     intro a W hS hB hd
     have e66 : a.tmps[66]? = some (.int .i64 v) := (hd 4 rfl).bool rfl rfl rfl
     have e67 : a.tmps[67]? = some (.slice A2 T2.length c2) := (hd 5 rfl).bool rfl rfl rfl
     have e69 : a.tmps[69]? = some (.string x1) := (hd 7 rfl).bool rfl rfl rfl
     refine wp_called Try.func71 (by kernel_rfl) rfl #[.int .i64 v, .slice A2 T2.length c2, .string x1] rfl (by simp [Act.eval, *]) ?_
     refine (HQ1.out W hB).mono ?_
     rintro e w9 ⟨rfl, hb9⟩
     exact ⟨_, rfl, rfl, hb9⟩
    ·refine StepOk.run (o := ?o9) ?ho9 ?hg9 ?h9
     case ho9 => simp only [List.getElem?_toArray, List.getElem?_cons_succ, List.getElem?_cons_zero]; rfl
     case hg9 => rfl
     case h9 =>
     intro a W hS hB hd
     have e65 : a.tmps[65]? = some (.string (strOfNums q0)) := (hd 3 rfl).bool rfl rfl rfl
     have e70 : a.tmps[70]? = some (.string (strOfNums q1)) := (hd 8 rfl).bool rfl rfl rfl
     refine wp_value (c := .string (strOfNums (q0 ++ q1))) ?_ rfl
     have hadd := HAD.out W
     go_simp
    ·refine StepOk.run (o := ?o10) ?ho10 ?hg10 ?h10
     case ho10 => simp only [List.getElem?_toArray, List.getElem?_cons_succ, List.getElem?_cons_zero]; rfl
     case hg10 => rfl
     case h10 =>
     intro a W hS hB hd
     have e71 : a.tmps[71]? = some (.string (strOfNums (q0 ++ q1))) := (hd 9 rfl).bool rfl rfl rfl
     refine wp_value (c := .string (strOfNums (q0 ++ q1))) ?_ rfl
     go_simp
   ·intro a W hS hB hh
    have e12 : a.tmps[12]? = some (.string (strOfNums (q0 ++ q1))) := (hh 10 (by omega)).bool rfl rfl rfl
    have HBR := Lib.hid hB
    have hlit := same_lit hS
    clear hh hS hB
    simp only [List.filterMap_cons, List.filterMap_nil, List.foldl_cons, List.foldl_nil, List.setIfInBounds_toArray, List.set_cons_zero, List.set_cons_succ] at hlit
    rw [show a.tmps.getD 12 undef = .string (strOfNums (q0 ++ q1)) by simp [Array.getD_eq_getD_getElem?, e12]] at hlit
    generalize a.tmps.getD 62 undef = z62 at hlit
    generalize a.tmps.getD 63 undef = z63 at hlit
    generalize a.tmps.getD 64 undef = z64 at hlit
    generalize a.tmps.getD 65 undef = z65 at hlit
    generalize a.tmps.getD 66 undef = z66 at hlit
    generalize a.tmps.getD 67 undef = z67 at hlit
    generalize a.tmps.getD 68 undef = z68 at hlit
    generalize a.tmps.getD 69 undef = z69 at hlit
    generalize a.tmps.getD 70 undef = z70 at hlit
    generalize a.tmps.getD 71 undef = z71 at hlit
    clear e12
    subst hlit
    have HX := Lib.hid (H.out.below HBR.out)
    rw [HP0.out]
    clear HBX HQ0 HQ1 HAD H
    have HBX := Lib.hid HX.out.box
    rcases HKK.out with hk | hk
    ·have hkd : (k0 == 1) = true := by rw [hk]; rfl
     have hkd2 : decide (k0 = 1) = true := decide_eq_true hk
     have hkn : ¬ k0 = 2 := by omega
     have HKN := Lib.hid (And.intro hk hkn)
     clear hk hkn
     have y0 : (W).cell? ⟨b5, 0, none⟩ = some (.int .i64 k0) := (blk_cell HBX.out 0).trans rfl
     go_wp2_with fail
     clear y0
     refine region_calm2 (n := 12) (byList [isV (.string (strOfNums p0)), isV (.pointer (some ⟨b5, 2, none⟩)), isV (.int .u64 x2), isV (.string (strOfNums q2)), isV (.string (strOfNums (p0 ++ q2))), isV (.pointer (some ⟨b5, 3, none⟩)), isV (.slice B l.length d), isV (.int .i64 (l.length : Int)), isV (.int .u64 (l.length : Int)), isV (.string (strOfNums q3)), isV (.string (strOfNums (p0 ++ q2 ++ q3))), isV (.string (strOfNums (p0 ++ q2 ++ q3)))]) (by kernel_rfl) rfl (byList_lasts ?_) (by kernel_rfl) (by kernel_rfl) (by kernel_rfl) (show AllLt 12 _ from ?_) ?_
     ·intro p hp
      simp only [List.mem_cons, List.not_mem_nil, or_false] at hp
      rcases hp with rfl | rfl | rfl | rfl | rfl | rfl | rfl | rfl | rfl | rfl | rfl | rfl <;> first | exact isV_lasts | exact isC_lasts
     ·refine allLt_succ (allLt_succ (allLt_succ (allLt_succ (allLt_succ (allLt_succ (allLt_succ (allLt_succ (allLt_succ (allLt_succ (allLt_succ (allLt_succ (allLt_zero _) ?_) ?_) ?_) ?_) ?_) ?_) ?_) ?_) ?_) ?_) ?_) ?_
      ·refine StepOk2.run (o := ?o0b) ?ho0b ?hg0b ?h0b
       case ho0b => first | (simp only [List.getElem?_toArray, List.getElem?_cons_succ, List.getElem?_cons_zero]; done) | (simp only [List.getElem?_toArray, List.getElem?_cons_succ, List.getElem?_cons_zero]; rfl)
       case hg0b => rfl
       case h0b =>
       intro a W hS hB hd hE
       have e12 : a.tmps[12]? = some (.string (strOfNums p0)) := hE.get (j := 11) rfl rfl rfl rfl
       refine wp_value (c := .string (strOfNums p0)) ?_ rfl
       go_simp
      ·refine StepOk2.of ?_
       refine StepOk.run (o := ?o1b) ?ho1b ?hg1b ?h1b
       case ho1b => first | (simp only [List.getElem?_toArray, List.getElem?_cons_succ, List.getElem?_cons_zero]; done) | (simp only [List.getElem?_toArray, List.getElem?_cons_succ, List.getElem?_cons_zero]; rfl)
       case hg1b => rfl
       case h1b =>
       intro a W hS hB hd
       have e5 : a.tmps[5]? = some (.pointer (some ⟨b5, 0, none⟩)) := hS.get rfl rfl
       refine wp_value (c := .pointer (some ⟨b5, 2, none⟩)) ?_ rfl
       go_simp
      ·refine StepOk2.of ?_
       refine StepOk.run (o := ?o2b) ?ho2b ?hg2b ?h2b
       case ho2b => first | (simp only [List.getElem?_toArray, List.getElem?_cons_succ, List.getElem?_cons_zero]; done) | (simp only [List.getElem?_toArray, List.getElem?_cons_succ, List.getElem?_cons_zero]; rfl)
       case hg2b => rfl
       case h2b =>
       intro a W hS hB hd
       have e76 : a.tmps[76]? = some (.pointer (some ⟨b5, 2, none⟩)) := (hd 1 rfl).bool rfl rfl rfl
       refine wp_value (c := .int .u64 x2) ?_ rfl
       have hx := blk_below HBX.out hB
       have hcW : W.cell? ⟨b5, 2, none⟩ = some (.int .u64 x2) := (blk_cell hx 2).trans rfl
       go_simp
      ·refine StepOk2.of ?_
       refine StepOk.run (o := ?o3b) ?ho3b ?hg3b ?h3b
       case ho3b => first | (simp only [List.getElem?_toArray, List.getElem?_cons_succ, List.getElem?_cons_zero]; done) | (simp only [List.getElem?_toArray, List.getElem?_cons_succ, List.getElem?_cons_zero]; rfl)
       case hg3b => rfl
       case h3b =>
       intro a W hS hB hd
       have e77 : a.tmps[77]? = some (.int .u64 x2) := (hd 2 rfl).bool rfl rfl rfl
       refine wp_called Try.func70 (by kernel_rfl) rfl #[.int .u64 x2] rfl (by simp [Act.eval, *]) ?_
       refine (HQ2.out W).mono ?_
       rintro e w9 ⟨rfl, hb9⟩
       exact ⟨_, rfl, rfl, hb9⟩
      ·refine StepOk2.of ?_
       refine StepOk.run (o := ?o4b) ?ho4b ?hg4b ?h4b
       case ho4b => first | (simp only [List.getElem?_toArray, List.getElem?_cons_succ, List.getElem?_cons_zero]; done) | (simp only [List.getElem?_toArray, List.getElem?_cons_succ, List.getElem?_cons_zero]; rfl)
       case hg4b => rfl
       case h4b =>
       intro a W hS hB hd
       have e75 : a.tmps[75]? = some (.string (strOfNums p0)) := (hd 0 rfl).bool rfl rfl rfl
       have e78 : a.tmps[78]? = some (.string (strOfNums q2)) := (hd 3 rfl).bool rfl rfl rfl
       refine wp_value (c := .string (strOfNums (p0 ++ q2))) ?_ rfl
       have hadd := HAD2.out W
       go_simp
      ·refine StepOk2.of ?_
       refine StepOk.run (o := ?o5b) ?ho5b ?hg5b ?h5b
       case ho5b => first | (simp only [List.getElem?_toArray, List.getElem?_cons_succ, List.getElem?_cons_zero]; done) | (simp only [List.getElem?_toArray, List.getElem?_cons_succ, List.getElem?_cons_zero]; rfl)
       case hg5b => rfl
       case h5b =>
       intro a W hS hB hd
       have e5 : a.tmps[5]? = some (.pointer (some ⟨b5, 0, none⟩)) := hS.get rfl rfl
       refine wp_value (c := .pointer (some ⟨b5, 3, none⟩)) ?_ rfl
       go_simp
      ·refine StepOk2.of ?_
       refine StepOk.run (o := ?o6b) ?ho6b ?hg6b ?h6b
       case ho6b => first | (simp only [List.getElem?_toArray, List.getElem?_cons_succ, List.getElem?_cons_zero]; done) | (simp only [List.getElem?_toArray, List.getElem?_cons_succ, List.getElem?_cons_zero]; rfl)
       case hg6b => rfl
       case h6b =>
       intro a W hS hB hd
       have e80 : a.tmps[80]? = some (.pointer (some ⟨b5, 3, none⟩)) := (hd 5 rfl).bool rfl rfl rfl
       refine wp_value (c := .slice B l.length d) ?_ rfl
       have hx := blk_below HBX.out hB
       have hcW : W.cell? ⟨b5, 3, none⟩ = some (.slice B l.length d) := (blk_cell hx 3).trans rfl
       go_simp
      ·refine StepOk2.of ?_
       refine StepOk.run (o := ?o7b) ?ho7b ?hg7b ?h7b
       case ho7b => first | (simp only [List.getElem?_toArray, List.getElem?_cons_succ, List.getElem?_cons_zero]; done) | (simp only [List.getElem?_toArray, List.getElem?_cons_succ, List.getElem?_cons_zero]; rfl)
       case hg7b => rfl
       case h7b =>
       intro a W hS hB hd
       have e81 : a.tmps[81]? = some (.slice B l.length d) := (hd 6 rfl).bool rfl rfl rfl
       refine wp_value (c := .int .i64 (l.length : Int)) ?_ rfl
       go_simp
      ·refine StepOk2.of ?_
       refine StepOk.run (o := ?o8b) ?ho8b ?hg8b ?h8b
       case ho8b => first | (simp only [List.getElem?_toArray, List.getElem?_cons_succ, List.getElem?_cons_zero]; done) | (simp only [List.getElem?_toArray, List.getElem?_cons_succ, List.getElem?_cons_zero]; rfl)
       case hg8b => rfl
       case h8b =>
       intro a W hS hB hd
       have e82 : a.tmps[82]? = some (.int .i64 (l.length : Int)) := (hd 7 rfl).bool rfl rfl rfl
       refine wp_value (c := .int .u64 (l.length : Int)) ?_ rfl
       have hw := HLW.out
       go_simp
      ·refine StepOk2.of ?_
       refine StepOk.run (o := ?o9b) ?ho9b ?hg9b ?h9b
       case ho9b => first | (simp only [List.getElem?_toArray, List.getElem?_cons_succ, List.getElem?_cons_zero]; done) | (simp only [List.getElem?_toArray, List.getElem?_cons_succ, List.getElem?_cons_zero]; rfl)
       case hg9b => rfl
       case h9b =>
       intro a W hS hB hd
       have e83 : a.tmps[83]? = some (.int .u64 (l.length : Int)) := (hd 8 rfl).bool rfl rfl rfl
       refine wp_called Try.func70 (by kernel_rfl) rfl #[.int .u64 (l.length : Int)] rfl (by simp [Act.eval, *]) ?_
       refine (HQ3.out W).mono ?_
       rintro e w9 ⟨rfl, hb9⟩
       exact ⟨_, rfl, rfl, hb9⟩
      ·refine StepOk2.of ?_
       refine StepOk.run (o := ?o10b) ?ho10b ?hg10b ?h10b
       case ho10b => first | (simp only [List.getElem?_toArray, List.getElem?_cons_succ, List.getElem?_cons_zero]; done) | (simp only [List.getElem?_toArray, List.getElem?_cons_succ, List.getElem?_cons_zero]; rfl)
       case hg10b => rfl
       case h10b =>
       intro a W hS hB hd
       have e79 : a.tmps[79]? = some (.string (strOfNums (p0 ++ q2))) := (hd 4 rfl).bool rfl rfl rfl
       have e84 : a.tmps[84]? = some (.string (strOfNums q3)) := (hd 9 rfl).bool rfl rfl rfl
       refine wp_value (c := .string (strOfNums (p0 ++ q2 ++ q3))) ?_ rfl
       have hadd := HAD3.out W
       go_simp
      ·refine StepOk2.of ?_
       refine StepOk.run (o := ?o11b) ?ho11b ?hg11b ?h11b
       case ho11b => first | (simp only [List.getElem?_toArray, List.getElem?_cons_succ, List.getElem?_cons_zero]; done) | (simp only [List.getElem?_toArray, List.getElem?_cons_succ, List.getElem?_cons_zero]; rfl)
       case hg11b => rfl
       case h11b =>
       intro a W hS hB hd
       have e85 : a.tmps[85]? = some (.string (strOfNums (p0 ++ q2 ++ q3))) := (hd 10 rfl).bool rfl rfl rfl
       refine wp_value (c := .string (strOfNums (p0 ++ q2 ++ q3))) ?_ rfl
       go_simp
     ·intro a W hS hB hh
      have e12 : a.tmps[12]? = some (.string (strOfNums (p0 ++ q2 ++ q3))) := (hh 11 (by omega)).bool rfl rfl rfl
      have HBR := Lib.hid hB
      have hlit := same_lit hS
      clear hh hS hB
      simp only [List.filterMap_cons, List.filterMap_nil, List.foldl_cons, List.foldl_nil, List.setIfInBounds_toArray, List.set_cons_zero, List.set_cons_succ] at hlit
      rw [show a.tmps.getD 12 undef = .string (strOfNums (p0 ++ q2 ++ q3)) by simp [Array.getD_eq_getD_getElem?, e12]] at hlit
      generalize a.tmps.getD 75 undef = z75 at hlit
      generalize a.tmps.getD 76 undef = z76 at hlit
      generalize a.tmps.getD 77 undef = z77 at hlit
      generalize a.tmps.getD 78 undef = z78 at hlit
      generalize a.tmps.getD 79 undef = z79 at hlit
      generalize a.tmps.getD 80 undef = z80 at hlit
      generalize a.tmps.getD 81 undef = z81 at hlit
      generalize a.tmps.getD 82 undef = z82 at hlit
      generalize a.tmps.getD 83 undef = z83 at hlit
      generalize a.tmps.getD 84 undef = z84 at hlit
      generalize a.tmps.getD 85 undef = z85 at hlit
      clear e12
      subst hlit
      rw [HPP.out]
      have HX2 := Lib.hid (HX.out.below HBR.out)
      clear HBX HX HQ2 HQ3 HAD2 HAD3
      have y3 : (W).cell? ⟨b5, 3, none⟩ = some (.slice B l.length d) := (blk_cell HX2.out.box 3).trans rfl
      go_wp2_with fail
      clear y3
      go_loopw [12, 13] (fun u12 u13 wr => ∃ (i : Nat), i ≤ l.length ∧ u13 = .int .i64 (i : Int) ∧ u12 = .string (strOfNums (P ++ depsE v T2 (l.take i))) ∧ Hid (RPSt Wq wr b5 #[.int .i64 k0, .string x1, .int .u64 x2, .slice B l.length d, .int .u64 x4, .int .u64 x5, .string x6] A c T (.slice A2 T2.length c2) T2 (.slice A9 rows.length c9) rows (.slice An ns.length cn) ns)) (fun _ u _ => l.length - (intOf u).toNat)
      case atStart => exact ⟨0, by omega, rfl, by simp [depsE], HX2⟩
      case round =>
       clear HX2
       obtain ⟨i, hi, rfl, rfl, H⟩ := hrel
       have y3 : (wr).cell? ⟨b5, 3, none⟩ = some (.slice B l.length d) := (blk_cell H.out.box 3).trans rfl
       by_cases hlt : i < l.length
       ·have hdl : decide ((i : Int) < (l.length : Int)) = true := decide_eq_true (by omega)
        obtain ⟨ad, hAd, g0, g1, g2⟩ := at_T113 (Kd.C_below HRO.out H.out.bl) (i : Int) (by omega) (by omega)
        subst hAd
        obtain ⟨dd, hdd⟩ : ∃ d, l[i] = d := ⟨_, rfl⟩
        have hrd : rd_T113 l (i : Int) = dd := by simp [rd_T113, hlt, hdd]
        rw [hrd, Int.toNat_natCast] at g0 g1 g2
        have hmem : dd ∈ l := hdd ▸ List.getElem_mem _
        have htk := depsE_take v T2 l i hlt
        rw [hdd] at htk
        have hdf := HM.out.d dd hmem
        have hdg := HDR.out dd hmem
        have hdn : v ≠ 1 → dd.f0 ∈ T2 := fun h => HIN.out h dd.f0 (by unfold namesL; rw [List.mem_append]; exact .inl (List.mem_cons_of_mem _ (List.mem_map.2 ⟨dd, hmem, rfl⟩)))
        have hle := depsE_len v T2 (by omega) (l.take i) (fun y hy => ⟨(HM.out.d y (List.mem_of_mem_take hy)).2.1, (HDR.out y (List.mem_of_mem_take hy)).2⟩)
        rw [List.length_take] at hle
        obtain ⟨s, hh, o⟩ := dd
        dsimp only at g0 g1 g2 hdf hdg hdn htk
        obtain ⟨PD, hPD⟩ : ∃ p, P ++ depsE v T2 (l.take i) = p := ⟨_, rfl⟩
        have lPD : PD.length ≤ 2000 := by rw [← hPD, List.length_append]; omega
        have hnx : P ++ depsE v T2 (l.take (i + 1)) = (PD ++ depE v T2 ⟨s, hh, o⟩) ++ ints (vb hh.toNat) := by rw [htk, ← hPD]; simp only [List.append_assoc]
        rw [hPD]
        have hDe := depE_len v T2 (by omega) ⟨s, hh, o⟩ hdf.2.1
        have hHe := vbI_len hh hdg.2
        have HPU := Lib.hid (fun (W' : World) => put1_any hh hdg W')
        have HNX := Lib.hid hnx
        have hC2r : Kd.C Kd.string wr A2 T2.length T2 := by
         obtain ⟨A', c', e, _, h2⟩ := H.out.tab
         injection e with e1 e2 e3
         subst e1
         exact h2
        have hde : depE v T2 ⟨s, hh, o⟩ = ints (vb (2 * atI T2 s + (if o = true then 1 else 0)).toNat) := by unfold depE; rw [if_neg (by have := HV.out; omega)]
        rw [hde] at hDe HNX
        have hsT := hdn (by have := HV.out; omega)
        have hat := atI_bd T2 s (by omega)
        have hPl : ∀ W', Below wr.heap.size wr W' → _ := fun W' hb => tephraref07_Place.calls (T2.length + 1) A2 c2 T2 s (posI8 T2 s) W' (Kd.C_below hC2r hb) hc2 (place_is8 T2 (by omega) s _ (by omega))
        rw [atI_pos hsT] at hPl
        obtain ⟨n, hn⟩ : ∃ n, atI T2 s = n := ⟨_, rfl⟩
        rw [hn] at hPl hat hDe HNX
        have HPL := Lib.hid hPl
        clear htk hdd hrd hmem hdf hdg hdn hle hPD hnx hC2r hde hPl hsT hn
        have kw1 : IntKind.u64.wrap n = n := by rw [IntKind.wrap_u64]; omega
        have kw2 : IntKind.u64.wrap (2 * n) = 2 * n := by rw [IntKind.wrap_u64]; omega
        have kw3 : IntKind.u64.wrap (2 * n + 1) = 2 * n + 1 := by rw [IntKind.wrap_u64]; omega
        have HK1 := Lib.hid kw1
        have HK2 := Lib.hid kw2
        have HK3 := Lib.hid kw3
        clear kw1 kw2 kw3
        generalize ints (vb hh.toNat) = t2 at *
        have hba : Below wr.heap.size wr (wr.alloc (.cells #[.string s, .int .u64 hh, .bool o] 113)) := (Below.refl _ _).alloc (Nat.le_refl _) _
        have hka : (wr.alloc (.cells #[.string s, .int .u64 hh, .bool o] 113)).heap[wr.heap.size]? = some (.cells #[.string s, .int .u64 hh, .bool o] 113 (0, 0)) := heap_new _ _
        have HBA := Lib.hid hba
        have HKA := Lib.hid hka
        clear hba hka
        go_wp2_with fail
        refine (HPL.out _ HBA.out).mono ?_
        rintro e wb ⟨rfl, hdr⟩
        have hb := hdr.below
        have hk := blk_below HKA.out hb
        have HB1 := Lib.hid (HBA.out.trans (hb.mono HBA.out.size))
        have HKB := Lib.hid hk
        clear hb hk hdr g0 g1 g2
        have e1 : wb.cell? ⟨wr.heap.size, 1, none⟩ = some (.int .u64 hh) := (blk_cell HKB.out 1).trans rfl
        have e2 : wb.cell? ⟨wr.heap.size, 2, none⟩ = some (.bool o) := (blk_cell HKB.out 2).trans rfl
        have kw1 := HK1.out
        have kw2 := HK2.out
        have kw3 := HK3.out
        cases o with
        | true =>
         obtain ⟨m, hm⟩ : ∃ m, 2 * n + 1 = m := ⟨_, rfl⟩
         have hdm : ints (vb (2 * n + (if true = true then 1 else 0)).toNat) = ints (vb m.toNat) := by rw [if_pos rfl, hm]
         rw [hdm] at hDe HNX
         have HP1 := Lib.hid (fun (W' : World) => put1_any m (by omega) W')
         generalize ints (vb m.toNat) = t1 at *
         have hadd1 := add_str PD t1 (by omega)
         have hadd2 := add_str (PD ++ t1) t2 (by rw [List.length_append]; omega)
         rw [hm] at kw3
         have hm2 := hm
         have kw4 : IntKind.u64.wrap (2 * n + 1) = m := by rw [hm]; exact kw3
         clear hm kw3
         go_wp2_with fail
         refine (HP1.out wb).mono ?_
         rintro e wc ⟨rfl, hb⟩
         have hk := blk_below HKB.out hb
         have e1 : wc.cell? ⟨wr.heap.size, 1, none⟩ = some (.int .u64 hh) := (blk_cell hk 1).trans rfl
         have HB2 := Lib.hid (HB1.out.trans (hb.mono HB1.out.size))
         clear hb hk e2
         go_wp2_with fail
         refine (HPU.out wc).mono ?_
         rintro e wd ⟨rfl, hb⟩
         have HH := Lib.hid (H.out.below (HB2.out.trans (hb.mono HB2.out.size)))
         clear hb e1
         go_wp2_with fail
         go_roundw
         case rel => exact ⟨i + 1, by omega, by go_num, by rw [HNX.out, List.append_assoc], HH⟩
         case measure => simp [intOf]; omega
        | false =>
         have hdm : ints (vb (2 * n + (if false = true then 1 else 0)).toNat) = ints (vb (2 * n).toNat) := by rw [if_neg (by simp), Int.add_zero]
         rw [hdm] at hDe HNX
         have HP1 := Lib.hid (fun (W' : World) => put1_any (2 * n) (by omega) W')
         generalize ints (vb (2 * n).toNat) = t1 at *
         have hadd1 := add_str PD t1 (by omega)
         have hadd2 := add_str (PD ++ t1) t2 (by rw [List.length_append]; omega)
         clear kw3
         go_wp2_with fail
         refine (HP1.out wb).mono ?_
         rintro e wc ⟨rfl, hb⟩
         have hk := blk_below HKB.out hb
         have e1 : wc.cell? ⟨wr.heap.size, 1, none⟩ = some (.int .u64 hh) := (blk_cell hk 1).trans rfl
         have HB2 := Lib.hid (HB1.out.trans (hb.mono HB1.out.size))
         clear hb hk e2
         go_wp2_with fail
         refine (HPU.out wc).mono ?_
         rintro e wd ⟨rfl, hb⟩
         have HH := Lib.hid (H.out.below (HB2.out.trans (hb.mono HB2.out.size)))
         clear hb e1
         go_wp2_with fail
         go_roundw
         case rel => exact ⟨i + 1, by omega, by go_num, by rw [HNX.out, List.append_assoc], HH⟩
         case measure => simp [intOf]; omega
       ·obtain rfl : i = l.length := by omega
        have hdl : decide ((l.length : Int) < (l.length : Int)) = false := decide_eq_false (by omega)
        rw [List.take_length]
        obtain ⟨PE, hPE⟩ : ∃ p, P ++ depsE v T2 l = p := ⟨_, rfl⟩
        have hle := depsE_len v T2 (by omega) l (fun y hy => ⟨(HM.out.d y hy).2.1, (HDR.out y hy).2⟩)
        have lPE : PE.length ≤ 2000 := by rw [← hPE, List.length_append]; omega
        rw [hPE]
        obtain ⟨q4, hq4⟩ : ∃ q, ints (vb x4.toNat) = q := ⟨_, rfl⟩
        obtain ⟨q5, hq5⟩ : ∃ q, ints (vb x5.toNat) = q := ⟨_, rfl⟩
        have l4 : q4.length ≤ 10 := by rw [← hq4]; exact vbI_len x4 HR4.out.2
        have l5 : q5.length ≤ 10 := by rw [← hq5]; exact vbI_len x5 HR5.out.2
        have HQ4 := Lib.hid (fun (W' : World) => put1_any x4 HR4.out W')
        have HQ5 := Lib.hid (fun (W' : World) => put1_any x5 HR5.out W')
        rw [hq4] at HQ4
        rw [hq5] at HQ5
        have hadd4 := add_str PE q4 (by omega)
        have hadd5 := add_str (PE ++ q4) q5 (by rw [List.length_append]; omega)
        have HPE := Lib.hid hPE
        have HQ45 := Lib.hid (And.intro hq4 hq5)
        clear hPE hle hq4 hq5
        have y4 : (wr).cell? ⟨b5, 4, none⟩ = some (.int .u64 x4) := (blk_cell H.out.box 4).trans rfl
        go_wp2_with fail
        refine (HQ4.out wr).mono ?_
        rintro e wb ⟨rfl, hb⟩
        have HZ := Lib.hid (H.out.below hb)
        clear hb y3 y4
        have y5 : (wb).cell? ⟨b5, 5, none⟩ = some (.int .u64 x5) := (blk_cell HZ.out.box 5).trans rfl
        go_wp2_with fail
        refine (HQ5.out wb).mono ?_
        rintro e wc ⟨rfl, hb⟩
        have HZ := Lib.hid (HZ.out.below hb)
        clear hb y5
        by_cases h6 : x6.size = 0
        ·have hem : x6.toList.isEmpty = true := by rw [List.isEmpty_iff]; exact tl_nil.2 h6
         have hem2 : (x6.toList == ([] : List UInt8)) = true := by rw [tl_nil.2 h6]; rfl
         have hem3 : (x6.toList != ([] : List UInt8)) = false := by rw [tl_nil.2 h6]; rfl
         obtain ⟨q6, hq6⟩ : ∃ q, ints (vb 0) = q := ⟨_, rfl⟩
         have htg : tagE T2 x6 = q6 := by unfold tagE; rw [if_pos h6, hq6]
         have l6 : q6.length ≤ 10 := by rw [← hq6]; exact vbI_len 0 (by omega)
         have HQ6 := Lib.hid (fun (W' : World) => put1_any 0 (by omega) W')
         rw [Int.toNat_zero, hq6] at HQ6
         have HLE : Hid (lastE v T2 k0 x1 x2 l x4 x5 x6 = PE ++ (q4 ++ (q5 ++ q6))) := Lib.hid (by
          unfold lastE bodyE
          rw [if_neg HKN.out.2, if_pos (show 2 ≤ v by have := HV.out; omega), if_pos (show 3 ≤ v by have := HV.out; omega), HQ45.out.2, htg, ← HPE.out, ← HPP.out, ← HP0.out, ← HQE.out.1, ← HQE.out.2.1, ← HQE.out.2.2.1, ← HQE.out.2.2.2, ← HQ45.out.1, HKN.out.1, Int.toNat_natCast]
          rw [show ints (vb ((1 : Int).toNat)) = [1] from vb_k 1 (by omega)]
          simp only [List.append_assoc, List.append_nil])
         have hadd6 := add_str (PE ++ (q4 ++ q5)) q6 (by simp only [List.length_append]; omega)
         clear h6 hq6 htg
         have y6 : (wc).cell? ⟨b5, 6, none⟩ = some (.string x6) := (blk_cell HZ.out.box 6).trans rfl
         go_wp2_with fail
         refine (HQ6.out wc).mono ?_
         rintro e wd ⟨rfl, hb⟩
         have HZ := Lib.hid (HZ.out.below hb)
         clear hb y6
         have y6 : (wd).cell? ⟨b5, 6, none⟩ = some (.string x6) := (blk_cell HZ.out.box 6).trans rfl
         have hmr : (rows.map strOfNums).length ≤ 1000000 := by rw [List.length_map]; have := HRL.out; omega
         go_wp2_with (at_builtin; refine Halt.mk ?_)
         refine Halt.of ?_
         have hb4 : Below wd.heap.size wd (wd.alloc (.cells #[.string (strOfNums (PE ++ (q4 ++ (q5 ++ q6))))] 9)) := (Below.refl _ _).alloc (Nat.le_refl _) _
         have hk4 : (wd.alloc (.cells #[.string (strOfNums (PE ++ (q4 ++ (q5 ++ q6))))] 9)).heap[wd.heap.size]? = some (.cells #[.string (strOfNums (PE ++ (q4 ++ (q5 ++ q6))))] 9 (0, 0)) := heap_new _ _
         have hZ4 := HZ.out.below hb4
         refine Kd.R_append_rows Kd.string (w0 := Wq) Wq.heap.size rfl (.tmp 164) (.tmp 166) 45 9 (.string ⟨#[]⟩) 16 rfl Try.underlying45 info_str9 rfl (by decide) (by omega) _ (rows.map strOfNums) [strOfNums (PE ++ (q4 ++ (q5 ++ q6)))] _ _ _ (fun _ => True) (fun _ => False) rfl rfl hZ4.rw (row_val _ hk4) ?_ (fun _ h => h.elim) (fun _ _ => trivial) hZ4.bl hZ4.bl.size (by omega) ?_
         ·rintro _ _ ⟨rfl, rfl⟩; rfl
         intro v6 w6 hR6 hb6 hg6 hat6
         have e6 : rows.map strOfNums ++ [strOfNums (PE ++ (q4 ++ (q5 ++ q6)))] = ((rows ++ [(PE ++ (q4 ++ (q5 ++ q6)))]).map strOfNums) := by rw [List.map_append]; rfl
         rw [e6] at hR6
         have h6 := hZ4.pushed hR6 hb6 hg6 hat6
         obtain ⟨A8, c8, e8, hc8, hC8⟩ := h6.tab
         obtain ⟨rfl, _, rfl⟩ : A2 = A8 ∧ T2.length = T2.length ∧ c2 = c8 := by injection e8 with a1 a2 a3; exact ⟨a1, a2, a3⟩
         have HE := Lib.hid (And.intro h6 (And.intro hc8 hC8))
         obtain ⟨Ar, cr, e9⟩ := Kd.R_slice hR6
         rw [List.length_map, List.length_append, List.length_singleton] at e9
         subst e9
         clear hR6 hb6 hg6 hat6 e6 h6 e8 hc8 hC8 hb4 hk4 hZ4
         go_wp2_with fail
         go_ret3
         obtain ⟨h6, hc8, hC8⟩ := HE.out
         refine ⟨_, A2, c2, rfl, ?_, hc8, hC8, h6.bl, h6.tb.imp (fun h => by obtain ⟨e1, e2⟩ := h; injection e2 with a1 a2 a3; exact ⟨a1, a3, e1⟩) (fun hR => Kd.R_mono hR (fun _ _ => trivial))⟩
         have h9 := h6.rw
         show Kd.R Kd.string 9 _ _ _ _ ((rows ++ [lastE v T2 k0 x1 x2 l x4 x5 x6]).map strOfNums)
         rw [HLE.out]
         first | exact h9 | (rw [moreE_self]; exact h9)
        ·have hne : x6.toList ≠ [] := fun h => h6 (tl_nil.1 h)
         have hem : x6.toList.isEmpty = false := by rw [Bool.eq_false_iff, ne_eq, List.isEmpty_iff]; exact hne
         have hem2 : (x6.toList == ([] : List UInt8)) = false := by simpa using hne
         have hem3 : (x6.toList != ([] : List UInt8)) = true := by simpa using hne
         have hsT := HIN.out (by have := HV.out; omega) x6 (by unfold namesL; rw [if_neg hne]; simp)
         have hat := atI_bd T2 x6 (by omega)
         obtain ⟨A', c', e9, _, hCz⟩ := HZ.out.tab
         obtain ⟨rfl, _, rfl⟩ : A2 = A' ∧ T2.length = T2.length ∧ c2 = c' := by injection e9 with a1 a2 a3; exact ⟨a1, a2, a3⟩
         have hPl := tephraref07_Place.calls (T2.length + 1) A2 c2 T2 x6 (posI8 T2 x6) wc hCz hc2 (place_is8 T2 (by omega) x6 _ (by omega))
         rw [atI_pos hsT] at hPl
         obtain ⟨n, hn⟩ : ∃ n, atI T2 x6 = n := ⟨_, rfl⟩
         obtain ⟨q6, hq6⟩ : ∃ q, ints (vb (n + 1).toNat) = q := ⟨_, rfl⟩
         have htg : tagE T2 x6 = q6 := by unfold tagE; rw [if_neg h6, hn, hq6]
         rw [hn] at hPl hat
         have HPL := Lib.hid hPl
         have l6 : q6.length ≤ 10 := by rw [← hq6]; exact vbI_len (n + 1) (by omega)
         have HQ6 := Lib.hid (fun (W' : World) => put1_any (n + 1) (by omega) W')
         rw [hq6] at HQ6
         have HLE : Hid (lastE v T2 k0 x1 x2 l x4 x5 x6 = PE ++ (q4 ++ (q5 ++ q6))) := Lib.hid (by
          unfold lastE bodyE
          rw [if_neg HKN.out.2, if_pos (show 2 ≤ v by have := HV.out; omega), if_pos (show 3 ≤ v by have := HV.out; omega), HQ45.out.2, htg, ← HPE.out, ← HPP.out, ← HP0.out, ← HQE.out.1, ← HQE.out.2.1, ← HQE.out.2.2.1, ← HQE.out.2.2.2, ← HQ45.out.1, HKN.out.1, Int.toNat_natCast]
          rw [show ints (vb ((1 : Int).toNat)) = [1] from vb_k 1 (by omega)]
          simp only [List.append_assoc, List.append_nil])
         have hadd6 := add_str (PE ++ (q4 ++ q5)) q6 (by simp only [List.length_append]; omega)
         have kw1 : IntKind.u64.wrap n = n := by rw [IntKind.wrap_u64]; omega
         have kw2 : IntKind.u64.wrap (n + 1) = n + 1 := by rw [IntKind.wrap_u64]; omega
         clear h6 hq6 htg hsT hn hPl hCz e9 hne
         have y6 : (wc).cell? ⟨b5, 6, none⟩ = some (.string x6) := (blk_cell HZ.out.box 6).trans rfl
         go_wp2_with fail
         refine HPL.out.mono ?_
         rintro e wd ⟨rfl, hdr⟩
         have hb := hdr.below
         have HZ := Lib.hid (HZ.out.below hb)
         clear hb hdr y6
         go_wp2_with fail
         refine (HQ6.out wd).mono ?_
         rintro e we ⟨rfl, hb⟩
         have HZ := Lib.hid (HZ.out.below hb)
         clear hb
         have hmr : (rows.map strOfNums).length ≤ 1000000 := by rw [List.length_map]; have := HRL.out; omega
         go_wp2_with (at_builtin; refine Halt.mk ?_)
         refine Halt.of ?_
         have hb4 : Below we.heap.size we (we.alloc (.cells #[.string (strOfNums (PE ++ (q4 ++ (q5 ++ q6))))] 9)) := (Below.refl _ _).alloc (Nat.le_refl _) _
         have hk4 : (we.alloc (.cells #[.string (strOfNums (PE ++ (q4 ++ (q5 ++ q6))))] 9)).heap[we.heap.size]? = some (.cells #[.string (strOfNums (PE ++ (q4 ++ (q5 ++ q6))))] 9 (0, 0)) := heap_new _ _
         have hZ4 := HZ.out.below hb4
         refine Kd.R_append_rows Kd.string (w0 := Wq) Wq.heap.size rfl (.tmp 164) (.tmp 166) 45 9 (.string ⟨#[]⟩) 16 rfl Try.underlying45 info_str9 rfl (by decide) (by omega) _ (rows.map strOfNums) [strOfNums (PE ++ (q4 ++ (q5 ++ q6)))] _ _ _ (fun _ => True) (fun _ => False) rfl rfl hZ4.rw (row_val _ hk4) ?_ (fun _ h => h.elim) (fun _ _ => trivial) hZ4.bl hZ4.bl.size (by omega) ?_
         ·rintro _ _ ⟨rfl, rfl⟩; rfl
         intro v6 w6 hR6 hb6 hg6 hat6
         have e6 : rows.map strOfNums ++ [strOfNums (PE ++ (q4 ++ (q5 ++ q6)))] = ((rows ++ [(PE ++ (q4 ++ (q5 ++ q6)))]).map strOfNums) := by rw [List.map_append]; rfl
         rw [e6] at hR6
         have h6 := hZ4.pushed hR6 hb6 hg6 hat6
         obtain ⟨A8, c8, e8, hc8, hC8⟩ := h6.tab
         obtain ⟨rfl, _, rfl⟩ : A2 = A8 ∧ T2.length = T2.length ∧ c2 = c8 := by injection e8 with a1 a2 a3; exact ⟨a1, a2, a3⟩
         have HE := Lib.hid (And.intro h6 (And.intro hc8 hC8))
         obtain ⟨Ar, cr, e9⟩ := Kd.R_slice hR6
         rw [List.length_map, List.length_append, List.length_singleton] at e9
         subst e9
         clear hR6 hb6 hg6 hat6 e6 h6 e8 hc8 hC8 hb4 hk4 hZ4
         go_wp2_with fail
         go_ret3
         obtain ⟨h6, hc8, hC8⟩ := HE.out
         refine ⟨_, A2, c2, rfl, ?_, hc8, hC8, h6.bl, h6.tb.imp (fun h => by obtain ⟨e1, e2⟩ := h; injection e2 with a1 a2 a3; exact ⟨a1, a3, e1⟩) (fun hR => Kd.R_mono hR (fun _ _ => trivial))⟩
         have h9 := h6.rw
         show Kd.R Kd.string 9 _ _ _ _ ((rows ++ [lastE v T2 k0 x1 x2 l x4 x5 x6]).map strOfNums)
         rw [HLE.out]
         first | exact h9 | (rw [moreE_self]; exact h9)
    ·have hkd : (k0 == 1) = false := by rw [hk]; rfl
     have hkd2 : decide (k0 = 1) = false := decide_eq_false (by omega)
     have y0 : (W).cell? ⟨b5, 0, none⟩ = some (.int .i64 k0) := (blk_cell HBX.out 0).trans rfl
     have HZ := HX
     have HLE : Hid (lastE v T2 k0 x1 x2 l x4 x5 x6 = p0) := Lib.hid (by
      unfold lastE
      rw [if_pos hk, List.append_nil, ← HP0.out, ← HQE.out.1, ← HQE.out.2.1, hk]
      rw [show ints (vb ((2 : Int).toNat)) = [2] from vb_k 2 (by omega)])
     clear hk
     have hmr : (rows.map strOfNums).length ≤ 1000000 := by rw [List.length_map]; have := HRL.out; omega
     go_wp2_with (at_builtin; refine Halt.mk ?_)
     refine Halt.of ?_
     have hb4 : Below W.heap.size W (W.alloc (.cells #[.string (strOfNums p0)] 9)) := (Below.refl _ _).alloc (Nat.le_refl _) _
     have hk4 : (W.alloc (.cells #[.string (strOfNums p0)] 9)).heap[W.heap.size]? = some (.cells #[.string (strOfNums p0)] 9 (0, 0)) := heap_new _ _
     have hZ4 := HZ.out.below hb4
     refine Kd.R_append_rows Kd.string (w0 := Wq) Wq.heap.size rfl (.tmp 164) (.tmp 166) 45 9 (.string ⟨#[]⟩) 16 rfl Try.underlying45 info_str9 rfl (by decide) (by omega) _ (rows.map strOfNums) [strOfNums p0] _ _ _ (fun _ => True) (fun _ => False) rfl rfl hZ4.rw (row_val _ hk4) ?_ (fun _ h => h.elim) (fun _ _ => trivial) hZ4.bl hZ4.bl.size (by omega) ?_
     ·rintro _ _ ⟨rfl, rfl⟩; rfl
     intro v6 w6 hR6 hb6 hg6 hat6
     have e6 : rows.map strOfNums ++ [strOfNums p0] = ((rows ++ [p0]).map strOfNums) := by rw [List.map_append]; rfl
     rw [e6] at hR6
     have h6 := hZ4.pushed hR6 hb6 hg6 hat6
     obtain ⟨A8, c8, e8, hc8, hC8⟩ := h6.tab
     obtain ⟨rfl, _, rfl⟩ : A2 = A8 ∧ T2.length = T2.length ∧ c2 = c8 := by injection e8 with a1 a2 a3; exact ⟨a1, a2, a3⟩
     have HE := Lib.hid (And.intro h6 (And.intro hc8 hC8))
     obtain ⟨Ar, cr, e9⟩ := Kd.R_slice hR6
     rw [List.length_map, List.length_append, List.length_singleton] at e9
     subst e9
     clear hR6 hb6 hg6 hat6 e6 h6 e8 hc8 hC8 hb4 hk4 hZ4
     go_wp2_with fail
     go_ret3
     obtain ⟨h6, hc8, hC8⟩ := HE.out
     refine ⟨_, A2, c2, rfl, ?_, hc8, hC8, h6.bl, h6.tb.imp (fun h => by obtain ⟨e1, e2⟩ := h; injection e2 with a1 a2 a3; exact ⟨a1, a3, e1⟩) (fun hR => Kd.R_mono hR (fun _ _ => trivial))⟩
     have h9 := h6.rw
     show Kd.R Kd.string 9 _ _ _ _ ((rows ++ [lastE v T2 k0 x1 x2 l x4 x5 x6]).map strOfNums)
     rw [HLE.out]
     first | exact h9 | (rw [moreE_self]; exact h9)
set_option maxRecDepth 100000 in
theorem rput9_ver (W : World) (v : Int) (A : Option Addr) (c : Nat) (T : List ByteArray) (hC : Kd.C Kd.string W A T.length T) (hc : T.length ≤ c) (hT : T.length ≤ 100000) (k0 : Int) (x1 : ByteArray) (x2 : Int) (B : Option Addr) (d : Nat) (l : List S113) (x4 x5 : Int) (x6 : ByteArray)
  (hrow : Kd.C k113 W B l.length l) (hd : l.length ≤ d) (hok : RecOk x1 l x6) (hv : ¬ (1 ≤ v ∧ v ≤ 3)) :
  Calls Try.prog 33 #[.int .i64 v, .slice A T.length c, .agg #[.int .i64 k0, .string x1, .int .u64 x2, .slice B l.length d, .int .u64 x4, .int .u64 x5, .string x6]] W (RPutPost W A c T (putF v T k0 x1 x2 l x4 x5 x6)) := by
 have hpf : putF v T k0 x1 x2 l x4 x5 x6 = ([], T, 11) := by unfold putF; rw [if_neg hv]
 rw [hpf]
 obtain ⟨wz, hwz⟩ : ∃ wz, (W.alloc (.cells #[.int .i64 k0, .string x1, .int .u64 x2, .slice B l.length d, .int .u64 x4, .int .u64 x5, .string x6] 62)).alloc (.cells #[] 9) = wz := ⟨_, rfl⟩
 have hbz : Below W.heap.size W wz := by rw [← hwz]; exact ((Below.refl _ _).alloc (Nat.le_refl _) _).alloc (by rw [heap_size_alloc]; omega) _
 have hke : wz.heap[W.heap.size + 1]? = some (.cells #[] 9 (0, 0)) := by rw [← hwz]; exact heap_new2 _ _ _
 obtain ⟨b5, hb5⟩ : ∃ b, W.heap.size = b := ⟨_, rfl⟩
 rw [hb5] at hke
 have hre := R_empty Kd.string wz W.heap.size (b5 + 1) 9 (fun _ => True) hke (by omega) trivial
 have HC := Lib.hid hC
 have HBZ := Lib.hid hbz
 have HWZ := Lib.hid hwz
 have HREZ := Lib.hid hre
 have HB5 := Lib.hid hb5
 by_cases h1 : v < 1
 ·have d1 : decide (v < 1) = true := decide_eq_true h1
  clear hpf hC hbz hke hre hwz hb5 hok hrow
  go_enter Try.func33, Try.ntmps33
  go_wp2_with fail
  (try rw [HWZ.out, HB5.out])
  go_ret3
  exact ⟨_, A, c, rfl, HREZ.out, hc, Kd.C_below HC.out HBZ.out, HBZ.out, .inl ⟨rfl, rfl, rfl⟩⟩
 ·have d1 : decide (v < 1) = false := decide_eq_false h1
  have d3 : decide (3 < v) = true := decide_eq_true (by omega)
  clear hpf hC hbz hke hre hwz hb5 hok hrow
  go_enter Try.func33, Try.ntmps33
  go_wp2_with fail
  (try rw [HWZ.out, HB5.out])
  go_ret3
  exact ⟨_, A, c, rfl, HREZ.out, hc, Kd.C_below HC.out HBZ.out, HBZ.out, .inl ⟨rfl, rfl, rfl⟩⟩
set_option maxRecDepth 100000 in
theorem rput9_no (W : World) (v : Int) (A : Option Addr) (c : Nat) (T : List ByteArray) (hC : Kd.C Kd.string W A T.length T) (hc : T.length ≤ c) (hT : T.length ≤ 100000) (k0 : Int) (x1 : ByteArray) (x2 : Int) (B : Option Addr) (d : Nat) (l : List S113) (x4 x5 : Int) (x6 : ByteArray)
  (hrow : Kd.C k113 W B l.length l) (hd : l.length ≤ d) (hok : RecOk x1 l x6) (hv : 1 ≤ v ∧ v ≤ 3) (hm : mayB v k0 x1 x2 l x4 x5 x6 = false) :
  Calls Try.prog 33 #[.int .i64 v, .slice A T.length c, .agg #[.int .i64 k0, .string x1, .int .u64 x2, .slice B l.length d, .int .u64 x4, .int .u64 x5, .string x6]] W (RPutPost W A c T (putF v T k0 x1 x2 l x4 x5 x6)) := by
 have hpf : putF v T k0 x1 x2 l x4 x5 x6 = ([], T, 1) := by unfold putF; rw [if_pos hv, if_neg (by rw [hm]; simp)]
 rw [hpf]
 obtain ⟨wz, hwz⟩ : ∃ wz, (W.alloc (.cells #[.int .i64 k0, .string x1, .int .u64 x2, .slice B l.length d, .int .u64 x4, .int .u64 x5, .string x6] 62)).alloc (.cells #[] 9) = wz := ⟨_, rfl⟩
 have hbz : Below W.heap.size W wz := by rw [← hwz]; exact ((Below.refl _ _).alloc (Nat.le_refl _) _).alloc (by rw [heap_size_alloc]; omega) _
 have hke : wz.heap[W.heap.size + 1]? = some (.cells #[] 9 (0, 0)) := by rw [← hwz]; exact heap_new2 _ _ _
 obtain ⟨b5, hb5⟩ : ∃ b, W.heap.size = b := ⟨_, rfl⟩
 rw [hb5] at hke
 have hre := R_empty Kd.string wz W.heap.size (b5 + 1) 9 (fun _ => True) hke (by omega) trivial
 have HC := Lib.hid hC
 have HBZ := Lib.hid hbz
 have HWZ := Lib.hid hwz
 have HREZ := Lib.hid hre
 have HB5 := Lib.hid hb5
 have HMY := Lib.hid (tephraref08_May.calls 9100000 v k0 x1 x2 B d l x4 x5 x6 _ wz (Kd.C_below hrow hbz) hd (ref_May_is v k0 x1 x2 l x4 x5 x6 hok _ (Nat.le_refl _)))
 rw [hm] at HMY
 have d1 : decide (v < 1) = false := decide_eq_false (by omega)
 have d3 : decide (3 < v) = false := decide_eq_false (by omega)
 clear hpf hC hbz hke hre hwz hb5 hok hrow hm
 go_enter Try.func33, Try.ntmps33
 go_wp2_with fail
 rw [HWZ.out, HB5.out]
 refine HMY.out.mono ?_
 rintro e wa ⟨rfl, hb⟩
 have hbb := HBZ.out.trans (hb.mono HBZ.out.size)
 go_wp2_with fail
 go_ret3
 exact ⟨_, A, c, rfl, Kd.R_below HREZ.out hb, hc, Kd.C_below HC.out hbb, hbb, .inl ⟨rfl, rfl, rfl⟩⟩
theorem rput9_any (W : World) (v : Int) (A : Option Addr) (c : Nat) (T : List ByteArray) (hC : Kd.C Kd.string W A T.length T) (hc : T.length ≤ c) (hT : T.length ≤ 100000) (k0 : Int) (x1 : ByteArray) (x2 : Int) (B : Option Addr) (d : Nat) (l : List S113) (x4 x5 : Int) (x6 : ByteArray)
  (hrow : Kd.C k113 W B l.length l) (hd : l.length ≤ d) (hok : RecOk x1 l x6) (h2 : 0 ≤ x2 ∧ x2 < 18446744073709551616) (h4 : 0 ≤ x4 ∧ x4 < 18446744073709551616) (h5 : 0 ≤ x5 ∧ x5 < 18446744073709551616) (hdr : ∀ y ∈ l, 0 ≤ y.f1 ∧ y.f1 < 18446744073709551616) :
  Calls Try.prog 33 #[.int .i64 v, .slice A T.length c, .agg #[.int .i64 k0, .string x1, .int .u64 x2, .slice B l.length d, .int .u64 x4, .int .u64 x5, .string x6]] W (RPutPost W A c T (putF v T k0 x1 x2 l x4 x5 x6)) := by
 by_cases hv : 1 ≤ v ∧ v ≤ 3
 ·by_cases hm : mayB v k0 x1 x2 l x4 x5 x6 = true
  ·have hv3 : v = 1 ∨ v = 2 ∨ v = 3 := by omega
   rcases hv3 with h | h | h
   ·exact rput9_1 W v A c T hC hc hT k0 x1 x2 B d l x4 x5 x6 hrow hd hok h hm h2 h4 h5 hdr
   ·exact rput9_2 W v A c T hC hc hT k0 x1 x2 B d l x4 x5 x6 hrow hd hok h hm h2 h4 h5 hdr
   ·exact rput9_3 W v A c T hC hc hT k0 x1 x2 B d l x4 x5 x6 hrow hd hok h hm h2 h4 h5 hdr
  ·exact rput9_no W v A c T hC hc hT k0 x1 x2 B d l x4 x5 x6 hrow hd hok hv (by rwa [Bool.not_eq_true] at hm)
 ·exact rput9_ver W v A c T hC hc hT k0 x1 x2 B d l x4 x5 x6 hrow hd hok hv
end Go.Proofs.Ytfflenbfapgilaa
namespace Go.Proofs.Ytfflenbfapgilaa.WSchemaPuts
open Go.RowKit Go.Proofs.YtfflenbfapgilaaW.PrintWords Go.Proofs.Ytfflenbfapgilaa.GRR
def isRS (wf : World) (T2 : List ByteArray) : Value → World → Prop := fun v W => Kd.R Kd.string 9 W wf.heap.size (fun _ => True) v T2
theorem isRS_lasts {wf : World} {T2 : List ByteArray} : ∀ v W W', isRS wf T2 v W → Below W.heap.size W W' → isRS wf T2 v W' := fun _ _ _ h hb => Kd.R_below h hb
def isPut (wf : World) (rs T2 : List ByteArray) (er : Int) : Value → World → Prop := fun v W => ∃ v1 v2, v = .tuple #[v1, v2, .int .i64 er] ∧ isC Kd.string rs v1 W ∧ isRS wf T2 v2 W
theorem isPut_lasts {wf : World} {rs T2 : List ByteArray} {er : Int} : ∀ v W W', isPut wf rs T2 er v W → Below W.heap.size W W' → isPut wf rs T2 er v W' := fun _ _ _ ⟨v1, v2, h1, h2, h3⟩ hb => ⟨v1, v2, h1, isC_lasts _ _ _ h2 hb, isRS_lasts _ _ _ h3 hb⟩
def kX (b : Nat) : Kd (List Int) where
 sz := 1
 E := []
 K := fun _ y cs => y = [120] ∧ cs = [.slice (some ⟨b, 0, none⟩) 1 1]
 M := fun _ _ _ y cs => y = [120] ∧ cs = [.slice (some ⟨b, 0, none⟩) 1 1]
 K_len := fun h => by rw [h.2]; rfl
 K_one := fun h => by rw [h.2]; intro u hu; simp only [List.mem_singleton] at hu; subst hu; rfl
 K_below := fun _ h => h
 K_of_M := fun h => h
 M_mono := fun _ h => h
 M_bound := fun h => h
 M_move := fun _ h => h
 M_lower := fun _ h => h
abbrev kMix (b : Nat) : Kd (List Int) := Kd.or_ kRows (kX b) rfl
theorem kMix_read {b : Nat} {W : World} {A : Option Addr} {n : Nat} {xs : List (List Int)} {fr : Nat × Nat} (hb : W.heap[b]? = some (.cells #[.int .u8 120] 5 fr)) (h : (kMix b).C W A n xs) : kRows.C W A n xs := by
 refine Kd.C_read (d := kRows) (dm := kMix b) rfl (fun x cs hk => ?_) h
 rcases hk with hk | ⟨rfl, rfl⟩
 ·exact hk
 ·exact ⟨some ⟨b, 0, none⟩, 1, rfl, Nat.le_refl _, C_block .u8 W b 5 fr [120] hb (by simp)⟩
theorem R_single {X : World} {base b b0 : Nat} {ok : Nat → Prop} (h : X.heap[b]? = some (.cells #[.slice (some ⟨b0, 0, none⟩) 1 1] 22 (0, 0))) (hb : base ≤ b) (hok : ok b) :
  Kd.R (kMix b0) 22 X base ok (.slice (some ⟨b, 0, none⟩) 1 1) [[120]] := by
 refine ⟨fun k hk => ?_, [.slice (some ⟨b0, 0, none⟩) 1 1], ⟨rfl, .inr ⟨b, 1, _, rfl, hb, h, Nat.le_refl _, by simp [maxLen], rfl, rfl⟩⟩, ?_⟩
 ·simp only [Value.ownBlock, Option.some.injEq] at hk; exact hk ▸ hok
 ·exact (Reps.none ((kMix b0).M X base (fun k => ok k ∧ some k ≠ (Value.slice (some ⟨b, 0, none⟩) 1 1).ownBlock)) 1).snoc (p := [120]) (c := [.slice (some ⟨b0, 0, none⟩) 1 1]) (.inr ⟨rfl, rfl⟩) rfl
set_option maxHeartbeats 8000000 in
set_option maxRecDepth 100000 in
theorem walk (v : Int) (v1 : Value) (p1 : Option Addr × Nat × List ByteArray) (v2 : Value) (p2 : RecT9) (w : World) (w0 : (Lit.int .i64 v).wf = true) (w1 : IsRows Kd.string (fun s => s.size ≤ maxLen) w v1 p1) (w2 : IsRec w v2 p2) :
  Calls Try.prog 8 #[.int .i64 v, v1, v2] w fun e w' => e = .returned (.bool true) ∧ Below w.heap.size w w' := by
 obtain ⟨A, c, names⟩ := p1
 obtain ⟨⟨k0, x1, x2, l, x4, x5, x6⟩, B, d⟩ := p2
 obtain ⟨rfl, hcA, hCA, hmA, hzA⟩ := w1
 have hv2 := w2.v
 have hd := w2.c
 have hrow := w2.row
 have hnum := NumR.of w2.ok
 dsimp only at hcA hCA hmA hzA hv2 hd hrow ⊢
 subst hv2
 clear w2 w0
 obtain ⟨wa, hwa⟩ : ∃ wa, w.alloc (.cells #[.int .i64 k0, .string x1, .int .u64 x2, .slice B l.length d, .int .u64 x4, .int .u64 x5, .string x6] 62) = wa := ⟨_, rfl⟩
 have hba : Below w.heap.size w wa := by rw [← hwa]; exact (Below.refl _ _).alloc (Nat.le_refl _) _
 have hka : wa.heap[w.heap.size]? = some (.cells #[.int .i64 k0, .string x1, .int .u64 x2, .slice B l.length d, .int .u64 x4, .int .u64 x5, .string x6] 62 (0, 0)) := by rw [← hwa]; exact heap_new _ _
 have hsa : wa.heap.size = w.heap.size + 1 := by rw [← hwa, heap_size_alloc]
 obtain ⟨b5, hbb⟩ : ∃ b, w.heap.size = b := ⟨_, rfl⟩
 rw [hbb] at hka hsa
 have HFW := Lib.hid (tephralaw09_few.calls (names.length + 1) A c names (fewB names) wa (Kd.C_below hCA hba) hcA (few_is names hCA.2.1))
 obtain ⟨g, hgf, hG⟩ := great8_at k0 x1 x2 l x4 x5 x6 B d w hrow hd
 have HG := Lib.hid hG
 have HGF := Lib.hid hgf
 have hfl : fewB names = true → names.length ≤ 40 := fun h => by
  unfold fewB at h
  rw [Bool.and_eq_true, decide_eq_true_eq] at h
  exact h.2
 have HFL := Lib.hid hfl
 have HCA := Lib.hid hCA
 have HRO := Lib.hid hrow
 have HBA := Lib.hid hba
 have HKA := Lib.hid hka
 have HWA := Lib.hid hwa
 have HBB := Lib.hid hbb
 have HNUM := Lib.hid hnum
 have HZA := Lib.hid hzA
 have HSA := Lib.hid hsa
 clear hCA hrow hba hka hwa hbb hG hgf hfl hnum hzA hsa
 generalize fewB names = f at *
 go_enter Try.func8, Try.ntmps8
 go_wp2_with fail
 rw [HWA.out, HBB.out]
 refine HFW.out.mono ?_
 rintro e wb ⟨rfl, hdr⟩
 have hb := hdr.below
 have HB1 := Lib.hid (HBA.out.trans (hb.mono HBA.out.size))
 have HK1 := Lib.hid (blk_below HKA.out hb)
 have HS1 := Lib.hid (show b5 + 1 ≤ wb.heap.size by have := HSA.out; have := hb.size; omega)
 clear hdr hb HFW HKA HBA HWA HSA
 cases f with
 | false =>
  go_wp2_with fail
  refine (fixed9_any _).mono ?_
  rintro en wq ⟨rfl, hbq⟩
  go_wp2_with fail
  go_ret
  exact ⟨rfl, HB1.out.trans (hbq.mono HB1.out.size)⟩
 | true =>
  obtain ⟨y0, y1, y2, y3, y4, y5, y6⟩ := facts7 HK1.out
  go_wp2_with fail
  clear y0 y1 y2 y3 y4 y5 y6
  refine (HG.out wb HB1.out).mono ?_
  rintro e wc ⟨rfl, hb⟩
  have HB2 := Lib.hid (HB1.out.trans (hb.mono HB1.out.size))
  have HK2 := Lib.hid (blk_below HK1.out hb)
  have HS2 := Lib.hid (show b5 + 1 ≤ wc.heap.size by have := HS1.out; have := hb.size; omega)
  clear hb HG HK1 HB1 HS1
  cases g with
  | true =>
   go_wp2_with fail
   refine (fixed9_any _).mono ?_
   rintro en wq ⟨rfl, hbq⟩
   go_wp2_with fail
   go_ret
   exact ⟨rfl, HB2.out.trans (hbq.mono HB2.out.size)⟩
  | false =>
   have hfew := HGF.out (by trivial)
   have hnl := HFL.out (by trivial)
   have HFEW := Lib.hid hfew
   clear hfew HGF HFL
   have HN := Lib.hid (fun (W : World) (hb : Below w.heap.size w W) => new_any A c names W (Kd.C_below HCA.out hb) hcA HZA.out (by omega))
   have hT0 := tnew_len names
   have hND := tnew_nodup names
   have HNW := Lib.hid (fun (W : World) (hb : Below w.heap.size w W) => tephraref07_New.calls 2041 A c names _ W (Kd.C_below HCA.out hb) hcA (by
    have := rnew_is8 names (by omega) names.length 0 2041 (by omega) (by omega)
    rw [List.take_zero] at this
    exact this))
   obtain ⟨T0, hTe⟩ : ∃ x, tnew names = x := ⟨_, rfl⟩
   rw [hTe] at HN hT0 hND HNW
   clear hTe
   go_wp2_with fail
   refine (HN.out wc HB2.out).mono ?_
   rintro e wd ⟨rfl, S1, hT1, hS1, hB1⟩
   have HBd := Lib.hid (HB2.out.trans (hB1.mono HB2.out.size))
   go_wp2_with fail
   refine (HN.out wd HBd.out).mono ?_
   rintro e we ⟨rfl, S2, hT2, hS2, hB2⟩
   obtain ⟨g1, hg1⟩ : ∃ g, wc.heap.size = g := ⟨_, rfl⟩
   obtain ⟨g2, hg2⟩ : ∃ g, wd.heap.size = g := ⟨_, rfl⟩
   have hst : RwA w we S1 S2 g1 g2 T0 T0 (.slice none 0 0) (.slice none 0 0) [] [] :=
    ⟨hg1 ▸ hT1.keep (Kp.of_below hB2 (fun _ => False)) (fun _ _ h => h), hg2 ▸ hT2, fun k h1 h2 => by have := hT1.lt k h1; have := hS2 k h2; omega, fun k h1 => Nat.le_trans HB2.out.size (hS1 k h1), fun k h2 => Nat.le_trans HBd.out.size (hS2 k h2), HBd.out.trans (hB2.mono HBd.out.size), Kd.R_nil _ _ _ _ _, Kd.R_nil _ _ _ _ _⟩
   have hke := blk_below (blk_below HK2.out hB1) hB2
   have hb1n : ∀ k, S1 k → b5 < k := fun k hk => by have := hS1 k hk; have := HS2.out; omega
   have hb2n : ∀ k, S2 k → b5 < k := fun k hk => by have := hS2 k hk; have := HS2.out; have := hB1.size; omega
   rw [hg1, hg2]
   have HST := Lib.hid hst
   have HKE := Lib.hid hke
   have HS1N := Lib.hid hb1n
   have HS2N := Lib.hid hb2n
   have hPT := sput_any v hst.t1 k0 x1 x2 B d l x4 x5 x6 (fun W' hk => Kd.C_below HRO.out (below_kp hst.bl hk hst.s1)) hd HFEW.out.ok HNUM.out.r2 HNUM.out.o HNUM.out.w HNUM.out.d (by omega)
   have hRP := fun (W : World) (A9 : Option Addr) (c9 : Nat) (hb : Below w.heap.size w W) (hC : Kd.C Kd.string W A9 T0.length T0) (hc : T0.length ≤ c9) => rput9_any W v A9 c9 T0 hC hc (by omega) k0 x1 x2 B d l x4 x5 x6 (Kd.C_below HRO.out hb) hd HFEW.out.ok HNUM.out.r2 HNUM.out.o HNUM.out.w HNUM.out.d
   have hno : (putR v T0 (k0, x1, x2, l, x4, x5, x6)).2.2 ≠ 0 → _ := putF_no (v := v) (T := T0) (r := (k0, x1, x2, l, x4, x5, x6))
   have hyes : (putR v T0 (k0, x1, x2, l, x4, x5, x6)).2.2 = 0 → GoodR v (k0, x1, x2, l, x4, x5, x6) := fun h => ⟨putF_yes h, HNUM.out⟩
   have hfits : (putR v T0 (k0, x1, x2, l, x4, x5, x6)).2.2 = 0 → PutFit v T0 (putR v T0 (k0, x1, x2, l, x4, x5, x6)) := fun h => put_fit (by omega) hND (hyes h)
   have hget : (putR v T0 (k0, x1, x2, l, x4, x5, x6)).2.2 = 0 → _ := fun h => getF_put (v := v) (T := T0) (by omega) hND (hyes h).may HNUM.out.r2 HNUM.out.o HNUM.out.w HNUM.out.d [[120]] []
   have htl : (putR v T0 (k0, x1, x2, l, x4, x5, x6)).2.1.length ≤ 1000000 := by
    by_cases h : (putR v T0 (k0, x1, x2, l, x4, x5, x6)).2.2 = 0
    ·have := (hfits h).t; omega
    ·rw [(hno h).2]; omega
   have hrl : (putR v T0 (k0, x1, x2, l, x4, x5, x6)).1.length ≤ 1000 := by
    by_cases h : (putR v T0 (k0, x1, x2, l, x4, x5, x6)).2.2 = 0
    ·have := (hfits h).n1; omega
    ·rw [(hno h).1]; simp
   unfold putR at hno hyes hfits hget htl hrl
   dsimp only at hno hyes hfits hget htl hrl
   generalize putF v T0 k0 x1 x2 l x4 x5 x6 = F at hPT hRP hno hyes hfits hget htl hrl
   obtain ⟨F1, T2, er⟩ := F
   dsimp only at hno hyes hfits hget htl hrl
   have HPT := Lib.hid hPT
   have HRP := Lib.hid hRP
   have HFITS := Lib.hid hfits
   have HGET := Lib.hid hget
   clear hT1 hS1 hB1 hT2 hS2 hB2 hg1 hg2 hst hke hPT hRP hno hyes hfits hget hND HB2 HBd HK2 hb1n hb2n HN
   obtain ⟨y0, y1, y2, y3, y4, y5, y6⟩ := facts7 HKE.out
   go_wp2_with fail
   clear y0 y1 y2 y3 y4 y5 y6
   refine HPT.out.mono ?_
   rintro e wf ⟨vp, S1', rfl, hT', hs', hk', hRp⟩
   dsimp only at hT' hRp ⊢
   have hcc := HST.out.wrote1 hT' hs' hk'
   have hkf := hk'.heap HKE.out (fun hs => by have := HS1N.out b5 hs; omega)
   obtain ⟨Ap, cp, rfl⟩ := Kd.R_slice hRp
   have hcc2 : RwA w wf S1' S2 g1 g2 T2 T0 (.slice Ap F1.length cp) (.slice none 0 0) F1 [] := ⟨hcc.t1, hcc.t2, hcc.dj, hcc.s1, hcc.s2, hcc.bl, Kd.R_mono (Kd.R_lower (Kd.R_bound hRp) HST.out.bl.size) (fun k hk => ⟨hk.1, fun h2 => by have := HST.out.t2.lt k h2; have := hk.2.1; omega⟩), hcc.rg⟩
   have H := Lib.hid hcc2
   have HSW := Lib.hid (fun k (hk : S2 k) => hcc2.t2.lt k hk)
   have HBX := Lib.hid hkf
   obtain ⟨rs, hrs⟩ : ∃ rs, F1.map strOfNums = rs := ⟨_, rfl⟩
   have HRS := Lib.hid hrs
   have hrsl : rs.length = F1.length := by rw [← hrs, List.length_map]
   have HRSL := Lib.hid hrsl
   unfold RPutPost at HRP
   dsimp only at HRP
   rw [hrs] at HRP
   have HBW := Lib.hid hcc2.bl
   have HNW := Lib.hid (fun (W : World) (hb : Below wf.heap.size wf W) => HNW.out W (HBW.out.trans (hb.mono HBW.out.size)))
   have HRP := Lib.hid (fun (W : World) (A9 : Option Addr) (c9 : Nat) (hb : Below wf.heap.size wf W) => HRP.out W A9 c9 (HBW.out.trans (hb.mono HBW.out.size)))
   clear hT' hs' hk' hRp hcc hcc2 hkf hrs hrsl HPT HST HKE
   go_wp2_with fail
   refine region_calmA (n := 12) (byList [isV (.int .i64 v), isV (.slice A names.length c), (isRS wf T0), isV (.agg #[.int .i64 k0, .string x1, .int .u64 x2, .slice B l.length d, .int .u64 x4, .int .u64 x5, .string x6]), (isPut wf rs T2 er), (isPut wf rs T2 er), (isC Kd.string rs), (isRS wf T2), isV (.int .i64 er), (isC Kd.string rs), (isRS wf T2), isV (.int .i64 er)]) (by kernel_rfl) rfl (byList_lasts ?_) (by kernel_rfl) (by kernel_rfl) (show AllLt 12 _ from ?_) ?_
   ·intro p hp
    simp only [List.mem_cons, List.not_mem_nil, or_false] at hp
    rcases hp with rfl | rfl | rfl | rfl | rfl | rfl | rfl | rfl | rfl | rfl | rfl | rfl <;> first | exact isV_lasts | exact isC_lasts | exact isPut_lasts | exact isRS_lasts
   ·refine allLt_succ (allLt_succ (allLt_succ (allLt_succ (allLt_succ (allLt_succ (allLt_succ (allLt_succ (allLt_succ (allLt_succ (allLt_succ (allLt_succ (allLt_zero _) ?_) ?_) ?_) ?_) ?_) ?_) ?_) ?_) ?_) ?_) ?_) ?_
    ·refine StepOkA.run (o := ?o0) ?ho0 ?hg0 ?h0
     case ho0 => simp only [List.getElem?_toArray, List.getElem?_cons_succ, List.getElem?_cons_zero]; rfl
     case hg0 => rfl
     case h0 =>
     intro a W hS hB hd
     have e0 : a.tmps[0]? = some (.int .i64 v) := hS.get rfl rfl
     refine wp_value (c := .int .i64 v) ?_ rfl
     go_simp
    ·refine StepOkA.run (o := ?o1) ?ho1 ?hg1 ?h1
     case ho1 => simp only [List.getElem?_toArray, List.getElem?_cons_succ, List.getElem?_cons_zero]; rfl
     case hg1 => rfl
     case h1 =>
     intro a W hS hB hd
     have e1 : a.tmps[1]? = some (.slice A names.length c) := hS.get rfl rfl
     refine wp_value (c := .slice A names.length c) ?_ rfl
     go_simp
    ·refine StepOkA.run (o := ?o2) ?ho2 ?hg2 ?h2
     case ho2 => simp only [List.getElem?_toArray, List.getElem?_cons_succ, List.getElem?_cons_zero]; rfl
     case hg2 => rfl
     case h2 =>
     intro a W hS hB hd
     have e44 : a.tmps[44]? = some (.slice A names.length c) := (hd 1 rfl).bool rfl rfl rfl
     refine wp_called Try.func34 (by kernel_rfl) rfl #[.slice A names.length c] rfl (by simp [Act.eval, *]) ?_
     refine (HNW.out W hB).mono ?_
     rintro e w9 ⟨v9, rfl, hR9, hb9⟩
     exact ⟨_, rfl, Kd.R_lower hR9 hB.size, hb9⟩
    ·refine StepOkA.run (o := ?o3) ?ho3 ?hg3 ?h3
     case ho3 => simp only [List.getElem?_toArray, List.getElem?_cons_succ, List.getElem?_cons_zero]; rfl
     case hg3 => rfl
     case h3 =>
     intro a W hS hB hd
     have e5 : a.tmps[5]? = some (.pointer (some ⟨b5, 0, none⟩)) := hS.get rfl rfl
     refine wp_value (c := .agg #[.int .i64 k0, .string x1, .int .u64 x2, .slice B l.length d, .int .u64 x4, .int .u64 x5, .string x6]) ?_ rfl
     have hx := blk_below HBX.out hB
     obtain ⟨hc0, hc1, hc2, hc3, hc4, hc5, hc6⟩ := facts7 hx
     go_simp
    ·refine StepOkA.run (o := ?o4) ?ho4 ?hg4 ?h4
     case ho4 => simp only [List.getElem?_toArray, List.getElem?_cons_succ, List.getElem?_cons_zero]; rfl
     case hg4 => rfl
     case h4 =>
     intro a W hS hB hd
     have e43 : a.tmps[43]? = some (.int .i64 v) := (hd 0 rfl).bool rfl rfl rfl
     obtain ⟨u45, e45, p45⟩ := (hd 2 rfl).get rfl rfl
     replace p45 : (isRS wf T0) u45 W := p45
     have e46 : a.tmps[46]? = some (.agg #[.int .i64 k0, .string x1, .int .u64 x2, .slice B l.length d, .int .u64 x4, .int .u64 x5, .string x6]) := (hd 3 rfl).bool rfl rfl rfl
     obtain ⟨A45, c45, he45, hl45, hC45⟩ := Kd.R_reads p45
     subst he45
     refine wp_called Try.func33 (by kernel_rfl) rfl #[.int .i64 v, .slice A45 T0.length c45, .agg #[.int .i64 k0, .string x1, .int .u64 x2, .slice B l.length d, .int .u64 x4, .int .u64 x5, .string x6]] rfl (by simp [Act.eval, *]) ?_
     refine (HRP.out W A45 c45 hB hC45 hl45).mono ?_
     rintro e w9 ⟨v9, A9, c9, rfl, hR9, hl9, hC9, hb9, hor⟩
     obtain ⟨A8, c8, he8, hl8, hC8⟩ := Kd.R_reads hR9
     refine ⟨_, rfl, ⟨_, _, rfl, ⟨A8, c8, he8, hl8, hC8⟩, ?_⟩, hb9⟩
     rcases hor with ⟨rfl, rfl, he⟩ | hR
     ·have h9 := Kd.R_below p45 hb9
      (try dsimp only at he)
      subst he
      exact h9
     ·exact Kd.R_lower hR hB.size
    ·refine StepOkA.run (o := ?o5) ?ho5 ?hg5 ?h5
     case ho5 => simp only [List.getElem?_toArray, List.getElem?_cons_succ, List.getElem?_cons_zero]; rfl
     case hg5 => rfl
     case h5 =>
     intro a W hS hB hd
     obtain ⟨u47, e47, p47⟩ := (hd 4 rfl).get rfl rfl
     replace p47 : (isPut wf rs T2 er) u47 W := p47
     refine wp_pred (c := u47) ?_ p47
     go_simp
    ·refine StepOkA.run (o := ?o6) ?ho6 ?hg6 ?h6
     case ho6 => simp only [List.getElem?_toArray, List.getElem?_cons_succ, List.getElem?_cons_zero]; rfl
     case hg6 => rfl
     case h6 =>
     intro a W hS hB hd
     obtain ⟨u42, e42, p42⟩ := (hd 5 rfl).get rfl rfl
     replace p42 : (isPut wf rs T2 er) u42 W := p42
     obtain ⟨v1, v2, hu, h1, h2⟩ := p42
     subst hu
     refine wp_pred (c := v1) ?_ h1
     go_simp
    ·refine StepOkA.run (o := ?o7) ?ho7 ?hg7 ?h7
     case ho7 => simp only [List.getElem?_toArray, List.getElem?_cons_succ, List.getElem?_cons_zero]; rfl
     case hg7 => rfl
     case h7 =>
     intro a W hS hB hd
     obtain ⟨u42, e42, p42⟩ := (hd 5 rfl).get rfl rfl
     replace p42 : (isPut wf rs T2 er) u42 W := p42
     obtain ⟨v1, v2, hu, h1, h2⟩ := p42
     subst hu
     refine wp_pred (c := v2) ?_ h2
     go_simp
    ·refine StepOkA.run (o := ?o8) ?ho8 ?hg8 ?h8
     case ho8 => simp only [List.getElem?_toArray, List.getElem?_cons_succ, List.getElem?_cons_zero]; rfl
     case hg8 => rfl
     case h8 =>
     intro a W hS hB hd
     obtain ⟨u42, e42, p42⟩ := (hd 5 rfl).get rfl rfl
     replace p42 : (isPut wf rs T2 er) u42 W := p42
     refine wp_value (c := .int .i64 er) ?_ rfl
     obtain ⟨v1, v2, hu, h1, h2⟩ := p42
     subst hu
     go_simp
    ·refine StepOkA.run (o := ?o9) ?ho9 ?hg9 ?h9
     case ho9 => simp only [List.getElem?_toArray, List.getElem?_cons_succ, List.getElem?_cons_zero]; rfl
     case hg9 => rfl
     case h9 =>
     intro a W hS hB hd
     obtain ⟨u48, e48, p48⟩ := (hd 6 rfl).get rfl rfl
     replace p48 : (isC Kd.string rs) u48 W := p48
     obtain ⟨A48, c48, rfl, hl48, hC48⟩ := p48
     refine wp_pred (c := .slice A48 rs.length c48) ?_ ⟨A48, c48, rfl, hl48, hC48⟩
     go_simp
    ·refine StepOkA.run (o := ?o10) ?ho10 ?hg10 ?h10
     case ho10 => simp only [List.getElem?_toArray, List.getElem?_cons_succ, List.getElem?_cons_zero]; rfl
     case hg10 => rfl
     case h10 =>
     intro a W hS hB hd
     obtain ⟨u49, e49, p49⟩ := (hd 7 rfl).get rfl rfl
     replace p49 : (isRS wf T2) u49 W := p49
     refine wp_pred (c := u49) ?_ p49
     go_simp
    ·refine StepOkA.run (o := ?o11) ?ho11 ?hg11 ?h11
     case ho11 => simp only [List.getElem?_toArray, List.getElem?_cons_succ, List.getElem?_cons_zero]; rfl
     case hg11 => rfl
     case h11 =>
     intro a W hS hB hd
     have e50 : a.tmps[50]? = some (.int .i64 er) := (hd 8 rfl).bool rfl rfl rfl
     refine wp_value (c := .int .i64 er) ?_ rfl
     go_simp
   ·intro a W hS hB hh
    obtain ⟨u11, e11, p11⟩ := (hh 9 (by omega)).get rfl rfl
    obtain ⟨u12, e12, p12⟩ := (hh 10 (by omega)).get rfl rfl
    have e13 : a.tmps[13]? = some (.int .i64 er) := (hh 11 (by omega)).bool rfl rfl rfl
    replace p11 : isC Kd.string rs u11 W := p11
    replace p12 : isRS wf T2 u12 W := p12
    obtain ⟨A11, c11, rfl, hl11, hC11⟩ := p11
    have p12' := p12
    obtain ⟨A12, c12, rfl, hl12, hC12⟩ := Kd.R_reads p12
    have HBR := Lib.hid hB
    have HC11 := Lib.hid hC11
    have HC12 := Lib.hid p12'
    have hlit := same_lit hS
    clear hh hS hB hC11 hC12 p12 p12'
    simp only [List.filterMap_cons, List.filterMap_nil, List.foldl_cons, List.foldl_nil, List.setIfInBounds_toArray, List.set_cons_zero, List.set_cons_succ] at hlit
    rw [show a.tmps.getD 11 undef = .slice (A11) rs.length c11 by simp [Array.getD_eq_getD_getElem?, e11]] at hlit
    rw [show a.tmps.getD 12 undef = .slice (A12) T2.length c12 by simp [Array.getD_eq_getD_getElem?, e12]] at hlit
    rw [show a.tmps.getD 13 undef = .int .i64 er by simp [Array.getD_eq_getD_getElem?, e13]] at hlit
    generalize a.tmps.getD 42 undef = z42 at hlit
    generalize a.tmps.getD 43 undef = z43 at hlit
    generalize a.tmps.getD 44 undef = z44 at hlit
    generalize a.tmps.getD 45 undef = z45 at hlit
    generalize a.tmps.getD 46 undef = z46 at hlit
    generalize a.tmps.getD 47 undef = z47 at hlit
    generalize a.tmps.getD 48 undef = z48 at hlit
    generalize a.tmps.getD 49 undef = z49 at hlit
    generalize a.tmps.getD 50 undef = z50 at hlit
    clear e11 e12 e13
    subst hlit
    have HX := Lib.hid (H.out.below HBR.out)
    have HBX2 := Lib.hid (blk_below HBX.out HBR.out)
    have hSTR := tephralaw09_strings.calls (F1.length + 1) Ap cp F1 (F1.map strOfNums) W (Kd.R_reads' HX.out.ra).2.2 (Kd.R_reads' HX.out.ra).2.1 (strs_is F1 (by omega))
    rw [HRS.out] at hSTR
    have HSTR := Lib.hid hSTR
    clear hSTR HRP HNW H HBX HBR
    have hnee : (er != er) = false := by simp
    go_wp2_with fail
    refine HSTR.out.mono ?_
    rintro e wg ⟨vs, rfl, hRs, hb⟩
    obtain ⟨As, cs, rfl⟩ := Kd.R_slice hRs
    have hs9 := Kd.R_reads' hRs
    have hSM := tephraref04_Same.calls (rs.length + 1) As cs rs A11 c11 rs true wg hs9.2.2 hs9.2.1 (Kd.C_below HC11.out hb) hl11 (same4_is rs (by have := HRSL.out; omega))
    have HSM := Lib.hid hSM
    have HY := Lib.hid (HX.out.below hb)
    have HBX3 := Lib.hid (blk_below HBX2.out hb)
    have HC12 := Lib.hid (Kd.R_below HC12.out hb)
    clear hRs hb hs9 hSM HX HBX2 HSTR HC11 hnee
    go_wp2_with fail
    refine HSM.out.mono ?_
    rintro e wh ⟨rfl, hdr⟩
    have hb := hdr.below
    have HY2 := Lib.hid (HY.out.below hb)
    have HBX4 := Lib.hid (blk_below HBX3.out hb)
    have HC12 := Lib.hid (Kd.R_below HC12.out hb)
    have HTX := Lib.hid (texts9_any HY2.out.t1)
    clear hdr hb HSM HY HBX3
    go_wp2_with fail
    refine HTX.out.mono ?_
    rintro e wi ⟨vt, rfl, hRt, hb⟩
    obtain ⟨At, ct, rfl⟩ := Kd.R_slice hRt
    have ht9 := Kd.R_reads' hRt
    have hSM := tephraref04_Same.calls (T2.length + 1) At ct T2 A12 c12 T2 true wi ht9.2.2 ht9.2.1 (Kd.R_reads' (Kd.R_below HC12.out hb)).2.2 hl12 (same4_is T2 htl)
    have HSM := Lib.hid hSM
    have HY := Lib.hid (HY2.out.below hb)
    have HBX3 := Lib.hid (blk_below HBX4.out hb)
    have HC12 := Lib.hid (Kd.R_below HC12.out hb)
    clear hRt hb ht9 hSM HY2 HBX4 HTX
    go_wp2_with fail
    refine HSM.out.mono ?_
    rintro e wj ⟨rfl, hdr⟩
    have hb := hdr.below
    have HY2 := Lib.hid (HY.out.below hb)
    have HBX4 := Lib.hid (blk_below HBX3.out hb)
    have HC12 := Lib.hid (Kd.R_below HC12.out hb)
    clear hdr hb HSM HY HBX3
    by_cases he : er = 0
    ·subst he
     have hfit := HFITS.out (by trivial)
     have hgt := HGET.out (by trivial)
     rw [List.append_nil, show (([[120]] : List (List Int)).length : Int) = 1 from rfl, show ([[120]] : List (List Int)).length + F1.length = F1.length + 1 by simp only [List.length_cons, List.length_nil]; omega] at hgt
     have HGT0 := Lib.hid hgt
     have HFIT := Lib.hid hfit
     have hfn := hfit.n1
     dsimp only at hfn
     clear hgt hfit
     have kc := fun (w : World) (C : Array Value) (n c : Nat) => Lib.run_convert_bytes_const (P := Try.prog) w 22 5 C n c Try.underlying22 Try.underlying5
     go_wp2_with (at_builtin; refine Halt.mk ?_)
     clear kc
     refine Halt.of ?_
     obtain ⟨WK, hWK⟩ : ∃ W, (wj.alloc (.cells #[.int .u8 120] 5 (1, 2))).alloc (.cells #[.slice (some ⟨wj.heap.size, 0, none⟩) 1 1] 22) = W := ⟨_, rfl⟩
     have hbk : Below wj.heap.size wj WK := by rw [← hWK]; exact ((Below.refl _ _).alloc (Nat.le_refl _) _).alloc (by rw [heap_size_alloc]; omega) _
     have hk1 : WK.heap[wj.heap.size]? = some (.cells #[.int .u8 120] 5 (1, 2)) := by rw [← hWK, heap_new_old _ _ _ (by rw [heap_size_alloc]; omega)]; exact heap_new _ _
     have hk2 : WK.heap[wj.heap.size + 1]? = some (.cells #[.slice (some ⟨wj.heap.size, 0, none⟩) 1 1] 22 (0, 0)) := by rw [← hWK]; exact heap_new2 _ _ _
     have hks : WK.heap.size = wj.heap.size + 2 := by rw [← hWK, heap_size_alloc, heap_size_alloc]
     have hbw := HY2.out.bl.size
     have h1n : ∀ k, wj.heap.size ≤ k → ¬ S1' k ∧ ¬ S2 k := fun k hk => ⟨fun h => by have := HY2.out.t1.lt k h; omega, fun h => by have := HY2.out.t2.lt k h; omega⟩
     have hR2 := R_single (base := w.heap.size) (ok := fun k => ¬ S1' k ∧ ¬ S2 k) hk2 (by omega) (h1n _ (by omega))
     have hHK := HY2.out.below hbk
     have hbx := blk_below HBX4.out hbk
     have hC12 := Kd.R_below (Kd.R_bound HC12.out) hbk
     have hb5j := blk_lt HBX4.out
     obtain ⟨Aq, cq, he1, hl1, hr1⟩ := OwnRow.reads (Kd.R_below (Kd.R_bound HY2.out.ra) hbk).2
     obtain ⟨rfl, _, rfl⟩ : Ap = Aq ∧ F1.length = F1.length ∧ cp = cq := by injection he1 with a1 a2 a3; exact ⟨a1, a2, a3⟩
     rw [hWK]
     refine Kd.R_append_rows (kMix wj.heap.size) (w0 := w) w.heap.size rfl (.tmp 76) (.tmp 77) 41 22 (.slice none 0 0) 24 rfl Try.underlying41 info_bs9 rfl (show 0 < 1 by decide) (by omega) _ [[120]] F1 _ _ _ (fun k => ¬ S1' k ∧ ¬ S2 k) (fun k => (¬ S1' k ∧ ¬ S2 k) ∧ k < wj.heap.size) rfl rfl hR2 hr1 ?_ ?_ ?_ hHK.bl hHK.bl.size (by simp only [List.length_cons, List.length_nil]; omega) ?_
     ·intro x cs hM
      exact .inl (kRows.M_mono (fun k hk => ⟨hk.1.1, hk.1.2.2.1⟩) hM)
     ·intro k hk
      exact ⟨hk.1, fun e => by injection e with e; have := hk.2; rw [e] at this; exact absurd this (by show ¬ wj.heap.size + 1 < wj.heap.size; omega)⟩
     ·intro k hk
      exact h1n k (by omega)
     intro v7 w7 hR7 hb7 hg7 _
     have hkp : Kp WK w7 (fun k => k = wj.heap.size + 1) := (Kp.refl WK _).grown hg7 (fun k e => by injection e with e; exact .inl e.symm)
     have h7 : RwA w w7 S1' S2 g1 g2 T2 T0 (.slice none 0 0) (.slice none 0 0) [] [] := ⟨hHK.t1.keep hkp (fun k hs e => (h1n k (by omega)).1 hs), hHK.t2.keep hkp (fun k hs e => (h1n k (by omega)).2 hs), hHK.dj, hHK.s1, hHK.s2, hb7, Kd.R_nil _ _ _ _ _, Kd.R_nil _ _ _ _ _⟩
     have hbx7 := hkp.heap hbx (by omega)
     have hbu7 := hkp.heap hk1 (by omega)
     obtain ⟨A7, c7, rfl⟩ := Kd.R_slice hR7
     have hC127 := Kd.R_step hC12 (fun k hk hlt => hkp.block k hlt (by have := hk.2.2.1; omega))
     have hnf : ∀ k, wf.heap.size ≤ k → ¬ S2 k := fun k hk h => by have := HSW.out k h; omega
     have hGT := sget_any h7.t2 v A7 c7 ([[120]] ++ F1) 1 (fun W' hk => kMix_read (hk.heap hbu7 (h1n _ (Nat.le_refl _)).2) (Kd.R_reads' (Kd.R_step hR7 (fun k hk' hlt => hk.block k hlt hk'.2))).2.2) (Kd.R_reads' hR7).2.1 (fun p hp => by
      rcases List.mem_append.1 hp with hp | hp
      ·simp only [List.mem_singleton] at hp
       subst hp
       exact ⟨by simp, by simp⟩
      ·exact HFIT.out.b p hp) (by omega) (by simp only [List.length_append, List.length_cons, List.length_nil]; omega)
     rw [HGT0.out] at hGT
     have HGT := Lib.hid hGT
     have H7 := Lib.hid h7
     have HBX7 := Lib.hid hbx7
     have HC7 := Lib.hid hC127
     have HNF := Lib.hid hnf
     clear hbk hk1 hk2 hR2 hHK hbx hC12 he1 hr1 hR7 hb7 hg7 h7 hbx7 hC127 hGT HY2 HBX4 HC12 hkp hbu7 hnf h1n hWK
     go_wp2_with fail
     refine HGT.out.mono ?_
     rintro e w8 ⟨dv, S2', rfl, hT8, hs8, hk8, hR8⟩
     dsimp only at hT8 hR8 ⊢
     obtain ⟨A5, c5, rfl⟩ := Kd.R_slice hR8
     have h8 := H7.out.wrote2 hT8 hs8 hk8
     have hbx8 := hk8.heap HBX7.out (fun hs => by have := HS2N.out b5 hs; omega)
     have hC8 := Kd.R_step (Kd.R_bound HC7.out) (fun k hk hlt => hk8.block k hlt (HNF.out k hk.2.1))
     obtain ⟨w9, hw9⟩ : ∃ w9, w8.alloc (.cells #[.int .i64 k0, .string x1, .int .u64 x2, .slice A5 l.length c5, .int .u64 x4, .int .u64 x5, .string x6] 62) = w9 := ⟨_, rfl⟩
     have hb9 : Below w8.heap.size w8 w9 := by rw [← hw9]; exact (Below.refl _ _).alloc (Nat.le_refl _) _
     have hk9 : w9.heap[w8.heap.size]? = some (.cells #[.int .i64 k0, .string x1, .int .u64 x2, .slice A5 l.length c5, .int .u64 x4, .int .u64 x5, .string x6] 62 (0, 0)) := by rw [← hw9]; exact heap_new _ _
     obtain ⟨b2, hb2⟩ : ∃ b, w8.heap.size = b := ⟨_, rfl⟩
     rw [hb2] at hk9
     have H9 := Lib.hid (h8.below hb9)
     have HBX9 := Lib.hid (blk_below hbx8 hb9)
     have HK9 := Lib.hid hk9
     have HR9 := Lib.hid (Kd.R_below hR8 hb9)
     have HC9 := Lib.hid (Kd.R_below hC8 hb9)
     have HW9 := Lib.hid hw9
     have HB2 := Lib.hid hb2
     clear hT8 hs8 hk8 hR8 h8 hbx8 hC8 hb9 hk9 hw9 hb2 HGT H7 HBX7 HC7
     go_wp2_with fail
     rw [HW9.out, HB2.out]
     refine (fixed9_any _).mono ?_
     rintro en wq ⟨rfl, hbq⟩
     have HQ := Lib.hid (H9.out.below hbq)
     have HCQ := Lib.hid (Kd.R_below HC9.out hbq)
     have hR5 := Kd.R_reads' (Kd.R_below HR9.out hbq)
     have hkq := blk_below HK9.out hbq
     have hkx := blk_below HBX9.out hbq
     have HSM := Lib.hid (same_self k0 x1 x2 l x4 x5 x6 A5 B c5 d wq hR5.2.2 (Kd.C_below HRO.out HQ.out.bl) hR5.2.1 hd (by have := HFEW.out.n; omega))
     have HKQ := Lib.hid hkq
     have HKX := Lib.hid hkx
     clear hbq hR5 hkq hkx H9 HBX9 HK9 HR9 HC9 HW9
     obtain ⟨y0, y1, y2, y3, y4, y5, y6⟩ := facts7 HKX.out
     obtain ⟨z0, z1, z2, z3, z4, z5, z6⟩ := facts7 HKQ.out
     go_wp2_with fail
     clear y0 y1 y2 y3 y4 y5 y6 z0 z1 z2 z3 z4 z5 z6
     refine HSM.out.mono ?_
     rintro e wr ⟨rfl, hb⟩
     have HR := Lib.hid (HQ.out.below hb)
     have HCR := Lib.hid (Kd.R_below HCQ.out hb)
     have HTX := Lib.hid (texts9_any HR.out.t2)
     have kw : wrap64 ((F1.length : Int) + 1) = ((F1.length + 1 : Nat) : Int) := by unfold wrap64; omega
     clear hb HQ HCQ HSM HKQ HKX
     go_wp2_with fail
     refine HTX.out.mono ?_
     rintro e ws ⟨vt, rfl, hRt, hb⟩
     obtain ⟨At, ct, rfl⟩ := Kd.R_slice hRt
     have ht9 := Kd.R_reads' hRt
     have HSM := Lib.hid (tephraref04_Same.calls (T2.length + 1) At ct T2 A12 c12 T2 true ws ht9.2.2 ht9.2.1 (Kd.R_reads' (Kd.R_below HCR.out hb)).2.2 hl12 (same4_is T2 htl))
     have HZ := Lib.hid (HR.out.below hb)
     clear hRt hb ht9 HR HCR HTX kw
     go_wp2_with fail
     refine HSM.out.mono ?_
     rintro e wz ⟨rfl, hdr⟩
     have hb := hdr.below
     go_wp2_with fail
     go_ret
     exact ⟨rfl, HZ.out.bl.trans (hb.mono HZ.out.bl.size)⟩
    ·have hne : (er != 0) = true := by simp [he]
     have hed : decide (er = 0) = false := decide_eq_false he
     go_wp2_with fail
     refine (fixed9_any _).mono ?_
     rintro en wq ⟨rfl, hbq⟩
     go_wp2_with fail
     go_ret
     exact ⟨rfl, HY2.out.bl.trans (hbq.mono HY2.out.bl.size)⟩
end Go.Proofs.Ytfflenbfapgilaa.WSchemaPuts
