/- Texts laid as one by shake.py, cut to what the claim needs: SchV, CoG, RowR, GreH, SamH, SchN, MayH, SchM. (Names that begin with W and the print's groups (G..x, G..z): laid by the kit's print, cut.) -/
import Derived.Test.YtfflenbfapgilaaZQt
import Derived.Test.YtfflenbfapgilaaZQw
import Derived.Test.YtfflenbfapgilaaZQk
import Derived.Test.YtfflenbfapgilaaZQe
import Derived.Deep.QuietTactic
import Derived.BigQuiet
set_option linter.unusedVariables false
set_option linter.unusedSimpArgs false
namespace Go.Proofs.Ytfflenbfapgilaa
open Go.RowKit Go.Proofs.YtfflenbfapgilaaW.PrintWords Go.Proofs.Ytfflenbfapgilaa.GRR
theorem wf_u64 {n : Int} (h : (Lit.int .u64 n).wf = true) : 0 ≤ n ∧ n < 18446744073709551616 := by
 simp [Lit.wf, IntKind.min, IntKind.max, IntKind.signed, IntKind.bits] at h; omega
abbrev putR (v : Int) (T : List ByteArray) (r : Rec9) := putF v T r.1 r.2.1 r.2.2.1 r.2.2.2.1 r.2.2.2.2.1 r.2.2.2.2.2.1 r.2.2.2.2.2.2
abbrev mayR (v : Int) (r : Rec9) := mayB v r.1 r.2.1 r.2.2.1 r.2.2.2.1 r.2.2.2.2.1 r.2.2.2.2.2.1 r.2.2.2.2.2.2
structure NumR (r : Rec9) : Prop where
 r2 : 0 ≤ r.2.2.1 ∧ r.2.2.1 < 18446744073709551616
 o : 0 ≤ r.2.2.2.2.1 ∧ r.2.2.2.2.1 < 18446744073709551616
 w : 0 ≤ r.2.2.2.2.2.1 ∧ r.2.2.2.2.2.1 < 18446744073709551616
 d : ∀ d ∈ r.2.2.2.1, 0 ≤ d.f1 ∧ d.f1 < 18446744073709551616
theorem NumR.of {r : Rec9} (h : okRec r) : NumR r := ⟨wf_u64 h.2.2.1, wf_u64 h.2.2.2.2.1, wf_u64 h.2.2.2.2.2.1, fun d hd => wf_u64 (h.2.2.2.1.2 d hd).2.1⟩
structure GoodR (v : Int) (r : Rec9) : Prop where
 may : mayR v r = true
 num : NumR r
theorem putF_yes {v : Int} {T : List ByteArray} {r : Rec9} (h : (putR v T r).2.2 = 0) : mayR v r = true := by
 unfold putR putF at h
 split at h
 ·split at h
  ·rename_i hm; exact hm
  ·exact absurd h (show ¬ (1 : Int) = 0 by decide)
 ·exact absurd h (show ¬ (11 : Int) = 0 by decide)
theorem putF_may {v : Int} (T : List ByteArray) {r : Rec9} (h : mayR v r = true) : putR v T r = (moreE T (if 1 < v then tnewOn T (tnew (namesL r.2.1 r.2.2.2.1 r.2.2.2.2.2.2)) else T) ++ [lastE v (if 1 < v then tnewOn T (tnew (namesL r.2.1 r.2.2.2.1 r.2.2.2.2.2.2)) else T) r.1 r.2.1 r.2.2.1 r.2.2.2.1 r.2.2.2.2.1 r.2.2.2.2.2.1 r.2.2.2.2.2.2], (if 1 < v then tnewOn T (tnew (namesL r.2.1 r.2.2.2.1 r.2.2.2.2.2.2)) else T), 0) := by
 unfold putR putF
 rw [if_pos (may_facts h).ver, if_pos h]
structure PutFit (v : Int) (T : List ByteArray) (F : List (List Int) × List ByteArray × Int) : Prop where
 n0 : 1 ≤ F.1.length
 n1 : F.1.length ≤ 19
 t : F.2.1.length ≤ T.length + 18
 nd : F.2.1.Nodup
 b : ∀ p ∈ F.1, p.length ≤ 3000 ∧ ∀ x ∈ p, 0 ≤ x ∧ x < 256
 z : ∀ s ∈ F.2.1, s ∈ T ∨ s.size ≤ 64
theorem put_fit {v : Int} {T : List ByteArray} {r : Rec9} (hT : T.length ≤ 50000) (hd : T.Nodup) (h : GoodR v r) : PutFit v T (putR v T r) := by
 have M := may_facts h.may
 have hnw := names_few (x1 := r.2.1) (l := r.2.2.2.1) (x6 := r.2.2.2.2.2.2) M.t.2 M.n (fun d hd => (M.d d hd).2.1) M.tag.1
 have hby : ∀ p ∈ (putR v T r).1, ∀ x ∈ p, 0 ≤ x ∧ x < 256 := putF_bytes v T (by omega) r.1 (by have := M.k; omega) r.2.1 (by have := M.t; simp only [maxLen]; omega) r.2.2.1 h.num.r2.2 r.2.2.2.1 (by have := M.n; omega) (fun d hd => ⟨by have := (M.d d hd).2.1; simp only [maxLen]; omega, (h.num.d d hd).2⟩) r.2.2.2.2.1 r.2.2.2.2.2.1 h.num.o.2 h.num.w.2 r.2.2.2.2.2.2
 have e := putF_may T h.may
 obtain ⟨T', hT'⟩ : ∃ T', (if 1 < v then tnewOn T (tnew (namesL r.2.1 r.2.2.2.1 r.2.2.2.2.2.2)) else T) = T' := ⟨_, rfl⟩
 rw [hT'] at e
 have hlen : T'.length ≤ T.length + 18 := by
  rw [← hT']
  split
  ·have := tnewOn_len T (tnew (namesL r.2.1 r.2.2.2.1 r.2.2.2.2.2.2)); omega
  ·omega
 have hmem : ∀ s ∈ T', s ∈ T ∨ s.size ≤ 64 := by
  rw [← hT']
  split
  ·intro s hs
   rw [mem_tnewOn] at hs
   exact hs.imp id (hnw.2 s)
  ·exact fun s hs => .inl hs
 have hpre : ∃ m, T' = T ++ m := by
  rw [← hT']
  split
  ·exact tnewOn_prefix _ _
  ·exact ⟨[], by simp⟩
 have hnd : T'.Nodup := by
  rw [← hT']
  split
  ·exact tnewOn_nodup _ _ hd
  ·exact hd
 rw [e] at hby ⊢
 have hml : (moreE T T').length ≤ 18 := by unfold moreE; rw [List.length_map, List.length_drop]; omega
 refine ⟨by simp, by simp only [List.length_append, List.length_cons, List.length_nil]; omega, hlen, hnd, fun p hp => ⟨?_, hby p hp⟩, hmem⟩
 rcases List.mem_append.1 hp with hp | hp
 ·unfold moreE at hp
  obtain ⟨s, hs, rfl⟩ := List.mem_map.1 hp
  obtain ⟨m, hm⟩ := hpre
  rw [hm, List.drop_left] at hs
  have hs64 : s.size ≤ 64 := by
   have h1 := hmem s (by rw [hm]; exact List.mem_append_right _ hs)
   rcases h1 with h1 | h1
   ·rw [hm] at hnd
    exact absurd rfl ((List.nodup_append.1 hnd).2.2 s h1 s hs)
   ·exact h1
  unfold defE
  rw [List.length_cons, bytesOf_length]
  omega
 ·simp only [List.mem_singleton] at hp
  subst hp
  have h1 := textE_len v T' (by omega) r.2.1 M.t.2
  have h2 := bodyE_len v T' (by omega) r.2.2.1 r.2.2.2.1 r.2.2.2.2.1 r.2.2.2.2.2.1 r.2.2.2.2.2.2 M.n (fun d hd => ⟨(M.d d hd).2.1, (h.num.d d hd).2⟩) h.num.r2.2 h.num.o.2 h.num.w.2
  unfold lastE
  simp only [List.length_append, List.length_cons, List.length_nil]
  split
  ·simp only [List.length_nil]; omega
  ·omega
def layStep (v : Int) (s : List (List Int) × List ByteArray) (r : Rec9) : List (List Int) × List ByteArray := (s.1 ++ (putR v s.2 r).1, (putR v s.2 r).2.1)
def layF (v : Int) (l : List Rec9) : List (List Int) × List ByteArray := l.foldl (layStep v) ([], [])
theorem layF_snoc (v : Int) (l : List Rec9) (r : Rec9) : layF v (l ++ [r]) = layStep v (layF v l) r := by
 unfold layF; rw [List.foldl_append]; rfl
theorem layFold_pre (v : Int) : ∀ (b : List Rec9) (s : List (List Int) × List ByteArray), ∃ post, (b.foldl (layStep v) s).1 = s.1 ++ post := by
 intro b
 induction b with
 | nil => intro s; exact ⟨[], by simp⟩
 | cons r b ih =>
  intro s
  obtain ⟨post, h⟩ := ih (layStep v s r)
  exact ⟨(putR v s.2 r).1 ++ post, by rw [List.foldl_cons, h]; unfold layStep; rw [List.append_assoc]⟩
theorem layF_pre (v : Int) (a b : List Rec9) : ∃ post, (layF v (a ++ b)).1 = (layF v a).1 ++ post := by
 unfold layF; rw [List.foldl_append]; exact layFold_pre v b _
structure LayFit (l : List Rec9) (s : List (List Int) × List ByteArray) : Prop where
 n : s.1.length ≤ 19 * l.length
 t : s.2.length ≤ 18 * l.length
 nd : s.2.Nodup
 b : ∀ p ∈ s.1, p.length ≤ 3000 ∧ ∀ x ∈ p, 0 ≤ x ∧ x < 256
theorem lay_fit {v : Int} (l : List Rec9) (hl : l.length ≤ 1000) (hg : ∀ r ∈ l, GoodR v r) : LayFit l (layF v l) := by
 have h : ∀ n, n ≤ l.length → LayFit (l.take n) (layF v (l.take n)) := by
  intro n
  induction n with
  | zero => intro _; exact ⟨Nat.zero_le _, Nat.zero_le _, List.nodup_nil, by simp [layF]⟩
  | succ n ih =>
   intro hn
   have h := ih (by omega)
   have e : l.take (n + 1) = l.take n ++ [l[n]] := List.take_succ_eq_append_getElem (by omega)
   have hlt : (l.take n).length = n := by rw [List.length_take]; omega
   have hf := put_fit (T := (layF v (l.take n)).2) (by have := h.t; omega) h.nd (hg l[n] (List.getElem_mem _))
   rw [e, layF_snoc]
   unfold layStep
   refine ⟨?_, ?_, hf.nd, ?_⟩
   ·have := h.n; have := hf.n1; simp only [List.length_append, List.length_singleton]; omega
   ·have := h.t; have := hf.t; simp only [List.length_append, List.length_singleton]; omega
   ·intro p hp
    rcases List.mem_append.1 hp with hp | hp
    ·exact h.b p hp
    ·exact hf.b p hp
 have := h l.length (Nat.le_refl _)
 rwa [List.take_length] at this
theorem getF_lay {v : Int} {l : List Rec9} (hl : l.length ≤ 1000) (hg : ∀ r ∈ l, GoodR v r) (j : Nat) (hj : j < l.length) :
  getF v (layF v (l.take j)).2 (layF v l).1 ((layF v (l.take j)).1.length : Int) = (l[j], ((layF v (l.take (j + 1))).1.length : Int), (layF v (l.take (j + 1))).2, 0) ∧ (layF v (l.take j)).1.length < (layF v (l.take (j + 1))).1.length := by
 have e : l = (l.take j ++ [l[j]]) ++ l.drop (j + 1) := by
  rw [← List.take_succ_eq_append_getElem hj, List.take_append_drop]
 have e1 : l.take (j + 1) = l.take j ++ [l[j]] := List.take_succ_eq_append_getElem hj
 obtain ⟨post, hp⟩ := layF_pre v (l.take j ++ [l[j]]) (l.drop (j + 1))
 rw [← e, layF_snoc] at hp
 have hfa := lay_fit (v := v) (l.take j) (by rw [List.length_take]; omega) (fun r hr => hg r (List.mem_of_mem_take hr))
 have hgj := hg l[j] (List.getElem_mem _)
 have hT : (layF v (l.take j)).2.length ≤ 50000 := by have := hfa.t; rw [List.length_take] at this; omega
 have hf := put_fit (T := (layF v (l.take j)).2) hT hfa.nd hgj
 rw [hp, e1, layF_snoc]
 unfold layStep
 dsimp only
 have h := getF_put (T := (layF v (l.take j)).2) (by omega) hfa.nd hgj.may hgj.num.r2 hgj.num.o hgj.num.w hgj.num.d (layF v (l.take j)).1 post
 rw [List.append_assoc, h, List.length_append]
 exact ⟨rfl, by have := hf.n0; omega⟩
theorem getF_end (v : Int) (T : List ByteArray) (ps : List (List Int)) : getF v T ps (ps.length : Int) = (rec0, 0, T, if 1 ≤ v ∧ v ≤ 3 then 6 else 11) := by
 unfold getF
 by_cases hv : 1 ≤ v ∧ v ≤ 3
 ·rw [if_neg (fun h => h hv), if_neg (by omega), if_pos hv]
  have : defsAt ps ps.length = [] := by simp [defsAt]
  simp [this]
 ·rw [if_pos hv, if_neg hv]
theorem cellsOf_recs9 : Try.prog.cellsOf 84 = 1 := by kernel_rfl
set_option maxRecDepth 100000 in
theorem open_t84 {H : Type} {enc : TypeId × Value → H} {W : World} {base : Nat} {held : Bool} {v : Value} {d : DataW H} {ps : List MemPlace} {r : Reach} {b0 : Nat} (hval : Value.okWide Try.prog W r b0 84 v) (h : DataW.Trod enc Try.prog W base (fun _ => true) held 84 v d ps) :
  ∃ x, IsRows kdRec okRec W v x := open_rows Try.underlying84 cellsOf_recs9 opens_rec8 hval h
theorem info_rec9 : (Try.prog.info? 62).map (fun i => (i.zero, i.size, i.bytes)) = some (some (.agg #[.int .i64 0, .string ⟨#[]⟩, .int .u64 0, .slice none 0 0, .int .u64 0, .int .u64 0, .string ⟨#[]⟩]), 7, 88) := by kernel_rfl
def cells9 (r : Rec9) (A : Option Addr) (c : Nat) : List Value := [.int .i64 r.1, .string r.2.1, .int .u64 r.2.2.1, .slice A r.2.2.2.1.length c, .int .u64 r.2.2.2.2.1, .int .u64 r.2.2.2.2.2.1, .string r.2.2.2.2.2.2]
theorem kdRec_open {w : World} {r : Rec9} {cs : List Value} (h : kdRec.K w r cs) : ∃ A c, cs = cells9 r A c ∧ r.2.2.2.1.length ≤ c ∧ Kd.C k113 w A r.2.2.2.1.length r.2.2.2.1 := by
 obtain ⟨x0, x1, x2, x3, x4, x5, x6⟩ := r
 obtain ⟨c0, r0, rfl, h0, c1, r1, rfl, h1, c2, r2, rfl, h2, c3, r3, rfl, ⟨A, c, hc3, hle, hC⟩, c4, r4, rfl, h4, c5, r5, rfl, h5, h6⟩ := h
 have g0 : c0 = [.int .i64 x0] := h0
 have g1 : c1 = [.string x1] := h1
 have g2 : c2 = [.int .u64 x2] := h2
 have g4 : c4 = [.int .u64 x4] := h4
 have g5 : c5 = [.int .u64 x5] := h5
 have g6 : r5 = [.string x6] := h6
 subst g0 g1 g2 g4 g5 g6 hc3
 exact ⟨A, c, rfl, hle, hC⟩
theorem at_row9 {d : Kd Rec9} {w W : World} {A : Option Addr} {l : List Rec9} (hd : d.sz = 7) (hK : ∀ r cs, d.K W r cs → kdRec.K w r cs) (h : Kd.C d W A l.length l) (i : Nat) (hi : i < l.length) (r : Rec9) (hr : l[i] = r) :
  ∃ ad A3 c3, A = some ad ∧ W.cell? (ad.add (i * 7)) = some (.int .i64 r.1) ∧ W.cell? ⟨(ad.add (i * 7)).block, (ad.add (i * 7)).off + 1, none⟩ = some (.string r.2.1) ∧ W.cell? ⟨(ad.add (i * 7)).block, (ad.add (i * 7)).off + 2, none⟩ = some (.int .u64 r.2.2.1) ∧
   W.cell? ⟨(ad.add (i * 7)).block, (ad.add (i * 7)).off + 3, none⟩ = some (.slice A3 r.2.2.2.1.length c3) ∧ W.cell? ⟨(ad.add (i * 7)).block, (ad.add (i * 7)).off + 4, none⟩ = some (.int .u64 r.2.2.2.2.1) ∧ W.cell? ⟨(ad.add (i * 7)).block, (ad.add (i * 7)).off + 5, none⟩ = some (.int .u64 r.2.2.2.2.2.1) ∧
   W.cell? ⟨(ad.add (i * 7)).block, (ad.add (i * 7)).off + 6, none⟩ = some (.string r.2.2.2.2.2.2) ∧ r.2.2.2.1.length ≤ c3 ∧ Kd.C k113 w A3 r.2.2.2.1.length r.2.2.2.1 := by
 obtain ⟨ad, c, e, _, hKr, hc0⟩ := Kd.C_get h rec0 (i : Int) (by omega) (by omega)
 rw [Int.toNat_natCast, hd] at hc0
 rw [Int.toNat_natCast, show l.getD i rec0 = r by simp [hi, hr]] at hKr
 obtain ⟨A3, c3, rfl, hle, hC⟩ := kdRec_open (hK _ _ hKr)
 exact ⟨ad, A3, c3, e, hc0 0 _ rfl, by rw [← add_field _ _ 1 (by omega)]; exact hc0 1 _ rfl, by rw [← add_field _ _ 2 (by omega)]; exact hc0 2 _ rfl, by rw [← add_field _ _ 3 (by omega)]; exact hc0 3 _ rfl, by rw [← add_field _ _ 4 (by omega)]; exact hc0 4 _ rfl, by rw [← add_field _ _ 5 (by omega)]; exact hc0 5 _ rfl, by rw [← add_field _ _ 6 (by omega)]; exact hc0 6 _ rfl, hle, hC⟩
abbrev kFix (w : World) : Kd Rec9 := Kd.fixed kdRec w
structure RwA (w X : World) (S1 S2 : Nat → Prop) (g1 g2 : Nat) (T1 T2 : List ByteArray) (va vg : Value) (rows : List (List Int)) (good : List Rec9) : Prop where
 t1 : Tab X S1 g1 T1
 t2 : Tab X S2 g2 T2
 dj : ∀ k, S1 k → ¬ S2 k
 s1 : ∀ k, S1 k → w.heap.size ≤ k
 s2 : ∀ k, S2 k → w.heap.size ≤ k
 bl : Below w.heap.size w X
 ra : Kd.R kRows 22 X w.heap.size (fun k => ¬ S1 k ∧ ¬ S2 k) va rows
 rg : Kd.R (kFix w) 62 X w.heap.size (fun k => ¬ S1 k ∧ ¬ S2 k) vg good
section
variable {w X X' : World} {S1 S2 : Nat → Prop} {g1 g2 : Nat} {T1 T2 : List ByteArray} {va vg : Value} {rows : List (List Int)} {good : List Rec9}
theorem RwA.below (h : RwA w X S1 S2 g1 g2 T1 T2 va vg rows good) (hb : Below X.heap.size X X') : RwA w X' S1 S2 g1 g2 T1 T2 va vg rows good :=
 ⟨h.t1.keep (Kp.of_below hb (fun _ => False)) (fun _ _ h => h), h.t2.keep (Kp.of_below hb (fun _ => False)) (fun _ _ h => h), h.dj, h.s1, h.s2, h.bl.trans (hb.mono h.bl.size), Kd.R_below h.ra hb, Kd.R_below h.rg hb⟩
end
end Go.Proofs.Ytfflenbfapgilaa
namespace Go.Proofs.Ytfflenbfapgilaa
open Go.RowKit Go.Proofs.YtfflenbfapgilaaW.PrintWords Go.Proofs.Ytfflenbfapgilaa.GRR
def recsL (v : Int) (ps : List (List Int)) : Nat → List ByteArray → Int → List (Rec9 × Int)
 | 0, _, _ => []
 | f + 1, T, a => if (getF v T ps a).2.2.2 = 0 then ((getF v T ps a).1, (getF v T ps a).2.1) :: recsL v ps f (getF v T ps a).2.2.1 (getF v T ps a).2.1 else []
theorem takeWhile_all {α : Type} (f : α → Bool) : ∀ (l : List α), (∀ a ∈ l, f a = true) → l.takeWhile f = l := by
 intro l
 induction l with
 | nil => intro _; rfl
 | cons a l ih =>
  intro h
  rw [List.takeWhile_cons_of_pos (h a List.mem_cons_self), ih (fun b hb => h b (List.mem_cons_of_mem _ hb))]
theorem getF_part {v : Int} (T : List ByteArray) (hv : 1 ≤ v ∧ v ≤ 3) (pre ds : List (List Int)) (hd : ∀ p ∈ ds, isDef p = true) : getF v T (pre ++ ds) (pre.length : Int) = (rec0, 0, T, 6) := by
 unfold getF
 have e : defsAt (pre ++ ds) pre.length = ds := by
  unfold defsAt
  rw [List.drop_left]
  exact takeWhile_all isDef ds hd
 rw [if_neg (fun h => h hv), if_neg (by rw [List.length_append]; omega)]
 simp only [Int.toNat_natCast]
 rw [e, if_pos (by rw [List.length_append])]
theorem put_defs {v : Int} {T : List ByteArray} {r : Rec9} (h : mayR v r = true) (k : Nat) (hk : k < (putR v T r).1.length) : ∀ p ∈ (putR v T r).1.take k, isDef p = true := by
 rw [putF_may T h] at hk ⊢
 dsimp only at hk ⊢
 rw [List.length_append, List.length_singleton] at hk
 intro p hp
 rw [List.take_append_of_le_length (by omega)] at hp
 exact moreE_def _ _ p (List.mem_of_mem_take hp)
theorem getF_take {v : Int} {l : List Rec9} (hl : l.length ≤ 1000) (hg : ∀ r ∈ l, GoodR v r) (j : Nat) (hj : j < l.length) (m : Nat) (hm : (layF v (l.take j)).1.length ≤ m) :
  ((layF v (l.take (j + 1))).1.length ≤ m → getF v (layF v (l.take j)).2 ((layF v l).1.take m) ((layF v (l.take j)).1.length : Int) = (l[j], ((layF v (l.take (j + 1))).1.length : Int), (layF v (l.take (j + 1))).2, 0)) ∧
  (m < (layF v (l.take (j + 1))).1.length → (getF v (layF v (l.take j)).2 ((layF v l).1.take m) ((layF v (l.take j)).1.length : Int)).2.2.2 = 6) := by
 have e : l = (l.take j ++ [l[j]]) ++ l.drop (j + 1) := by
  rw [← List.take_succ_eq_append_getElem hj, List.take_append_drop]
 have e1 : l.take (j + 1) = l.take j ++ [l[j]] := List.take_succ_eq_append_getElem hj
 obtain ⟨post, hp⟩ := layF_pre v (l.take j ++ [l[j]]) (l.drop (j + 1))
 rw [← e, layF_snoc] at hp
 have hfa := lay_fit (v := v) (l.take j) (by rw [List.length_take]; omega) (fun r hr => hg r (List.mem_of_mem_take hr))
 have hgj := hg l[j] (List.getElem_mem _)
 have hT : (layF v (l.take j)).2.length ≤ 50000 := by have := hfa.t; rw [List.length_take] at this; omega
 have hnd := hfa.nd
 clear hfa e
 rw [hp, e1, layF_snoc]
 unfold layStep
 dsimp only
 generalize (layF v (l.take j)).1 = pre at *
 generalize hTT : (layF v (l.take j)).2 = T at *
 rw [List.append_assoc, List.length_append]
 constructor
 ·intro h
  have h1 : (pre ++ ((putR v T l[j]).1 ++ post)).take m = pre ++ ((putR v T l[j]).1 ++ post.take (m - pre.length - (putR v T l[j]).1.length)) := by
   rw [List.take_append, List.take_of_length_le (by omega), List.take_append, List.take_of_length_le (by omega)]
  rw [h1, getF_put (T := T) (by omega) hnd hgj.may hgj.num.r2 hgj.num.o hgj.num.w hgj.num.d pre _]
 ·intro h
  have h1 : (pre ++ ((putR v T l[j]).1 ++ post)).take m = pre ++ (putR v T l[j]).1.take (m - pre.length) := by
   rw [List.take_append, List.take_of_length_le (by omega), List.take_append_of_le_length (by omega)]
  rw [h1, getF_part T (may_facts hgj.may).ver pre _ (put_defs hgj.may _ (by omega))]
theorem getF_next {v : Int} {T : List ByteArray} {ps : List (List Int)} {a : Int} (h : (getF v T ps a).2.2.2 = 0) : ∃ n : Nat, (getF v T ps a).2.1 = (n : Int) ∧ a + 1 ≤ (n : Int) ∧ n ≤ ps.length ∧ (getF v T ps a).2.2.1.length ≤ T.length + 18 ∧ 0 ≤ a := by
 unfold getF at h ⊢
 by_cases hv : 1 ≤ v ∧ v ≤ 3
 ·rw [if_neg (fun h => h hv)] at h ⊢
  by_cases h1 : a < 0 ∨ (ps.length : Int) < a
  ·rw [if_pos h1] at h
   exact absurd h (show ¬ (1 : Int) = 0 by decide)
  ·rw [if_neg h1] at h ⊢
   have hlen : (defsAt ps a.toNat).length ≤ ps.length - a.toNat := by
    unfold defsAt
    have := (List.takeWhile_sublist (l := ps.drop a.toNat) isDef).length_le
    rwa [List.length_drop] at this
   dsimp only at h ⊢
   split at h
   ·exact absurd h (show ¬ (6 : Int) = 0 by decide)
   ·rename_i hn
    rw [if_neg hn]
    split at h
    ·rename_i hok
     rw [if_pos hok]
     generalize (lastR v (tnewOn T ((defsAt ps a.toNat).map defS)) (ps.getD (a.toNat + (defsAt ps a.toNat).length) [])).1 = r at *
     have hm : mayR v r = true := putF_yes (v := v) (T := T) (r := r) hok.1
     have M := may_facts hm
     have hnw := names_few (x1 := r.2.1) (l := r.2.2.2.1) (x6 := r.2.2.2.2.2.2) M.t.2 M.n (fun d hd => (M.d d hd).2.1) M.tag.1
     refine ⟨_, rfl, by omega, by omega, ?_, by omega⟩
     have e := putF_may T hm
     unfold putR at e
     dsimp only
     rw [e]
     dsimp only
     split
     ·have := tnewOn_len T (tnew (namesL r.2.1 r.2.2.2.1 r.2.2.2.2.2.2)); omega
     ·omega
    ·exact absurd h (show ¬ (3 : Int) = 0 by decide)
 ·rw [if_pos hv] at h
  exact absurd h (show ¬ (11 : Int) = 0 by decide)
theorem recsL_take {v : Int} {l : List Rec9} (hl : l.length ≤ 1000) (hg : ∀ r ∈ l, GoodR v r) (m : Nat) (hv : 1 ≤ v ∧ v ≤ 3) : ∀ (d j f : Nat), l.length = j + d → d < f → (layF v (l.take j)).1.length ≤ m →
  ∃ k, j ≤ k ∧ k ≤ l.length ∧ (layF v (l.take k)).1.length ≤ m ∧ (k < l.length → m < (layF v (l.take (k + 1))).1.length) ∧
   recsL v ((layF v l).1.take m) f (layF v (l.take j)).2 ((layF v (l.take j)).1.length : Int) = (List.range' j (k - j)).map (fun i => (l.getD i rec0, ((layF v (l.take (i + 1))).1.length : Int))) := by
 intro d
 induction d with
 | zero =>
  intro j f hj hf hm
  obtain ⟨f, rfl⟩ : ∃ q, f = q + 1 := ⟨f - 1, by omega⟩
  obtain rfl : j = l.length := by omega
  rw [List.take_length] at hm
  refine ⟨l.length, Nat.le_refl _, Nat.le_refl _, by rw [List.take_length]; exact hm, fun h => by omega, ?_⟩
  rw [List.take_length, List.take_of_length_le hm, recsL, getF_end]
  simp [hv]
 | succ d ih =>
  intro j f hj hf hm
  obtain ⟨f, rfl⟩ : ∃ q, f = q + 1 := ⟨f - 1, by omega⟩
  have hlt : j < l.length := by omega
  have h := getF_take hl hg j hlt m hm
  rw [recsL]
  by_cases hm2 : (layF v (l.take (j + 1))).1.length ≤ m
  ·obtain ⟨k, k1, k2, k3, k4, k5⟩ := ih (j + 1) f (by omega) (by omega) hm2
   rw [h.1 hm2]
   refine ⟨k, by omega, k2, k3, k4, ?_⟩
   dsimp only
   rw [if_pos rfl, k5, show k - j = (k - (j + 1)) + 1 by omega, List.range'_succ, List.map_cons]
   congr 1
   simp [hlt]
  ·refine ⟨j, Nat.le_refl _, by omega, hm, fun _ => by omega, ?_⟩
   rw [h.2 (by omega), if_neg (by decide), Nat.sub_self]
   rfl
def rowRw (r2 r6 : Option Nat) (i : Nat) : Option Nat := match i with
 | 2 => r2
 | 6 => r6
 | _ => none
theorem rowRw_ne {r2 r6 : Option Nat} (i q : Nat) (h2 : i ≠ 2 ∨ some q ≠ r2) (h6 : i ≠ 6 ∨ some q ≠ r6) : some q ≠ rowRw r2 r6 i := by
 unfold rowRw
 split
 ·exact h2.resolve_left (fun h => h rfl)
 ·exact h6.resolve_left (fun h => h rfl)
 ·simp
structure RestRw (r2 r6 : Option Nat) (wc X : World) : Prop where
 size : wc.heap.size ≤ X.heap.size
 eq : ∀ q, q < wc.heap.size → some q ≠ r2 → some q ≠ r6 → X.heap[q]? = wc.heap[q]?
theorem RestRw.step {r2 r6 : Option Nat} {wc X X' : World} (h : RestRw r2 r6 wc X) {i : Nat} (hg : X.grownBy X' (rowRw r2 r6 i)) (hs : X.heap.size ≤ X'.heap.size) : RestRw r2 r6 wc X' :=
 ⟨Nat.le_trans h.size hs, fun q hq h2 h6 => (hg.block q (Nat.lt_of_lt_of_le hq h.size) (rowRw_ne i q (.inr h2) (.inr h6))).trans (h.eq q hq h2 h6)⟩
theorem R_not {α : Type} {d : Kd α} {e base : Nat} {ok : Nat → Prop} {W : World} {v : Value} {xs : List α} (h : d.R e W base ok v xs) (r : Option Nat) (hr : ∀ k, r = some k → ∃ C t, W.heap[k]? = some (.cells C t (0, 0)) ∧ ∀ q, q ∈ e :: d.E → q ≠ t) : d.R e W base (fun k => ok k ∧ some k ≠ r) v xs := by
 cases r with
 | none => exact Kd.R_mono h (fun k hk => ⟨hk, by simp⟩)
 | some b =>
  obtain ⟨C, t, hC, ht⟩ := hr b rfl
  exact Kd.R_mono (Kd.R_types h hC ht) (fun k hk => ⟨hk.1, by simpa using hk.2⟩)
set_option maxRecDepth 100000 in
set_option maxHeartbeats 1000000 in
theorem great8_any (k0 : Int) (x1 : ByteArray) (x2 : Int) (ds : List S113) (x4 x5 : Int) (x6 : ByteArray) (A : Option Addr) (c : Nat) (w : World) (hC : Kd.C k113 w A ds.length ds) :
  Calls Try.prog 29 #[.agg #[.int .i64 k0, .string x1, .int .u64 x2, .slice A ds.length c, .int .u64 x4, .int .u64 x5, .string x6]] w fun e w' => ∃ g : Bool, e = .returned (.bool g) ∧ (g = false → RecFew x1 ds x6) ∧ Below w.heap.size w w' := by
 have hm := hC.2.1
 obtain ⟨w1, hw1⟩ : ∃ w1, w.alloc (.cells #[.int .i64 k0, .string x1, .int .u64 x2, .slice A ds.length c, .int .u64 x4, .int .u64 x5, .string x6] 62) = w1 := ⟨_, rfl⟩
 have hb1 : Below w.heap.size w w1 := by rw [← hw1]; exact (Below.refl _ _).alloc (Nat.le_refl _) _
 have hk1 : w1.heap[w.heap.size]? = some (.cells #[.int .i64 k0, .string x1, .int .u64 x2, .slice A ds.length c, .int .u64 x4, .int .u64 x5, .string x6] 62 (0, 0)) := by rw [← hw1]; exact heap_new _ _
 obtain ⟨b1, hbb⟩ : ∃ b, w.heap.size = b := ⟨_, rfl⟩
 rw [hbb] at hk1
 have HC := Lib.hid hC
 have HB1 := Lib.hid hb1
 have HW1 := Lib.hid hw1
 have HK1 := Lib.hid hk1
 have HBB := Lib.hid hbb
 clear hC hb1 hw1 hk1 hbb
 go_enter Try.func29, Try.ntmps29
 go_wp2_with fail
 rw [HW1.out, HBB.out]
 go_loopw [8] (fun u wr => ∃ (i : Nat), i ≤ ds.length ∧ u = .int .i64 (i : Int) ∧ Hid (Below w1.heap.size w1 wr) ∧ Hid (∀ d ∈ ds.take i, d.f0.size ≤ 300)) (fun u _ => ds.length - (intOf u).toNat)
 case atStart => exact ⟨0, by omega, rfl, Lib.hid (Below.refl _ _), Lib.hid (by simp)⟩
 case round =>
  obtain ⟨i, hi, rfl, HB, HF⟩ := hrel
  have HBW := Lib.hid (HB1.out.trans (HB.out.mono HB1.out.size))
  by_cases hlt : i < ds.length
  ·have hdl : decide ((i : Int) < (ds.length : Int)) = true := decide_eq_true (by omega)
   obtain ⟨ad, hA, g0, g1, g2⟩ := at_T113 (Kd.C_below HC.out HBW.out) (i : Int) (by omega) (by omega)
   subst hA
   have htk : ds.take (i + 1) = ds.take i ++ [ds[i]] := List.take_succ_eq_append_getElem hlt
   rw [rd_dep ds i hlt, Int.toNat_natCast] at g0 g1 g2
   generalize ds[i] = d at g0 g1 g2 htk
   obtain ⟨d0, dh, do_⟩ := d
   dsimp only at g0 g1 g2
   have HTK := Lib.hid htk
   have HBA := Lib.hid (HB.out.alloc HB.out.size (.cells #[.string d0, .int .u64 dh, .bool do_] 113))
   clear htk
   by_cases h3 : 300 < d0.size
   ·have d3 : decide (300 < (d0.size : Int)) = true := decide_eq_true (by omega)
    go_wp2_with fail
    go_ret
    exact ⟨true, rfl, by simp, HB1.out.trans (HBA.out.mono HB1.out.size)⟩
   ·have d3 : decide (300 < (d0.size : Int)) = false := decide_eq_false (by omega)
    have HF2 : Hid (∀ d ∈ ds.take (i + 1), d.f0.size ≤ 300) := Lib.hid (by
     rw [HTK.out]
     intro d hd
     rcases List.mem_append.1 hd with hd | hd
     ·exact HF.out d hd
     ·simp only [List.mem_singleton] at hd
      subst hd
      show d0.size ≤ 300
      omega)
    go_wp2_with fail
    go_roundw
    case rel => exact ⟨i + 1, by omega, by go_num, HBA, HF2⟩
    case measure => simp [intOf]; omega
  ·obtain rfl : i = ds.length := by omega
   have hF := HF.out
   rw [List.take_length] at hF
   have HF2 := Lib.hid hF
   clear hF
   have hk := blk_below HK1.out HB.out
   have s1 : wr.cell? ⟨b1, 1, none⟩ = some (.string x1) := (blk_cell hk 1).trans rfl
   have s3 : wr.cell? ⟨b1, 3, none⟩ = some (.slice A ds.length c) := (blk_cell hk 3).trans rfl
   have s6 : wr.cell? ⟨b1, 6, none⟩ = some (.string x6) := (blk_cell hk 6).trans rfl
   clear hk
   by_cases h1 : 60 < ds.length
   ·have d1 : decide (60 < (ds.length : Int)) = true := decide_eq_true (by omega)
    go_wp2_with fail
    go_ret
    exact ⟨true, rfl, by simp, HBW.out⟩
   ·have d1 : decide (60 < (ds.length : Int)) = false := decide_eq_false (by omega)
    by_cases h2 : 300 < x1.size
    ·have d2 : decide (300 < (x1.size : Int)) = true := decide_eq_true (by omega)
     go_wp2_with fail
     go_ret
     exact ⟨true, rfl, by simp, HBW.out⟩
    ·have d2 : decide (300 < (x1.size : Int)) = false := decide_eq_false (by omega)
     by_cases h3 : 300 < x6.size
     ·have d3 : decide (300 < (x6.size : Int)) = true := decide_eq_true (by omega)
      go_wp2_with fail
      go_ret
      exact ⟨true, rfl, by simp, HBW.out⟩
     ·have d3 : decide (300 < (x6.size : Int)) = false := decide_eq_false (by omega)
      go_wp2_with fail
      go_ret
      exact ⟨false, rfl, fun _ => ⟨by omega, by omega, by omega, HF2.out⟩, HBW.out⟩
set_option maxRecDepth 100000 in
set_option maxHeartbeats 2000000 in
theorem rsame_any (k0 : Int) (x1 : ByteArray) (x2 : Int) (ds : List S113) (x4 x5 : Int) (x6 : ByteArray) (A3 A4 : Option Addr) (c3 c4 : Nat) (w : World) (hA3 : Kd.C k113 w A3 ds.length ds) (hA4 : Kd.C k113 w A4 ds.length ds) :
  Calls Try.prog 39 #[.agg #[.int .i64 k0, .string x1, .int .u64 x2, .slice A3 ds.length c3, .int .u64 x4, .int .u64 x5, .string x6], .agg #[.int .i64 k0, .string x1, .int .u64 x2, .slice A4 ds.length c4, .int .u64 x4, .int .u64 x5, .string x6]] w fun e w' => e = .returned (.bool true) ∧ Below w.heap.size w w' := by
 have hm := hA3.2.1
 obtain ⟨w1, hw1⟩ : ∃ w1, (w.alloc (.cells #[.int .i64 k0, .string x1, .int .u64 x2, .slice A3 ds.length c3, .int .u64 x4, .int .u64 x5, .string x6] 62)).alloc (.cells #[.int .i64 k0, .string x1, .int .u64 x2, .slice A4 ds.length c4, .int .u64 x4, .int .u64 x5, .string x6] 62) = w1 := ⟨_, rfl⟩
 have hb1 : Below w.heap.size w w1 := by rw [← hw1]; exact ((Below.refl _ _).alloc (Nat.le_refl _) _).alloc (by rw [heap_size_alloc]; omega) _
 have k2 : w1.heap[w.heap.size]? = some (.cells #[.int .i64 k0, .string x1, .int .u64 x2, .slice A3 ds.length c3, .int .u64 x4, .int .u64 x5, .string x6] 62 (0, 0)) := by rw [← hw1]; exact blk_alloc (heap_new _ _) _
 have k3 : w1.heap[w.heap.size + 1]? = some (.cells #[.int .i64 k0, .string x1, .int .u64 x2, .slice A4 ds.length c4, .int .u64 x4, .int .u64 x5, .string x6] 62 (0, 0)) := by
  rw [← hw1]
  have := heap_new (w.alloc (.cells #[.int .i64 k0, .string x1, .int .u64 x2, .slice A3 ds.length c3, .int .u64 x4, .int .u64 x5, .string x6] 62)) (.cells #[.int .i64 k0, .string x1, .int .u64 x2, .slice A4 ds.length c4, .int .u64 x4, .int .u64 x5, .string x6] 62)
  rwa [heap_size_alloc] at this
 obtain ⟨b2, hbb⟩ : ∃ b, w.heap.size = b := ⟨_, rfl⟩
 rw [hbb] at k2 k3
 have HA3 := Lib.hid hA3
 have HA4 := Lib.hid hA4
 have HB1 := Lib.hid hb1
 have HW1 := Lib.hid hw1
 have HK2 := Lib.hid k2
 have HK3 := Lib.hid k3
 have HBB := Lib.hid hbb
 clear hA3 hA4 hb1 hw1 k2 k3 hbb
 go_enter Try.func39, Try.ntmps39
 go_wp2_with fail
 rw [HW1.out, HBB.out]
 go_loopw [5] (fun u wr => ∃ (i : Nat), i ≤ ds.length ∧ u = .int .i64 (i : Int) ∧ Hid (Below w1.heap.size w1 wr)) (fun u _ => ds.length - (intOf u).toNat)
 case atStart => exact ⟨0, by omega, rfl, Lib.hid (Below.refl _ _)⟩
 case round =>
  obtain ⟨i, hi, rfl, HB⟩ := hrel
  have hk2 := blk_below HK2.out HB.out
  have s3 : wr.cell? ⟨b2, 3, none⟩ = some (.slice A3 ds.length c3) := (blk_cell hk2 3).trans rfl
  by_cases hlt : i < ds.length
  ·have hdl : decide ((i : Int) < (ds.length : Int)) = true := decide_eq_true (by omega)
   have hbw := HB1.out.trans (HB.out.mono HB1.out.size)
   obtain ⟨ad3, h3, g0, g1, g2⟩ := at_T113 (Kd.C_below HA3.out hbw) (i : Int) (by omega) (by omega)
   obtain ⟨ad4, h4, q0, q1, q2⟩ := at_T113 (Kd.C_below HA4.out hbw) (i : Int) (by omega) (by omega)
   subst h3 h4
   rw [rd_dep ds i hlt, Int.toNat_natCast] at g0 g1 g2 q0 q1 q2
   generalize ds[i] = d at g0 g1 g2 q0 q1 q2
   obtain ⟨d0, d1, d2⟩ := d
   dsimp only at g0 g1 g2 q0 q1 q2
   have hk3 := blk_below HK3.out HB.out
   have u3 : wr.cell? ⟨b2 + 1, 3, none⟩ = some (.slice (some ad4) ds.length c4) := (blk_cell hk3 3).trans rfl
   clear hk2 hk3 hbw
   go_wp2_with fail
   go_quiet (fail)
   go_wp2_with fail
   go_roundw
   case rel => exact ⟨i + 1, by omega, by go_num, Lib.hid (pw_below_drewN HB.out _)⟩
   case measure => simp [intOf]; omega
  ·obtain rfl : i = ds.length := by omega
   clear hk2
   go_wp2_with fail
   go_ret
   exact ⟨rfl, HB1.out.trans (HB.out.mono HB1.out.size)⟩
def posI8 (l : List ByteArray) (s : ByteArray) : Int := if isIn l s then (posOf l s : Int) else -1
theorem place_l08 (l : List ByteArray) (hl : l.length ≤ 1000000) (s : ByteArray) : ∀ (d i k : Nat), l.length = i + d → d < k → s ∉ l.take i → tephraref07_Place.l0 k l s (i : Int) = some (posI8 l s) := by
 intro d
 induction d with
 | zero =>
  intro i k hi hk hn
  obtain ⟨k, rfl⟩ : ∃ m, k = m + 1 := ⟨k - 1, by omega⟩
  simp only [tephraref07_Place.l0]
  rw [if_neg (by omega)]
  rw [List.take_of_length_le (by omega)] at hn
  unfold posI8; rw [isIn_ne.2 hn]; rfl
 | succ d ih =>
  intro i k hi hk hn
  obtain ⟨k, rfl⟩ : ∃ m, k = m + 1 := ⟨k - 1, by omega⟩
  have hlt : i < l.length := by omega
  have hz : rdOf ByteArray.empty l (i : Int) = l[i] := by simp [rdOf, hlt]
  simp only [tephraref07_Place.l0]
  rw [if_pos (by omega), if_pos (by omega), hz, Lib.toList_data, Lib.toList_data]
  by_cases e : l[i].data.toList = s.data.toList
  ·rw [if_pos e]
   have e2 : l[i] = s := ByteArray.ext (Array.ext' e)
   have hm : s ∈ l := by rw [← e2]; exact List.getElem_mem _
   unfold posI8
   rw [isIn_iff.2 hm, if_pos rfl]
   congr 1
   have h1 : l = l.take i ++ l.drop i := (List.take_append_drop i l).symm
   have h2 : posOf l s = (l.take i).length + posOf (l.drop i) s := by
    conv => lhs; rw [h1]
    exact posOf_app_not hn
   rw [List.length_take, List.drop_eq_getElem_cons hlt, e2] at h2
   have h3 : posOf (s :: l.drop (i + 1)) s = 0 := by unfold posOf; rw [List.findIdx_cons, sEq_refl]; rfl
   rw [h3] at h2
   omega
  ·rw [if_neg e]
   have hw : wrap64 ((i : Int) + 1) = ((i + 1 : Nat) : Int) := by unfold wrap64; omega
   rw [hw]
   refine ih (i + 1) k (by omega) (by omega) ?_
   rw [List.take_succ_eq_append_getElem hlt, List.mem_append, List.mem_singleton]
   rintro (h | h)
   ·exact hn h
   ·exact e (by rw [h])
theorem place_is8 (l : List ByteArray) (hl : l.length ≤ 1000000) (s : ByteArray) (k : Nat) (hk : l.length < k) : tephraref07_Place.f k l s = some (posI8 l s) := by
 unfold tephraref07_Place.f
 exact place_l08 l hl s l.length 0 k (by omega) hk (by simp)
theorem posI8_ge (l : List ByteArray) (s : ByteArray) : posI8 l s ≥ 0 ↔ s ∈ l := by
 unfold posI8
 cases h : isIn l s with
 | true => simp; exact isIn_iff.1 h
 | false => simp; exact isIn_ne.1 h
theorem rput_is8 (l : List ByteArray) (hl : l.length ≤ 1000000) (s : ByteArray) (k : Nat) (hk : l.length < k) : tephraref07_Put.f k l s = some (tput l s) := by
 unfold tephraref07_Put.f
 rw [place_is8 l hl s k hk]
 simp only [Option.bind_some, List.nil_append, List.length_nil]
 by_cases hs : s ∈ l
 ·rw [if_pos ((posI8_ge l s).2 hs), tput_in hs]
 ·rw [if_neg (fun h => hs ((posI8_ge l s).1 h)), if_pos (by omega), if_pos (by omega), tput_out hs]
theorem rnew_is8 (ts : List ByteArray) (hl : ts.length ≤ 1000) : ∀ (d i k : Nat), ts.length = i + d → 2000 + d < k → tephraref07_New.l0 k ts (tnew (ts.take i)) (i : Int) = some (tnew ts) := by
 intro d
 induction d with
 | zero =>
  intro i k hi hk
  obtain ⟨k, rfl⟩ : ∃ m, k = m + 1 := ⟨k - 1, by omega⟩
  simp only [tephraref07_New.l0]
  rw [if_neg (by omega), List.take_of_length_le (by omega)]
 | succ d ih =>
  intro i k hi hk
  obtain ⟨k, rfl⟩ : ∃ m, k = m + 1 := ⟨k - 1, by omega⟩
  have hlt : i < ts.length := by omega
  have hz : rdOf ByteArray.empty ts (i : Int) = ts[i] := by simp [rdOf, hlt]
  have hln := tnew_len (ts.take i)
  rw [List.length_take] at hln
  simp only [tephraref07_New.l0]
  rw [if_pos (by omega), if_pos (by omega), hz, rput_is8 _ (by omega) _ _ (by omega)]
  simp only [Option.bind_some]
  have hw : wrap64 ((i : Int) + 1) = ((i + 1 : Nat) : Int) := by unfold wrap64; omega
  rw [hw, ← tnew_take ts i hlt]
  exact ih (i + 1) k (by omega) (by omega)
theorem names_l0 (a0 : Int) (t : ByteArray) (a2 : Int) (l : List S113) (a4 a5 : Int) (tag : ByteArray) (hl : l.length ≤ 900) : ∀ (d i k : Nat), l.length = i + d → 5000 + d < k →
  tephraref08_Names.l0 k (t :: (l.take i).map (·.f0)) (i : Int) a0 t a2 l a4 a5 tag = some (tnew (namesL t l tag)) := by
 intro d
 induction d with
 | zero =>
  intro i k hi hk
  obtain ⟨k, rfl⟩ : ∃ m, k = m + 1 := ⟨k - 1, by omega⟩
  rw [List.take_of_length_le (by omega)]
  simp only [tephraref08_Names.l0]
  rw [if_neg (by omega)]
  unfold namesL tephraref07_New.f
  split
  ·rename_i h
   rw [List.append_nil]
   have := rnew_is8 (t :: l.map (·.f0)) (by simp; omega) (t :: l.map (·.f0)).length 0 k (by omega) (by simp; omega)
   rw [List.take_zero] at this
   have h0 : tephraref07_New.l0 k (t :: l.map (·.f0)) ([] : List ByteArray) 0 = some (tnew (t :: l.map (·.f0))) := this
   rw [h0]; rfl
  ·rw [if_pos (by simp; omega)]
   have := rnew_is8 (t :: l.map (·.f0) ++ [tag]) (by simp; omega) (t :: l.map (·.f0) ++ [tag]).length 0 k (by omega) (by simp; omega)
   rw [List.take_zero] at this
   have h0 : tephraref07_New.l0 k (t :: l.map (·.f0) ++ [tag]) ([] : List ByteArray) 0 = some (tnew (t :: l.map (·.f0) ++ [tag])) := this
   rw [h0]; rfl
 | succ d ih =>
  intro i k hi hk
  obtain ⟨k, rfl⟩ : ∃ m, k = m + 1 := ⟨k - 1, by omega⟩
  have hlt : i < l.length := by omega
  simp only [tephraref08_Names.l0]
  rw [if_pos (by omega), if_pos (by omega), if_pos (by simp; omega), rd_dep l i hlt, wr1 i l.length hlt (by omega), List.cons_append, ← names_take hlt]
  exact ih (i + 1) k (by omega) (by omega)
theorem names_is (a0 : Int) (t : ByteArray) (a2 : Int) (l : List S113) (a4 a5 : Int) (tag : ByteArray) (hl : l.length ≤ 900) (k : Nat) (hk : 6000 < k) : tephraref08_Names.f k a0 t a2 l a4 a5 tag = some (tnew (namesL t l tag)) := by
 unfold tephraref08_Names.f
 exact names_l0 a0 t a2 l a4 a5 tag hl l.length 0 k (by omega) (by omega)
theorem atI_pos {T : List ByteArray} {s : ByteArray} (h : s ∈ T) : posI8 T s = atI T s := by unfold posI8 atI; rw [isIn_iff.2 h]; rfl
theorem rtput_any (A : Option Addr) (c : Nat) (T : List ByteArray) (s : ByteArray) (W : World) (hC : Kd.C Kd.string W A T.length T) (hc : T.length ≤ c) (hT : T.length ≤ 1000000) :
  Calls Try.prog 69 #[.slice A T.length c, .string s] W fun e W' => ∃ A' c', e = .returned (.slice A' (tput T s).length c') ∧ (tput T s).length ≤ c' ∧ Kd.C Kd.string W' A' (tput T s).length (tput T s) ∧ Below W.heap.size W W' ∧ (s ∉ T → Kd.R Kd.string 9 W' W.heap.size (fun _ => True) (.slice A' (tput T s).length c') (tput T s)) := by
 have HP := Lib.hid (tephraref07_Place.calls (T.length + 1) A c T s (posI8 T s) W hC hc (place_is8 T hT s _ (by omega)))
 have HC := Lib.hid hC
 have hge := posI8_ge T s
 by_cases hs : s ∈ T
 ·rw [tput_in hs]
  have hd : decide (0 ≤ posI8 T s) = true := decide_eq_true (hge.2 hs)
  have HIN := Lib.hid hs
  clear hC hge hs
  generalize posI8 T s = q at *
  go_enter Try.func69, Try.ntmps69
  go_wp2_with fail
  refine HP.out.mono ?_
  rintro e w1 ⟨rfl, hdr⟩
  have hb := hdr.below
  have HB := Lib.hid hb
  clear hdr hb HP
  go_wp2_with fail
  go_ret
  exact ⟨A, c, rfl, hc, Kd.C_below HC.out HB.out, HB.out, fun h => absurd HIN.out h⟩
 ·rw [tput_out hs]
  have hd : decide (0 ≤ posI8 T s) = false := decide_eq_false (fun h => hs (hge.1 h))
  clear hC hge hs
  generalize posI8 T s = q at *
  go_enter Try.func69, Try.ntmps69
  go_wp2_with fail
  refine HP.out.mono ?_
  rintro e w1 ⟨rfl, hdr⟩
  have hb := hdr.below
  have HB := Lib.hid hb
  clear hdr hb HP
  go_wp2_with (at_builtin; refine Halt.mk ?_)
  refine Halt.of ?_
  have hb2 : Below w1.heap.size w1 (w1.alloc (.cells #[] 9)) := (Below.refl _ _).alloc (Nat.le_refl _) _
  have hR2 := R_empty Kd.string (w1.alloc (.cells #[] 9)) w1.heap.size w1.heap.size 9 (fun _ => True) (heap_new _ _) (Nat.le_refl _) trivial
  have HC2 := Kd.C_below (Kd.C_below HC.out HB.out) hb2
  refine Kd.R_append_rows Kd.string (w0 := w1) w1.heap.size rfl (.tmp 10) (.tmp 11) 45 9 (.string ⟨#[]⟩) 16 rfl Try.underlying45 info_str9 rfl (by decide) (by omega) _ [] T _ _ _ (fun _ => True) (fun _ => False) rfl rfl hR2 HC2 ?_ (fun _ h => h.elim) (fun _ _ => trivial) hb2 hb2.size (by simp only [List.length_nil]; omega) ?_
  ·intro x cs h; exact h
  intro v3 w3 hR3 hb3 _ _
  rw [List.nil_append] at hR3
  have HR3 := Lib.hid hR3
  have HB3 := Lib.hid hb3
  obtain ⟨A3, c3, rfl⟩ := Kd.R_slice hR3
  clear hR3 hb3 hR2 HC2 hb2
  go_wp2_with (at_builtin; refine Halt.mk ?_)
  refine Halt.of ?_
  have hb4 : Below w3.heap.size w3 (w3.alloc (.cells #[.string s] 9)) := (Below.refl _ _).alloc (Nat.le_refl _) _
  have hk4 : (w3.alloc (.cells #[.string s] 9)).heap[w3.heap.size]? = some (.cells #[.string s] 9 (0, 0)) := heap_new _ _
  have hB4 := HB3.out.trans (hb4.mono HB3.out.size)
  refine Kd.R_append_rows Kd.string (w0 := w1) w1.heap.size rfl (.tmp 12) (.tmp 14) 45 9 (.string ⟨#[]⟩) 16 rfl Try.underlying45 info_str9 rfl (by decide) (by omega) _ T [s] _ _ _ (fun _ => True) (fun _ => False) rfl rfl (Kd.R_below HR3.out hb4) (row_val s hk4) ?_ (fun _ h => h.elim) (fun _ _ => trivial) hB4 hB4.size (by omega) ?_
  ·rintro _ _ ⟨rfl, rfl⟩; rfl
  intro v5 w5 hR5 hb5 _ _
  obtain ⟨A5, c5, rfl⟩ := Kd.R_slice hR5
  have HR5 := Lib.hid (Kd.R_reads' hR5)
  have HRR := Lib.hid (Kd.R_lower hR5 HB.out.size)
  have HB5 := Lib.hid (HB.out.trans (hb5.mono HB.out.size))
  clear hR5 hb5 hb4 hk4 hB4
  go_wp2_with fail
  go_ret
  have hl5 : (T ++ [s]).length = T.length + 1 := by simp
  exact ⟨A5, c5, rfl, hl5 ▸ HR5.out.2.1, hl5 ▸ HR5.out.2.2, HB5.out, fun _ => by have := HRR.out; rwa [hl5] at this⟩
theorem rtext9_any (v : Int) (A : Option Addr) (c : Nat) (T : List ByteArray) (s : ByteArray) (W : World) (hC : Kd.C Kd.string W A T.length T) (hc : T.length ≤ c) (hT : T.length ≤ 1000000) (hs : s.size ≤ 1000000) (hin : v ≠ 1 → s ∈ T) :
  Calls Try.prog 71 #[.int .i64 v, .slice A T.length c, .string s] W fun e W' => e = .returned (.string (strOfNums (textE v T s))) ∧ Below W.heap.size W W' := by
 by_cases hv : v = 1
 ·have hd : decide (v = 1) = true := decide_eq_true hv
  have hd2 : (v == 1) = true := by simp [hv]
  have HB := Lib.hid (rbput_any s (by omega))
  unfold textE
  rw [if_pos hv]
  clear hC hin hv
  go_enter Try.func71, Try.ntmps71
  go_wp2_with fail
  refine (HB.out _).mono ?_
  rintro e w1 ⟨rfl, hb⟩
  go_wp2_with fail
  go_ret
  exact ⟨rfl, hb⟩
 ·have hd : decide (v = 1) = false := decide_eq_false hv
  have hd2 : (v == 1) = false := by simp [hv]
  have hs2 := hin hv
  have HP := Lib.hid (tephraref07_Place.calls (T.length + 1) A c T s (posI8 T s) W hC hc (place_is8 T hT s _ (by omega)))
  rw [atI_pos hs2] at HP
  have hbd := atI_bd T s hT
  obtain ⟨q, hq⟩ : ∃ q : Nat, atI T s = (q : Int) := ⟨(atI T s).toNat, by omega⟩
  have HPU := Lib.hid (refput_any q (by omega))
  unfold textE numE
  rw [if_neg hv]
  rw [hq] at HP hbd ⊢
  rw [Int.toNat_natCast]
  have hw : IntKind.u64.wrap (q : Int) = (q : Int) := by rw [IntKind.wrap_u64]; omega
  clear hC hin hv hs2 hq hbd
  go_enter Try.func71, Try.ntmps71
  go_wp2_with fail
  refine HP.out.mono ?_
  rintro e w1 ⟨rfl, hdr⟩
  have hb1 := hdr.below
  have HB1 := Lib.hid hb1
  clear hdr hb1 HP
  go_wp2_with fail
  refine (HPU.out w1).mono ?_
  rintro e w2 ⟨rfl, hb⟩
  go_wp2_with fail
  go_ret
  exact ⟨rfl, HB1.out.trans (hb.mono HB1.out.size)⟩
theorem xeq_no {a b : ByteArray} (h : ¬ a = b) : a ≠ b ∧ a.toList ≠ b.toList ∧ (a.toList == b.toList) = false := by
 have h2 : a.toList ≠ b.toList := fun e => h (tl_eq.1 e)
 exact ⟨h, h2, by simpa using h2⟩
theorem met_no {l : List S113} {j : Nat} {f0 d0 : ByteArray} (hj : (l.take (j + 1)).map (·.f0) = (l.take j).map (·.f0) ++ [f0]) (hn : d0 ∉ (l.take j).map (·.f0)) (hf : ¬ f0 = d0) : d0 ∉ (l.take (j + 1)).map (·.f0) := by
 rw [hj, List.mem_append]
 intro h
 rcases h with h | h
 ·exact hn h
 ·simp only [List.mem_singleton] at h
  exact hf h.symm
theorem met_yes {l : List S113} {j i : Nat} {f0 : ByteArray} {D M : Bool} (hj : (l.take (j + 1)).map (·.f0) = (l.take j).map (·.f0) ++ [f0]) (hji : j + 1 ≤ i) (h : (!isIn ((l.take i).map (·.f0)) f0 && D) = M) : false = M := by
 have h2 : l.take i = l.take (j + 1) ++ (l.take i).drop (j + 1) := by
  have h := (List.take_append_drop (j + 1) (l.take i)).symm
  rwa [List.take_take, Nat.min_eq_left hji] at h
 rw [← h, isIn_iff.2 (by rw [h2, List.map_append]; exact List.mem_append_left _ (by rw [hj]; simp))]
 simp
theorem bae_iff {s : ByteArray} : s = ByteArray.empty ↔ s.size = 0 := ⟨fun h => by rw [h]; rfl, fun h => ByteArray.ext (Array.eq_empty_of_size_eq_zero h)⟩
theorem tl_empty (s : ByteArray) : s.toList.isEmpty = decide (s.size = 0) := by rw [Bool.eq_iff_iff, List.isEmpty_iff, decide_eq_true_eq, tl_nil]
set_option maxRecDepth 100000 in
set_option maxHeartbeats 2000000 in
theorem rmay_v (v k0 : Int) (x1 : ByteArray) (x2 : Int) (ds : List S113) (x4 x5 : Int) (x6 : ByteArray) (A : Option Addr) (c : Nat) (w : World) (hC : Kd.C k113 w A ds.length ds) (hv : ¬ (1 ≤ v ∧ v ≤ 3)) :
  Calls Try.prog 66 #[.int .i64 v, .agg #[.int .i64 k0, .string x1, .int .u64 x2, .slice A ds.length c, .int .u64 x4, .int .u64 x5, .string x6]] w fun e w' => e = .returned (.bool false) ∧ Below w.heap.size w w' := by
 have hm := hC.2.1
 obtain ⟨w1, hw1⟩ : ∃ w1, w.alloc (.cells #[.int .i64 k0, .string x1, .int .u64 x2, .slice A ds.length c, .int .u64 x4, .int .u64 x5, .string x6] 62) = w1 := ⟨_, rfl⟩
 have hb1 : Below w.heap.size w w1 := by rw [← hw1]; exact (Below.refl _ _).alloc (Nat.le_refl _) _
 have HB1 := Lib.hid hb1
 have HW1 := Lib.hid hw1
 have HC := Lib.hid hC
 clear hC hb1 hw1
 go_enter Try.func66, Try.ntmps66
 by_cases h1 : v < 1
 ·have d1 : decide (v < 1) = true := decide_eq_true h1
  go_wp2_with fail
  rw [HW1.out]
  go_ret
  exact ⟨rfl, HB1.out⟩
 ·have d1 : decide (v < 1) = false := decide_eq_false h1
  have d2 : decide (3 < v) = true := decide_eq_true (by omega)
  go_wp2_with fail
  rw [HW1.out]
  go_ret
  exact ⟨rfl, HB1.out⟩
set_option maxRecDepth 100000 in
set_option maxHeartbeats 2000000 in
theorem rmay_n (v k0 : Int) (x1 : ByteArray) (x2 : Int) (ds : List S113) (x4 x5 : Int) (x6 : ByteArray) (A : Option Addr) (c : Nat) (w : World) (hC : Kd.C k113 w A ds.length ds) (hv : 1 ≤ v ∧ v ≤ 3) (hn : nameB x1 = false) :
  Calls Try.prog 66 #[.int .i64 v, .agg #[.int .i64 k0, .string x1, .int .u64 x2, .slice A ds.length c, .int .u64 x4, .int .u64 x5, .string x6]] w fun e w' => e = .returned (.bool false) ∧ Below w.heap.size w w' := by
 have hm := hC.2.1
 obtain ⟨w1, hw1⟩ : ∃ w1, w.alloc (.cells #[.int .i64 k0, .string x1, .int .u64 x2, .slice A ds.length c, .int .u64 x4, .int .u64 x5, .string x6] 62) = w1 := ⟨_, rfl⟩
 have hb1 : Below w.heap.size w w1 := by rw [← hw1]; exact (Below.refl _ _).alloc (Nat.le_refl _) _
 have HB1 := Lib.hid hb1
 have HW1 := Lib.hid hw1
 have HC := Lib.hid hC
 have d1 : decide (v < 1) = false := decide_eq_false (by omega)
 have d2 : decide (3 < v) = false := decide_eq_false (by omega)
 clear hC hb1 hw1
 go_enter Try.func66, Try.ntmps66
 go_wp2_with fail
 rw [HW1.out]
 refine (tephraref08_Name.calls x1 _ _ (rname_is x1)).mono ?_
 rintro e w2 ⟨rfl, hd2⟩
 rw [hn]
 have HB2 := Lib.hid (HB1.out.trans (hd2.below.mono HB1.out.size))
 clear hd2
 go_wp2_with fail
 go_ret
 exact ⟨rfl, HB2.out⟩
set_option maxRecDepth 100000 in
set_option maxHeartbeats 2000000 in
theorem rmay_2t (v k0 : Int) (x1 : ByteArray) (x2 : Int) (ds : List S113) (x4 x5 : Int) (x6 : ByteArray) (A : Option Addr) (c : Nat) (w : World) (hC : Kd.C k113 w A ds.length ds) (hv : 1 ≤ v ∧ v ≤ 3) (hn : nameB x1 = true) (hk : k0 = 2) (hb : x2 = 0 ∧ ds.length = 0 ∧ x4 = 0 ∧ x5 = 0 ∧ x6.size = 0) :
  Calls Try.prog 66 #[.int .i64 v, .agg #[.int .i64 k0, .string x1, .int .u64 x2, .slice A ds.length c, .int .u64 x4, .int .u64 x5, .string x6]] w fun e w' => e = .returned (.bool true) ∧ Below w.heap.size w w' := by
 have hm := hC.2.1
 obtain ⟨w1, hw1⟩ : ∃ w1, w.alloc (.cells #[.int .i64 k0, .string x1, .int .u64 x2, .slice A ds.length c, .int .u64 x4, .int .u64 x5, .string x6] 62) = w1 := ⟨_, rfl⟩
 have hb1 : Below w.heap.size w w1 := by rw [← hw1]; exact (Below.refl _ _).alloc (Nat.le_refl _) _
 have HB1 := Lib.hid hb1
 have HW1 := Lib.hid hw1
 have HC := Lib.hid hC
 have hk1 : w1.heap[w.heap.size]? = some (.cells #[.int .i64 k0, .string x1, .int .u64 x2, .slice A ds.length c, .int .u64 x4, .int .u64 x5, .string x6] 62 (0, 0)) := by rw [← hw1]; exact heap_new _ _
 obtain ⟨b1, hbb⟩ : ∃ b, w.heap.size = b := ⟨_, rfl⟩
 rw [hbb] at hk1
 have HK1 := Lib.hid hk1
 have HBB := Lib.hid hbb
 clear hk1 hbb
 have d1 : decide (v < 1) = false := decide_eq_false (by omega)
 have d2 : decide (3 < v) = false := decide_eq_false (by omega)
 obtain ⟨h2, h3, h4, h5, h6⟩ := hb
 subst hk h2 h4 h5
 have H3 := Lib.hid h3
 have H6 := Lib.hid h6
 clear h3 h6
 clear hC hb1 hw1
 go_enter Try.func66, Try.ntmps66
 go_wp2_with fail
 rw [HW1.out, HBB.out]
 refine (tephraref08_Name.calls x1 _ _ (rname_is x1)).mono ?_
 rintro e w2 ⟨rfl, hd2⟩
 rw [hn]
 have HB2 := Lib.hid (HB1.out.trans (hd2.below.mono HB1.out.size))
 have hk2 := blk_below HK1.out hd2.below
 have HK2 := Lib.hid hk2
 have q0 := (blk_cell hk2 0).trans rfl
 have q1 := (blk_cell hk2 1).trans rfl
 have q2 := (blk_cell hk2 2).trans rfl
 have q3 := (blk_cell hk2 3).trans rfl
 have q4 := (blk_cell hk2 4).trans rfl
 have q5 := (blk_cell hk2 5).trans rfl
 have q6 := (blk_cell hk2 6).trans rfl
 clear hd2 hk2
 go_wp2_with fail
 all_goals first | (go_ret; refine ⟨?_, HB2.out⟩; first | rfl | exact congrArg (fun b => Ending.returned (.bool b)) (decide_eq_true (bae_iff.2 H6.out)) | exact congrArg (fun b => Ending.returned (.bool b)) ((tl_empty x6).trans (decide_eq_true H6.out))) | (exfalso; have h3 := H3.out; simp_all)
set_option maxRecDepth 100000 in
set_option maxHeartbeats 2000000 in
theorem rmay_2f (v k0 : Int) (x1 : ByteArray) (x2 : Int) (ds : List S113) (x4 x5 : Int) (x6 : ByteArray) (A : Option Addr) (c : Nat) (w : World) (hC : Kd.C k113 w A ds.length ds) (hv : 1 ≤ v ∧ v ≤ 3) (hn : nameB x1 = true) (hk : k0 = 2) (hb : ¬ (x2 = 0 ∧ ds.length = 0 ∧ x4 = 0 ∧ x5 = 0 ∧ x6.size = 0)) :
  Calls Try.prog 66 #[.int .i64 v, .agg #[.int .i64 k0, .string x1, .int .u64 x2, .slice A ds.length c, .int .u64 x4, .int .u64 x5, .string x6]] w fun e w' => e = .returned (.bool false) ∧ Below w.heap.size w w' := by
 have hm := hC.2.1
 obtain ⟨w1, hw1⟩ : ∃ w1, w.alloc (.cells #[.int .i64 k0, .string x1, .int .u64 x2, .slice A ds.length c, .int .u64 x4, .int .u64 x5, .string x6] 62) = w1 := ⟨_, rfl⟩
 have hb1 : Below w.heap.size w w1 := by rw [← hw1]; exact (Below.refl _ _).alloc (Nat.le_refl _) _
 have HB1 := Lib.hid hb1
 have HW1 := Lib.hid hw1
 have HC := Lib.hid hC
 have hk1 : w1.heap[w.heap.size]? = some (.cells #[.int .i64 k0, .string x1, .int .u64 x2, .slice A ds.length c, .int .u64 x4, .int .u64 x5, .string x6] 62 (0, 0)) := by rw [← hw1]; exact heap_new _ _
 obtain ⟨b1, hbb⟩ : ∃ b, w.heap.size = b := ⟨_, rfl⟩
 rw [hbb] at hk1
 have HK1 := Lib.hid hk1
 have HBB := Lib.hid hbb
 clear hk1 hbb
 have d1 : decide (v < 1) = false := decide_eq_false (by omega)
 have d2 : decide (3 < v) = false := decide_eq_false (by omega)
 subst hk
 clear hC hb1 hw1
 go_enter Try.func66, Try.ntmps66
 go_wp2_with fail
 rw [HW1.out, HBB.out]
 refine (tephraref08_Name.calls x1 _ _ (rname_is x1)).mono ?_
 rintro e w2 ⟨rfl, hd2⟩
 rw [hn]
 have HB2 := Lib.hid (HB1.out.trans (hd2.below.mono HB1.out.size))
 have hk2 := blk_below HK1.out hd2.below
 have HK2 := Lib.hid hk2
 have q0 := (blk_cell hk2 0).trans rfl
 have q1 := (blk_cell hk2 1).trans rfl
 have q2 := (blk_cell hk2 2).trans rfl
 have q3 := (blk_cell hk2 3).trans rfl
 have q4 := (blk_cell hk2 4).trans rfl
 have q5 := (blk_cell hk2 5).trans rfl
 have q6 := (blk_cell hk2 6).trans rfl
 clear hd2 hk2
 have HBD := Lib.hid hb
 clear hb
 go_wp2_with fail
 all_goals (go_ret; refine ⟨?_, HB2.out⟩; first | rfl | exact congrArg (fun b => Ending.returned (.bool b)) ((tl_empty x6).trans (decide_eq_false (fun h => HBD.out ⟨by assumption, by rename_i h3 _ _; rw [h3]; rfl, by assumption, by assumption, h⟩))) | exact congrArg (fun b => Ending.returned (.bool b)) (decide_eq_false (fun h => HBD.out ⟨by assumption, by rename_i h3 _ _; rw [h3]; rfl, by assumption, by assumption, bae_iff.1 h⟩)))
set_option maxRecDepth 100000 in
set_option maxHeartbeats 2000000 in
theorem rmay_bad (v k0 : Int) (x1 : ByteArray) (x2 : Int) (ds : List S113) (x4 x5 : Int) (x6 : ByteArray) (A : Option Addr) (c : Nat) (w : World) (hC : Kd.C k113 w A ds.length ds) (hv : 1 ≤ v ∧ v ≤ 3) (hn : nameB x1 = true) (hk : k0 ≠ 2) (hb : k0 ≠ 1 ∨ 16 < ds.length ∨ 64 < x6.size ∨ (v = 1 ∧ x5 ≠ 0) ∨ (v < 3 ∧ x6.size ≠ 0)) :
  Calls Try.prog 66 #[.int .i64 v, .agg #[.int .i64 k0, .string x1, .int .u64 x2, .slice A ds.length c, .int .u64 x4, .int .u64 x5, .string x6]] w fun e w' => e = .returned (.bool false) ∧ Below w.heap.size w w' := by
 have hm := hC.2.1
 obtain ⟨w1, hw1⟩ : ∃ w1, w.alloc (.cells #[.int .i64 k0, .string x1, .int .u64 x2, .slice A ds.length c, .int .u64 x4, .int .u64 x5, .string x6] 62) = w1 := ⟨_, rfl⟩
 have hb1 : Below w.heap.size w w1 := by rw [← hw1]; exact (Below.refl _ _).alloc (Nat.le_refl _) _
 have HB1 := Lib.hid hb1
 have HW1 := Lib.hid hw1
 have HC := Lib.hid hC
 have hk1 : w1.heap[w.heap.size]? = some (.cells #[.int .i64 k0, .string x1, .int .u64 x2, .slice A ds.length c, .int .u64 x4, .int .u64 x5, .string x6] 62 (0, 0)) := by rw [← hw1]; exact heap_new _ _
 obtain ⟨b1, hbb⟩ : ∃ b, w.heap.size = b := ⟨_, rfl⟩
 rw [hbb] at hk1
 have HK1 := Lib.hid hk1
 have HBB := Lib.hid hbb
 clear hk1 hbb
 have d1 : decide (v < 1) = false := decide_eq_false (by omega)
 have d2 : decide (3 < v) = false := decide_eq_false (by omega)
 have k2 : (k0 == 2) = false := by simpa using hk
 clear hC hb1 hw1
 go_enter Try.func66, Try.ntmps66
 go_wp2_with fail
 rw [HW1.out, HBB.out]
 refine (tephraref08_Name.calls x1 _ _ (rname_is x1)).mono ?_
 rintro e w2 ⟨rfl, hd2⟩
 rw [hn]
 have HB2 := Lib.hid (HB1.out.trans (hd2.below.mono HB1.out.size))
 have hk2 := blk_below HK1.out hd2.below
 have HK2 := Lib.hid hk2
 have q0 := (blk_cell hk2 0).trans rfl
 have q1 := (blk_cell hk2 1).trans rfl
 have q2 := (blk_cell hk2 2).trans rfl
 have q3 := (blk_cell hk2 3).trans rfl
 have q4 := (blk_cell hk2 4).trans rfl
 have q5 := (blk_cell hk2 5).trans rfl
 have q6 := (blk_cell hk2 6).trans rfl
 clear hd2 hk2
 have HBD := Lib.hid hb
 clear hb
 go_wp2_with fail
 all_goals first | (go_ret; exact ⟨rfl, HB2.out⟩) | (exfalso; have hbd := HBD.out; first | omega | (have h := (Bool.not_eq_false' x6.toList.isEmpty).mp (by assumption); rw [tl_empty, decide_eq_true_eq] at h; omega))
set_option maxRecDepth 100000 in
set_option maxHeartbeats 2000000 in
theorem rmay_1v1  (x1 : ByteArray) (x2 : Int) (ds : List S113) (x4 : Int) (x6 : ByteArray) (A : Option Addr) (c : Nat) (w : World) (hC : Kd.C k113 w A ds.length ds) (hn : nameB x1 = true) (h16 : ds.length ≤ 16) (h64 : x6.size ≤ 64) (h6 : x6.size = 0) :
  Calls Try.prog 66 #[.int .i64 1, .agg #[.int .i64 1, .string x1, .int .u64 x2, .slice A ds.length c, .int .u64 x4, .int .u64 0, .string x6]] w fun e w' => e = .returned (.bool (depsOk 1 [x1] ds)) ∧ Below w.heap.size w w' := by
 have hm := hC.2.1
 obtain ⟨w1, hw1⟩ : ∃ w1, w.alloc (.cells #[.int .i64 1, .string x1, .int .u64 x2, .slice A ds.length c, .int .u64 x4, .int .u64 0, .string x6] 62) = w1 := ⟨_, rfl⟩
 have hb1 : Below w.heap.size w w1 := by rw [← hw1]; exact (Below.refl _ _).alloc (Nat.le_refl _) _
 have HB1 := Lib.hid hb1
 have HW1 := Lib.hid hw1
 have HC := Lib.hid hC
 have hk1 : w1.heap[w.heap.size]? = some (.cells #[.int .i64 1, .string x1, .int .u64 x2, .slice A ds.length c, .int .u64 x4, .int .u64 0, .string x6] 62 (0, 0)) := by rw [← hw1]; exact heap_new _ _
 obtain ⟨b1, hbb⟩ : ∃ b, w.heap.size = b := ⟨_, rfl⟩
 rw [hbb] at hk1
 have HK1 := Lib.hid hk1
 have HBB := Lib.hid hbb
 clear hk1 hbb
 have d16 : decide (16 < (ds.length : Int)) = false := decide_eq_false (by omega)
 have d64 : decide (64 < (x6.size : Int)) = false := decide_eq_false (by omega)
 have t6 : x6.toList.isEmpty = true := by rw [tl_empty]; exact decide_eq_true h6
 obtain ⟨M, hM⟩ : ∃ M, depsOk 1 [x1] ds = M := ⟨_, rfl⟩
 rw [hM]
 have HM := Lib.hid hM
 clear hM
 clear hC hb1 hw1
 go_enter Try.func66, Try.ntmps66
 go_wp2_with fail
 rw [HW1.out, HBB.out]
 refine (tephraref08_Name.calls x1 _ _ (rname_is x1)).mono ?_
 rintro e w2 ⟨rfl, hd2⟩
 rw [hn]
 have HB2 := Lib.hid (HB1.out.trans (hd2.below.mono HB1.out.size))
 have hk2 := blk_below HK1.out hd2.below
 have HK2 := Lib.hid hk2
 have q0 := (blk_cell hk2 0).trans rfl
 have q1 := (blk_cell hk2 1).trans rfl
 have q2 := (blk_cell hk2 2).trans rfl
 have q3 := (blk_cell hk2 3).trans rfl
 have q4 := (blk_cell hk2 4).trans rfl
 have q5 := (blk_cell hk2 5).trans rfl
 have q6 := (blk_cell hk2 6).trans rfl
 clear hd2 hk2
 go_wp2_with fail
 go_loopw [5] (fun u wr => ∃ (i : Nat), i ≤ ds.length ∧ u = .int .i64 (i : Int) ∧ Hid (Below w2.heap.size w2 wr) ∧ Hid (depsOk 1 (x1 :: (ds.take i).map (·.f0)) (ds.drop i) = M)) (fun u _ => ds.length - (intOf u).toNat)
 case atStart => exact ⟨0, by omega, rfl, Lib.hid (Below.refl _ _), Lib.hid HM.out⟩
 case round =>
  clear q0 q1 q2 q3 q4 q5 q6
  obtain ⟨i, hi, rfl, HB, HD⟩ := hrel
  have hk2 := blk_below HK2.out HB.out
  have s3 : wr.cell? ⟨b1, 3, none⟩ = some (.slice A ds.length c) := (blk_cell hk2 3).trans rfl
  have HBW := Lib.hid (HB2.out.trans (HB.out.mono HB2.out.size))
  by_cases hlt : i < ds.length
  ·have hdl : decide ((i : Int) < (ds.length : Int)) = true := decide_eq_true (by omega)
   obtain ⟨ad, hA, g0, g1, g2⟩ := at_T113 (Kd.C_below HC.out HBW.out) (i : Int) (by omega) (by omega)
   subst hA
   rw [rd_dep ds i hlt, Int.toNat_natCast] at g0 g1 g2
   have hd := HD.out
   rw [List.drop_eq_getElem_cons hlt] at hd
   have hnx := names_take hlt (l := ds)
   generalize ds[i] = d at g0 g1 g2 hd hnx
   obtain ⟨d0, dh, do_⟩ := d
   dsimp only at g0 g1 g2 hnx
   rw [depsOk] at hd
   dsimp only at hd
   have HD2 := Lib.hid hd
   have HNX := Lib.hid hnx
   clear hd hnx hk2 HD
   obtain ⟨wa, hwa⟩ : ∃ x, wr.alloc (.cells #[.string d0, .int .u64 dh, .bool do_] 113) = x := ⟨_, rfl⟩
   have hba : Below wr.heap.size wr wa := by rw [← hwa]; exact (Below.refl _ _).alloc (Nat.le_refl _) _
   have hka : wa.heap[wr.heap.size]? = some (.cells #[.string d0, .int .u64 dh, .bool do_] 113 (0, 0)) := by rw [← hwa]; exact heap_new _ _
   obtain ⟨b6, hb6⟩ : ∃ b, wr.heap.size = b := ⟨_, rfl⟩
   rw [hb6] at hka
   have HKA := Lib.hid hka
   have HBA := Lib.hid hba
   have HWA := Lib.hid hwa
   have HB6 := Lib.hid hb6
   clear hba hka hwa hb6
   go_wp2_with fail
   clear g0 g1 g2 s3
   rw [HWA.out, HB6.out]
   refine (tephraref08_Name.calls d0 _ _ (rname_is d0)).mono ?_
   rintro e wb ⟨rfl, hdb⟩
   have hkb := blk_below HKA.out hdb.below
   have hbb3 : Below w2.heap.size w2 wb := HB.out.trans ((HBA.out.trans (hdb.below.mono HBA.out.size)).mono HB.out.size)
   have HB3 := Lib.hid hbb3
   have HBW3 := Lib.hid (HB2.out.trans (hbb3.mono HB2.out.size))
   have hk3 := blk_below HK2.out hbb3
   have HK3 := Lib.hid hk3
   have HKB := Lib.hid hkb
   have y0 := (blk_cell hkb 0).trans rfl
   have y2 := (blk_cell hkb 2).trans rfl
   have z1 : wb.cell? ⟨b1, 1, none⟩ = some (.string x1) := (blk_cell hk3 1).trans rfl
   clear hdb hkb hbb3 hk3
   cases hnb : nameB d0 with
   | false =>
    have HZ := Lib.hid (show false = M by have h := HD2.out; rw [hnb] at h; simpa using h)
    go_wp2_with fail
    go_ret
    exact ⟨by rw [← HZ.out]; rfl, HBW3.out⟩
   | true =>
    have hd2 := HD2.out
    rw [hnb] at hd2
    by_cases hx : d0 = x1
    ·have HZ := Lib.hid (show false = M by rw [← hd2, isIn_iff.2 (by rw [hx]; simp)]; simp)
     subst hx
     clear hd2
     go_wp2_with fail
     go_ret
     exact ⟨by rw [← HZ.out]; rfl, HBW3.out⟩
    ·have hxe := xeq_no hx
     have hin : isIn (x1 :: (ds.take i).map (·.f0)) d0 = isIn ((ds.take i).map (·.f0)) d0 := by
      rw [Bool.eq_iff_iff, isIn_iff, isIn_iff, List.mem_cons]
      exact ⟨fun h => h.elim (fun h => absurd h hx) id, .inr⟩
     rw [hin] at hd2
     obtain ⟨hx1, hx2, hx3⟩ := hxe
     have HD3 := Lib.hid hd2
     have HX := Lib.hid hx
     clear hd2 hin hx
     cases do_ with
     | true =>
      have HZ := Lib.hid (show false = M by rw [← HD3.out]; simp)
      go_wp2_with fail
      go_ret
      exact ⟨by rw [← HZ.out]; rfl, HBW3.out⟩
     | false =>
      have HD4 := Lib.hid (show (!isIn ((ds.take i).map (·.f0)) d0 && depsOk 1 (x1 :: (ds.take i).map (·.f0) ++ [d0]) (ds.drop (i + 1))) = M by rw [← HD3.out]; simp)
      go_wp2_with fail
      clear y0 y2 z1 hx1 hx2 hx3
      go_loopw [7] (fun u wq => ∃ (j : Nat), j ≤ i ∧ u = .int .i64 (j : Int) ∧ Hid (Below wb.heap.size wb wq) ∧ Hid (d0 ∉ (ds.take j).map (·.f0))) (fun u _ => i - (intOf u).toNat)
      case atStart => exact ⟨0, by omega, rfl, Lib.hid (Below.refl _ _), Lib.hid (by simp)⟩
      case round =>
       obtain ⟨j, hj, rfl, HQ, HN⟩ := hrel
       by_cases hji : j < i
       ·have hjl : decide ((j : Int) < (i : Int)) = true := decide_eq_true (by omega)
        obtain ⟨ae, hA2, e0, _, _⟩ := at_T113 (Kd.C_below HC.out (HBW3.out.trans (HQ.out.mono HBW3.out.size))) (j : Int) (by omega) (by omega)
        have hA3 := Option.some.inj hA2
        subst hA3
        rw [rd_dep ds j (by omega), Int.toNat_natCast] at e0
        have hnj := names_take (show j < ds.length by omega) (l := ds)
        generalize ds[j]'(by omega) = dj at e0 hnj
        obtain ⟨f0, fh, fo⟩ := dj
        dsimp only at e0 hnj
        have HNJ := Lib.hid hnj
        have hkq1 := blk_below HK3.out HQ.out
        have hkq2 := blk_below HKB.out HQ.out
        have y3 : wr.cell? ⟨b1, 3, none⟩ = some (.slice (some ad) ds.length c) := (blk_cell hkq1 3).trans rfl
        have y0 : wr.cell? ⟨b6, 0, none⟩ = some (.string d0) := (blk_cell hkq2 0).trans rfl
        have hjn : j < ds.length := by omega
        clear hnj hA2 hkq1 hkq2
        by_cases hf : f0 = d0
        ·subst hf
         have HZ := Lib.hid (met_yes HNJ.out (show j + 1 ≤ i by omega) HD4.out)
         go_wp2_with fail
         go_quiet (fail)
         go_wp2_with fail
         go_ret
         exact ⟨by rw [← HZ.out]; rfl, pw_below_drewN (HBW3.out.trans (HQ.out.mono HBW3.out.size)) _⟩
        ·obtain ⟨r1, r2, r3⟩ := xeq_no hf
         have HN2 := Lib.hid (met_no HNJ.out HN.out hf)
         go_wp2_with fail
         go_quiet (fail)
         go_wp2_with fail
         go_roundw
         case rel => exact ⟨j + 1, by omega, by go_num, Lib.hid (pw_below_drewN HQ.out _), HN2⟩
         case measure => simp [intOf]; omega
       ·obtain rfl : j = i := by omega
        have HD5 := Lib.hid (show depsOk 1 (x1 :: (ds.take (j + 1)).map (·.f0)) (ds.drop (j + 1)) = M by
         have h := HD4.out
         rw [isIn_ne.2 HN.out] at h
         rw [HNX.out]
         simpa using h)
        have HB5 := Lib.hid (HB3.out.trans (HQ.out.mono HB3.out.size))
        go_wp2_with fail
        go_roundw
        case rel => exact ⟨j + 1, by omega, by go_num, HB5, HD5⟩
        case measure => simp [intOf]; omega
  ·obtain rfl : i = ds.length := by omega
   have HZ := Lib.hid (show true = M by have h := HD.out; rw [List.drop_length, depsOk] at h; exact h)
   clear hk2
   go_wp2_with fail
   go_ret
   exact ⟨by rw [← HZ.out]; rfl, HBW.out⟩
set_option maxRecDepth 100000 in
set_option maxHeartbeats 2000000 in
theorem rmay_1v2  (x1 : ByteArray) (x2 : Int) (ds : List S113) (x4 x5 : Int) (x6 : ByteArray) (A : Option Addr) (c : Nat) (w : World) (hC : Kd.C k113 w A ds.length ds) (hn : nameB x1 = true) (h16 : ds.length ≤ 16) (h64 : x6.size ≤ 64) (h6 : x6.size = 0) :
  Calls Try.prog 66 #[.int .i64 2, .agg #[.int .i64 1, .string x1, .int .u64 x2, .slice A ds.length c, .int .u64 x4, .int .u64 x5, .string x6]] w fun e w' => e = .returned (.bool (depsOk 2 [x1] ds)) ∧ Below w.heap.size w w' := by
 have hm := hC.2.1
 obtain ⟨w1, hw1⟩ : ∃ w1, w.alloc (.cells #[.int .i64 1, .string x1, .int .u64 x2, .slice A ds.length c, .int .u64 x4, .int .u64 x5, .string x6] 62) = w1 := ⟨_, rfl⟩
 have hb1 : Below w.heap.size w w1 := by rw [← hw1]; exact (Below.refl _ _).alloc (Nat.le_refl _) _
 have HB1 := Lib.hid hb1
 have HW1 := Lib.hid hw1
 have HC := Lib.hid hC
 have hk1 : w1.heap[w.heap.size]? = some (.cells #[.int .i64 1, .string x1, .int .u64 x2, .slice A ds.length c, .int .u64 x4, .int .u64 x5, .string x6] 62 (0, 0)) := by rw [← hw1]; exact heap_new _ _
 obtain ⟨b1, hbb⟩ : ∃ b, w.heap.size = b := ⟨_, rfl⟩
 rw [hbb] at hk1
 have HK1 := Lib.hid hk1
 have HBB := Lib.hid hbb
 clear hk1 hbb
 have d16 : decide (16 < (ds.length : Int)) = false := decide_eq_false (by omega)
 have d64 : decide (64 < (x6.size : Int)) = false := decide_eq_false (by omega)
 have t6 : x6.toList.isEmpty = true := by rw [tl_empty]; exact decide_eq_true h6
 obtain ⟨M, hM⟩ : ∃ M, depsOk 2 [x1] ds = M := ⟨_, rfl⟩
 rw [hM]
 have HM := Lib.hid hM
 clear hM
 clear hC hb1 hw1
 go_enter Try.func66, Try.ntmps66
 go_wp2_with fail
 rw [HW1.out, HBB.out]
 refine (tephraref08_Name.calls x1 _ _ (rname_is x1)).mono ?_
 rintro e w2 ⟨rfl, hd2⟩
 rw [hn]
 have HB2 := Lib.hid (HB1.out.trans (hd2.below.mono HB1.out.size))
 have hk2 := blk_below HK1.out hd2.below
 have HK2 := Lib.hid hk2
 have q0 := (blk_cell hk2 0).trans rfl
 have q1 := (blk_cell hk2 1).trans rfl
 have q2 := (blk_cell hk2 2).trans rfl
 have q3 := (blk_cell hk2 3).trans rfl
 have q4 := (blk_cell hk2 4).trans rfl
 have q5 := (blk_cell hk2 5).trans rfl
 have q6 := (blk_cell hk2 6).trans rfl
 clear hd2 hk2
 go_wp2_with fail
 go_loopw [5] (fun u wr => ∃ (i : Nat), i ≤ ds.length ∧ u = .int .i64 (i : Int) ∧ Hid (Below w2.heap.size w2 wr) ∧ Hid (depsOk 2 (x1 :: (ds.take i).map (·.f0)) (ds.drop i) = M)) (fun u _ => ds.length - (intOf u).toNat)
 case atStart => exact ⟨0, by omega, rfl, Lib.hid (Below.refl _ _), Lib.hid HM.out⟩
 case round =>
  clear q0 q1 q2 q3 q4 q5 q6
  obtain ⟨i, hi, rfl, HB, HD⟩ := hrel
  have hk2 := blk_below HK2.out HB.out
  have s3 : wr.cell? ⟨b1, 3, none⟩ = some (.slice A ds.length c) := (blk_cell hk2 3).trans rfl
  have HBW := Lib.hid (HB2.out.trans (HB.out.mono HB2.out.size))
  by_cases hlt : i < ds.length
  ·have hdl : decide ((i : Int) < (ds.length : Int)) = true := decide_eq_true (by omega)
   obtain ⟨ad, hA, g0, g1, g2⟩ := at_T113 (Kd.C_below HC.out HBW.out) (i : Int) (by omega) (by omega)
   subst hA
   rw [rd_dep ds i hlt, Int.toNat_natCast] at g0 g1 g2
   have hd := HD.out
   rw [List.drop_eq_getElem_cons hlt] at hd
   have hnx := names_take hlt (l := ds)
   generalize ds[i] = d at g0 g1 g2 hd hnx
   obtain ⟨d0, dh, do_⟩ := d
   dsimp only at g0 g1 g2 hnx
   rw [depsOk] at hd
   dsimp only at hd
   have HD2 := Lib.hid hd
   have HNX := Lib.hid hnx
   clear hd hnx hk2 HD
   obtain ⟨wa, hwa⟩ : ∃ x, wr.alloc (.cells #[.string d0, .int .u64 dh, .bool do_] 113) = x := ⟨_, rfl⟩
   have hba : Below wr.heap.size wr wa := by rw [← hwa]; exact (Below.refl _ _).alloc (Nat.le_refl _) _
   have hka : wa.heap[wr.heap.size]? = some (.cells #[.string d0, .int .u64 dh, .bool do_] 113 (0, 0)) := by rw [← hwa]; exact heap_new _ _
   obtain ⟨b6, hb6⟩ : ∃ b, wr.heap.size = b := ⟨_, rfl⟩
   rw [hb6] at hka
   have HKA := Lib.hid hka
   have HBA := Lib.hid hba
   have HWA := Lib.hid hwa
   have HB6 := Lib.hid hb6
   clear hba hka hwa hb6
   go_wp2_with fail
   clear g0 g1 g2 s3
   rw [HWA.out, HB6.out]
   refine (tephraref08_Name.calls d0 _ _ (rname_is d0)).mono ?_
   rintro e wb ⟨rfl, hdb⟩
   have hkb := blk_below HKA.out hdb.below
   have hbb3 : Below w2.heap.size w2 wb := HB.out.trans ((HBA.out.trans (hdb.below.mono HBA.out.size)).mono HB.out.size)
   have HB3 := Lib.hid hbb3
   have HBW3 := Lib.hid (HB2.out.trans (hbb3.mono HB2.out.size))
   have hk3 := blk_below HK2.out hbb3
   have HK3 := Lib.hid hk3
   have HKB := Lib.hid hkb
   have y0 := (blk_cell hkb 0).trans rfl
   have y2 := (blk_cell hkb 2).trans rfl
   have z1 : wb.cell? ⟨b1, 1, none⟩ = some (.string x1) := (blk_cell hk3 1).trans rfl
   clear hdb hkb hbb3 hk3
   cases hnb : nameB d0 with
   | false =>
    have HZ := Lib.hid (show false = M by have h := HD2.out; rw [hnb] at h; simpa using h)
    go_wp2_with fail
    go_ret
    exact ⟨by rw [← HZ.out]; rfl, HBW3.out⟩
   | true =>
    have hd2 := HD2.out
    rw [hnb] at hd2
    by_cases hx : d0 = x1
    ·have HZ := Lib.hid (show false = M by rw [← hd2, isIn_iff.2 (by rw [hx]; simp)]; simp)
     subst hx
     clear hd2
     go_wp2_with fail
     go_ret
     exact ⟨by rw [← HZ.out]; rfl, HBW3.out⟩
    ·have hxe := xeq_no hx
     have hin : isIn (x1 :: (ds.take i).map (·.f0)) d0 = isIn ((ds.take i).map (·.f0)) d0 := by
      rw [Bool.eq_iff_iff, isIn_iff, isIn_iff, List.mem_cons]
      exact ⟨fun h => h.elim (fun h => absurd h hx) id, .inr⟩
     rw [hin] at hd2
     obtain ⟨hx1, hx2, hx3⟩ := hxe
     have HD3 := Lib.hid hd2
     have HX := Lib.hid hx
     clear hd2 hin hx
     cases do_ with
     | true =>
      have HZ := Lib.hid (show false = M by rw [← HD3.out]; simp)
      go_wp2_with fail
      go_ret
      exact ⟨by rw [← HZ.out]; rfl, HBW3.out⟩
     | false =>
      have HD4 := Lib.hid (show (!isIn ((ds.take i).map (·.f0)) d0 && depsOk 2 (x1 :: (ds.take i).map (·.f0) ++ [d0]) (ds.drop (i + 1))) = M by rw [← HD3.out]; simp)
      go_wp2_with fail
      clear y0 y2 z1 hx1 hx2 hx3
      go_loopw [7] (fun u wq => ∃ (j : Nat), j ≤ i ∧ u = .int .i64 (j : Int) ∧ Hid (Below wb.heap.size wb wq) ∧ Hid (d0 ∉ (ds.take j).map (·.f0))) (fun u _ => i - (intOf u).toNat)
      case atStart => exact ⟨0, by omega, rfl, Lib.hid (Below.refl _ _), Lib.hid (by simp)⟩
      case round =>
       obtain ⟨j, hj, rfl, HQ, HN⟩ := hrel
       by_cases hji : j < i
       ·have hjl : decide ((j : Int) < (i : Int)) = true := decide_eq_true (by omega)
        obtain ⟨ae, hA2, e0, _, _⟩ := at_T113 (Kd.C_below HC.out (HBW3.out.trans (HQ.out.mono HBW3.out.size))) (j : Int) (by omega) (by omega)
        have hA3 := Option.some.inj hA2
        subst hA3
        rw [rd_dep ds j (by omega), Int.toNat_natCast] at e0
        have hnj := names_take (show j < ds.length by omega) (l := ds)
        generalize ds[j]'(by omega) = dj at e0 hnj
        obtain ⟨f0, fh, fo⟩ := dj
        dsimp only at e0 hnj
        have HNJ := Lib.hid hnj
        have hkq1 := blk_below HK3.out HQ.out
        have hkq2 := blk_below HKB.out HQ.out
        have y3 : wr.cell? ⟨b1, 3, none⟩ = some (.slice (some ad) ds.length c) := (blk_cell hkq1 3).trans rfl
        have y0 : wr.cell? ⟨b6, 0, none⟩ = some (.string d0) := (blk_cell hkq2 0).trans rfl
        have hjn : j < ds.length := by omega
        clear hnj hA2 hkq1 hkq2
        by_cases hf : f0 = d0
        ·subst hf
         have HZ := Lib.hid (met_yes HNJ.out (show j + 1 ≤ i by omega) HD4.out)
         go_wp2_with fail
         go_quiet (fail)
         go_wp2_with fail
         go_ret
         exact ⟨by rw [← HZ.out]; rfl, pw_below_drewN (HBW3.out.trans (HQ.out.mono HBW3.out.size)) _⟩
        ·obtain ⟨r1, r2, r3⟩ := xeq_no hf
         have HN2 := Lib.hid (met_no HNJ.out HN.out hf)
         go_wp2_with fail
         go_quiet (fail)
         go_wp2_with fail
         go_roundw
         case rel => exact ⟨j + 1, by omega, by go_num, Lib.hid (pw_below_drewN HQ.out _), HN2⟩
         case measure => simp [intOf]; omega
       ·obtain rfl : j = i := by omega
        have HD5 := Lib.hid (show depsOk 2 (x1 :: (ds.take (j + 1)).map (·.f0)) (ds.drop (j + 1)) = M by
         have h := HD4.out
         rw [isIn_ne.2 HN.out] at h
         rw [HNX.out]
         simpa using h)
        have HB5 := Lib.hid (HB3.out.trans (HQ.out.mono HB3.out.size))
        go_wp2_with fail
        go_roundw
        case rel => exact ⟨j + 1, by omega, by go_num, HB5, HD5⟩
        case measure => simp [intOf]; omega
  ·obtain rfl : i = ds.length := by omega
   have HZ := Lib.hid (show true = M by have h := HD.out; rw [List.drop_length, depsOk] at h; exact h)
   clear hk2
   go_wp2_with fail
   go_ret
   exact ⟨by rw [← HZ.out]; rfl, HBW.out⟩
set_option maxRecDepth 100000 in
set_option maxHeartbeats 2000000 in
theorem rmay_1v3  (x1 : ByteArray) (x2 : Int) (ds : List S113) (x4 x5 : Int) (x6 : ByteArray) (A : Option Addr) (c : Nat) (w : World) (hC : Kd.C k113 w A ds.length ds) (hn : nameB x1 = true) (h16 : ds.length ≤ 16) (h64 : x6.size ≤ 64) :
  Calls Try.prog 66 #[.int .i64 3, .agg #[.int .i64 1, .string x1, .int .u64 x2, .slice A ds.length c, .int .u64 x4, .int .u64 x5, .string x6]] w fun e w' => e = .returned (.bool (depsOk 3 [x1] ds)) ∧ Below w.heap.size w w' := by
 have hm := hC.2.1
 obtain ⟨w1, hw1⟩ : ∃ w1, w.alloc (.cells #[.int .i64 1, .string x1, .int .u64 x2, .slice A ds.length c, .int .u64 x4, .int .u64 x5, .string x6] 62) = w1 := ⟨_, rfl⟩
 have hb1 : Below w.heap.size w w1 := by rw [← hw1]; exact (Below.refl _ _).alloc (Nat.le_refl _) _
 have HB1 := Lib.hid hb1
 have HW1 := Lib.hid hw1
 have HC := Lib.hid hC
 have hk1 : w1.heap[w.heap.size]? = some (.cells #[.int .i64 1, .string x1, .int .u64 x2, .slice A ds.length c, .int .u64 x4, .int .u64 x5, .string x6] 62 (0, 0)) := by rw [← hw1]; exact heap_new _ _
 obtain ⟨b1, hbb⟩ : ∃ b, w.heap.size = b := ⟨_, rfl⟩
 rw [hbb] at hk1
 have HK1 := Lib.hid hk1
 have HBB := Lib.hid hbb
 clear hk1 hbb
 have d16 : decide (16 < (ds.length : Int)) = false := decide_eq_false (by omega)
 have d64 : decide (64 < (x6.size : Int)) = false := decide_eq_false (by omega)
 obtain ⟨M, hM⟩ : ∃ M, depsOk 3 [x1] ds = M := ⟨_, rfl⟩
 rw [hM]
 have HM := Lib.hid hM
 clear hM
 clear hC hb1 hw1
 go_enter Try.func66, Try.ntmps66
 go_wp2_with fail
 rw [HW1.out, HBB.out]
 refine (tephraref08_Name.calls x1 _ _ (rname_is x1)).mono ?_
 rintro e w2 ⟨rfl, hd2⟩
 rw [hn]
 have HB2 := Lib.hid (HB1.out.trans (hd2.below.mono HB1.out.size))
 have hk2 := blk_below HK1.out hd2.below
 have HK2 := Lib.hid hk2
 have q0 := (blk_cell hk2 0).trans rfl
 have q1 := (blk_cell hk2 1).trans rfl
 have q2 := (blk_cell hk2 2).trans rfl
 have q3 := (blk_cell hk2 3).trans rfl
 have q4 := (blk_cell hk2 4).trans rfl
 have q5 := (blk_cell hk2 5).trans rfl
 have q6 := (blk_cell hk2 6).trans rfl
 clear hd2 hk2
 go_wp2_with fail
 go_loopw [5] (fun u wr => ∃ (i : Nat), i ≤ ds.length ∧ u = .int .i64 (i : Int) ∧ Hid (Below w2.heap.size w2 wr) ∧ Hid (depsOk 3 (x1 :: (ds.take i).map (·.f0)) (ds.drop i) = M)) (fun u _ => ds.length - (intOf u).toNat)
 case atStart => exact ⟨0, by omega, rfl, Lib.hid (Below.refl _ _), Lib.hid HM.out⟩
 case round =>
  clear q0 q1 q2 q3 q4 q5 q6
  obtain ⟨i, hi, rfl, HB, HD⟩ := hrel
  have hk2 := blk_below HK2.out HB.out
  have s3 : wr.cell? ⟨b1, 3, none⟩ = some (.slice A ds.length c) := (blk_cell hk2 3).trans rfl
  have HBW := Lib.hid (HB2.out.trans (HB.out.mono HB2.out.size))
  by_cases hlt : i < ds.length
  ·have hdl : decide ((i : Int) < (ds.length : Int)) = true := decide_eq_true (by omega)
   obtain ⟨ad, hA, g0, g1, g2⟩ := at_T113 (Kd.C_below HC.out HBW.out) (i : Int) (by omega) (by omega)
   subst hA
   rw [rd_dep ds i hlt, Int.toNat_natCast] at g0 g1 g2
   have hd := HD.out
   rw [List.drop_eq_getElem_cons hlt] at hd
   have hnx := names_take hlt (l := ds)
   generalize ds[i] = d at g0 g1 g2 hd hnx
   obtain ⟨d0, dh, do_⟩ := d
   dsimp only at g0 g1 g2 hnx
   rw [depsOk] at hd
   dsimp only at hd
   have HD2 := Lib.hid hd
   have HNX := Lib.hid hnx
   clear hd hnx hk2 HD
   obtain ⟨wa, hwa⟩ : ∃ x, wr.alloc (.cells #[.string d0, .int .u64 dh, .bool do_] 113) = x := ⟨_, rfl⟩
   have hba : Below wr.heap.size wr wa := by rw [← hwa]; exact (Below.refl _ _).alloc (Nat.le_refl _) _
   have hka : wa.heap[wr.heap.size]? = some (.cells #[.string d0, .int .u64 dh, .bool do_] 113 (0, 0)) := by rw [← hwa]; exact heap_new _ _
   obtain ⟨b6, hb6⟩ : ∃ b, wr.heap.size = b := ⟨_, rfl⟩
   rw [hb6] at hka
   have HKA := Lib.hid hka
   have HBA := Lib.hid hba
   have HWA := Lib.hid hwa
   have HB6 := Lib.hid hb6
   clear hba hka hwa hb6
   go_wp2_with fail
   clear g0 g1 g2 s3
   rw [HWA.out, HB6.out]
   refine (tephraref08_Name.calls d0 _ _ (rname_is d0)).mono ?_
   rintro e wb ⟨rfl, hdb⟩
   have hkb := blk_below HKA.out hdb.below
   have hbb3 : Below w2.heap.size w2 wb := HB.out.trans ((HBA.out.trans (hdb.below.mono HBA.out.size)).mono HB.out.size)
   have HB3 := Lib.hid hbb3
   have HBW3 := Lib.hid (HB2.out.trans (hbb3.mono HB2.out.size))
   have hk3 := blk_below HK2.out hbb3
   have HK3 := Lib.hid hk3
   have HKB := Lib.hid hkb
   have y0 := (blk_cell hkb 0).trans rfl
   have y2 := (blk_cell hkb 2).trans rfl
   have z1 : wb.cell? ⟨b1, 1, none⟩ = some (.string x1) := (blk_cell hk3 1).trans rfl
   clear hdb hkb hbb3 hk3
   cases hnb : nameB d0 with
   | false =>
    have HZ := Lib.hid (show false = M by have h := HD2.out; rw [hnb] at h; simpa using h)
    go_wp2_with fail
    go_ret
    exact ⟨by rw [← HZ.out]; rfl, HBW3.out⟩
   | true =>
    have hd2 := HD2.out
    rw [hnb] at hd2
    by_cases hx : d0 = x1
    ·have HZ := Lib.hid (show false = M by rw [← hd2, isIn_iff.2 (by rw [hx]; simp)]; simp)
     subst hx
     clear hd2
     go_wp2_with fail
     go_ret
     exact ⟨by rw [← HZ.out]; rfl, HBW3.out⟩
    ·have hxe := xeq_no hx
     have hin : isIn (x1 :: (ds.take i).map (·.f0)) d0 = isIn ((ds.take i).map (·.f0)) d0 := by
      rw [Bool.eq_iff_iff, isIn_iff, isIn_iff, List.mem_cons]
      exact ⟨fun h => h.elim (fun h => absurd h hx) id, .inr⟩
     rw [hin] at hd2
     obtain ⟨hx1, hx2, hx3⟩ := hxe
     have HD3 := Lib.hid hd2
     have HX := Lib.hid hx
     clear hd2 hin hx
     have HD4 := Lib.hid (show (!isIn ((ds.take i).map (·.f0)) d0 && depsOk 3 (x1 :: (ds.take i).map (·.f0) ++ [d0]) (ds.drop (i + 1))) = M by rw [← HD3.out]; simp)
     have HOR := Lib.hid (show do_ = do_ from rfl)
     cases do_ with
     | true =>
      go_wp2_with fail
      clear y0 y2 z1 hx1 hx2 hx3
      go_loopw [7] (fun u wq => ∃ (j : Nat), j ≤ i ∧ u = .int .i64 (j : Int) ∧ Hid (Below wb.heap.size wb wq) ∧ Hid (d0 ∉ (ds.take j).map (·.f0))) (fun u _ => i - (intOf u).toNat)
      case atStart => exact ⟨0, by omega, rfl, Lib.hid (Below.refl _ _), Lib.hid (by simp)⟩
      case round =>
       obtain ⟨j, hj, rfl, HQ, HN⟩ := hrel
       by_cases hji : j < i
       ·have hjl : decide ((j : Int) < (i : Int)) = true := decide_eq_true (by omega)
        obtain ⟨ae, hA2, e0, _, _⟩ := at_T113 (Kd.C_below HC.out (HBW3.out.trans (HQ.out.mono HBW3.out.size))) (j : Int) (by omega) (by omega)
        have hA3 := Option.some.inj hA2
        subst hA3
        rw [rd_dep ds j (by omega), Int.toNat_natCast] at e0
        have hnj := names_take (show j < ds.length by omega) (l := ds)
        generalize ds[j]'(by omega) = dj at e0 hnj
        obtain ⟨f0, fh, fo⟩ := dj
        dsimp only at e0 hnj
        have HNJ := Lib.hid hnj
        have hkq1 := blk_below HK3.out HQ.out
        have hkq2 := blk_below HKB.out HQ.out
        have y3 : wr.cell? ⟨b1, 3, none⟩ = some (.slice (some ad) ds.length c) := (blk_cell hkq1 3).trans rfl
        have y0 : wr.cell? ⟨b6, 0, none⟩ = some (.string d0) := (blk_cell hkq2 0).trans rfl
        have hjn : j < ds.length := by omega
        clear hnj hA2 hkq1 hkq2
        by_cases hf : f0 = d0
        ·subst hf
         have HZ := Lib.hid (met_yes HNJ.out (show j + 1 ≤ i by omega) HD4.out)
         go_wp2_with fail
         go_quiet (fail)
         go_wp2_with fail
         go_ret
         exact ⟨by rw [← HZ.out]; rfl, pw_below_drewN (HBW3.out.trans (HQ.out.mono HBW3.out.size)) _⟩
        ·obtain ⟨r1, r2, r3⟩ := xeq_no hf
         have HN2 := Lib.hid (met_no HNJ.out HN.out hf)
         go_wp2_with fail
         go_quiet (fail)
         go_wp2_with fail
         go_roundw
         case rel => exact ⟨j + 1, by omega, by go_num, Lib.hid (pw_below_drewN HQ.out _), HN2⟩
         case measure => simp [intOf]; omega
       ·obtain rfl : j = i := by omega
        have HD5 := Lib.hid (show depsOk 3 (x1 :: (ds.take (j + 1)).map (·.f0)) (ds.drop (j + 1)) = M by
         have h := HD4.out
         rw [isIn_ne.2 HN.out] at h
         rw [HNX.out]
         simpa using h)
        have HB5 := Lib.hid (HB3.out.trans (HQ.out.mono HB3.out.size))
        go_wp2_with fail
        go_roundw
        case rel => exact ⟨j + 1, by omega, by go_num, HB5, HD5⟩
        case measure => simp [intOf]; omega
     | false =>
      go_wp2_with fail
      clear y0 y2 z1 hx1 hx2 hx3
      go_loopw [7] (fun u wq => ∃ (j : Nat), j ≤ i ∧ u = .int .i64 (j : Int) ∧ Hid (Below wb.heap.size wb wq) ∧ Hid (d0 ∉ (ds.take j).map (·.f0))) (fun u _ => i - (intOf u).toNat)
      case atStart => exact ⟨0, by omega, rfl, Lib.hid (Below.refl _ _), Lib.hid (by simp)⟩
      case round =>
       obtain ⟨j, hj, rfl, HQ, HN⟩ := hrel
       by_cases hji : j < i
       ·have hjl : decide ((j : Int) < (i : Int)) = true := decide_eq_true (by omega)
        obtain ⟨ae, hA2, e0, _, _⟩ := at_T113 (Kd.C_below HC.out (HBW3.out.trans (HQ.out.mono HBW3.out.size))) (j : Int) (by omega) (by omega)
        have hA3 := Option.some.inj hA2
        subst hA3
        rw [rd_dep ds j (by omega), Int.toNat_natCast] at e0
        have hnj := names_take (show j < ds.length by omega) (l := ds)
        generalize ds[j]'(by omega) = dj at e0 hnj
        obtain ⟨f0, fh, fo⟩ := dj
        dsimp only at e0 hnj
        have HNJ := Lib.hid hnj
        have hkq1 := blk_below HK3.out HQ.out
        have hkq2 := blk_below HKB.out HQ.out
        have y3 : wr.cell? ⟨b1, 3, none⟩ = some (.slice (some ad) ds.length c) := (blk_cell hkq1 3).trans rfl
        have y0 : wr.cell? ⟨b6, 0, none⟩ = some (.string d0) := (blk_cell hkq2 0).trans rfl
        have hjn : j < ds.length := by omega
        clear hnj hA2 hkq1 hkq2
        by_cases hf : f0 = d0
        ·subst hf
         have HZ := Lib.hid (met_yes HNJ.out (show j + 1 ≤ i by omega) HD4.out)
         go_wp2_with fail
         go_quiet (fail)
         go_wp2_with fail
         go_ret
         exact ⟨by rw [← HZ.out]; rfl, pw_below_drewN (HBW3.out.trans (HQ.out.mono HBW3.out.size)) _⟩
        ·obtain ⟨r1, r2, r3⟩ := xeq_no hf
         have HN2 := Lib.hid (met_no HNJ.out HN.out hf)
         go_wp2_with fail
         go_quiet (fail)
         go_wp2_with fail
         go_roundw
         case rel => exact ⟨j + 1, by omega, by go_num, Lib.hid (pw_below_drewN HQ.out _), HN2⟩
         case measure => simp [intOf]; omega
       ·obtain rfl : j = i := by omega
        have HD5 := Lib.hid (show depsOk 3 (x1 :: (ds.take (j + 1)).map (·.f0)) (ds.drop (j + 1)) = M by
         have h := HD4.out
         rw [isIn_ne.2 HN.out] at h
         rw [HNX.out]
         simpa using h)
        have HB5 := Lib.hid (HB3.out.trans (HQ.out.mono HB3.out.size))
        go_wp2_with fail
        go_roundw
        case rel => exact ⟨j + 1, by omega, by go_num, HB5, HD5⟩
        case measure => simp [intOf]; omega
  ·obtain rfl : i = ds.length := by omega
   have HZ := Lib.hid (show true = M by have h := HD.out; rw [List.drop_length, depsOk] at h; exact h)
   clear hk2
   go_wp2_with fail
   go_ret
   exact ⟨by rw [← HZ.out]; rfl, HBW.out⟩
set_option maxRecDepth 100000 in
set_option maxHeartbeats 2000000 in
theorem rmay_any (v k0 : Int) (x1 : ByteArray) (x2 : Int) (ds : List S113) (x4 x5 : Int) (x6 : ByteArray) (A : Option Addr) (c : Nat) (w : World) (hC : Kd.C k113 w A ds.length ds) :
  Calls Try.prog 66 #[.int .i64 v, .agg #[.int .i64 k0, .string x1, .int .u64 x2, .slice A ds.length c, .int .u64 x4, .int .u64 x5, .string x6]] w fun e w' => e = .returned (.bool (mayB v k0 x1 x2 ds x4 x5 x6)) ∧ Below w.heap.size w w' := by
 by_cases hv : 1 ≤ v ∧ v ≤ 3
 ·by_cases hn : nameB x1 = true
  ·by_cases hk : k0 = 2
   ·have e : mayB v k0 x1 x2 ds x4 x5 x6 = decide (x2 = 0 ∧ ds.length = 0 ∧ x4 = 0 ∧ x5 = 0 ∧ x6.size = 0) := by
     unfold mayB
     rw [hn, decide_eq_true hv, if_neg (by omega), decide_eq_true hk, Bool.eq_iff_iff]
     simp only [Bool.and_eq_true, decide_eq_true_eq, true_and, and_assoc]
    rw [e]
    by_cases hb : x2 = 0 ∧ ds.length = 0 ∧ x4 = 0 ∧ x5 = 0 ∧ x6.size = 0
    ·rw [decide_eq_true hb]; exact rmay_2t v k0 x1 x2 ds x4 x5 x6 A c w hC hv hn hk hb
    ·rw [decide_eq_false hb]; exact rmay_2f v k0 x1 x2 ds x4 x5 x6 A c w hC hv hn hk hb
   ·by_cases hb : k0 ≠ 1 ∨ 16 < ds.length ∨ 64 < x6.size ∨ (v = 1 ∧ x5 ≠ 0) ∨ (v < 3 ∧ x6.size ≠ 0)
    ·have e : mayB v k0 x1 x2 ds x4 x5 x6 = false := by
      rw [Bool.eq_false_iff]
      intro h
      have M := may_facts h
      have h1 := M.k
      have h2 := M.n
      have h3 := M.tag
      have h4 := M.w
      omega
     rw [e]
     exact rmay_bad v k0 x1 x2 ds x4 x5 x6 A c w hC hv hn hk hb
    ·have e : mayB v k0 x1 x2 ds x4 x5 x6 = depsOk v [x1] ds := by
      have h1 : k0 = 1 := by omega
      unfold mayB depsB
      rw [hn, decide_eq_true hv, if_pos h1, decide_eq_true (show x6.size ≤ 64 by omega), decide_eq_true (show (ds.length : Int) ≤ 16 by omega)]
      have h2 : (decide (v < 2) && decide (x5 ≠ 0) || decide (v < 3) && decide (x6.size ≠ 0)) = false := by
       rw [Bool.eq_false_iff]
       intro h
       simp only [Bool.or_eq_true, Bool.and_eq_true, decide_eq_true_eq] at h
       omega
      rw [h2]
      simp
     rw [e]
     have hk1 : k0 = 1 := by omega
     have hv3 : v = 1 ∨ v = 2 ∨ v = 3 := by omega
     subst hk1
     rcases hv3 with rfl | rfl | rfl
     ·have h5 : x5 = 0 := by omega
      subst h5
      exact rmay_1v1 x1 x2 ds x4 x6 A c w hC hn (by omega) (by omega) (by omega)
     ·exact rmay_1v2 x1 x2 ds x4 x5 x6 A c w hC hn (by omega) (by omega) (by omega)
     ·exact rmay_1v3 x1 x2 ds x4 x5 x6 A c w hC hn (by omega) (by omega)
  ·have hn' := Bool.eq_false_iff.2 hn
   have e : mayB v k0 x1 x2 ds x4 x5 x6 = false := by unfold mayB; rw [hn']; simp
   rw [e]
   exact rmay_n v k0 x1 x2 ds x4 x5 x6 A c w hC hv hn'
 ·have e : mayB v k0 x1 x2 ds x4 x5 x6 = false := by unfold mayB; rw [decide_eq_false hv]; simp
  rw [e]
  exact rmay_v v k0 x1 x2 ds x4 x5 x6 A c w hC hv
def RPutPost (W : World) (A : Option Addr) (c : Nat) (T : List ByteArray) (F : List (List Int) × List ByteArray × Int) (e : Ending) (W' : World) : Prop :=
 ∃ v1 A' c', e = .returned (.tuple #[v1, .slice A' F.2.1.length c', .int .i64 F.2.2]) ∧ Kd.R Kd.string 9 W' W.heap.size (fun _ => True) v1 (F.1.map strOfNums) ∧ F.2.1.length ≤ c' ∧ Kd.C Kd.string W' A' F.2.1.length F.2.1 ∧ Below W.heap.size W W' ∧ ((A' = A ∧ c' = c ∧ F.2.1 = T) ∨ Kd.R Kd.string 9 W' W.heap.size (fun _ => True) (.slice A' F.2.1.length c') F.2.1)
theorem add_str (a b : List Int) (h : a.length + b.length ≤ 1000000) (W : World) : (Op.stringOp .add (strOfNums a) (strOfNums b)).run Try.prog W = .ok (.string (strOfNums (a ++ b))) W := by
 rw [strOfNums_app]
 exact run_string_add_sum W _ _ (by rw [strOfNums_size, strOfNums_size]; omega)
theorem add_def (s : ByteArray) (h : s.size ≤ 1000000) (W : World) : (Op.stringOp .add ⟨#[0]⟩ s).run Try.prog W = .ok (.string (strOfNums (defE s))) W := by
 have e : strOfNums (defE s) = ⟨#[0]⟩ ++ s := by
  unfold defE
  rw [show (0 :: bytesOf s) = [0] ++ bytesOf s from rfl, strOfNums_app, bytes_str]
  rfl
 rw [e]
 exact run_string_add_sum W _ _ (by show 1 + s.size ≤ _; omega)
theorem put1_any (n : Int) (h : 0 ≤ n ∧ n < 18446744073709551616) (W : World) : Calls Try.prog 70 #[.int .u64 n] W fun e w' => e = .returned (.string (strOfNums (ints (vb n.toNat)))) ∧ Below W.heap.size W w' := by
 have := refput_any n.toNat (by omega) W
 rwa [Int.toNat_of_nonneg h.1] at this
structure RPSt (W X : World) (b5 : Nat) (rec : Array Value) (A : Option Addr) (c : Nat) (T : List ByteArray) (tv : Value) (L : List ByteArray) (ov : Value) (rows : List (List Int)) (nv : Value) (ns : List ByteArray) : Prop where
 bl : Below W.heap.size W X
 box : X.heap[b5]? = some (.cells rec 62 (0, 0))
 ini : Kd.C Kd.string W A T.length T ∧ T.length ≤ c
 tb : (L = T ∧ tv = .slice A T.length c) ∨ Kd.R Kd.string 9 X W.heap.size (fun k => some k ≠ ov.ownBlock) tv L
 rw : Kd.R Kd.string 9 X W.heap.size (fun _ => True) ov (rows.map strOfNums)
 nm : Kd.R Kd.string 9 X W.heap.size (fun k => some k ≠ ov.ownBlock) nv ns
section
variable {W X X' : World} {b5 : Nat} {rec : Array Value} {A : Option Addr} {c : Nat} {T : List ByteArray} {tv : Value} {L : List ByteArray} {ov : Value} {rows : List (List Int)} {nv : Value} {ns : List ByteArray}
theorem RPSt.tab (h : RPSt W X b5 rec A c T tv L ov rows nv ns) : ∃ A' c', tv = .slice A' L.length c' ∧ L.length ≤ c' ∧ Kd.C Kd.string X A' L.length L := by
 rcases h.tb with ⟨rfl, e⟩ | hR
 ·exact ⟨A, c, e, h.ini.2, Kd.C_below h.ini.1 h.bl⟩
 ·obtain ⟨A', c', e, h1, h2⟩ := Kd.R_reads hR
  exact ⟨A', c', e, h1, h2⟩
theorem RPSt.below (h : RPSt W X b5 rec A c T tv L ov rows nv ns) (hb : Below X.heap.size X X') : RPSt W X' b5 rec A c T tv L ov rows nv ns :=
 ⟨h.bl.trans (hb.mono h.bl.size), blk_below h.box hb, h.ini, h.tb.imp id (fun hR => Kd.R_below hR hb), Kd.R_below h.rw hb, Kd.R_below h.nm hb⟩
theorem RPSt.pushed {ov' : Value} {rows' : List (List Int)} (h : RPSt W X b5 rec A c T tv L ov rows nv ns) (hR : Kd.R Kd.string 9 X' W.heap.size (fun _ => True) ov' (rows'.map strOfNums)) (hB : Below W.heap.size W X') (hg : X.grownBy X' ov.ownBlock) (hat : ov'.ownBlock = ov.ownBlock ∨ ∃ b, ov'.ownBlock = some b ∧ X.heap.size ≤ b) : RPSt W X' b5 rec A c T tv L ov' rows' nv ns := by
 have keep : ∀ {v : Value} {xs : List ByteArray}, Kd.R Kd.string 9 X W.heap.size (fun k => some k ≠ ov.ownBlock) v xs → Kd.R Kd.string 9 X' W.heap.size (fun k => some k ≠ ov'.ownBlock) v xs := fun hT => by
  refine Kd.R_mono (Kd.R_grown (Kd.R_bound hT) hg (fun k hk => hk.1)) (fun k hk e => ?_)
  rcases hat with hat | ⟨b, hb, hle⟩
  ·rw [hat] at e; exact hk.1 e
  ·rw [hb] at e
   injection e with e
   have := hk.2.2.1
   omega
 refine ⟨hB, (hg.block b5 (blk_lt h.box) (fun e => ?_)).trans h.box, h.ini, h.tb.imp id (fun hT => keep hT), hR, keep h.nm⟩
 ·obtain ⟨_, _, C, hC⟩ := own_typed_R h.rw b5 e.symm
  rw [h.box] at hC
  injection hC with hC
  injection hC with _ hC
  exact absurd hC (by decide)
theorem RPSt.tabled {tv' : Value} {L' : List ByteArray} (h : RPSt W X b5 rec A c T tv L ov rows nv ns) (hb : Below X.heap.size X X') (hR : Kd.R Kd.string 9 X' X.heap.size (fun _ => True) tv' L') : RPSt W X' b5 rec A c T tv' L' ov rows nv ns :=
 ⟨h.bl.trans (hb.mono h.bl.size), blk_below h.box hb, h.ini, .inr (Kd.R_mono (Kd.R_lower (Kd.R_bound hR) h.bl.size) (fun k hk e => by have := (own_typed_R h.rw k e.symm).2.1; have := hk.2.1; omega)), Kd.R_below h.rw hb, Kd.R_below h.nm hb⟩
end
set_option maxHeartbeats 8000000 in
set_option maxRecDepth 100000 in
theorem rput9_1 (Wq : World) (v : Int) (A2 : Option Addr) (c2 : Nat) (T2 : List ByteArray) (hC : Kd.C Kd.string Wq A2 T2.length T2) (hc : T2.length ≤ c2) (hT : T2.length ≤ 100000) (k0 : Int) (x1 : ByteArray) (x2 : Int) (B : Option Addr) (d : Nat) (l : List S113) (x4 x5 : Int) (x6 : ByteArray)
  (hrow : Kd.C k113 Wq B l.length l) (hd : l.length ≤ d) (hok : RecOk x1 l x6) (hv : v = 1) (hm : mayB v k0 x1 x2 l x4 x5 x6 = true) (h2 : 0 ≤ x2 ∧ x2 < 18446744073709551616) (h4 : 0 ≤ x4 ∧ x4 < 18446744073709551616) (h5 : 0 ≤ x5 ∧ x5 < 18446744073709551616) (hdr : ∀ y ∈ l, 0 ≤ y.f1 ∧ y.f1 < 18446744073709551616) :
  Calls Try.prog 33 #[.int .i64 v, .slice A2 T2.length c2, .agg #[.int .i64 k0, .string x1, .int .u64 x2, .slice B l.length d, .int .u64 x4, .int .u64 x5, .string x6]] Wq (RPutPost Wq A2 c2 T2 (putF v T2 k0 x1 x2 l x4 x5 x6)) := by
 have hpf : putF v T2 k0 x1 x2 l x4 x5 x6 = ((moreE T2 T2) ++ [lastE v T2 k0 x1 x2 l x4 x5 x6], T2, 0) := by
  unfold putF
  rw [if_pos (show 1 ≤ v ∧ v ≤ 3 by omega), if_pos hm]
  rw [if_neg (show ¬ 1 < v by omega)]
 rw [hpf]
 obtain ⟨wz, hwz⟩ : ∃ wz, (Wq.alloc (.cells #[.int .i64 k0, .string x1, .int .u64 x2, .slice B l.length d, .int .u64 x4, .int .u64 x5, .string x6] 62)).alloc (.cells #[] 9) = wz := ⟨_, rfl⟩
 have hbz : Below Wq.heap.size Wq wz := by rw [← hwz]; exact ((Below.refl _ _).alloc (Nat.le_refl _) _).alloc (by rw [heap_size_alloc]; omega) _
 have hkz : wz.heap[Wq.heap.size]? = some (.cells #[.int .i64 k0, .string x1, .int .u64 x2, .slice B l.length d, .int .u64 x4, .int .u64 x5, .string x6] 62 (0, 0)) := by rw [← hwz, heap_new_old _ _ _ (by rw [heap_size_alloc]; omega)]; exact heap_new _ _
 have hke : wz.heap[Wq.heap.size + 1]? = some (.cells #[] 9 (0, 0)) := by rw [← hwz]; exact heap_new2 _ _ _
 obtain ⟨b5, hb5⟩ : ∃ b, Wq.heap.size = b := ⟨_, rfl⟩
 rw [hb5] at hkz hke
 have hre := R_empty Kd.string wz Wq.heap.size (b5 + 1) 9 (fun _ => True) hke (by omega) trivial
 have M := may_facts hm
 have HMY := Lib.hid (rmay_any v k0 x1 x2 l x4 x5 x6 B d wz (Kd.C_below hrow hbz))
 rw [hm] at HMY
 have HC := Lib.hid hC
 have HRO := Lib.hid hrow
 have HBZ := Lib.hid hbz
 have HKZ := Lib.hid hkz
 have HWZ := Lib.hid hwz
 have HREZ := Lib.hid hre
 have HB5 := Lib.hid hb5
 have HM := Lib.hid M
 have HR2 := Lib.hid h2
 have HR4 := Lib.hid h4
 have HR5 := Lib.hid h5
 have HDR := Lib.hid hdr
 have HV := Lib.hid hv
 have HKW := Lib.hid (show IntKind.u64.wrap k0 = k0 by have := M.k; rw [IntKind.wrap_u64]; omega)
 have HLW := Lib.hid (show IntKind.u64.wrap (l.length : Int) = (l.length : Int) by have := M.n; rw [IntKind.wrap_u64]; omega)
 have hln : l.length ≤ 16 := M.n
 have d1 : decide (v < 1) = false := decide_eq_false (by omega)
 have d3 : decide (3 < v) = false := decide_eq_false (by omega)
 have d2 : decide (1 < v) = false := decide_eq_false (by omega)
 have d4 : decide (v < 3) = true := decide_eq_true (by omega)
 have d5 : decide (2 < v) = false := decide_eq_false (by omega)
 clear hpf hC hrow hbz hkz hke hre hwz hb5 M h2 h4 h5 hdr hm hv hok
 go_enter Try.func33, Try.ntmps33
 go_wp2_with fail
 rw [HWZ.out, HB5.out]
 refine HMY.out.mono ?_
 rintro e wa ⟨rfl, hb⟩
 have HBA := Lib.hid (HBZ.out.trans (hb.mono HBZ.out.size))
 have HBX := Lib.hid (blk_below HKZ.out hb)
 have HRE := Lib.hid (Kd.R_below HREZ.out hb)
 clear hb HREZ HWZ HKZ
 obtain ⟨y0, y1, y2, y3, y4, y5, y6⟩ := facts7 HBX.out
 have hst : RPSt Wq wa b5 #[.int .i64 k0, .string x1, .int .u64 x2, .slice B l.length d, .int .u64 x4, .int .u64 x5, .string x6] A2 c2 T2 (.slice A2 T2.length c2) T2 (.slice (some ⟨b5 + 1, 0, none⟩) 0 0) [] (.slice none 0 0) [] := ⟨HBA.out, HBX.out, ⟨HC.out, hc⟩, .inl ⟨rfl, rfl⟩, HRE.out, Kd.R_nil _ _ _ _ _⟩
 have H := Lib.hid hst
 have hin : v ≠ 1 → ∀ s ∈ namesL x1 l x6, s ∈ T2 := fun h => absurd HV.out h
 have hrl : ([] : List (List Int)).length ≤ 100 := by simp
 clear hst HRE HBA HBX y1 y2 y3 y4 y5 y6 y0
 obtain ⟨A2', c2', e2, hc2, hC2⟩ := H.out.tab
 obtain ⟨rfl, _, rfl⟩ : A2 = A2' ∧ T2.length = T2.length ∧ c2 = c2' := by injection e2 with a1 a2 a3; exact ⟨a1, a2, a3⟩
 have HC2 := Lib.hid hC2
 have HRW := Lib.hid hrl
 have HRL := Lib.hid hrl
 have HIN := Lib.hid hin
 obtain ⟨q0, hq0⟩ : ∃ q, ints (vb k0.toNat) = q := ⟨_, rfl⟩
 obtain ⟨q1, hq1⟩ : ∃ q, textE v T2 x1 = q := ⟨_, rfl⟩
 obtain ⟨q2, hq2⟩ : ∃ q, ints (vb x2.toNat) = q := ⟨_, rfl⟩
 obtain ⟨q3, hq3⟩ : ∃ q, ints (vb ((l.length : Int)).toNat) = q := ⟨_, rfl⟩
 have hK := HM.out.k
 have l0 : q0.length ≤ 10 := by rw [← hq0]; exact vbI_len k0 (by omega)
 have l1 : q1.length ≤ 74 := by rw [← hq1]; exact textE_len v T2 (by omega) x1 HM.out.t.2
 have l2 : q2.length ≤ 10 := by rw [← hq2]; exact vbI_len x2 HR2.out.2
 have l3 : q3.length ≤ 10 := by rw [← hq3]; exact vbI_len (l.length : Int) (by omega)
 have HQ0 := Lib.hid (fun (W' : World) => put1_any k0 (by omega) W')
 have HQ1 := Lib.hid (fun (W' : World) (hb : Below wa.heap.size wa W') => rtext9_any v A2 c2 T2 x1 W' (Kd.C_below HC2.out hb) hc2 (by omega) (by have := HM.out.t.2; omega) (fun h => hin h x1 (by unfold namesL; simp)))
 have HQ2 := Lib.hid (fun (W' : World) => put1_any x2 HR2.out W')
 have HQ3 := Lib.hid (fun (W' : World) => put1_any (l.length : Int) (by omega) W')
 rw [hq0] at HQ0
 rw [hq1] at HQ1
 rw [hq2] at HQ2
 rw [hq3] at HQ3
 have HAD := Lib.hid (add_str q0 q1 (by omega))
 obtain ⟨p0, hp0⟩ : ∃ p, q0 ++ q1 = p := ⟨_, rfl⟩
 have lp0 : p0.length ≤ 84 := by rw [← hp0, List.length_append]; omega
 have HAD2 := Lib.hid (add_str p0 q2 (by omega))
 have HAD3 := Lib.hid (add_str (p0 ++ q2) q3 (by rw [List.length_append]; omega))
 obtain ⟨P, hP⟩ : ∃ p, p0 ++ q2 ++ q3 = p := ⟨_, rfl⟩
 have lP : P.length ≤ 104 := by rw [← hP, List.length_append, List.length_append]; omega
 have HQE := Lib.hid (And.intro hq0 (And.intro hq1 (And.intro hq2 hq3)))
 have HP0 := Lib.hid hp0
 have HPP := Lib.hid hP
 have HBX := Lib.hid H.out.box
 have HKK := Lib.hid hK
 clear hC2 hq0 hq1 hq2 hq3 hp0 hP hin hK
 go_wp2_with fail
 refine region_calm (n := 11) (byList [isV (.pointer (some ⟨b5, 0, none⟩)), isV (.int .i64 k0), isV (.int .u64 k0), isV (.string (strOfNums q0)), isV (.int .i64 v), isV (.slice A2 T2.length c2), isV (.pointer (some ⟨b5, 1, none⟩)), isV (.string x1), isV (.string (strOfNums q1)), isV (.string (strOfNums (q0 ++ q1))), isV (.string (strOfNums (q0 ++ q1)))]) (by kernel_rfl) rfl (byList_lasts ?_) (by kernel_rfl) (by kernel_rfl) (by kernel_rfl) (show AllLt 11 _ from ?_) ?_
 ·intro p hp
  simp only [List.mem_cons, List.not_mem_nil, or_false] at hp
  rcases hp with rfl | rfl | rfl | rfl | rfl | rfl | rfl | rfl | rfl | rfl | rfl <;> first | exact isV_lasts | exact isC_lasts
 ·refine allLt_succ (allLt_succ (allLt_succ (allLt_succ (allLt_succ (allLt_succ (allLt_succ (allLt_succ (allLt_succ (allLt_succ (allLt_succ (allLt_zero _) ?_) ?_) ?_) ?_) ?_) ?_) ?_) ?_) ?_) ?_) ?_
  ·refine StepOk.run (o := ?o0) ?ho0 ?hg0 ?h0
   case ho0 => simp only [List.getElem?_toArray, List.getElem?_cons_succ, List.getElem?_cons_zero]; rfl
   case hg0 => rfl
   case h0 =>
   intro a W hS hB hd
   have e5 : a.tmps[5]? = some (.pointer (some ⟨b5, 0, none⟩)) := hS.get rfl rfl
   refine wp_value (c := .pointer (some ⟨b5, 0, none⟩)) ?_ rfl
   go_simp
  ·refine StepOk.run (o := ?o1) ?ho1 ?hg1 ?h1
   case ho1 => simp only [List.getElem?_toArray, List.getElem?_cons_succ, List.getElem?_cons_zero]; rfl
   case hg1 => rfl
   case h1 =>
   intro a W hS hB hd
   have e62 : a.tmps[62]? = some (.pointer (some ⟨b5, 0, none⟩)) := (hd 0 rfl).bool rfl rfl rfl
   refine wp_value (c := .int .i64 k0) ?_ rfl
   have hx := blk_below HBX.out hB
   have hcW : W.cell? ⟨b5, 0, none⟩ = some (.int .i64 k0) := (blk_cell hx 0).trans rfl
   go_simp
  ·refine StepOk.run (o := ?o2) ?ho2 ?hg2 ?h2
   case ho2 => simp only [List.getElem?_toArray, List.getElem?_cons_succ, List.getElem?_cons_zero]; rfl
   case hg2 => rfl
   case h2 =>
   intro a W hS hB hd
   have e63 : a.tmps[63]? = some (.int .i64 k0) := (hd 1 rfl).bool rfl rfl rfl
   refine wp_value (c := .int .u64 k0) ?_ rfl
   have hw := HKW.out
   go_simp
  ·refine StepOk.run (o := ?o3) ?ho3 ?hg3 ?h3
   case ho3 => simp only [List.getElem?_toArray, List.getElem?_cons_succ, List.getElem?_cons_zero]; rfl
   case hg3 => rfl
   case h3 =>
   intro a W hS hB hd
   have e64 : a.tmps[64]? = some (.int .u64 k0) := (hd 2 rfl).bool rfl rfl rfl
   refine wp_called Try.func70 (by kernel_rfl) rfl #[.int .u64 k0] rfl (by simp [Act.eval, *]) ?_
   refine (HQ0.out W).mono ?_
   rintro e w9 ⟨rfl, hb9⟩
   exact ⟨_, rfl, rfl, hb9⟩
  ·refine StepOk.run (o := ?o4) ?ho4 ?hg4 ?h4
   case ho4 => simp only [List.getElem?_toArray, List.getElem?_cons_succ, List.getElem?_cons_zero]; rfl
   case hg4 => rfl
   case h4 =>
   intro a W hS hB hd
   have e0 : a.tmps[0]? = some (.int .i64 v) := hS.get rfl rfl
   refine wp_value (c := .int .i64 v) ?_ rfl
   go_simp
  ·refine StepOk.run (o := ?o5) ?ho5 ?hg5 ?h5
   case ho5 => simp only [List.getElem?_toArray, List.getElem?_cons_succ, List.getElem?_cons_zero]; rfl
   case hg5 => rfl
   case h5 =>
   intro a W hS hB hd
   have e1 : a.tmps[1]? = some (.slice A2 T2.length c2) := hS.get rfl rfl
   refine wp_value (c := .slice A2 T2.length c2) ?_ rfl
   go_simp
  ·refine StepOk.run (o := ?o6) ?ho6 ?hg6 ?h6
   case ho6 => simp only [List.getElem?_toArray, List.getElem?_cons_succ, List.getElem?_cons_zero]; rfl
   case hg6 => rfl
   case h6 =>
   intro a W hS hB hd
   have e5 : a.tmps[5]? = some (.pointer (some ⟨b5, 0, none⟩)) := hS.get rfl rfl
   refine wp_value (c := .pointer (some ⟨b5, 1, none⟩)) ?_ rfl
   go_simp
  ·refine StepOk.run (o := ?o7) ?ho7 ?hg7 ?h7
   case ho7 => simp only [List.getElem?_toArray, List.getElem?_cons_succ, List.getElem?_cons_zero]; rfl
   case hg7 => rfl
   case h7 =>
   intro a W hS hB hd
   have e68 : a.tmps[68]? = some (.pointer (some ⟨b5, 1, none⟩)) := (hd 6 rfl).bool rfl rfl rfl
   refine wp_value (c := .string x1) ?_ rfl
   have hx := blk_below HBX.out hB
   have hcW : W.cell? ⟨b5, 1, none⟩ = some (.string x1) := (blk_cell hx 1).trans rfl
   go_simp
  ·refine StepOk.run (o := ?o8) ?ho8 ?hg8 ?h8
   case ho8 => simp only [List.getElem?_toArray, List.getElem?_cons_succ, List.getElem?_cons_zero]; rfl
   case hg8 => rfl
   case h8 =>
   intro a W hS hB hd
   have e66 : a.tmps[66]? = some (.int .i64 v) := (hd 4 rfl).bool rfl rfl rfl
   have e67 : a.tmps[67]? = some (.slice A2 T2.length c2) := (hd 5 rfl).bool rfl rfl rfl
   have e69 : a.tmps[69]? = some (.string x1) := (hd 7 rfl).bool rfl rfl rfl
   refine wp_called Try.func71 (by kernel_rfl) rfl #[.int .i64 v, .slice A2 T2.length c2, .string x1] rfl (by simp [Act.eval, *]) ?_
   refine (HQ1.out W hB).mono ?_
   rintro e w9 ⟨rfl, hb9⟩
   exact ⟨_, rfl, rfl, hb9⟩
  ·refine StepOk.run (o := ?o9) ?ho9 ?hg9 ?h9
   case ho9 => simp only [List.getElem?_toArray, List.getElem?_cons_succ, List.getElem?_cons_zero]; rfl
   case hg9 => rfl
   case h9 =>
   intro a W hS hB hd
   have e65 : a.tmps[65]? = some (.string (strOfNums q0)) := (hd 3 rfl).bool rfl rfl rfl
   have e70 : a.tmps[70]? = some (.string (strOfNums q1)) := (hd 8 rfl).bool rfl rfl rfl
   refine wp_value (c := .string (strOfNums (q0 ++ q1))) ?_ rfl
   have hadd := HAD.out W
   go_simp
  ·refine StepOk.run (o := ?o10) ?ho10 ?hg10 ?h10
   case ho10 => simp only [List.getElem?_toArray, List.getElem?_cons_succ, List.getElem?_cons_zero]; rfl
   case hg10 => rfl
   case h10 =>
   intro a W hS hB hd
   have e71 : a.tmps[71]? = some (.string (strOfNums (q0 ++ q1))) := (hd 9 rfl).bool rfl rfl rfl
   refine wp_value (c := .string (strOfNums (q0 ++ q1))) ?_ rfl
   go_simp
 ·intro a W hS hB hh
  have e12 : a.tmps[12]? = some (.string (strOfNums (q0 ++ q1))) := (hh 10 (by omega)).bool rfl rfl rfl
  have HBR := Lib.hid hB
  have hlit := same_lit hS
  clear hh hS hB
  simp only [List.filterMap_cons, List.filterMap_nil, List.foldl_cons, List.foldl_nil, List.setIfInBounds_toArray, List.set_cons_zero, List.set_cons_succ] at hlit
  rw [show a.tmps.getD 12 undef = .string (strOfNums (q0 ++ q1)) by simp [Array.getD_eq_getD_getElem?, e12]] at hlit
  generalize a.tmps.getD 62 undef = z62 at hlit
  generalize a.tmps.getD 63 undef = z63 at hlit
  generalize a.tmps.getD 64 undef = z64 at hlit
  generalize a.tmps.getD 65 undef = z65 at hlit
  generalize a.tmps.getD 66 undef = z66 at hlit
  generalize a.tmps.getD 67 undef = z67 at hlit
  generalize a.tmps.getD 68 undef = z68 at hlit
  generalize a.tmps.getD 69 undef = z69 at hlit
  generalize a.tmps.getD 70 undef = z70 at hlit
  generalize a.tmps.getD 71 undef = z71 at hlit
  clear e12
  subst hlit
  have HX := Lib.hid (H.out.below HBR.out)
  rw [HP0.out]
  clear HBX HQ0 HQ1 HAD H
  have HBX := Lib.hid HX.out.box
  rcases HKK.out with hk | hk
  ·have hkd : (k0 == 1) = true := by rw [hk]; rfl
   have hkd2 : decide (k0 = 1) = true := decide_eq_true hk
   have hkn : ¬ k0 = 2 := by omega
   have HKN := Lib.hid (And.intro hk hkn)
   clear hk hkn
   have y0 : (W).cell? ⟨b5, 0, none⟩ = some (.int .i64 k0) := (blk_cell HBX.out 0).trans rfl
   go_wp2_with fail
   clear y0
   refine region_calm2 (n := 12) (byList [isV (.string (strOfNums p0)), isV (.pointer (some ⟨b5, 2, none⟩)), isV (.int .u64 x2), isV (.string (strOfNums q2)), isV (.string (strOfNums (p0 ++ q2))), isV (.pointer (some ⟨b5, 3, none⟩)), isV (.slice B l.length d), isV (.int .i64 (l.length : Int)), isV (.int .u64 (l.length : Int)), isV (.string (strOfNums q3)), isV (.string (strOfNums (p0 ++ q2 ++ q3))), isV (.string (strOfNums (p0 ++ q2 ++ q3)))]) (by kernel_rfl) rfl (byList_lasts ?_) (by kernel_rfl) (by kernel_rfl) (by kernel_rfl) (show AllLt 12 _ from ?_) ?_
   ·intro p hp
    simp only [List.mem_cons, List.not_mem_nil, or_false] at hp
    rcases hp with rfl | rfl | rfl | rfl | rfl | rfl | rfl | rfl | rfl | rfl | rfl | rfl <;> first | exact isV_lasts | exact isC_lasts
   ·refine allLt_succ (allLt_succ (allLt_succ (allLt_succ (allLt_succ (allLt_succ (allLt_succ (allLt_succ (allLt_succ (allLt_succ (allLt_succ (allLt_succ (allLt_zero _) ?_) ?_) ?_) ?_) ?_) ?_) ?_) ?_) ?_) ?_) ?_) ?_
    ·refine StepOk2.run (o := ?o0b) ?ho0b ?hg0b ?h0b
     case ho0b => first | (simp only [List.getElem?_toArray, List.getElem?_cons_succ, List.getElem?_cons_zero]; done) | (simp only [List.getElem?_toArray, List.getElem?_cons_succ, List.getElem?_cons_zero]; rfl)
     case hg0b => rfl
     case h0b =>
     intro a W hS hB hd hE
     have e12 : a.tmps[12]? = some (.string (strOfNums p0)) := hE.get (j := 11) rfl rfl rfl rfl
     refine wp_value (c := .string (strOfNums p0)) ?_ rfl
     go_simp
    ·refine StepOk2.of ?_
     refine StepOk.run (o := ?o1b) ?ho1b ?hg1b ?h1b
     case ho1b => first | (simp only [List.getElem?_toArray, List.getElem?_cons_succ, List.getElem?_cons_zero]; done) | (simp only [List.getElem?_toArray, List.getElem?_cons_succ, List.getElem?_cons_zero]; rfl)
     case hg1b => rfl
     case h1b =>
     intro a W hS hB hd
     have e5 : a.tmps[5]? = some (.pointer (some ⟨b5, 0, none⟩)) := hS.get rfl rfl
     refine wp_value (c := .pointer (some ⟨b5, 2, none⟩)) ?_ rfl
     go_simp
    ·refine StepOk2.of ?_
     refine StepOk.run (o := ?o2b) ?ho2b ?hg2b ?h2b
     case ho2b => first | (simp only [List.getElem?_toArray, List.getElem?_cons_succ, List.getElem?_cons_zero]; done) | (simp only [List.getElem?_toArray, List.getElem?_cons_succ, List.getElem?_cons_zero]; rfl)
     case hg2b => rfl
     case h2b =>
     intro a W hS hB hd
     have e76 : a.tmps[76]? = some (.pointer (some ⟨b5, 2, none⟩)) := (hd 1 rfl).bool rfl rfl rfl
     refine wp_value (c := .int .u64 x2) ?_ rfl
     have hx := blk_below HBX.out hB
     have hcW : W.cell? ⟨b5, 2, none⟩ = some (.int .u64 x2) := (blk_cell hx 2).trans rfl
     go_simp
    ·refine StepOk2.of ?_
     refine StepOk.run (o := ?o3b) ?ho3b ?hg3b ?h3b
     case ho3b => first | (simp only [List.getElem?_toArray, List.getElem?_cons_succ, List.getElem?_cons_zero]; done) | (simp only [List.getElem?_toArray, List.getElem?_cons_succ, List.getElem?_cons_zero]; rfl)
     case hg3b => rfl
     case h3b =>
     intro a W hS hB hd
     have e77 : a.tmps[77]? = some (.int .u64 x2) := (hd 2 rfl).bool rfl rfl rfl
     refine wp_called Try.func70 (by kernel_rfl) rfl #[.int .u64 x2] rfl (by simp [Act.eval, *]) ?_
     refine (HQ2.out W).mono ?_
     rintro e w9 ⟨rfl, hb9⟩
     exact ⟨_, rfl, rfl, hb9⟩
    ·refine StepOk2.of ?_
     refine StepOk.run (o := ?o4b) ?ho4b ?hg4b ?h4b
     case ho4b => first | (simp only [List.getElem?_toArray, List.getElem?_cons_succ, List.getElem?_cons_zero]; done) | (simp only [List.getElem?_toArray, List.getElem?_cons_succ, List.getElem?_cons_zero]; rfl)
     case hg4b => rfl
     case h4b =>
     intro a W hS hB hd
     have e75 : a.tmps[75]? = some (.string (strOfNums p0)) := (hd 0 rfl).bool rfl rfl rfl
     have e78 : a.tmps[78]? = some (.string (strOfNums q2)) := (hd 3 rfl).bool rfl rfl rfl
     refine wp_value (c := .string (strOfNums (p0 ++ q2))) ?_ rfl
     have hadd := HAD2.out W
     go_simp
    ·refine StepOk2.of ?_
     refine StepOk.run (o := ?o5b) ?ho5b ?hg5b ?h5b
     case ho5b => first | (simp only [List.getElem?_toArray, List.getElem?_cons_succ, List.getElem?_cons_zero]; done) | (simp only [List.getElem?_toArray, List.getElem?_cons_succ, List.getElem?_cons_zero]; rfl)
     case hg5b => rfl
     case h5b =>
     intro a W hS hB hd
     have e5 : a.tmps[5]? = some (.pointer (some ⟨b5, 0, none⟩)) := hS.get rfl rfl
     refine wp_value (c := .pointer (some ⟨b5, 3, none⟩)) ?_ rfl
     go_simp
    ·refine StepOk2.of ?_
     refine StepOk.run (o := ?o6b) ?ho6b ?hg6b ?h6b
     case ho6b => first | (simp only [List.getElem?_toArray, List.getElem?_cons_succ, List.getElem?_cons_zero]; done) | (simp only [List.getElem?_toArray, List.getElem?_cons_succ, List.getElem?_cons_zero]; rfl)
     case hg6b => rfl
     case h6b =>
     intro a W hS hB hd
     have e80 : a.tmps[80]? = some (.pointer (some ⟨b5, 3, none⟩)) := (hd 5 rfl).bool rfl rfl rfl
     refine wp_value (c := .slice B l.length d) ?_ rfl
     have hx := blk_below HBX.out hB
     have hcW : W.cell? ⟨b5, 3, none⟩ = some (.slice B l.length d) := (blk_cell hx 3).trans rfl
     go_simp
    ·refine StepOk2.of ?_
     refine StepOk.run (o := ?o7b) ?ho7b ?hg7b ?h7b
     case ho7b => first | (simp only [List.getElem?_toArray, List.getElem?_cons_succ, List.getElem?_cons_zero]; done) | (simp only [List.getElem?_toArray, List.getElem?_cons_succ, List.getElem?_cons_zero]; rfl)
     case hg7b => rfl
     case h7b =>
     intro a W hS hB hd
     have e81 : a.tmps[81]? = some (.slice B l.length d) := (hd 6 rfl).bool rfl rfl rfl
     refine wp_value (c := .int .i64 (l.length : Int)) ?_ rfl
     go_simp
    ·refine StepOk2.of ?_
     refine StepOk.run (o := ?o8b) ?ho8b ?hg8b ?h8b
     case ho8b => first | (simp only [List.getElem?_toArray, List.getElem?_cons_succ, List.getElem?_cons_zero]; done) | (simp only [List.getElem?_toArray, List.getElem?_cons_succ, List.getElem?_cons_zero]; rfl)
     case hg8b => rfl
     case h8b =>
     intro a W hS hB hd
     have e82 : a.tmps[82]? = some (.int .i64 (l.length : Int)) := (hd 7 rfl).bool rfl rfl rfl
     refine wp_value (c := .int .u64 (l.length : Int)) ?_ rfl
     have hw := HLW.out
     go_simp
    ·refine StepOk2.of ?_
     refine StepOk.run (o := ?o9b) ?ho9b ?hg9b ?h9b
     case ho9b => first | (simp only [List.getElem?_toArray, List.getElem?_cons_succ, List.getElem?_cons_zero]; done) | (simp only [List.getElem?_toArray, List.getElem?_cons_succ, List.getElem?_cons_zero]; rfl)
     case hg9b => rfl
     case h9b =>
     intro a W hS hB hd
     have e83 : a.tmps[83]? = some (.int .u64 (l.length : Int)) := (hd 8 rfl).bool rfl rfl rfl
     refine wp_called Try.func70 (by kernel_rfl) rfl #[.int .u64 (l.length : Int)] rfl (by simp [Act.eval, *]) ?_
     refine (HQ3.out W).mono ?_
     rintro e w9 ⟨rfl, hb9⟩
     exact ⟨_, rfl, rfl, hb9⟩
    ·refine StepOk2.of ?_
     refine StepOk.run (o := ?o10b) ?ho10b ?hg10b ?h10b
     case ho10b => first | (simp only [List.getElem?_toArray, List.getElem?_cons_succ, List.getElem?_cons_zero]; done) | (simp only [List.getElem?_toArray, List.getElem?_cons_succ, List.getElem?_cons_zero]; rfl)
     case hg10b => rfl
     case h10b =>
     intro a W hS hB hd
     have e79 : a.tmps[79]? = some (.string (strOfNums (p0 ++ q2))) := (hd 4 rfl).bool rfl rfl rfl
     have e84 : a.tmps[84]? = some (.string (strOfNums q3)) := (hd 9 rfl).bool rfl rfl rfl
     refine wp_value (c := .string (strOfNums (p0 ++ q2 ++ q3))) ?_ rfl
     have hadd := HAD3.out W
     go_simp
    ·refine StepOk2.of ?_
     refine StepOk.run (o := ?o11b) ?ho11b ?hg11b ?h11b
     case ho11b => first | (simp only [List.getElem?_toArray, List.getElem?_cons_succ, List.getElem?_cons_zero]; done) | (simp only [List.getElem?_toArray, List.getElem?_cons_succ, List.getElem?_cons_zero]; rfl)
     case hg11b => rfl
     case h11b =>
     intro a W hS hB hd
     have e85 : a.tmps[85]? = some (.string (strOfNums (p0 ++ q2 ++ q3))) := (hd 10 rfl).bool rfl rfl rfl
     refine wp_value (c := .string (strOfNums (p0 ++ q2 ++ q3))) ?_ rfl
     go_simp
   ·intro a W hS hB hh
    have e12 : a.tmps[12]? = some (.string (strOfNums (p0 ++ q2 ++ q3))) := (hh 11 (by omega)).bool rfl rfl rfl
    have HBR := Lib.hid hB
    have hlit := same_lit hS
    clear hh hS hB
    simp only [List.filterMap_cons, List.filterMap_nil, List.foldl_cons, List.foldl_nil, List.setIfInBounds_toArray, List.set_cons_zero, List.set_cons_succ] at hlit
    rw [show a.tmps.getD 12 undef = .string (strOfNums (p0 ++ q2 ++ q3)) by simp [Array.getD_eq_getD_getElem?, e12]] at hlit
    generalize a.tmps.getD 75 undef = z75 at hlit
    generalize a.tmps.getD 76 undef = z76 at hlit
    generalize a.tmps.getD 77 undef = z77 at hlit
    generalize a.tmps.getD 78 undef = z78 at hlit
    generalize a.tmps.getD 79 undef = z79 at hlit
    generalize a.tmps.getD 80 undef = z80 at hlit
    generalize a.tmps.getD 81 undef = z81 at hlit
    generalize a.tmps.getD 82 undef = z82 at hlit
    generalize a.tmps.getD 83 undef = z83 at hlit
    generalize a.tmps.getD 84 undef = z84 at hlit
    generalize a.tmps.getD 85 undef = z85 at hlit
    clear e12
    subst hlit
    rw [HPP.out]
    have HX2 := Lib.hid (HX.out.below HBR.out)
    clear HBX HX HQ2 HQ3 HAD2 HAD3
    have y3 : (W).cell? ⟨b5, 3, none⟩ = some (.slice B l.length d) := (blk_cell HX2.out.box 3).trans rfl
    go_wp2_with fail
    clear y3
    go_loopw [12, 13] (fun u12 u13 wr => ∃ (i : Nat), i ≤ l.length ∧ u13 = .int .i64 (i : Int) ∧ u12 = .string (strOfNums (P ++ depsE v T2 (l.take i))) ∧ Hid (RPSt Wq wr b5 #[.int .i64 k0, .string x1, .int .u64 x2, .slice B l.length d, .int .u64 x4, .int .u64 x5, .string x6] A2 c2 T2 (.slice A2 T2.length c2) T2 (.slice (some ⟨b5 + 1, 0, none⟩) 0 0) ([] : List (List Int)) (.slice none 0 0) [])) (fun _ u _ => l.length - (intOf u).toNat)
    case atStart => exact ⟨0, by omega, rfl, by simp [depsE], HX2⟩
    case round =>
     clear HX2
     obtain ⟨i, hi, rfl, rfl, H⟩ := hrel
     have y3 : (wr).cell? ⟨b5, 3, none⟩ = some (.slice B l.length d) := (blk_cell H.out.box 3).trans rfl
     by_cases hlt : i < l.length
     ·have hdl : decide ((i : Int) < (l.length : Int)) = true := decide_eq_true (by omega)
      obtain ⟨ad, hAd, g0, g1, g2⟩ := at_T113 (Kd.C_below HRO.out H.out.bl) (i : Int) (by omega) (by omega)
      subst hAd
      obtain ⟨dd, hdd⟩ : ∃ d, l[i] = d := ⟨_, rfl⟩
      have hrd : rd_T113 l (i : Int) = dd := by simp [rd_T113, hlt, hdd]
      rw [hrd, Int.toNat_natCast] at g0 g1 g2
      have hmem : dd ∈ l := hdd ▸ List.getElem_mem _
      have htk := depsE_take v T2 l i hlt
      rw [hdd] at htk
      have hdf := HM.out.d dd hmem
      have hdg := HDR.out dd hmem
      have hdn : v ≠ 1 → dd.f0 ∈ T2 := fun h => HIN.out h dd.f0 (by unfold namesL; rw [List.mem_append]; exact .inl (List.mem_cons_of_mem _ (List.mem_map.2 ⟨dd, hmem, rfl⟩)))
      have hle := depsE_len v T2 (by omega) (l.take i) (fun y hy => ⟨(HM.out.d y (List.mem_of_mem_take hy)).2.1, (HDR.out y (List.mem_of_mem_take hy)).2⟩)
      rw [List.length_take] at hle
      obtain ⟨s, hh, o⟩ := dd
      dsimp only at g0 g1 g2 hdf hdg hdn htk
      obtain ⟨PD, hPD⟩ : ∃ p, P ++ depsE v T2 (l.take i) = p := ⟨_, rfl⟩
      have lPD : PD.length ≤ 2000 := by rw [← hPD, List.length_append]; omega
      have hnx : P ++ depsE v T2 (l.take (i + 1)) = (PD ++ depE v T2 ⟨s, hh, o⟩) ++ ints (vb hh.toNat) := by rw [htk, ← hPD]; simp only [List.append_assoc]
      rw [hPD]
      have hDe := depE_len v T2 (by omega) ⟨s, hh, o⟩ hdf.2.1
      have hHe := vbI_len hh hdg.2
      have HPU := Lib.hid (fun (W' : World) => put1_any hh hdg W')
      have HNX := Lib.hid hnx
      have hC2r : Kd.C Kd.string wr A2 T2.length T2 := by
       obtain ⟨A2', c2', e, _, h2⟩ := H.out.tab
       injection e with e1 e2 e3
       subst e1
       exact h2
      have HTX := Lib.hid (fun (W' : World) (hb : Below wr.heap.size wr W') => rtext9_any v A2 c2 T2 s W' (Kd.C_below hC2r hb) hc2 (by omega) (by have := hdf.2.1; omega) hdn)
      have hde : depE v T2 ⟨s, hh, o⟩ = textE v T2 s := by unfold depE; rw [if_pos (by have := HV.out; omega)]
      rw [hde] at hDe HNX
      clear htk hdd hrd hmem hdf hdg hdn hle hPD hnx hC2r hde
      generalize textE v T2 s = t1 at *
      generalize ints (vb hh.toNat) = t2 at *
      have hadd1 := add_str PD t1 (by omega)
      have hadd2 := add_str (PD ++ t1) t2 (by rw [List.length_append]; omega)
      have hba : Below wr.heap.size wr (wr.alloc (.cells #[.string s, .int .u64 hh, .bool o] 113)) := (Below.refl _ _).alloc (Nat.le_refl _) _
      have hka : (wr.alloc (.cells #[.string s, .int .u64 hh, .bool o] 113)).heap[wr.heap.size]? = some (.cells #[.string s, .int .u64 hh, .bool o] 113 (0, 0)) := heap_new _ _
      have HBA := Lib.hid hba
      have HKA := Lib.hid hka
      clear hba hka
      go_wp2_with fail
      refine (HTX.out _ HBA.out).mono ?_
      rintro e wb ⟨rfl, hb⟩
      have hk := blk_below HKA.out hb
      have e1 : wb.cell? ⟨wr.heap.size, 1, none⟩ = some (.int .u64 hh) := (blk_cell hk 1).trans rfl
      have HB1 := Lib.hid (HBA.out.trans (hb.mono HBA.out.size))
      clear hb hk g0 g1 g2
      go_wp2_with fail
      refine (HPU.out wb).mono ?_
      rintro e wc ⟨rfl, hb⟩
      have HH := Lib.hid (H.out.below (HB1.out.trans (hb.mono HB1.out.size)))
      clear hb e1
      go_wp2_with fail
      go_roundw
      case rel => exact ⟨i + 1, by omega, by go_num, by rw [HNX.out, List.append_assoc], HH⟩
      case measure => simp [intOf]; omega
     ·obtain rfl : i = l.length := by omega
      have hdl : decide ((l.length : Int) < (l.length : Int)) = false := decide_eq_false (by omega)
      rw [List.take_length]
      obtain ⟨PE, hPE⟩ : ∃ p, P ++ depsE v T2 l = p := ⟨_, rfl⟩
      have hle := depsE_len v T2 (by omega) l (fun y hy => ⟨(HM.out.d y hy).2.1, (HDR.out y hy).2⟩)
      have lPE : PE.length ≤ 2000 := by rw [← hPE, List.length_append]; omega
      rw [hPE]
      obtain ⟨q4, hq4⟩ : ∃ q, ints (vb x4.toNat) = q := ⟨_, rfl⟩
      obtain ⟨q5, hq5⟩ : ∃ q, ints (vb x5.toNat) = q := ⟨_, rfl⟩
      have l4 : q4.length ≤ 10 := by rw [← hq4]; exact vbI_len x4 HR4.out.2
      have l5 : q5.length ≤ 10 := by rw [← hq5]; exact vbI_len x5 HR5.out.2
      have HQ4 := Lib.hid (fun (W' : World) => put1_any x4 HR4.out W')
      have HQ5 := Lib.hid (fun (W' : World) => put1_any x5 HR5.out W')
      rw [hq4] at HQ4
      rw [hq5] at HQ5
      have hadd4 := add_str PE q4 (by omega)
      have hadd5 := add_str (PE ++ q4) q5 (by rw [List.length_append]; omega)
      have HPE := Lib.hid hPE
      have HQ45 := Lib.hid (And.intro hq4 hq5)
      clear hPE hle hq4 hq5
      have y4 : (wr).cell? ⟨b5, 4, none⟩ = some (.int .u64 x4) := (blk_cell H.out.box 4).trans rfl
      go_wp2_with fail
      refine (HQ4.out wr).mono ?_
      rintro e wb ⟨rfl, hb⟩
      have HZ := Lib.hid (H.out.below hb)
      clear hb y3 y4
      have HLE : Hid (lastE v T2 k0 x1 x2 l x4 x5 x6 = PE ++ q4) := Lib.hid (by
       unfold lastE bodyE
       rw [if_neg HKN.out.2, if_neg (show ¬ 2 ≤ v by have := HV.out; omega), if_neg (show ¬ 3 ≤ v by have := HV.out; omega), ← HPE.out, ← HPP.out, ← HP0.out, ← HQE.out.1, ← HQE.out.2.1, ← HQE.out.2.2.1, ← HQE.out.2.2.2, ← HQ45.out.1, HKN.out.1, Int.toNat_natCast]
       rw [show ints (vb ((1 : Int).toNat)) = [1] from vb_k 1 (by omega)]
       simp only [List.append_assoc, List.append_nil])
      have hmr : (([] : List (List Int)).map strOfNums).length ≤ 1000000 := by rw [List.length_map]; have := HRL.out; omega
      go_wp2_with (at_builtin; refine Halt.mk ?_)
      refine Halt.of ?_
      have hb4 : Below wb.heap.size wb (wb.alloc (.cells #[.string (strOfNums (PE ++ q4))] 9)) := (Below.refl _ _).alloc (Nat.le_refl _) _
      have hk4 : (wb.alloc (.cells #[.string (strOfNums (PE ++ q4))] 9)).heap[wb.heap.size]? = some (.cells #[.string (strOfNums (PE ++ q4))] 9 (0, 0)) := heap_new _ _
      have hZ4 := HZ.out.below hb4
      refine Kd.R_append_rows Kd.string (w0 := Wq) Wq.heap.size rfl (.tmp 164) (.tmp 166) 45 9 (.string ⟨#[]⟩) 16 rfl Try.underlying45 info_str9 rfl (by decide) (by omega) _ (([] : List (List Int)).map strOfNums) [strOfNums (PE ++ q4)] _ _ _ (fun _ => True) (fun _ => False) rfl rfl hZ4.rw (row_val _ hk4) ?_ (fun _ h => h.elim) (fun _ _ => trivial) hZ4.bl hZ4.bl.size (by omega) ?_
      ·rintro _ _ ⟨rfl, rfl⟩; rfl
      intro v6 w6 hR6 hb6 hg6 hat6
      have e6 : ([] : List (List Int)).map strOfNums ++ [strOfNums (PE ++ q4)] = ((([] : List (List Int)) ++ [(PE ++ q4)]).map strOfNums) := by rw [List.map_append]; rfl
      rw [e6] at hR6
      have h6 := hZ4.pushed hR6 hb6 hg6 hat6
      obtain ⟨A8, c8, e8, hc8, hC8⟩ := h6.tab
      obtain ⟨rfl, _, rfl⟩ : A2 = A8 ∧ T2.length = T2.length ∧ c2 = c8 := by injection e8 with a1 a2 a3; exact ⟨a1, a2, a3⟩
      have HE := Lib.hid (And.intro h6 (And.intro hc8 hC8))
      obtain ⟨Ar, cr, e9⟩ := Kd.R_slice hR6
      subst e9
      clear hR6 hb6 hg6 hat6 e6 h6 e8 hc8 hC8 hb4 hk4 hZ4
      go_wp2_with fail
      go_ret3
      obtain ⟨h6, hc8, hC8⟩ := HE.out
      refine ⟨_, A2, c2, rfl, ?_, hc8, hC8, h6.bl, h6.tb.imp (fun h => by obtain ⟨e1, e2⟩ := h; injection e2 with a1 a2 a3; exact ⟨a1, a3, e1⟩) (fun hR => Kd.R_mono hR (fun _ _ => trivial))⟩
      have h9 := h6.rw
      show Kd.R Kd.string 9 _ _ _ _ ((moreE T2 T2 ++ [lastE v T2 k0 x1 x2 l x4 x5 x6]).map strOfNums)
      rw [HLE.out]
      first | exact h9 | (rw [moreE_self]; exact h9)
  ·have hkd : (k0 == 1) = false := by rw [hk]; rfl
   have hkd2 : decide (k0 = 1) = false := decide_eq_false (by omega)
   have y0 : (W).cell? ⟨b5, 0, none⟩ = some (.int .i64 k0) := (blk_cell HBX.out 0).trans rfl
   have HZ := HX
   have HLE : Hid (lastE v T2 k0 x1 x2 l x4 x5 x6 = p0) := Lib.hid (by
    unfold lastE
    rw [if_pos hk, List.append_nil, ← HP0.out, ← HQE.out.1, ← HQE.out.2.1, hk]
    rw [show ints (vb ((2 : Int).toNat)) = [2] from vb_k 2 (by omega)])
   clear hk
   have hmr : (([] : List (List Int)).map strOfNums).length ≤ 1000000 := by rw [List.length_map]; have := HRL.out; omega
   go_wp2_with (at_builtin; refine Halt.mk ?_)
   refine Halt.of ?_
   have hb4 : Below W.heap.size W (W.alloc (.cells #[.string (strOfNums p0)] 9)) := (Below.refl _ _).alloc (Nat.le_refl _) _
   have hk4 : (W.alloc (.cells #[.string (strOfNums p0)] 9)).heap[W.heap.size]? = some (.cells #[.string (strOfNums p0)] 9 (0, 0)) := heap_new _ _
   have hZ4 := HZ.out.below hb4
   refine Kd.R_append_rows Kd.string (w0 := Wq) Wq.heap.size rfl (.tmp 164) (.tmp 166) 45 9 (.string ⟨#[]⟩) 16 rfl Try.underlying45 info_str9 rfl (by decide) (by omega) _ (([] : List (List Int)).map strOfNums) [strOfNums p0] _ _ _ (fun _ => True) (fun _ => False) rfl rfl hZ4.rw (row_val _ hk4) ?_ (fun _ h => h.elim) (fun _ _ => trivial) hZ4.bl hZ4.bl.size (by omega) ?_
   ·rintro _ _ ⟨rfl, rfl⟩; rfl
   intro v6 w6 hR6 hb6 hg6 hat6
   have e6 : ([] : List (List Int)).map strOfNums ++ [strOfNums p0] = ((([] : List (List Int)) ++ [p0]).map strOfNums) := by rw [List.map_append]; rfl
   rw [e6] at hR6
   have h6 := hZ4.pushed hR6 hb6 hg6 hat6
   obtain ⟨A8, c8, e8, hc8, hC8⟩ := h6.tab
   obtain ⟨rfl, _, rfl⟩ : A2 = A8 ∧ T2.length = T2.length ∧ c2 = c8 := by injection e8 with a1 a2 a3; exact ⟨a1, a2, a3⟩
   have HE := Lib.hid (And.intro h6 (And.intro hc8 hC8))
   obtain ⟨Ar, cr, e9⟩ := Kd.R_slice hR6
   subst e9
   clear hR6 hb6 hg6 hat6 e6 h6 e8 hc8 hC8 hb4 hk4 hZ4
   go_wp2_with fail
   go_ret3
   obtain ⟨h6, hc8, hC8⟩ := HE.out
   refine ⟨_, A2, c2, rfl, ?_, hc8, hC8, h6.bl, h6.tb.imp (fun h => by obtain ⟨e1, e2⟩ := h; injection e2 with a1 a2 a3; exact ⟨a1, a3, e1⟩) (fun hR => Kd.R_mono hR (fun _ _ => trivial))⟩
   have h9 := h6.rw
   show Kd.R Kd.string 9 _ _ _ _ ((moreE T2 T2 ++ [lastE v T2 k0 x1 x2 l x4 x5 x6]).map strOfNums)
   rw [HLE.out]
   first | exact h9 | (rw [moreE_self]; exact h9)
set_option maxHeartbeats 8000000 in
set_option maxRecDepth 100000 in
theorem rput9_2 (Wq : World) (v : Int) (A : Option Addr) (c : Nat) (T : List ByteArray) (hC : Kd.C Kd.string Wq A T.length T) (hc : T.length ≤ c) (hT : T.length ≤ 100000) (k0 : Int) (x1 : ByteArray) (x2 : Int) (B : Option Addr) (d : Nat) (l : List S113) (x4 x5 : Int) (x6 : ByteArray)
  (hrow : Kd.C k113 Wq B l.length l) (hd : l.length ≤ d) (hok : RecOk x1 l x6) (hv : v = 2) (hm : mayB v k0 x1 x2 l x4 x5 x6 = true) (h2 : 0 ≤ x2 ∧ x2 < 18446744073709551616) (h4 : 0 ≤ x4 ∧ x4 < 18446744073709551616) (h5 : 0 ≤ x5 ∧ x5 < 18446744073709551616) (hdr : ∀ y ∈ l, 0 ≤ y.f1 ∧ y.f1 < 18446744073709551616) :
  Calls Try.prog 33 #[.int .i64 v, .slice A T.length c, .agg #[.int .i64 k0, .string x1, .int .u64 x2, .slice B l.length d, .int .u64 x4, .int .u64 x5, .string x6]] Wq (RPutPost Wq A c T (putF v T k0 x1 x2 l x4 x5 x6)) := by
 have hpf : putF v T k0 x1 x2 l x4 x5 x6 = ((moreE T (tnewOn T (tnew (namesL x1 l x6)))) ++ [lastE v (tnewOn T (tnew (namesL x1 l x6))) k0 x1 x2 l x4 x5 x6], (tnewOn T (tnew (namesL x1 l x6))), 0) := by
  unfold putF
  rw [if_pos (show 1 ≤ v ∧ v ≤ 3 by omega), if_pos hm]
  rw [if_pos (show 1 < v by omega)]
 rw [hpf]
 obtain ⟨wz, hwz⟩ : ∃ wz, (Wq.alloc (.cells #[.int .i64 k0, .string x1, .int .u64 x2, .slice B l.length d, .int .u64 x4, .int .u64 x5, .string x6] 62)).alloc (.cells #[] 9) = wz := ⟨_, rfl⟩
 have hbz : Below Wq.heap.size Wq wz := by rw [← hwz]; exact ((Below.refl _ _).alloc (Nat.le_refl _) _).alloc (by rw [heap_size_alloc]; omega) _
 have hkz : wz.heap[Wq.heap.size]? = some (.cells #[.int .i64 k0, .string x1, .int .u64 x2, .slice B l.length d, .int .u64 x4, .int .u64 x5, .string x6] 62 (0, 0)) := by rw [← hwz, heap_new_old _ _ _ (by rw [heap_size_alloc]; omega)]; exact heap_new _ _
 have hke : wz.heap[Wq.heap.size + 1]? = some (.cells #[] 9 (0, 0)) := by rw [← hwz]; exact heap_new2 _ _ _
 obtain ⟨b5, hb5⟩ : ∃ b, Wq.heap.size = b := ⟨_, rfl⟩
 rw [hb5] at hkz hke
 have hre := R_empty Kd.string wz Wq.heap.size (b5 + 1) 9 (fun _ => True) hke (by omega) trivial
 have M := may_facts hm
 have HMY := Lib.hid (rmay_any v k0 x1 x2 l x4 x5 x6 B d wz (Kd.C_below hrow hbz))
 rw [hm] at HMY
 have HC := Lib.hid hC
 have HRO := Lib.hid hrow
 have HBZ := Lib.hid hbz
 have HKZ := Lib.hid hkz
 have HWZ := Lib.hid hwz
 have HREZ := Lib.hid hre
 have HB5 := Lib.hid hb5
 have HM := Lib.hid M
 have HR2 := Lib.hid h2
 have HR4 := Lib.hid h4
 have HR5 := Lib.hid h5
 have HDR := Lib.hid hdr
 have HV := Lib.hid hv
 have HKW := Lib.hid (show IntKind.u64.wrap k0 = k0 by have := M.k; rw [IntKind.wrap_u64]; omega)
 have HLW := Lib.hid (show IntKind.u64.wrap (l.length : Int) = (l.length : Int) by have := M.n; rw [IntKind.wrap_u64]; omega)
 have hln : l.length ≤ 16 := M.n
 have HNM := Lib.hid (fun (Wq' : World) (hb : Below Wq.heap.size Wq Wq') => tephraref08_Names.calls 6001 k0 x1 x2 B d l x4 x5 x6 _ Wq' (Kd.C_below hrow hb) hd (names_is k0 x1 x2 l x4 x5 x6 (by omega) _ (by omega)))
 have d1 : decide (v < 1) = false := decide_eq_false (by omega)
 have d3 : decide (3 < v) = false := decide_eq_false (by omega)
 have d2 : decide (1 < v) = true := decide_eq_true (by omega)
 have d4 : decide (v < 3) = true := decide_eq_true (by omega)
 have d5 : decide (2 < v) = false := decide_eq_false (by omega)
 clear hpf hC hrow hbz hkz hke hre hwz hb5 M h2 h4 h5 hdr hm hv hok
 go_enter Try.func33, Try.ntmps33
 go_wp2_with fail
 rw [HWZ.out, HB5.out]
 refine HMY.out.mono ?_
 rintro e wa ⟨rfl, hb⟩
 have HBA := Lib.hid (HBZ.out.trans (hb.mono HBZ.out.size))
 have HBX := Lib.hid (blk_below HKZ.out hb)
 have HRE := Lib.hid (Kd.R_below HREZ.out hb)
 clear hb HREZ HWZ HKZ
 obtain ⟨y0, y1, y2, y3, y4, y5, y6⟩ := facts7 HBX.out
 go_wp2_with fail
 clear y0 y1 y2 y3 y4 y5 y6
 refine (HNM.out wa HBA.out).mono ?_
 rintro e wb ⟨vn, rfl, hRn, hb⟩
 obtain ⟨An, cn, rfl⟩ := Kd.R_slice hRn
 have HNS := Lib.hid (names_few (x1 := x1) (l := l) (x6 := x6) HM.out.t.2 HM.out.n (fun d hd => (HM.out.d d hd).2.1) HM.out.tag.1)
 generalize hns : tnew (namesL x1 l x6) = ns at *
 have HNN := Lib.hid hns
 have hbb : Below Wq.heap.size Wq wb := HBA.out.trans (hb.mono HBA.out.size)
 have hsa : b5 + 1 < wa.heap.size := (own_typed_R HRE.out (b5 + 1) rfl).2.1
 have hst : RPSt Wq wb b5 #[.int .i64 k0, .string x1, .int .u64 x2, .slice B l.length d, .int .u64 x4, .int .u64 x5, .string x6] A c T (.slice A T.length c) T (.slice (some ⟨b5 + 1, 0, none⟩) 0 0) [] (.slice An ns.length cn) ns :=
  ⟨hbb, blk_below HBX.out hb, ⟨HC.out, hc⟩, .inl ⟨rfl, rfl⟩, Kd.R_below HRE.out hb, Kd.R_mono (Kd.R_lower (Kd.R_bound hRn) HBA.out.size) (fun k hk e => by injection e with e; replace e : k = b5 + 1 := e; have := hk.2.1; have := HB5.out; omega)⟩
 have HST := Lib.hid hst
 clear hb hbb hRn hst hns HBX HRE HNM HBA hsa
 go_wp2_with fail
 go_loopw [1, 9, 11] (fun u1 u9 u11 wr => ∃ (i : Nat), i ≤ ns.length ∧ u11 = .int .i64 (i : Int) ∧ Hid (RPSt Wq wr b5 #[.int .i64 k0, .string x1, .int .u64 x2, .slice B l.length d, .int .u64 x4, .int .u64 x5, .string x6] A c T u1 (tnewOn T (ns.take i)) u9 (moreE T (tnewOn T (ns.take i))) (.slice An ns.length cn) ns)) (fun _ _ u _ => ns.length - (intOf u).toNat)
 case atStart => exact ⟨0, by omega, rfl, Lib.hid (by rw [List.take_zero, show tnewOn T [] = T from rfl, moreE_self]; exact HST.out)⟩
 case round =>
  clear HST
  obtain ⟨i, hi, rfl, H⟩ := hrel
  have hn18 := HNS.out.1
  by_cases hlt : i < ns.length
  ·have hdl : decide ((i : Int) < (ns.length : Int)) = true := decide_eq_true (by omega)
   obtain ⟨adn, hAn, hcell⟩ := Kd.at_string (Kd.R_reads' H.out.nm).2.2 (i : Int) (by omega) (by omega)
   subst hAn
   rw [Int.toNat_natCast] at hcell
   obtain ⟨s, hs⟩ : ∃ s, ns[i] = s := ⟨_, rfl⟩
   have hrd : rdOf ByteArray.empty ns (i : Int) = s := by simp [rdOf, hlt, hs]
   rw [hrd] at hcell
   have HRD := Lib.hid hrd
   have hsz := HNS.out.2 s (hs ▸ List.getElem_mem _)
   have htk := tnewOn_take T ns i hlt
   rw [hs] at htk
   have hll := tnewOn_len T (ns.take i)
   have hge := tnewOn_ge T (ns.take i)
   rw [List.length_take] at hll
   generalize tnewOn T (ns.take i) = L at *
   obtain ⟨A2, c2, rfl, hc2, hC2⟩ := H.out.tab
   have HPL := Lib.hid (tephraref07_Place.calls (L.length + 1) A2 c2 L s (posI8 L s) wr hC2 hc2 (place_is8 L (by omega) s _ (by omega)))
   have hpd : decide (posI8 L s < 0) = !(isIn L s) := by
    unfold posI8
    cases isIn L s with
    | true => simp
    | false => simp
   have HTK := Lib.hid htk
   have HSZ := Lib.hid (And.intro hsz (And.intro hll hge))
   clear hrd hs htk hsz hll hge hC2
   by_cases hin : s ∈ L
   ·rw [isIn_iff.2 hin, Bool.not_true] at hpd
    have HMO := Lib.hid (And.intro (moreE_in (T := T) hin) (tput_in hin))
    generalize posI8 L s = q at HPL hpd
    clear hin
    go_wp2_with fail
    refine HPL.out.mono ?_
    rintro e wc ⟨rfl, hdr⟩
    have hb := hdr.below
    have HH := Lib.hid (H.out.below hb)
    clear hdr hb hcell
    go_wp2_with fail
    go_roundw
    case rel => exact ⟨i + 1, by omega, by go_num, Lib.hid (by rw [HTK.out, HMO.out.2]; exact HH.out)⟩
    case measure => simp [intOf]; omega
   ·rw [isIn_ne.2 hin, Bool.not_false] at hpd
    have HMO := Lib.hid (moreE_out (T := T) HSZ.out.2.2 hin)
    have hadd := add_def s (by have := HSZ.out.1; omega)
    have HNI := Lib.hid hin
    generalize posI8 L s = q at HPL hpd
    clear hin
    go_wp2_with fail
    refine HPL.out.mono ?_
    rintro e wc ⟨rfl, hdr⟩
    have hb := hdr.below
    have HH := Lib.hid (H.out.below hb)
    have hcell2 := pw_cell_below hb hcell
    clear hdr hb hcell
    obtain ⟨A9, c9, e9⟩ := Kd.R_slice HH.out.rw
    rw [List.length_map] at e9
    subst e9
    have hmr : ((moreE T L).map strOfNums).length ≤ 1000000 := by have := HSZ.out.2.1; rw [List.length_map]; unfold moreE; rw [List.length_map, List.length_drop]; omega
    go_wp2_with (at_builtin; refine Halt.mk ?_)
    refine Halt.of ?_
    have hb4 : Below wc.heap.size wc (wc.alloc (.cells #[.string (strOfNums (defE s))] 9)) := (Below.refl _ _).alloc (Nat.le_refl _) _
    have hk4 : (wc.alloc (.cells #[.string (strOfNums (defE s))] 9)).heap[wc.heap.size]? = some (.cells #[.string (strOfNums (defE s))] 9 (0, 0)) := heap_new _ _
    have hH4 := HH.out.below hb4
    refine Kd.R_append_rows Kd.string (w0 := Wq) Wq.heap.size rfl (.tmp 48) (.tmp 54) 45 9 (.string ⟨#[]⟩) 16 rfl Try.underlying45 info_str9 rfl (by decide) (by omega) _ ((moreE T L).map strOfNums) [strOfNums (defE s)] _ _ _ (fun _ => True) (fun _ => False) rfl rfl hH4.rw (row_val _ hk4) ?_ (fun _ h => h.elim) (fun _ _ => trivial) hH4.bl hH4.bl.size (by omega) ?_
    ·rintro _ _ ⟨rfl, rfl⟩; rfl
    intro v6 w6 hR6 hb6 hg6 hat6
    have e6 : (moreE T L).map strOfNums ++ [strOfNums (defE s)] = ((moreE T L ++ [defE s]).map strOfNums) := by rw [List.map_append]; rfl
    rw [e6] at hR6
    have h6 := hH4.pushed hR6 hb6 hg6 hat6
    obtain ⟨A6, c6, e6v, hc6, hC6⟩ := h6.tab
    obtain ⟨rfl, _, rfl⟩ : A2 = A6 ∧ L.length = L.length ∧ c2 = c6 := by injection e6v with a1 a2 a3; exact ⟨a1, a2, a3⟩
    have HTP := Lib.hid (rtput_any A2 c2 L s w6 hC6 hc6 (by have := HSZ.out.2.1; omega))
    obtain ⟨ad9, hA9, hcell6⟩ := Kd.at_string (Kd.R_reads' h6.nm).2.2 (i : Int) (by omega) (by omega)
    obtain rfl : adn = ad9 := Option.some.inj hA9
    rw [Int.toNat_natCast, HRD.out] at hcell6
    have H6 := Lib.hid h6
    clear hR6 hb6 hg6 hat6 e6 h6 e6v hC6 hA9 hb4 hk4 hH4 hcell2 hadd HPL
    go_wp2_with fail
    refine HTP.out.mono ?_
    rintro e w7 ⟨A7, c7, rfl, hc7, hC7, hb7, hR7⟩
    have H7 := Lib.hid (H6.out.tabled hb7 (hR7 HNI.out))
    clear hC7 hb7 hR7 hcell6 HTP H6
    go_wp2_with fail
    go_roundw
    case rel => exact ⟨i + 1, by omega, by go_num, Lib.hid (by rw [HTK.out, HMO.out]; exact H7.out)⟩
    case measure => simp [intOf]; omega
  ·obtain rfl : i = ns.length := by omega
   rw [List.take_of_length_le (Nat.le_refl _)] at H
   have hrl : (moreE T (tnewOn T ns)).length ≤ 100 := by unfold moreE; rw [List.length_map, List.length_drop]; have := tnewOn_len T ns; omega
   have hin : v ≠ 1 → ∀ s ∈ namesL x1 l x6, s ∈ tnewOn T ns := fun _ s hs => by rw [mem_tnewOn, ← HNN.out, mem_tnew]; exact .inr hs
   have hT2 : (tnewOn T ns).length ≤ 200000 := by have := tnewOn_len T ns; omega
   generalize tnewOn T ns = T2 at *
   generalize moreE T T2 = rows at *
   obtain ⟨A9, c9, e9⟩ := Kd.R_slice H.out.rw
   rw [List.length_map] at e9
   subst e9
   obtain ⟨A2, c2, e2, hc2, hC2⟩ := H.out.tab
   subst e2
   have HC2 := Lib.hid hC2
   have HRW := Lib.hid hrl
   have HRL := Lib.hid hrl
   have HIN := Lib.hid hin
   obtain ⟨q0, hq0⟩ : ∃ q, ints (vb k0.toNat) = q := ⟨_, rfl⟩
   obtain ⟨q1, hq1⟩ : ∃ q, textE v T2 x1 = q := ⟨_, rfl⟩
   obtain ⟨q2, hq2⟩ : ∃ q, ints (vb x2.toNat) = q := ⟨_, rfl⟩
   obtain ⟨q3, hq3⟩ : ∃ q, ints (vb ((l.length : Int)).toNat) = q := ⟨_, rfl⟩
   have hK := HM.out.k
   have l0 : q0.length ≤ 10 := by rw [← hq0]; exact vbI_len k0 (by omega)
   have l1 : q1.length ≤ 74 := by rw [← hq1]; exact textE_len v T2 (by omega) x1 HM.out.t.2
   have l2 : q2.length ≤ 10 := by rw [← hq2]; exact vbI_len x2 HR2.out.2
   have l3 : q3.length ≤ 10 := by rw [← hq3]; exact vbI_len (l.length : Int) (by omega)
   have HQ0 := Lib.hid (fun (W' : World) => put1_any k0 (by omega) W')
   have HQ1 := Lib.hid (fun (W' : World) (hb : Below wr.heap.size wr W') => rtext9_any v A2 c2 T2 x1 W' (Kd.C_below HC2.out hb) hc2 (by omega) (by have := HM.out.t.2; omega) (fun h => hin h x1 (by unfold namesL; simp)))
   have HQ2 := Lib.hid (fun (W' : World) => put1_any x2 HR2.out W')
   have HQ3 := Lib.hid (fun (W' : World) => put1_any (l.length : Int) (by omega) W')
   rw [hq0] at HQ0
   rw [hq1] at HQ1
   rw [hq2] at HQ2
   rw [hq3] at HQ3
   have HAD := Lib.hid (add_str q0 q1 (by omega))
   obtain ⟨p0, hp0⟩ : ∃ p, q0 ++ q1 = p := ⟨_, rfl⟩
   have lp0 : p0.length ≤ 84 := by rw [← hp0, List.length_append]; omega
   have HAD2 := Lib.hid (add_str p0 q2 (by omega))
   have HAD3 := Lib.hid (add_str (p0 ++ q2) q3 (by rw [List.length_append]; omega))
   obtain ⟨P, hP⟩ : ∃ p, p0 ++ q2 ++ q3 = p := ⟨_, rfl⟩
   have lP : P.length ≤ 104 := by rw [← hP, List.length_append, List.length_append]; omega
   have HQE := Lib.hid (And.intro hq0 (And.intro hq1 (And.intro hq2 hq3)))
   have HP0 := Lib.hid hp0
   have HPP := Lib.hid hP
   have HBX := Lib.hid H.out.box
   have HKK := Lib.hid hK
   clear hC2 hq0 hq1 hq2 hq3 hp0 hP hin hK
   go_wp2_with fail
   refine region_calm (n := 11) (byList [isV (.pointer (some ⟨b5, 0, none⟩)), isV (.int .i64 k0), isV (.int .u64 k0), isV (.string (strOfNums q0)), isV (.int .i64 v), isV (.slice A2 T2.length c2), isV (.pointer (some ⟨b5, 1, none⟩)), isV (.string x1), isV (.string (strOfNums q1)), isV (.string (strOfNums (q0 ++ q1))), isV (.string (strOfNums (q0 ++ q1)))]) (by kernel_rfl) rfl (byList_lasts ?_) (by kernel_rfl) (by kernel_rfl) (by kernel_rfl) (show AllLt 11 _ from ?_) ?_
   ·intro p hp
    simp only [List.mem_cons, List.not_mem_nil, or_false] at hp
    rcases hp with rfl | rfl | rfl | rfl | rfl | rfl | rfl | rfl | rfl | rfl | rfl <;> first | exact isV_lasts | exact isC_lasts
   ·refine allLt_succ (allLt_succ (allLt_succ (allLt_succ (allLt_succ (allLt_succ (allLt_succ (allLt_succ (allLt_succ (allLt_succ (allLt_succ (allLt_zero _) ?_) ?_) ?_) ?_) ?_) ?_) ?_) ?_) ?_) ?_) ?_
    ·refine StepOk.run (o := ?o0) ?ho0 ?hg0 ?h0
     case ho0 => simp only [List.getElem?_toArray, List.getElem?_cons_succ, List.getElem?_cons_zero]; rfl
     case hg0 => rfl
     case h0 =>
     intro a W hS hB hd
     have e5 : a.tmps[5]? = some (.pointer (some ⟨b5, 0, none⟩)) := hS.get rfl rfl
     refine wp_value (c := .pointer (some ⟨b5, 0, none⟩)) ?_ rfl
     go_simp
    ·refine StepOk.run (o := ?o1) ?ho1 ?hg1 ?h1
     case ho1 => simp only [List.getElem?_toArray, List.getElem?_cons_succ, List.getElem?_cons_zero]; rfl
     case hg1 => rfl
     case h1 =>
     intro a W hS hB hd
     have e62 : a.tmps[62]? = some (.pointer (some ⟨b5, 0, none⟩)) := (hd 0 rfl).bool rfl rfl rfl
     refine wp_value (c := .int .i64 k0) ?_ rfl
     have hx := blk_below HBX.out hB
     have hcW : W.cell? ⟨b5, 0, none⟩ = some (.int .i64 k0) := (blk_cell hx 0).trans rfl
     go_simp
    ·refine StepOk.run (o := ?o2) ?ho2 ?hg2 ?h2
     case ho2 => simp only [List.getElem?_toArray, List.getElem?_cons_succ, List.getElem?_cons_zero]; rfl
     case hg2 => rfl
     case h2 =>
     intro a W hS hB hd
     have e63 : a.tmps[63]? = some (.int .i64 k0) := (hd 1 rfl).bool rfl rfl rfl
     refine wp_value (c := .int .u64 k0) ?_ rfl
     have hw := HKW.out
     go_simp
    ·refine StepOk.run (o := ?o3) ?ho3 ?hg3 ?h3
     case ho3 => simp only [List.getElem?_toArray, List.getElem?_cons_succ, List.getElem?_cons_zero]; rfl
     case hg3 => rfl
     case h3 =>
     intro a W hS hB hd
     have e64 : a.tmps[64]? = some (.int .u64 k0) := (hd 2 rfl).bool rfl rfl rfl
     refine wp_called Try.func70 (by kernel_rfl) rfl #[.int .u64 k0] rfl (by simp [Act.eval, *]) ?_
     refine (HQ0.out W).mono ?_
     rintro e w9 ⟨rfl, hb9⟩
     exact ⟨_, rfl, rfl, hb9⟩
    ·refine StepOk.run (o := ?o4) ?ho4 ?hg4 ?h4
     case ho4 => simp only [List.getElem?_toArray, List.getElem?_cons_succ, List.getElem?_cons_zero]; rfl
     case hg4 => rfl
     case h4 =>
     intro a W hS hB hd
     have e0 : a.tmps[0]? = some (.int .i64 v) := hS.get rfl rfl
     refine wp_value (c := .int .i64 v) ?_ rfl
     go_simp
    ·refine StepOk.run (o := ?o5) ?ho5 ?hg5 ?h5
     case ho5 => simp only [List.getElem?_toArray, List.getElem?_cons_succ, List.getElem?_cons_zero]; rfl
     case hg5 => rfl
     case h5 =>
     intro a W hS hB hd
     have e1 : a.tmps[1]? = some (.slice A2 T2.length c2) := hS.get rfl rfl
     refine wp_value (c := .slice A2 T2.length c2) ?_ rfl
     go_simp
    ·refine StepOk.run (o := ?o6) ?ho6 ?hg6 ?h6
     case ho6 => simp only [List.getElem?_toArray, List.getElem?_cons_succ, List.getElem?_cons_zero]; rfl
     case hg6 => rfl
     case h6 =>
     intro a W hS hB hd
     have e5 : a.tmps[5]? = some (.pointer (some ⟨b5, 0, none⟩)) := hS.get rfl rfl
     refine wp_value (c := .pointer (some ⟨b5, 1, none⟩)) ?_ rfl
     go_simp
    ·refine StepOk.run (o := ?o7) ?ho7 ?hg7 ?h7
     case ho7 => simp only [List.getElem?_toArray, List.getElem?_cons_succ, List.getElem?_cons_zero]; rfl
     case hg7 => rfl
     case h7 =>
     intro a W hS hB hd
     have e68 : a.tmps[68]? = some (.pointer (some ⟨b5, 1, none⟩)) := (hd 6 rfl).bool rfl rfl rfl
     refine wp_value (c := .string x1) ?_ rfl
     have hx := blk_below HBX.out hB
     have hcW : W.cell? ⟨b5, 1, none⟩ = some (.string x1) := (blk_cell hx 1).trans rfl
     go_simp
    ·refine StepOk.run (o := ?o8) ?ho8 ?hg8 ?h8
     case ho8 => simp only [List.getElem?_toArray, List.getElem?_cons_succ, List.getElem?_cons_zero]; rfl
     case hg8 => rfl
     case h8 =>
     intro a W hS hB hd
     have e66 : a.tmps[66]? = some (.int .i64 v) := (hd 4 rfl).bool rfl rfl rfl
     have e67 : a.tmps[67]? = some (.slice A2 T2.length c2) := (hd 5 rfl).bool rfl rfl rfl
     have e69 : a.tmps[69]? = some (.string x1) := (hd 7 rfl).bool rfl rfl rfl
     refine wp_called Try.func71 (by kernel_rfl) rfl #[.int .i64 v, .slice A2 T2.length c2, .string x1] rfl (by simp [Act.eval, *]) ?_
     refine (HQ1.out W hB).mono ?_
     rintro e w9 ⟨rfl, hb9⟩
     exact ⟨_, rfl, rfl, hb9⟩
    ·refine StepOk.run (o := ?o9) ?ho9 ?hg9 ?h9
     case ho9 => simp only [List.getElem?_toArray, List.getElem?_cons_succ, List.getElem?_cons_zero]; rfl
     case hg9 => rfl
     case h9 =>
     intro a W hS hB hd
     have e65 : a.tmps[65]? = some (.string (strOfNums q0)) := (hd 3 rfl).bool rfl rfl rfl
     have e70 : a.tmps[70]? = some (.string (strOfNums q1)) := (hd 8 rfl).bool rfl rfl rfl
     refine wp_value (c := .string (strOfNums (q0 ++ q1))) ?_ rfl
     have hadd := HAD.out W
     go_simp
    ·refine StepOk.run (o := ?o10) ?ho10 ?hg10 ?h10
     case ho10 => simp only [List.getElem?_toArray, List.getElem?_cons_succ, List.getElem?_cons_zero]; rfl
     case hg10 => rfl
     case h10 =>
     intro a W hS hB hd
     have e71 : a.tmps[71]? = some (.string (strOfNums (q0 ++ q1))) := (hd 9 rfl).bool rfl rfl rfl
     refine wp_value (c := .string (strOfNums (q0 ++ q1))) ?_ rfl
     go_simp
   ·intro a W hS hB hh
    have e12 : a.tmps[12]? = some (.string (strOfNums (q0 ++ q1))) := (hh 10 (by omega)).bool rfl rfl rfl
    have HBR := Lib.hid hB
    have hlit := same_lit hS
    clear hh hS hB
    simp only [List.filterMap_cons, List.filterMap_nil, List.foldl_cons, List.foldl_nil, List.setIfInBounds_toArray, List.set_cons_zero, List.set_cons_succ] at hlit
    rw [show a.tmps.getD 12 undef = .string (strOfNums (q0 ++ q1)) by simp [Array.getD_eq_getD_getElem?, e12]] at hlit
    generalize a.tmps.getD 62 undef = z62 at hlit
    generalize a.tmps.getD 63 undef = z63 at hlit
    generalize a.tmps.getD 64 undef = z64 at hlit
    generalize a.tmps.getD 65 undef = z65 at hlit
    generalize a.tmps.getD 66 undef = z66 at hlit
    generalize a.tmps.getD 67 undef = z67 at hlit
    generalize a.tmps.getD 68 undef = z68 at hlit
    generalize a.tmps.getD 69 undef = z69 at hlit
    generalize a.tmps.getD 70 undef = z70 at hlit
    generalize a.tmps.getD 71 undef = z71 at hlit
    clear e12
    subst hlit
    have HX := Lib.hid (H.out.below HBR.out)
    rw [HP0.out]
    clear HBX HQ0 HQ1 HAD H
    have HBX := Lib.hid HX.out.box
    rcases HKK.out with hk | hk
    ·have hkd : (k0 == 1) = true := by rw [hk]; rfl
     have hkd2 : decide (k0 = 1) = true := decide_eq_true hk
     have hkn : ¬ k0 = 2 := by omega
     have HKN := Lib.hid (And.intro hk hkn)
     clear hk hkn
     have y0 : (W).cell? ⟨b5, 0, none⟩ = some (.int .i64 k0) := (blk_cell HBX.out 0).trans rfl
     go_wp2_with fail
     clear y0
     refine region_calm2 (n := 12) (byList [isV (.string (strOfNums p0)), isV (.pointer (some ⟨b5, 2, none⟩)), isV (.int .u64 x2), isV (.string (strOfNums q2)), isV (.string (strOfNums (p0 ++ q2))), isV (.pointer (some ⟨b5, 3, none⟩)), isV (.slice B l.length d), isV (.int .i64 (l.length : Int)), isV (.int .u64 (l.length : Int)), isV (.string (strOfNums q3)), isV (.string (strOfNums (p0 ++ q2 ++ q3))), isV (.string (strOfNums (p0 ++ q2 ++ q3)))]) (by kernel_rfl) rfl (byList_lasts ?_) (by kernel_rfl) (by kernel_rfl) (by kernel_rfl) (show AllLt 12 _ from ?_) ?_
     ·intro p hp
      simp only [List.mem_cons, List.not_mem_nil, or_false] at hp
      rcases hp with rfl | rfl | rfl | rfl | rfl | rfl | rfl | rfl | rfl | rfl | rfl | rfl <;> first | exact isV_lasts | exact isC_lasts
     ·refine allLt_succ (allLt_succ (allLt_succ (allLt_succ (allLt_succ (allLt_succ (allLt_succ (allLt_succ (allLt_succ (allLt_succ (allLt_succ (allLt_succ (allLt_zero _) ?_) ?_) ?_) ?_) ?_) ?_) ?_) ?_) ?_) ?_) ?_) ?_
      ·refine StepOk2.run (o := ?o0b) ?ho0b ?hg0b ?h0b
       case ho0b => first | (simp only [List.getElem?_toArray, List.getElem?_cons_succ, List.getElem?_cons_zero]; done) | (simp only [List.getElem?_toArray, List.getElem?_cons_succ, List.getElem?_cons_zero]; rfl)
       case hg0b => rfl
       case h0b =>
       intro a W hS hB hd hE
       have e12 : a.tmps[12]? = some (.string (strOfNums p0)) := hE.get (j := 11) rfl rfl rfl rfl
       refine wp_value (c := .string (strOfNums p0)) ?_ rfl
       go_simp
      ·refine StepOk2.of ?_
       refine StepOk.run (o := ?o1b) ?ho1b ?hg1b ?h1b
       case ho1b => first | (simp only [List.getElem?_toArray, List.getElem?_cons_succ, List.getElem?_cons_zero]; done) | (simp only [List.getElem?_toArray, List.getElem?_cons_succ, List.getElem?_cons_zero]; rfl)
       case hg1b => rfl
       case h1b =>
       intro a W hS hB hd
       have e5 : a.tmps[5]? = some (.pointer (some ⟨b5, 0, none⟩)) := hS.get rfl rfl
       refine wp_value (c := .pointer (some ⟨b5, 2, none⟩)) ?_ rfl
       go_simp
      ·refine StepOk2.of ?_
       refine StepOk.run (o := ?o2b) ?ho2b ?hg2b ?h2b
       case ho2b => first | (simp only [List.getElem?_toArray, List.getElem?_cons_succ, List.getElem?_cons_zero]; done) | (simp only [List.getElem?_toArray, List.getElem?_cons_succ, List.getElem?_cons_zero]; rfl)
       case hg2b => rfl
       case h2b =>
       intro a W hS hB hd
       have e76 : a.tmps[76]? = some (.pointer (some ⟨b5, 2, none⟩)) := (hd 1 rfl).bool rfl rfl rfl
       refine wp_value (c := .int .u64 x2) ?_ rfl
       have hx := blk_below HBX.out hB
       have hcW : W.cell? ⟨b5, 2, none⟩ = some (.int .u64 x2) := (blk_cell hx 2).trans rfl
       go_simp
      ·refine StepOk2.of ?_
       refine StepOk.run (o := ?o3b) ?ho3b ?hg3b ?h3b
       case ho3b => first | (simp only [List.getElem?_toArray, List.getElem?_cons_succ, List.getElem?_cons_zero]; done) | (simp only [List.getElem?_toArray, List.getElem?_cons_succ, List.getElem?_cons_zero]; rfl)
       case hg3b => rfl
       case h3b =>
       intro a W hS hB hd
       have e77 : a.tmps[77]? = some (.int .u64 x2) := (hd 2 rfl).bool rfl rfl rfl
       refine wp_called Try.func70 (by kernel_rfl) rfl #[.int .u64 x2] rfl (by simp [Act.eval, *]) ?_
       refine (HQ2.out W).mono ?_
       rintro e w9 ⟨rfl, hb9⟩
       exact ⟨_, rfl, rfl, hb9⟩
      ·refine StepOk2.of ?_
       refine StepOk.run (o := ?o4b) ?ho4b ?hg4b ?h4b
       case ho4b => first | (simp only [List.getElem?_toArray, List.getElem?_cons_succ, List.getElem?_cons_zero]; done) | (simp only [List.getElem?_toArray, List.getElem?_cons_succ, List.getElem?_cons_zero]; rfl)
       case hg4b => rfl
       case h4b =>
       intro a W hS hB hd
       have e75 : a.tmps[75]? = some (.string (strOfNums p0)) := (hd 0 rfl).bool rfl rfl rfl
       have e78 : a.tmps[78]? = some (.string (strOfNums q2)) := (hd 3 rfl).bool rfl rfl rfl
       refine wp_value (c := .string (strOfNums (p0 ++ q2))) ?_ rfl
       have hadd := HAD2.out W
       go_simp
      ·refine StepOk2.of ?_
       refine StepOk.run (o := ?o5b) ?ho5b ?hg5b ?h5b
       case ho5b => first | (simp only [List.getElem?_toArray, List.getElem?_cons_succ, List.getElem?_cons_zero]; done) | (simp only [List.getElem?_toArray, List.getElem?_cons_succ, List.getElem?_cons_zero]; rfl)
       case hg5b => rfl
       case h5b =>
       intro a W hS hB hd
       have e5 : a.tmps[5]? = some (.pointer (some ⟨b5, 0, none⟩)) := hS.get rfl rfl
       refine wp_value (c := .pointer (some ⟨b5, 3, none⟩)) ?_ rfl
       go_simp
      ·refine StepOk2.of ?_
       refine StepOk.run (o := ?o6b) ?ho6b ?hg6b ?h6b
       case ho6b => first | (simp only [List.getElem?_toArray, List.getElem?_cons_succ, List.getElem?_cons_zero]; done) | (simp only [List.getElem?_toArray, List.getElem?_cons_succ, List.getElem?_cons_zero]; rfl)
       case hg6b => rfl
       case h6b =>
       intro a W hS hB hd
       have e80 : a.tmps[80]? = some (.pointer (some ⟨b5, 3, none⟩)) := (hd 5 rfl).bool rfl rfl rfl
       refine wp_value (c := .slice B l.length d) ?_ rfl
       have hx := blk_below HBX.out hB
       have hcW : W.cell? ⟨b5, 3, none⟩ = some (.slice B l.length d) := (blk_cell hx 3).trans rfl
       go_simp
      ·refine StepOk2.of ?_
       refine StepOk.run (o := ?o7b) ?ho7b ?hg7b ?h7b
       case ho7b => first | (simp only [List.getElem?_toArray, List.getElem?_cons_succ, List.getElem?_cons_zero]; done) | (simp only [List.getElem?_toArray, List.getElem?_cons_succ, List.getElem?_cons_zero]; rfl)
       case hg7b => rfl
       case h7b =>
       intro a W hS hB hd
       have e81 : a.tmps[81]? = some (.slice B l.length d) := (hd 6 rfl).bool rfl rfl rfl
       refine wp_value (c := .int .i64 (l.length : Int)) ?_ rfl
       go_simp
      ·refine StepOk2.of ?_
       refine StepOk.run (o := ?o8b) ?ho8b ?hg8b ?h8b
       case ho8b => first | (simp only [List.getElem?_toArray, List.getElem?_cons_succ, List.getElem?_cons_zero]; done) | (simp only [List.getElem?_toArray, List.getElem?_cons_succ, List.getElem?_cons_zero]; rfl)
       case hg8b => rfl
       case h8b =>
       intro a W hS hB hd
       have e82 : a.tmps[82]? = some (.int .i64 (l.length : Int)) := (hd 7 rfl).bool rfl rfl rfl
       refine wp_value (c := .int .u64 (l.length : Int)) ?_ rfl
       have hw := HLW.out
       go_simp
      ·refine StepOk2.of ?_
       refine StepOk.run (o := ?o9b) ?ho9b ?hg9b ?h9b
       case ho9b => first | (simp only [List.getElem?_toArray, List.getElem?_cons_succ, List.getElem?_cons_zero]; done) | (simp only [List.getElem?_toArray, List.getElem?_cons_succ, List.getElem?_cons_zero]; rfl)
       case hg9b => rfl
       case h9b =>
       intro a W hS hB hd
       have e83 : a.tmps[83]? = some (.int .u64 (l.length : Int)) := (hd 8 rfl).bool rfl rfl rfl
       refine wp_called Try.func70 (by kernel_rfl) rfl #[.int .u64 (l.length : Int)] rfl (by simp [Act.eval, *]) ?_
       refine (HQ3.out W).mono ?_
       rintro e w9 ⟨rfl, hb9⟩
       exact ⟨_, rfl, rfl, hb9⟩
      ·refine StepOk2.of ?_
       refine StepOk.run (o := ?o10b) ?ho10b ?hg10b ?h10b
       case ho10b => first | (simp only [List.getElem?_toArray, List.getElem?_cons_succ, List.getElem?_cons_zero]; done) | (simp only [List.getElem?_toArray, List.getElem?_cons_succ, List.getElem?_cons_zero]; rfl)
       case hg10b => rfl
       case h10b =>
       intro a W hS hB hd
       have e79 : a.tmps[79]? = some (.string (strOfNums (p0 ++ q2))) := (hd 4 rfl).bool rfl rfl rfl
       have e84 : a.tmps[84]? = some (.string (strOfNums q3)) := (hd 9 rfl).bool rfl rfl rfl
       refine wp_value (c := .string (strOfNums (p0 ++ q2 ++ q3))) ?_ rfl
       have hadd := HAD3.out W
       go_simp
      ·refine StepOk2.of ?_
       refine StepOk.run (o := ?o11b) ?ho11b ?hg11b ?h11b
       case ho11b => first | (simp only [List.getElem?_toArray, List.getElem?_cons_succ, List.getElem?_cons_zero]; done) | (simp only [List.getElem?_toArray, List.getElem?_cons_succ, List.getElem?_cons_zero]; rfl)
       case hg11b => rfl
       case h11b =>
       intro a W hS hB hd
       have e85 : a.tmps[85]? = some (.string (strOfNums (p0 ++ q2 ++ q3))) := (hd 10 rfl).bool rfl rfl rfl
       refine wp_value (c := .string (strOfNums (p0 ++ q2 ++ q3))) ?_ rfl
       go_simp
     ·intro a W hS hB hh
      have e12 : a.tmps[12]? = some (.string (strOfNums (p0 ++ q2 ++ q3))) := (hh 11 (by omega)).bool rfl rfl rfl
      have HBR := Lib.hid hB
      have hlit := same_lit hS
      clear hh hS hB
      simp only [List.filterMap_cons, List.filterMap_nil, List.foldl_cons, List.foldl_nil, List.setIfInBounds_toArray, List.set_cons_zero, List.set_cons_succ] at hlit
      rw [show a.tmps.getD 12 undef = .string (strOfNums (p0 ++ q2 ++ q3)) by simp [Array.getD_eq_getD_getElem?, e12]] at hlit
      generalize a.tmps.getD 75 undef = z75 at hlit
      generalize a.tmps.getD 76 undef = z76 at hlit
      generalize a.tmps.getD 77 undef = z77 at hlit
      generalize a.tmps.getD 78 undef = z78 at hlit
      generalize a.tmps.getD 79 undef = z79 at hlit
      generalize a.tmps.getD 80 undef = z80 at hlit
      generalize a.tmps.getD 81 undef = z81 at hlit
      generalize a.tmps.getD 82 undef = z82 at hlit
      generalize a.tmps.getD 83 undef = z83 at hlit
      generalize a.tmps.getD 84 undef = z84 at hlit
      generalize a.tmps.getD 85 undef = z85 at hlit
      clear e12
      subst hlit
      rw [HPP.out]
      have HX2 := Lib.hid (HX.out.below HBR.out)
      clear HBX HX HQ2 HQ3 HAD2 HAD3
      have y3 : (W).cell? ⟨b5, 3, none⟩ = some (.slice B l.length d) := (blk_cell HX2.out.box 3).trans rfl
      go_wp2_with fail
      clear y3
      go_loopw [12, 13] (fun u12 u13 wr => ∃ (i : Nat), i ≤ l.length ∧ u13 = .int .i64 (i : Int) ∧ u12 = .string (strOfNums (P ++ depsE v T2 (l.take i))) ∧ Hid (RPSt Wq wr b5 #[.int .i64 k0, .string x1, .int .u64 x2, .slice B l.length d, .int .u64 x4, .int .u64 x5, .string x6] A c T (.slice A2 T2.length c2) T2 (.slice A9 rows.length c9) rows (.slice An ns.length cn) ns)) (fun _ u _ => l.length - (intOf u).toNat)
      case atStart => exact ⟨0, by omega, rfl, by simp [depsE], HX2⟩
      case round =>
       clear HX2
       obtain ⟨i, hi, rfl, rfl, H⟩ := hrel
       have y3 : (wr).cell? ⟨b5, 3, none⟩ = some (.slice B l.length d) := (blk_cell H.out.box 3).trans rfl
       by_cases hlt : i < l.length
       ·have hdl : decide ((i : Int) < (l.length : Int)) = true := decide_eq_true (by omega)
        obtain ⟨ad, hAd, g0, g1, g2⟩ := at_T113 (Kd.C_below HRO.out H.out.bl) (i : Int) (by omega) (by omega)
        subst hAd
        obtain ⟨dd, hdd⟩ : ∃ d, l[i] = d := ⟨_, rfl⟩
        have hrd : rd_T113 l (i : Int) = dd := by simp [rd_T113, hlt, hdd]
        rw [hrd, Int.toNat_natCast] at g0 g1 g2
        have hmem : dd ∈ l := hdd ▸ List.getElem_mem _
        have htk := depsE_take v T2 l i hlt
        rw [hdd] at htk
        have hdf := HM.out.d dd hmem
        have hdg := HDR.out dd hmem
        have hdn : v ≠ 1 → dd.f0 ∈ T2 := fun h => HIN.out h dd.f0 (by unfold namesL; rw [List.mem_append]; exact .inl (List.mem_cons_of_mem _ (List.mem_map.2 ⟨dd, hmem, rfl⟩)))
        have hle := depsE_len v T2 (by omega) (l.take i) (fun y hy => ⟨(HM.out.d y (List.mem_of_mem_take hy)).2.1, (HDR.out y (List.mem_of_mem_take hy)).2⟩)
        rw [List.length_take] at hle
        obtain ⟨s, hh, o⟩ := dd
        dsimp only at g0 g1 g2 hdf hdg hdn htk
        obtain ⟨PD, hPD⟩ : ∃ p, P ++ depsE v T2 (l.take i) = p := ⟨_, rfl⟩
        have lPD : PD.length ≤ 2000 := by rw [← hPD, List.length_append]; omega
        have hnx : P ++ depsE v T2 (l.take (i + 1)) = (PD ++ depE v T2 ⟨s, hh, o⟩) ++ ints (vb hh.toNat) := by rw [htk, ← hPD]; simp only [List.append_assoc]
        rw [hPD]
        have hDe := depE_len v T2 (by omega) ⟨s, hh, o⟩ hdf.2.1
        have hHe := vbI_len hh hdg.2
        have HPU := Lib.hid (fun (W' : World) => put1_any hh hdg W')
        have HNX := Lib.hid hnx
        have hC2r : Kd.C Kd.string wr A2 T2.length T2 := by
         obtain ⟨A', c', e, _, h2⟩ := H.out.tab
         injection e with e1 e2 e3
         subst e1
         exact h2
        have HTX := Lib.hid (fun (W' : World) (hb : Below wr.heap.size wr W') => rtext9_any v A2 c2 T2 s W' (Kd.C_below hC2r hb) hc2 (by omega) (by have := hdf.2.1; omega) hdn)
        have hde : depE v T2 ⟨s, hh, o⟩ = textE v T2 s := by unfold depE; rw [if_pos (by have := HV.out; omega)]
        rw [hde] at hDe HNX
        clear htk hdd hrd hmem hdf hdg hdn hle hPD hnx hC2r hde
        generalize textE v T2 s = t1 at *
        generalize ints (vb hh.toNat) = t2 at *
        have hadd1 := add_str PD t1 (by omega)
        have hadd2 := add_str (PD ++ t1) t2 (by rw [List.length_append]; omega)
        have hba : Below wr.heap.size wr (wr.alloc (.cells #[.string s, .int .u64 hh, .bool o] 113)) := (Below.refl _ _).alloc (Nat.le_refl _) _
        have hka : (wr.alloc (.cells #[.string s, .int .u64 hh, .bool o] 113)).heap[wr.heap.size]? = some (.cells #[.string s, .int .u64 hh, .bool o] 113 (0, 0)) := heap_new _ _
        have HBA := Lib.hid hba
        have HKA := Lib.hid hka
        clear hba hka
        go_wp2_with fail
        refine (HTX.out _ HBA.out).mono ?_
        rintro e wb ⟨rfl, hb⟩
        have hk := blk_below HKA.out hb
        have e1 : wb.cell? ⟨wr.heap.size, 1, none⟩ = some (.int .u64 hh) := (blk_cell hk 1).trans rfl
        have HB1 := Lib.hid (HBA.out.trans (hb.mono HBA.out.size))
        clear hb hk g0 g1 g2
        go_wp2_with fail
        refine (HPU.out wb).mono ?_
        rintro e wc ⟨rfl, hb⟩
        have HH := Lib.hid (H.out.below (HB1.out.trans (hb.mono HB1.out.size)))
        clear hb e1
        go_wp2_with fail
        go_roundw
        case rel => exact ⟨i + 1, by omega, by go_num, by rw [HNX.out, List.append_assoc], HH⟩
        case measure => simp [intOf]; omega
       ·obtain rfl : i = l.length := by omega
        have hdl : decide ((l.length : Int) < (l.length : Int)) = false := decide_eq_false (by omega)
        rw [List.take_length]
        obtain ⟨PE, hPE⟩ : ∃ p, P ++ depsE v T2 l = p := ⟨_, rfl⟩
        have hle := depsE_len v T2 (by omega) l (fun y hy => ⟨(HM.out.d y hy).2.1, (HDR.out y hy).2⟩)
        have lPE : PE.length ≤ 2000 := by rw [← hPE, List.length_append]; omega
        rw [hPE]
        obtain ⟨q4, hq4⟩ : ∃ q, ints (vb x4.toNat) = q := ⟨_, rfl⟩
        obtain ⟨q5, hq5⟩ : ∃ q, ints (vb x5.toNat) = q := ⟨_, rfl⟩
        have l4 : q4.length ≤ 10 := by rw [← hq4]; exact vbI_len x4 HR4.out.2
        have l5 : q5.length ≤ 10 := by rw [← hq5]; exact vbI_len x5 HR5.out.2
        have HQ4 := Lib.hid (fun (W' : World) => put1_any x4 HR4.out W')
        have HQ5 := Lib.hid (fun (W' : World) => put1_any x5 HR5.out W')
        rw [hq4] at HQ4
        rw [hq5] at HQ5
        have hadd4 := add_str PE q4 (by omega)
        have hadd5 := add_str (PE ++ q4) q5 (by rw [List.length_append]; omega)
        have HPE := Lib.hid hPE
        have HQ45 := Lib.hid (And.intro hq4 hq5)
        clear hPE hle hq4 hq5
        have y4 : (wr).cell? ⟨b5, 4, none⟩ = some (.int .u64 x4) := (blk_cell H.out.box 4).trans rfl
        go_wp2_with fail
        refine (HQ4.out wr).mono ?_
        rintro e wb ⟨rfl, hb⟩
        have HZ := Lib.hid (H.out.below hb)
        clear hb y3 y4
        have y5 : (wb).cell? ⟨b5, 5, none⟩ = some (.int .u64 x5) := (blk_cell HZ.out.box 5).trans rfl
        go_wp2_with fail
        refine (HQ5.out wb).mono ?_
        rintro e wc ⟨rfl, hb⟩
        have HZ := Lib.hid (HZ.out.below hb)
        clear hb y5
        have HLE : Hid (lastE v T2 k0 x1 x2 l x4 x5 x6 = PE ++ (q4 ++ q5)) := Lib.hid (by
         unfold lastE bodyE
         rw [if_neg HKN.out.2, if_pos (show 2 ≤ v by have := HV.out; omega), if_neg (show ¬ 3 ≤ v by have := HV.out; omega), HQ45.out.2, ← HPE.out, ← HPP.out, ← HP0.out, ← HQE.out.1, ← HQE.out.2.1, ← HQE.out.2.2.1, ← HQE.out.2.2.2, ← HQ45.out.1, HKN.out.1, Int.toNat_natCast]
         rw [show ints (vb ((1 : Int).toNat)) = [1] from vb_k 1 (by omega)]
         simp only [List.append_assoc, List.append_nil])
        have hmr : (rows.map strOfNums).length ≤ 1000000 := by rw [List.length_map]; have := HRL.out; omega
        go_wp2_with (at_builtin; refine Halt.mk ?_)
        refine Halt.of ?_
        have hb4 : Below wc.heap.size wc (wc.alloc (.cells #[.string (strOfNums (PE ++ (q4 ++ q5)))] 9)) := (Below.refl _ _).alloc (Nat.le_refl _) _
        have hk4 : (wc.alloc (.cells #[.string (strOfNums (PE ++ (q4 ++ q5)))] 9)).heap[wc.heap.size]? = some (.cells #[.string (strOfNums (PE ++ (q4 ++ q5)))] 9 (0, 0)) := heap_new _ _
        have hZ4 := HZ.out.below hb4
        refine Kd.R_append_rows Kd.string (w0 := Wq) Wq.heap.size rfl (.tmp 164) (.tmp 166) 45 9 (.string ⟨#[]⟩) 16 rfl Try.underlying45 info_str9 rfl (by decide) (by omega) _ (rows.map strOfNums) [strOfNums (PE ++ (q4 ++ q5))] _ _ _ (fun _ => True) (fun _ => False) rfl rfl hZ4.rw (row_val _ hk4) ?_ (fun _ h => h.elim) (fun _ _ => trivial) hZ4.bl hZ4.bl.size (by omega) ?_
        ·rintro _ _ ⟨rfl, rfl⟩; rfl
        intro v6 w6 hR6 hb6 hg6 hat6
        have e6 : rows.map strOfNums ++ [strOfNums (PE ++ (q4 ++ q5))] = ((rows ++ [(PE ++ (q4 ++ q5))]).map strOfNums) := by rw [List.map_append]; rfl
        rw [e6] at hR6
        have h6 := hZ4.pushed hR6 hb6 hg6 hat6
        obtain ⟨A8, c8, e8, hc8, hC8⟩ := h6.tab
        obtain ⟨rfl, _, rfl⟩ : A2 = A8 ∧ T2.length = T2.length ∧ c2 = c8 := by injection e8 with a1 a2 a3; exact ⟨a1, a2, a3⟩
        have HE := Lib.hid (And.intro h6 (And.intro hc8 hC8))
        obtain ⟨Ar, cr, e9⟩ := Kd.R_slice hR6
        rw [List.length_map, List.length_append, List.length_singleton] at e9
        subst e9
        clear hR6 hb6 hg6 hat6 e6 h6 e8 hc8 hC8 hb4 hk4 hZ4
        go_wp2_with fail
        go_ret3
        obtain ⟨h6, hc8, hC8⟩ := HE.out
        refine ⟨_, A2, c2, rfl, ?_, hc8, hC8, h6.bl, h6.tb.imp (fun h => by obtain ⟨e1, e2⟩ := h; injection e2 with a1 a2 a3; exact ⟨a1, a3, e1⟩) (fun hR => Kd.R_mono hR (fun _ _ => trivial))⟩
        have h9 := h6.rw
        show Kd.R Kd.string 9 _ _ _ _ ((rows ++ [lastE v T2 k0 x1 x2 l x4 x5 x6]).map strOfNums)
        rw [HLE.out]
        first | exact h9 | (rw [moreE_self]; exact h9)
    ·have hkd : (k0 == 1) = false := by rw [hk]; rfl
     have hkd2 : decide (k0 = 1) = false := decide_eq_false (by omega)
     have y0 : (W).cell? ⟨b5, 0, none⟩ = some (.int .i64 k0) := (blk_cell HBX.out 0).trans rfl
     have HZ := HX
     have HLE : Hid (lastE v T2 k0 x1 x2 l x4 x5 x6 = p0) := Lib.hid (by
      unfold lastE
      rw [if_pos hk, List.append_nil, ← HP0.out, ← HQE.out.1, ← HQE.out.2.1, hk]
      rw [show ints (vb ((2 : Int).toNat)) = [2] from vb_k 2 (by omega)])
     clear hk
     have hmr : (rows.map strOfNums).length ≤ 1000000 := by rw [List.length_map]; have := HRL.out; omega
     go_wp2_with (at_builtin; refine Halt.mk ?_)
     refine Halt.of ?_
     have hb4 : Below W.heap.size W (W.alloc (.cells #[.string (strOfNums p0)] 9)) := (Below.refl _ _).alloc (Nat.le_refl _) _
     have hk4 : (W.alloc (.cells #[.string (strOfNums p0)] 9)).heap[W.heap.size]? = some (.cells #[.string (strOfNums p0)] 9 (0, 0)) := heap_new _ _
     have hZ4 := HZ.out.below hb4
     refine Kd.R_append_rows Kd.string (w0 := Wq) Wq.heap.size rfl (.tmp 164) (.tmp 166) 45 9 (.string ⟨#[]⟩) 16 rfl Try.underlying45 info_str9 rfl (by decide) (by omega) _ (rows.map strOfNums) [strOfNums p0] _ _ _ (fun _ => True) (fun _ => False) rfl rfl hZ4.rw (row_val _ hk4) ?_ (fun _ h => h.elim) (fun _ _ => trivial) hZ4.bl hZ4.bl.size (by omega) ?_
     ·rintro _ _ ⟨rfl, rfl⟩; rfl
     intro v6 w6 hR6 hb6 hg6 hat6
     have e6 : rows.map strOfNums ++ [strOfNums p0] = ((rows ++ [p0]).map strOfNums) := by rw [List.map_append]; rfl
     rw [e6] at hR6
     have h6 := hZ4.pushed hR6 hb6 hg6 hat6
     obtain ⟨A8, c8, e8, hc8, hC8⟩ := h6.tab
     obtain ⟨rfl, _, rfl⟩ : A2 = A8 ∧ T2.length = T2.length ∧ c2 = c8 := by injection e8 with a1 a2 a3; exact ⟨a1, a2, a3⟩
     have HE := Lib.hid (And.intro h6 (And.intro hc8 hC8))
     obtain ⟨Ar, cr, e9⟩ := Kd.R_slice hR6
     rw [List.length_map, List.length_append, List.length_singleton] at e9
     subst e9
     clear hR6 hb6 hg6 hat6 e6 h6 e8 hc8 hC8 hb4 hk4 hZ4
     go_wp2_with fail
     go_ret3
     obtain ⟨h6, hc8, hC8⟩ := HE.out
     refine ⟨_, A2, c2, rfl, ?_, hc8, hC8, h6.bl, h6.tb.imp (fun h => by obtain ⟨e1, e2⟩ := h; injection e2 with a1 a2 a3; exact ⟨a1, a3, e1⟩) (fun hR => Kd.R_mono hR (fun _ _ => trivial))⟩
     have h9 := h6.rw
     show Kd.R Kd.string 9 _ _ _ _ ((rows ++ [lastE v T2 k0 x1 x2 l x4 x5 x6]).map strOfNums)
     rw [HLE.out]
     first | exact h9 | (rw [moreE_self]; exact h9)
set_option maxHeartbeats 8000000 in
set_option maxRecDepth 100000 in
theorem rput9_3 (Wq : World) (v : Int) (A : Option Addr) (c : Nat) (T : List ByteArray) (hC : Kd.C Kd.string Wq A T.length T) (hc : T.length ≤ c) (hT : T.length ≤ 100000) (k0 : Int) (x1 : ByteArray) (x2 : Int) (B : Option Addr) (d : Nat) (l : List S113) (x4 x5 : Int) (x6 : ByteArray)
  (hrow : Kd.C k113 Wq B l.length l) (hd : l.length ≤ d) (hok : RecOk x1 l x6) (hv : v = 3) (hm : mayB v k0 x1 x2 l x4 x5 x6 = true) (h2 : 0 ≤ x2 ∧ x2 < 18446744073709551616) (h4 : 0 ≤ x4 ∧ x4 < 18446744073709551616) (h5 : 0 ≤ x5 ∧ x5 < 18446744073709551616) (hdr : ∀ y ∈ l, 0 ≤ y.f1 ∧ y.f1 < 18446744073709551616) :
  Calls Try.prog 33 #[.int .i64 v, .slice A T.length c, .agg #[.int .i64 k0, .string x1, .int .u64 x2, .slice B l.length d, .int .u64 x4, .int .u64 x5, .string x6]] Wq (RPutPost Wq A c T (putF v T k0 x1 x2 l x4 x5 x6)) := by
 have hpf : putF v T k0 x1 x2 l x4 x5 x6 = ((moreE T (tnewOn T (tnew (namesL x1 l x6)))) ++ [lastE v (tnewOn T (tnew (namesL x1 l x6))) k0 x1 x2 l x4 x5 x6], (tnewOn T (tnew (namesL x1 l x6))), 0) := by
  unfold putF
  rw [if_pos (show 1 ≤ v ∧ v ≤ 3 by omega), if_pos hm]
  rw [if_pos (show 1 < v by omega)]
 rw [hpf]
 obtain ⟨wz, hwz⟩ : ∃ wz, (Wq.alloc (.cells #[.int .i64 k0, .string x1, .int .u64 x2, .slice B l.length d, .int .u64 x4, .int .u64 x5, .string x6] 62)).alloc (.cells #[] 9) = wz := ⟨_, rfl⟩
 have hbz : Below Wq.heap.size Wq wz := by rw [← hwz]; exact ((Below.refl _ _).alloc (Nat.le_refl _) _).alloc (by rw [heap_size_alloc]; omega) _
 have hkz : wz.heap[Wq.heap.size]? = some (.cells #[.int .i64 k0, .string x1, .int .u64 x2, .slice B l.length d, .int .u64 x4, .int .u64 x5, .string x6] 62 (0, 0)) := by rw [← hwz, heap_new_old _ _ _ (by rw [heap_size_alloc]; omega)]; exact heap_new _ _
 have hke : wz.heap[Wq.heap.size + 1]? = some (.cells #[] 9 (0, 0)) := by rw [← hwz]; exact heap_new2 _ _ _
 obtain ⟨b5, hb5⟩ : ∃ b, Wq.heap.size = b := ⟨_, rfl⟩
 rw [hb5] at hkz hke
 have hre := R_empty Kd.string wz Wq.heap.size (b5 + 1) 9 (fun _ => True) hke (by omega) trivial
 have M := may_facts hm
 have HMY := Lib.hid (rmay_any v k0 x1 x2 l x4 x5 x6 B d wz (Kd.C_below hrow hbz))
 rw [hm] at HMY
 have HC := Lib.hid hC
 have HRO := Lib.hid hrow
 have HBZ := Lib.hid hbz
 have HKZ := Lib.hid hkz
 have HWZ := Lib.hid hwz
 have HREZ := Lib.hid hre
 have HB5 := Lib.hid hb5
 have HM := Lib.hid M
 have HR2 := Lib.hid h2
 have HR4 := Lib.hid h4
 have HR5 := Lib.hid h5
 have HDR := Lib.hid hdr
 have HV := Lib.hid hv
 have HKW := Lib.hid (show IntKind.u64.wrap k0 = k0 by have := M.k; rw [IntKind.wrap_u64]; omega)
 have HLW := Lib.hid (show IntKind.u64.wrap (l.length : Int) = (l.length : Int) by have := M.n; rw [IntKind.wrap_u64]; omega)
 have hln : l.length ≤ 16 := M.n
 have HNM := Lib.hid (fun (Wq' : World) (hb : Below Wq.heap.size Wq Wq') => tephraref08_Names.calls 6001 k0 x1 x2 B d l x4 x5 x6 _ Wq' (Kd.C_below hrow hb) hd (names_is k0 x1 x2 l x4 x5 x6 (by omega) _ (by omega)))
 have d1 : decide (v < 1) = false := decide_eq_false (by omega)
 have d3 : decide (3 < v) = false := decide_eq_false (by omega)
 have d2 : decide (1 < v) = true := decide_eq_true (by omega)
 have d4 : decide (v < 3) = false := decide_eq_false (by omega)
 have d5 : decide (2 < v) = true := decide_eq_true (by omega)
 clear hpf hC hrow hbz hkz hke hre hwz hb5 M h2 h4 h5 hdr hm hv hok
 go_enter Try.func33, Try.ntmps33
 go_wp2_with fail
 rw [HWZ.out, HB5.out]
 refine HMY.out.mono ?_
 rintro e wa ⟨rfl, hb⟩
 have HBA := Lib.hid (HBZ.out.trans (hb.mono HBZ.out.size))
 have HBX := Lib.hid (blk_below HKZ.out hb)
 have HRE := Lib.hid (Kd.R_below HREZ.out hb)
 clear hb HREZ HWZ HKZ
 obtain ⟨y0, y1, y2, y3, y4, y5, y6⟩ := facts7 HBX.out
 go_wp2_with fail
 clear y0 y1 y2 y3 y4 y5 y6
 refine (HNM.out wa HBA.out).mono ?_
 rintro e wb ⟨vn, rfl, hRn, hb⟩
 obtain ⟨An, cn, rfl⟩ := Kd.R_slice hRn
 have HNS := Lib.hid (names_few (x1 := x1) (l := l) (x6 := x6) HM.out.t.2 HM.out.n (fun d hd => (HM.out.d d hd).2.1) HM.out.tag.1)
 generalize hns : tnew (namesL x1 l x6) = ns at *
 have HNN := Lib.hid hns
 have hbb : Below Wq.heap.size Wq wb := HBA.out.trans (hb.mono HBA.out.size)
 have hsa : b5 + 1 < wa.heap.size := (own_typed_R HRE.out (b5 + 1) rfl).2.1
 have hst : RPSt Wq wb b5 #[.int .i64 k0, .string x1, .int .u64 x2, .slice B l.length d, .int .u64 x4, .int .u64 x5, .string x6] A c T (.slice A T.length c) T (.slice (some ⟨b5 + 1, 0, none⟩) 0 0) [] (.slice An ns.length cn) ns :=
  ⟨hbb, blk_below HBX.out hb, ⟨HC.out, hc⟩, .inl ⟨rfl, rfl⟩, Kd.R_below HRE.out hb, Kd.R_mono (Kd.R_lower (Kd.R_bound hRn) HBA.out.size) (fun k hk e => by injection e with e; replace e : k = b5 + 1 := e; have := hk.2.1; have := HB5.out; omega)⟩
 have HST := Lib.hid hst
 clear hb hbb hRn hst hns HBX HRE HNM HBA hsa
 go_wp2_with fail
 go_loopw [1, 9, 11] (fun u1 u9 u11 wr => ∃ (i : Nat), i ≤ ns.length ∧ u11 = .int .i64 (i : Int) ∧ Hid (RPSt Wq wr b5 #[.int .i64 k0, .string x1, .int .u64 x2, .slice B l.length d, .int .u64 x4, .int .u64 x5, .string x6] A c T u1 (tnewOn T (ns.take i)) u9 (moreE T (tnewOn T (ns.take i))) (.slice An ns.length cn) ns)) (fun _ _ u _ => ns.length - (intOf u).toNat)
 case atStart => exact ⟨0, by omega, rfl, Lib.hid (by rw [List.take_zero, show tnewOn T [] = T from rfl, moreE_self]; exact HST.out)⟩
 case round =>
  clear HST
  obtain ⟨i, hi, rfl, H⟩ := hrel
  have hn18 := HNS.out.1
  by_cases hlt : i < ns.length
  ·have hdl : decide ((i : Int) < (ns.length : Int)) = true := decide_eq_true (by omega)
   obtain ⟨adn, hAn, hcell⟩ := Kd.at_string (Kd.R_reads' H.out.nm).2.2 (i : Int) (by omega) (by omega)
   subst hAn
   rw [Int.toNat_natCast] at hcell
   obtain ⟨s, hs⟩ : ∃ s, ns[i] = s := ⟨_, rfl⟩
   have hrd : rdOf ByteArray.empty ns (i : Int) = s := by simp [rdOf, hlt, hs]
   rw [hrd] at hcell
   have HRD := Lib.hid hrd
   have hsz := HNS.out.2 s (hs ▸ List.getElem_mem _)
   have htk := tnewOn_take T ns i hlt
   rw [hs] at htk
   have hll := tnewOn_len T (ns.take i)
   have hge := tnewOn_ge T (ns.take i)
   rw [List.length_take] at hll
   generalize tnewOn T (ns.take i) = L at *
   obtain ⟨A2, c2, rfl, hc2, hC2⟩ := H.out.tab
   have HPL := Lib.hid (tephraref07_Place.calls (L.length + 1) A2 c2 L s (posI8 L s) wr hC2 hc2 (place_is8 L (by omega) s _ (by omega)))
   have hpd : decide (posI8 L s < 0) = !(isIn L s) := by
    unfold posI8
    cases isIn L s with
    | true => simp
    | false => simp
   have HTK := Lib.hid htk
   have HSZ := Lib.hid (And.intro hsz (And.intro hll hge))
   clear hrd hs htk hsz hll hge hC2
   by_cases hin : s ∈ L
   ·rw [isIn_iff.2 hin, Bool.not_true] at hpd
    have HMO := Lib.hid (And.intro (moreE_in (T := T) hin) (tput_in hin))
    generalize posI8 L s = q at HPL hpd
    clear hin
    go_wp2_with fail
    refine HPL.out.mono ?_
    rintro e wc ⟨rfl, hdr⟩
    have hb := hdr.below
    have HH := Lib.hid (H.out.below hb)
    clear hdr hb hcell
    go_wp2_with fail
    go_roundw
    case rel => exact ⟨i + 1, by omega, by go_num, Lib.hid (by rw [HTK.out, HMO.out.2]; exact HH.out)⟩
    case measure => simp [intOf]; omega
   ·rw [isIn_ne.2 hin, Bool.not_false] at hpd
    have HMO := Lib.hid (moreE_out (T := T) HSZ.out.2.2 hin)
    have hadd := add_def s (by have := HSZ.out.1; omega)
    have HNI := Lib.hid hin
    generalize posI8 L s = q at HPL hpd
    clear hin
    go_wp2_with fail
    refine HPL.out.mono ?_
    rintro e wc ⟨rfl, hdr⟩
    have hb := hdr.below
    have HH := Lib.hid (H.out.below hb)
    have hcell2 := pw_cell_below hb hcell
    clear hdr hb hcell
    obtain ⟨A9, c9, e9⟩ := Kd.R_slice HH.out.rw
    rw [List.length_map] at e9
    subst e9
    have hmr : ((moreE T L).map strOfNums).length ≤ 1000000 := by have := HSZ.out.2.1; rw [List.length_map]; unfold moreE; rw [List.length_map, List.length_drop]; omega
    go_wp2_with (at_builtin; refine Halt.mk ?_)
    refine Halt.of ?_
    have hb4 : Below wc.heap.size wc (wc.alloc (.cells #[.string (strOfNums (defE s))] 9)) := (Below.refl _ _).alloc (Nat.le_refl _) _
    have hk4 : (wc.alloc (.cells #[.string (strOfNums (defE s))] 9)).heap[wc.heap.size]? = some (.cells #[.string (strOfNums (defE s))] 9 (0, 0)) := heap_new _ _
    have hH4 := HH.out.below hb4
    refine Kd.R_append_rows Kd.string (w0 := Wq) Wq.heap.size rfl (.tmp 48) (.tmp 54) 45 9 (.string ⟨#[]⟩) 16 rfl Try.underlying45 info_str9 rfl (by decide) (by omega) _ ((moreE T L).map strOfNums) [strOfNums (defE s)] _ _ _ (fun _ => True) (fun _ => False) rfl rfl hH4.rw (row_val _ hk4) ?_ (fun _ h => h.elim) (fun _ _ => trivial) hH4.bl hH4.bl.size (by omega) ?_
    ·rintro _ _ ⟨rfl, rfl⟩; rfl
    intro v6 w6 hR6 hb6 hg6 hat6
    have e6 : (moreE T L).map strOfNums ++ [strOfNums (defE s)] = ((moreE T L ++ [defE s]).map strOfNums) := by rw [List.map_append]; rfl
    rw [e6] at hR6
    have h6 := hH4.pushed hR6 hb6 hg6 hat6
    obtain ⟨A6, c6, e6v, hc6, hC6⟩ := h6.tab
    obtain ⟨rfl, _, rfl⟩ : A2 = A6 ∧ L.length = L.length ∧ c2 = c6 := by injection e6v with a1 a2 a3; exact ⟨a1, a2, a3⟩
    have HTP := Lib.hid (rtput_any A2 c2 L s w6 hC6 hc6 (by have := HSZ.out.2.1; omega))
    obtain ⟨ad9, hA9, hcell6⟩ := Kd.at_string (Kd.R_reads' h6.nm).2.2 (i : Int) (by omega) (by omega)
    obtain rfl : adn = ad9 := Option.some.inj hA9
    rw [Int.toNat_natCast, HRD.out] at hcell6
    have H6 := Lib.hid h6
    clear hR6 hb6 hg6 hat6 e6 h6 e6v hC6 hA9 hb4 hk4 hH4 hcell2 hadd HPL
    go_wp2_with fail
    refine HTP.out.mono ?_
    rintro e w7 ⟨A7, c7, rfl, hc7, hC7, hb7, hR7⟩
    have H7 := Lib.hid (H6.out.tabled hb7 (hR7 HNI.out))
    clear hC7 hb7 hR7 hcell6 HTP H6
    go_wp2_with fail
    go_roundw
    case rel => exact ⟨i + 1, by omega, by go_num, Lib.hid (by rw [HTK.out, HMO.out]; exact H7.out)⟩
    case measure => simp [intOf]; omega
  ·obtain rfl : i = ns.length := by omega
   rw [List.take_of_length_le (Nat.le_refl _)] at H
   have hrl : (moreE T (tnewOn T ns)).length ≤ 100 := by unfold moreE; rw [List.length_map, List.length_drop]; have := tnewOn_len T ns; omega
   have hin : v ≠ 1 → ∀ s ∈ namesL x1 l x6, s ∈ tnewOn T ns := fun _ s hs => by rw [mem_tnewOn, ← HNN.out, mem_tnew]; exact .inr hs
   have hT2 : (tnewOn T ns).length ≤ 200000 := by have := tnewOn_len T ns; omega
   generalize tnewOn T ns = T2 at *
   generalize moreE T T2 = rows at *
   obtain ⟨A9, c9, e9⟩ := Kd.R_slice H.out.rw
   rw [List.length_map] at e9
   subst e9
   obtain ⟨A2, c2, e2, hc2, hC2⟩ := H.out.tab
   subst e2
   have HC2 := Lib.hid hC2
   have HRW := Lib.hid hrl
   have HRL := Lib.hid hrl
   have HIN := Lib.hid hin
   obtain ⟨q0, hq0⟩ : ∃ q, ints (vb k0.toNat) = q := ⟨_, rfl⟩
   obtain ⟨q1, hq1⟩ : ∃ q, textE v T2 x1 = q := ⟨_, rfl⟩
   obtain ⟨q2, hq2⟩ : ∃ q, ints (vb x2.toNat) = q := ⟨_, rfl⟩
   obtain ⟨q3, hq3⟩ : ∃ q, ints (vb ((l.length : Int)).toNat) = q := ⟨_, rfl⟩
   have hK := HM.out.k
   have l0 : q0.length ≤ 10 := by rw [← hq0]; exact vbI_len k0 (by omega)
   have l1 : q1.length ≤ 74 := by rw [← hq1]; exact textE_len v T2 (by omega) x1 HM.out.t.2
   have l2 : q2.length ≤ 10 := by rw [← hq2]; exact vbI_len x2 HR2.out.2
   have l3 : q3.length ≤ 10 := by rw [← hq3]; exact vbI_len (l.length : Int) (by omega)
   have HQ0 := Lib.hid (fun (W' : World) => put1_any k0 (by omega) W')
   have HQ1 := Lib.hid (fun (W' : World) (hb : Below wr.heap.size wr W') => rtext9_any v A2 c2 T2 x1 W' (Kd.C_below HC2.out hb) hc2 (by omega) (by have := HM.out.t.2; omega) (fun h => hin h x1 (by unfold namesL; simp)))
   have HQ2 := Lib.hid (fun (W' : World) => put1_any x2 HR2.out W')
   have HQ3 := Lib.hid (fun (W' : World) => put1_any (l.length : Int) (by omega) W')
   rw [hq0] at HQ0
   rw [hq1] at HQ1
   rw [hq2] at HQ2
   rw [hq3] at HQ3
   have HAD := Lib.hid (add_str q0 q1 (by omega))
   obtain ⟨p0, hp0⟩ : ∃ p, q0 ++ q1 = p := ⟨_, rfl⟩
   have lp0 : p0.length ≤ 84 := by rw [← hp0, List.length_append]; omega
   have HAD2 := Lib.hid (add_str p0 q2 (by omega))
   have HAD3 := Lib.hid (add_str (p0 ++ q2) q3 (by rw [List.length_append]; omega))
   obtain ⟨P, hP⟩ : ∃ p, p0 ++ q2 ++ q3 = p := ⟨_, rfl⟩
   have lP : P.length ≤ 104 := by rw [← hP, List.length_append, List.length_append]; omega
   have HQE := Lib.hid (And.intro hq0 (And.intro hq1 (And.intro hq2 hq3)))
   have HP0 := Lib.hid hp0
   have HPP := Lib.hid hP
   have HBX := Lib.hid H.out.box
   have HKK := Lib.hid hK
   clear hC2 hq0 hq1 hq2 hq3 hp0 hP hin hK
   go_wp2_with fail
   refine region_calm (n := 11) (byList [isV (.pointer (some ⟨b5, 0, none⟩)), isV (.int .i64 k0), isV (.int .u64 k0), isV (.string (strOfNums q0)), isV (.int .i64 v), isV (.slice A2 T2.length c2), isV (.pointer (some ⟨b5, 1, none⟩)), isV (.string x1), isV (.string (strOfNums q1)), isV (.string (strOfNums (q0 ++ q1))), isV (.string (strOfNums (q0 ++ q1)))]) (by kernel_rfl) rfl (byList_lasts ?_) (by kernel_rfl) (by kernel_rfl) (by kernel_rfl) (show AllLt 11 _ from ?_) ?_
   ·intro p hp
    simp only [List.mem_cons, List.not_mem_nil, or_false] at hp
    rcases hp with rfl | rfl | rfl | rfl | rfl | rfl | rfl | rfl | rfl | rfl | rfl <;> first | exact isV_lasts | exact isC_lasts
   ·refine allLt_succ (allLt_succ (allLt_succ (allLt_succ (allLt_succ (allLt_succ (allLt_succ (allLt_succ (allLt_succ (allLt_succ (allLt_succ (allLt_zero _) ?_) ?_) ?_) ?_) ?_) ?_) ?_) ?_) ?_) ?_) ?_
    ·refine StepOk.run (o := ?o0) ?ho0 ?hg0 ?h0
     case ho0 => simp only [List.getElem?_toArray, List.getElem?_cons_succ, List.getElem?_cons_zero]; rfl
     case hg0 => rfl
     case h0 =>
     intro a W hS hB hd
     have e5 : a.tmps[5]? = some (.pointer (some ⟨b5, 0, none⟩)) := hS.get rfl rfl
     refine wp_value (c := .pointer (some ⟨b5, 0, none⟩)) ?_ rfl
     go_simp
    ·refine StepOk.run (o := ?o1) ?ho1 ?hg1 ?h1
     case ho1 => simp only [List.getElem?_toArray, List.getElem?_cons_succ, List.getElem?_cons_zero]; rfl
     case hg1 => rfl
     case h1 =>
     intro a W hS hB hd
     have e62 : a.tmps[62]? = some (.pointer (some ⟨b5, 0, none⟩)) := (hd 0 rfl).bool rfl rfl rfl
     refine wp_value (c := .int .i64 k0) ?_ rfl
     have hx := blk_below HBX.out hB
     have hcW : W.cell? ⟨b5, 0, none⟩ = some (.int .i64 k0) := (blk_cell hx 0).trans rfl
     go_simp
    ·refine StepOk.run (o := ?o2) ?ho2 ?hg2 ?h2
     case ho2 => simp only [List.getElem?_toArray, List.getElem?_cons_succ, List.getElem?_cons_zero]; rfl
     case hg2 => rfl
     case h2 =>
     intro a W hS hB hd
     have e63 : a.tmps[63]? = some (.int .i64 k0) := (hd 1 rfl).bool rfl rfl rfl
     refine wp_value (c := .int .u64 k0) ?_ rfl
     have hw := HKW.out
     go_simp
    ·refine StepOk.run (o := ?o3) ?ho3 ?hg3 ?h3
     case ho3 => simp only [List.getElem?_toArray, List.getElem?_cons_succ, List.getElem?_cons_zero]; rfl
     case hg3 => rfl
     case h3 =>
     intro a W hS hB hd
     have e64 : a.tmps[64]? = some (.int .u64 k0) := (hd 2 rfl).bool rfl rfl rfl
     refine wp_called Try.func70 (by kernel_rfl) rfl #[.int .u64 k0] rfl (by simp [Act.eval, *]) ?_
     refine (HQ0.out W).mono ?_
     rintro e w9 ⟨rfl, hb9⟩
     exact ⟨_, rfl, rfl, hb9⟩
    ·refine StepOk.run (o := ?o4) ?ho4 ?hg4 ?h4
     case ho4 => simp only [List.getElem?_toArray, List.getElem?_cons_succ, List.getElem?_cons_zero]; rfl
     case hg4 => rfl
     case h4 =>
     intro a W hS hB hd
     have e0 : a.tmps[0]? = some (.int .i64 v) := hS.get rfl rfl
     refine wp_value (c := .int .i64 v) ?_ rfl
     go_simp
    ·refine StepOk.run (o := ?o5) ?ho5 ?hg5 ?h5
     case ho5 => simp only [List.getElem?_toArray, List.getElem?_cons_succ, List.getElem?_cons_zero]; rfl
     case hg5 => rfl
     case h5 =>
     intro a W hS hB hd
     have e1 : a.tmps[1]? = some (.slice A2 T2.length c2) := hS.get rfl rfl
     refine wp_value (c := .slice A2 T2.length c2) ?_ rfl
     go_simp
    ·refine StepOk.run (o := ?o6) ?ho6 ?hg6 ?h6
     case ho6 => simp only [List.getElem?_toArray, List.getElem?_cons_succ, List.getElem?_cons_zero]; rfl
     case hg6 => rfl
     case h6 =>
     intro a W hS hB hd
     have e5 : a.tmps[5]? = some (.pointer (some ⟨b5, 0, none⟩)) := hS.get rfl rfl
     refine wp_value (c := .pointer (some ⟨b5, 1, none⟩)) ?_ rfl
     go_simp
    ·refine StepOk.run (o := ?o7) ?ho7 ?hg7 ?h7
     case ho7 => simp only [List.getElem?_toArray, List.getElem?_cons_succ, List.getElem?_cons_zero]; rfl
     case hg7 => rfl
     case h7 =>
     intro a W hS hB hd
     have e68 : a.tmps[68]? = some (.pointer (some ⟨b5, 1, none⟩)) := (hd 6 rfl).bool rfl rfl rfl
     refine wp_value (c := .string x1) ?_ rfl
     have hx := blk_below HBX.out hB
     have hcW : W.cell? ⟨b5, 1, none⟩ = some (.string x1) := (blk_cell hx 1).trans rfl
     go_simp
    ·refine StepOk.run (o := ?o8) ?ho8 ?hg8 ?h8
     case ho8 => simp only [List.getElem?_toArray, List.getElem?_cons_succ, List.getElem?_cons_zero]; rfl
     case hg8 => rfl
     case h8 =>
     intro a W hS hB hd
     have e66 : a.tmps[66]? = some (.int .i64 v) := (hd 4 rfl).bool rfl rfl rfl
     have e67 : a.tmps[67]? = some (.slice A2 T2.length c2) := (hd 5 rfl).bool rfl rfl rfl
     have e69 : a.tmps[69]? = some (.string x1) := (hd 7 rfl).bool rfl rfl rfl
     refine wp_called Try.func71 (by kernel_rfl) rfl #[.int .i64 v, .slice A2 T2.length c2, .string x1] rfl (by simp [Act.eval, *]) ?_
     refine (HQ1.out W hB).mono ?_
     rintro e w9 ⟨rfl, hb9⟩
     exact ⟨_, rfl, rfl, hb9⟩
    ·refine StepOk.run (o := ?o9) ?ho9 ?hg9 ?h9
     case ho9 => simp only [List.getElem?_toArray, List.getElem?_cons_succ, List.getElem?_cons_zero]; rfl
     case hg9 => rfl
     case h9 =>
     intro a W hS hB hd
     have e65 : a.tmps[65]? = some (.string (strOfNums q0)) := (hd 3 rfl).bool rfl rfl rfl
     have e70 : a.tmps[70]? = some (.string (strOfNums q1)) := (hd 8 rfl).bool rfl rfl rfl
     refine wp_value (c := .string (strOfNums (q0 ++ q1))) ?_ rfl
     have hadd := HAD.out W
     go_simp
    ·refine StepOk.run (o := ?o10) ?ho10 ?hg10 ?h10
     case ho10 => simp only [List.getElem?_toArray, List.getElem?_cons_succ, List.getElem?_cons_zero]; rfl
     case hg10 => rfl
     case h10 =>
     intro a W hS hB hd
     have e71 : a.tmps[71]? = some (.string (strOfNums (q0 ++ q1))) := (hd 9 rfl).bool rfl rfl rfl
     refine wp_value (c := .string (strOfNums (q0 ++ q1))) ?_ rfl
     go_simp
   ·intro a W hS hB hh
    have e12 : a.tmps[12]? = some (.string (strOfNums (q0 ++ q1))) := (hh 10 (by omega)).bool rfl rfl rfl
    have HBR := Lib.hid hB
    have hlit := same_lit hS
    clear hh hS hB
    simp only [List.filterMap_cons, List.filterMap_nil, List.foldl_cons, List.foldl_nil, List.setIfInBounds_toArray, List.set_cons_zero, List.set_cons_succ] at hlit
    rw [show a.tmps.getD 12 undef = .string (strOfNums (q0 ++ q1)) by simp [Array.getD_eq_getD_getElem?, e12]] at hlit
    generalize a.tmps.getD 62 undef = z62 at hlit
    generalize a.tmps.getD 63 undef = z63 at hlit
    generalize a.tmps.getD 64 undef = z64 at hlit
    generalize a.tmps.getD 65 undef = z65 at hlit
    generalize a.tmps.getD 66 undef = z66 at hlit
    generalize a.tmps.getD 67 undef = z67 at hlit
    generalize a.tmps.getD 68 undef = z68 at hlit
    generalize a.tmps.getD 69 undef = z69 at hlit
    generalize a.tmps.getD 70 undef = z70 at hlit
    generalize a.tmps.getD 71 undef = z71 at hlit
    clear e12
    subst hlit
    have HX := Lib.hid (H.out.below HBR.out)
    rw [HP0.out]
    clear HBX HQ0 HQ1 HAD H
    have HBX := Lib.hid HX.out.box
    rcases HKK.out with hk | hk
    ·have hkd : (k0 == 1) = true := by rw [hk]; rfl
     have hkd2 : decide (k0 = 1) = true := decide_eq_true hk
     have hkn : ¬ k0 = 2 := by omega
     have HKN := Lib.hid (And.intro hk hkn)
     clear hk hkn
     have y0 : (W).cell? ⟨b5, 0, none⟩ = some (.int .i64 k0) := (blk_cell HBX.out 0).trans rfl
     go_wp2_with fail
     clear y0
     refine region_calm2 (n := 12) (byList [isV (.string (strOfNums p0)), isV (.pointer (some ⟨b5, 2, none⟩)), isV (.int .u64 x2), isV (.string (strOfNums q2)), isV (.string (strOfNums (p0 ++ q2))), isV (.pointer (some ⟨b5, 3, none⟩)), isV (.slice B l.length d), isV (.int .i64 (l.length : Int)), isV (.int .u64 (l.length : Int)), isV (.string (strOfNums q3)), isV (.string (strOfNums (p0 ++ q2 ++ q3))), isV (.string (strOfNums (p0 ++ q2 ++ q3)))]) (by kernel_rfl) rfl (byList_lasts ?_) (by kernel_rfl) (by kernel_rfl) (by kernel_rfl) (show AllLt 12 _ from ?_) ?_
     ·intro p hp
      simp only [List.mem_cons, List.not_mem_nil, or_false] at hp
      rcases hp with rfl | rfl | rfl | rfl | rfl | rfl | rfl | rfl | rfl | rfl | rfl | rfl <;> first | exact isV_lasts | exact isC_lasts
     ·refine allLt_succ (allLt_succ (allLt_succ (allLt_succ (allLt_succ (allLt_succ (allLt_succ (allLt_succ (allLt_succ (allLt_succ (allLt_succ (allLt_succ (allLt_zero _) ?_) ?_) ?_) ?_) ?_) ?_) ?_) ?_) ?_) ?_) ?_) ?_
      ·refine StepOk2.run (o := ?o0b) ?ho0b ?hg0b ?h0b
       case ho0b => first | (simp only [List.getElem?_toArray, List.getElem?_cons_succ, List.getElem?_cons_zero]; done) | (simp only [List.getElem?_toArray, List.getElem?_cons_succ, List.getElem?_cons_zero]; rfl)
       case hg0b => rfl
       case h0b =>
       intro a W hS hB hd hE
       have e12 : a.tmps[12]? = some (.string (strOfNums p0)) := hE.get (j := 11) rfl rfl rfl rfl
       refine wp_value (c := .string (strOfNums p0)) ?_ rfl
       go_simp
      ·refine StepOk2.of ?_
       refine StepOk.run (o := ?o1b) ?ho1b ?hg1b ?h1b
       case ho1b => first | (simp only [List.getElem?_toArray, List.getElem?_cons_succ, List.getElem?_cons_zero]; done) | (simp only [List.getElem?_toArray, List.getElem?_cons_succ, List.getElem?_cons_zero]; rfl)
       case hg1b => rfl
       case h1b =>
       intro a W hS hB hd
       have e5 : a.tmps[5]? = some (.pointer (some ⟨b5, 0, none⟩)) := hS.get rfl rfl
       refine wp_value (c := .pointer (some ⟨b5, 2, none⟩)) ?_ rfl
       go_simp
      ·refine StepOk2.of ?_
       refine StepOk.run (o := ?o2b) ?ho2b ?hg2b ?h2b
       case ho2b => first | (simp only [List.getElem?_toArray, List.getElem?_cons_succ, List.getElem?_cons_zero]; done) | (simp only [List.getElem?_toArray, List.getElem?_cons_succ, List.getElem?_cons_zero]; rfl)
       case hg2b => rfl
       case h2b =>
       intro a W hS hB hd
       have e76 : a.tmps[76]? = some (.pointer (some ⟨b5, 2, none⟩)) := (hd 1 rfl).bool rfl rfl rfl
       refine wp_value (c := .int .u64 x2) ?_ rfl
       have hx := blk_below HBX.out hB
       have hcW : W.cell? ⟨b5, 2, none⟩ = some (.int .u64 x2) := (blk_cell hx 2).trans rfl
       go_simp
      ·refine StepOk2.of ?_
       refine StepOk.run (o := ?o3b) ?ho3b ?hg3b ?h3b
       case ho3b => first | (simp only [List.getElem?_toArray, List.getElem?_cons_succ, List.getElem?_cons_zero]; done) | (simp only [List.getElem?_toArray, List.getElem?_cons_succ, List.getElem?_cons_zero]; rfl)
       case hg3b => rfl
       case h3b =>
       intro a W hS hB hd
       have e77 : a.tmps[77]? = some (.int .u64 x2) := (hd 2 rfl).bool rfl rfl rfl
       refine wp_called Try.func70 (by kernel_rfl) rfl #[.int .u64 x2] rfl (by simp [Act.eval, *]) ?_
       refine (HQ2.out W).mono ?_
       rintro e w9 ⟨rfl, hb9⟩
       exact ⟨_, rfl, rfl, hb9⟩
      ·refine StepOk2.of ?_
       refine StepOk.run (o := ?o4b) ?ho4b ?hg4b ?h4b
       case ho4b => first | (simp only [List.getElem?_toArray, List.getElem?_cons_succ, List.getElem?_cons_zero]; done) | (simp only [List.getElem?_toArray, List.getElem?_cons_succ, List.getElem?_cons_zero]; rfl)
       case hg4b => rfl
       case h4b =>
       intro a W hS hB hd
       have e75 : a.tmps[75]? = some (.string (strOfNums p0)) := (hd 0 rfl).bool rfl rfl rfl
       have e78 : a.tmps[78]? = some (.string (strOfNums q2)) := (hd 3 rfl).bool rfl rfl rfl
       refine wp_value (c := .string (strOfNums (p0 ++ q2))) ?_ rfl
       have hadd := HAD2.out W
       go_simp
      ·refine StepOk2.of ?_
       refine StepOk.run (o := ?o5b) ?ho5b ?hg5b ?h5b
       case ho5b => first | (simp only [List.getElem?_toArray, List.getElem?_cons_succ, List.getElem?_cons_zero]; done) | (simp only [List.getElem?_toArray, List.getElem?_cons_succ, List.getElem?_cons_zero]; rfl)
       case hg5b => rfl
       case h5b =>
       intro a W hS hB hd
       have e5 : a.tmps[5]? = some (.pointer (some ⟨b5, 0, none⟩)) := hS.get rfl rfl
       refine wp_value (c := .pointer (some ⟨b5, 3, none⟩)) ?_ rfl
       go_simp
      ·refine StepOk2.of ?_
       refine StepOk.run (o := ?o6b) ?ho6b ?hg6b ?h6b
       case ho6b => first | (simp only [List.getElem?_toArray, List.getElem?_cons_succ, List.getElem?_cons_zero]; done) | (simp only [List.getElem?_toArray, List.getElem?_cons_succ, List.getElem?_cons_zero]; rfl)
       case hg6b => rfl
       case h6b =>
       intro a W hS hB hd
       have e80 : a.tmps[80]? = some (.pointer (some ⟨b5, 3, none⟩)) := (hd 5 rfl).bool rfl rfl rfl
       refine wp_value (c := .slice B l.length d) ?_ rfl
       have hx := blk_below HBX.out hB
       have hcW : W.cell? ⟨b5, 3, none⟩ = some (.slice B l.length d) := (blk_cell hx 3).trans rfl
       go_simp
      ·refine StepOk2.of ?_
       refine StepOk.run (o := ?o7b) ?ho7b ?hg7b ?h7b
       case ho7b => first | (simp only [List.getElem?_toArray, List.getElem?_cons_succ, List.getElem?_cons_zero]; done) | (simp only [List.getElem?_toArray, List.getElem?_cons_succ, List.getElem?_cons_zero]; rfl)
       case hg7b => rfl
       case h7b =>
       intro a W hS hB hd
       have e81 : a.tmps[81]? = some (.slice B l.length d) := (hd 6 rfl).bool rfl rfl rfl
       refine wp_value (c := .int .i64 (l.length : Int)) ?_ rfl
       go_simp
      ·refine StepOk2.of ?_
       refine StepOk.run (o := ?o8b) ?ho8b ?hg8b ?h8b
       case ho8b => first | (simp only [List.getElem?_toArray, List.getElem?_cons_succ, List.getElem?_cons_zero]; done) | (simp only [List.getElem?_toArray, List.getElem?_cons_succ, List.getElem?_cons_zero]; rfl)
       case hg8b => rfl
       case h8b =>
       intro a W hS hB hd
       have e82 : a.tmps[82]? = some (.int .i64 (l.length : Int)) := (hd 7 rfl).bool rfl rfl rfl
       refine wp_value (c := .int .u64 (l.length : Int)) ?_ rfl
       have hw := HLW.out
       go_simp
      ·refine StepOk2.of ?_
       refine StepOk.run (o := ?o9b) ?ho9b ?hg9b ?h9b
       case ho9b => first | (simp only [List.getElem?_toArray, List.getElem?_cons_succ, List.getElem?_cons_zero]; done) | (simp only [List.getElem?_toArray, List.getElem?_cons_succ, List.getElem?_cons_zero]; rfl)
       case hg9b => rfl
       case h9b =>
       intro a W hS hB hd
       have e83 : a.tmps[83]? = some (.int .u64 (l.length : Int)) := (hd 8 rfl).bool rfl rfl rfl
       refine wp_called Try.func70 (by kernel_rfl) rfl #[.int .u64 (l.length : Int)] rfl (by simp [Act.eval, *]) ?_
       refine (HQ3.out W).mono ?_
       rintro e w9 ⟨rfl, hb9⟩
       exact ⟨_, rfl, rfl, hb9⟩
      ·refine StepOk2.of ?_
       refine StepOk.run (o := ?o10b) ?ho10b ?hg10b ?h10b
       case ho10b => first | (simp only [List.getElem?_toArray, List.getElem?_cons_succ, List.getElem?_cons_zero]; done) | (simp only [List.getElem?_toArray, List.getElem?_cons_succ, List.getElem?_cons_zero]; rfl)
       case hg10b => rfl
       case h10b =>
       intro a W hS hB hd
       have e79 : a.tmps[79]? = some (.string (strOfNums (p0 ++ q2))) := (hd 4 rfl).bool rfl rfl rfl
       have e84 : a.tmps[84]? = some (.string (strOfNums q3)) := (hd 9 rfl).bool rfl rfl rfl
       refine wp_value (c := .string (strOfNums (p0 ++ q2 ++ q3))) ?_ rfl
       have hadd := HAD3.out W
       go_simp
      ·refine StepOk2.of ?_
       refine StepOk.run (o := ?o11b) ?ho11b ?hg11b ?h11b
       case ho11b => first | (simp only [List.getElem?_toArray, List.getElem?_cons_succ, List.getElem?_cons_zero]; done) | (simp only [List.getElem?_toArray, List.getElem?_cons_succ, List.getElem?_cons_zero]; rfl)
       case hg11b => rfl
       case h11b =>
       intro a W hS hB hd
       have e85 : a.tmps[85]? = some (.string (strOfNums (p0 ++ q2 ++ q3))) := (hd 10 rfl).bool rfl rfl rfl
       refine wp_value (c := .string (strOfNums (p0 ++ q2 ++ q3))) ?_ rfl
       go_simp
     ·intro a W hS hB hh
      have e12 : a.tmps[12]? = some (.string (strOfNums (p0 ++ q2 ++ q3))) := (hh 11 (by omega)).bool rfl rfl rfl
      have HBR := Lib.hid hB
      have hlit := same_lit hS
      clear hh hS hB
      simp only [List.filterMap_cons, List.filterMap_nil, List.foldl_cons, List.foldl_nil, List.setIfInBounds_toArray, List.set_cons_zero, List.set_cons_succ] at hlit
      rw [show a.tmps.getD 12 undef = .string (strOfNums (p0 ++ q2 ++ q3)) by simp [Array.getD_eq_getD_getElem?, e12]] at hlit
      generalize a.tmps.getD 75 undef = z75 at hlit
      generalize a.tmps.getD 76 undef = z76 at hlit
      generalize a.tmps.getD 77 undef = z77 at hlit
      generalize a.tmps.getD 78 undef = z78 at hlit
      generalize a.tmps.getD 79 undef = z79 at hlit
      generalize a.tmps.getD 80 undef = z80 at hlit
      generalize a.tmps.getD 81 undef = z81 at hlit
      generalize a.tmps.getD 82 undef = z82 at hlit
      generalize a.tmps.getD 83 undef = z83 at hlit
      generalize a.tmps.getD 84 undef = z84 at hlit
      generalize a.tmps.getD 85 undef = z85 at hlit
      clear e12
      subst hlit
      rw [HPP.out]
      have HX2 := Lib.hid (HX.out.below HBR.out)
      clear HBX HX HQ2 HQ3 HAD2 HAD3
      have y3 : (W).cell? ⟨b5, 3, none⟩ = some (.slice B l.length d) := (blk_cell HX2.out.box 3).trans rfl
      go_wp2_with fail
      clear y3
      go_loopw [12, 13] (fun u12 u13 wr => ∃ (i : Nat), i ≤ l.length ∧ u13 = .int .i64 (i : Int) ∧ u12 = .string (strOfNums (P ++ depsE v T2 (l.take i))) ∧ Hid (RPSt Wq wr b5 #[.int .i64 k0, .string x1, .int .u64 x2, .slice B l.length d, .int .u64 x4, .int .u64 x5, .string x6] A c T (.slice A2 T2.length c2) T2 (.slice A9 rows.length c9) rows (.slice An ns.length cn) ns)) (fun _ u _ => l.length - (intOf u).toNat)
      case atStart => exact ⟨0, by omega, rfl, by simp [depsE], HX2⟩
      case round =>
       clear HX2
       obtain ⟨i, hi, rfl, rfl, H⟩ := hrel
       have y3 : (wr).cell? ⟨b5, 3, none⟩ = some (.slice B l.length d) := (blk_cell H.out.box 3).trans rfl
       by_cases hlt : i < l.length
       ·have hdl : decide ((i : Int) < (l.length : Int)) = true := decide_eq_true (by omega)
        obtain ⟨ad, hAd, g0, g1, g2⟩ := at_T113 (Kd.C_below HRO.out H.out.bl) (i : Int) (by omega) (by omega)
        subst hAd
        obtain ⟨dd, hdd⟩ : ∃ d, l[i] = d := ⟨_, rfl⟩
        have hrd : rd_T113 l (i : Int) = dd := by simp [rd_T113, hlt, hdd]
        rw [hrd, Int.toNat_natCast] at g0 g1 g2
        have hmem : dd ∈ l := hdd ▸ List.getElem_mem _
        have htk := depsE_take v T2 l i hlt
        rw [hdd] at htk
        have hdf := HM.out.d dd hmem
        have hdg := HDR.out dd hmem
        have hdn : v ≠ 1 → dd.f0 ∈ T2 := fun h => HIN.out h dd.f0 (by unfold namesL; rw [List.mem_append]; exact .inl (List.mem_cons_of_mem _ (List.mem_map.2 ⟨dd, hmem, rfl⟩)))
        have hle := depsE_len v T2 (by omega) (l.take i) (fun y hy => ⟨(HM.out.d y (List.mem_of_mem_take hy)).2.1, (HDR.out y (List.mem_of_mem_take hy)).2⟩)
        rw [List.length_take] at hle
        obtain ⟨s, hh, o⟩ := dd
        dsimp only at g0 g1 g2 hdf hdg hdn htk
        obtain ⟨PD, hPD⟩ : ∃ p, P ++ depsE v T2 (l.take i) = p := ⟨_, rfl⟩
        have lPD : PD.length ≤ 2000 := by rw [← hPD, List.length_append]; omega
        have hnx : P ++ depsE v T2 (l.take (i + 1)) = (PD ++ depE v T2 ⟨s, hh, o⟩) ++ ints (vb hh.toNat) := by rw [htk, ← hPD]; simp only [List.append_assoc]
        rw [hPD]
        have hDe := depE_len v T2 (by omega) ⟨s, hh, o⟩ hdf.2.1
        have hHe := vbI_len hh hdg.2
        have HPU := Lib.hid (fun (W' : World) => put1_any hh hdg W')
        have HNX := Lib.hid hnx
        have hC2r : Kd.C Kd.string wr A2 T2.length T2 := by
         obtain ⟨A', c', e, _, h2⟩ := H.out.tab
         injection e with e1 e2 e3
         subst e1
         exact h2
        have hde : depE v T2 ⟨s, hh, o⟩ = ints (vb (2 * atI T2 s + (if o = true then 1 else 0)).toNat) := by unfold depE; rw [if_neg (by have := HV.out; omega)]
        rw [hde] at hDe HNX
        have hsT := hdn (by have := HV.out; omega)
        have hat := atI_bd T2 s (by omega)
        have hPl : ∀ W', Below wr.heap.size wr W' → _ := fun W' hb => tephraref07_Place.calls (T2.length + 1) A2 c2 T2 s (posI8 T2 s) W' (Kd.C_below hC2r hb) hc2 (place_is8 T2 (by omega) s _ (by omega))
        rw [atI_pos hsT] at hPl
        obtain ⟨n, hn⟩ : ∃ n, atI T2 s = n := ⟨_, rfl⟩
        rw [hn] at hPl hat hDe HNX
        have HPL := Lib.hid hPl
        clear htk hdd hrd hmem hdf hdg hdn hle hPD hnx hC2r hde hPl hsT hn
        have kw1 : IntKind.u64.wrap n = n := by rw [IntKind.wrap_u64]; omega
        have kw2 : IntKind.u64.wrap (2 * n) = 2 * n := by rw [IntKind.wrap_u64]; omega
        have kw3 : IntKind.u64.wrap (2 * n + 1) = 2 * n + 1 := by rw [IntKind.wrap_u64]; omega
        have HK1 := Lib.hid kw1
        have HK2 := Lib.hid kw2
        have HK3 := Lib.hid kw3
        clear kw1 kw2 kw3
        generalize ints (vb hh.toNat) = t2 at *
        have hba : Below wr.heap.size wr (wr.alloc (.cells #[.string s, .int .u64 hh, .bool o] 113)) := (Below.refl _ _).alloc (Nat.le_refl _) _
        have hka : (wr.alloc (.cells #[.string s, .int .u64 hh, .bool o] 113)).heap[wr.heap.size]? = some (.cells #[.string s, .int .u64 hh, .bool o] 113 (0, 0)) := heap_new _ _
        have HBA := Lib.hid hba
        have HKA := Lib.hid hka
        clear hba hka
        go_wp2_with fail
        refine (HPL.out _ HBA.out).mono ?_
        rintro e wb ⟨rfl, hdr⟩
        have hb := hdr.below
        have hk := blk_below HKA.out hb
        have HB1 := Lib.hid (HBA.out.trans (hb.mono HBA.out.size))
        have HKB := Lib.hid hk
        clear hb hk hdr g0 g1 g2
        have e1 : wb.cell? ⟨wr.heap.size, 1, none⟩ = some (.int .u64 hh) := (blk_cell HKB.out 1).trans rfl
        have e2 : wb.cell? ⟨wr.heap.size, 2, none⟩ = some (.bool o) := (blk_cell HKB.out 2).trans rfl
        have kw1 := HK1.out
        have kw2 := HK2.out
        have kw3 := HK3.out
        cases o with
        | true =>
         obtain ⟨m, hm⟩ : ∃ m, 2 * n + 1 = m := ⟨_, rfl⟩
         have hdm : ints (vb (2 * n + (if true = true then 1 else 0)).toNat) = ints (vb m.toNat) := by rw [if_pos rfl, hm]
         rw [hdm] at hDe HNX
         have HP1 := Lib.hid (fun (W' : World) => put1_any m (by omega) W')
         generalize ints (vb m.toNat) = t1 at *
         have hadd1 := add_str PD t1 (by omega)
         have hadd2 := add_str (PD ++ t1) t2 (by rw [List.length_append]; omega)
         rw [hm] at kw3
         have hm2 := hm
         have kw4 : IntKind.u64.wrap (2 * n + 1) = m := by rw [hm]; exact kw3
         clear hm kw3
         go_wp2_with fail
         refine (HP1.out wb).mono ?_
         rintro e wc ⟨rfl, hb⟩
         have hk := blk_below HKB.out hb
         have e1 : wc.cell? ⟨wr.heap.size, 1, none⟩ = some (.int .u64 hh) := (blk_cell hk 1).trans rfl
         have HB2 := Lib.hid (HB1.out.trans (hb.mono HB1.out.size))
         clear hb hk e2
         go_wp2_with fail
         refine (HPU.out wc).mono ?_
         rintro e wd ⟨rfl, hb⟩
         have HH := Lib.hid (H.out.below (HB2.out.trans (hb.mono HB2.out.size)))
         clear hb e1
         go_wp2_with fail
         go_roundw
         case rel => exact ⟨i + 1, by omega, by go_num, by rw [HNX.out, List.append_assoc], HH⟩
         case measure => simp [intOf]; omega
        | false =>
         have hdm : ints (vb (2 * n + (if false = true then 1 else 0)).toNat) = ints (vb (2 * n).toNat) := by rw [if_neg (by simp), Int.add_zero]
         rw [hdm] at hDe HNX
         have HP1 := Lib.hid (fun (W' : World) => put1_any (2 * n) (by omega) W')
         generalize ints (vb (2 * n).toNat) = t1 at *
         have hadd1 := add_str PD t1 (by omega)
         have hadd2 := add_str (PD ++ t1) t2 (by rw [List.length_append]; omega)
         clear kw3
         go_wp2_with fail
         refine (HP1.out wb).mono ?_
         rintro e wc ⟨rfl, hb⟩
         have hk := blk_below HKB.out hb
         have e1 : wc.cell? ⟨wr.heap.size, 1, none⟩ = some (.int .u64 hh) := (blk_cell hk 1).trans rfl
         have HB2 := Lib.hid (HB1.out.trans (hb.mono HB1.out.size))
         clear hb hk e2
         go_wp2_with fail
         refine (HPU.out wc).mono ?_
         rintro e wd ⟨rfl, hb⟩
         have HH := Lib.hid (H.out.below (HB2.out.trans (hb.mono HB2.out.size)))
         clear hb e1
         go_wp2_with fail
         go_roundw
         case rel => exact ⟨i + 1, by omega, by go_num, by rw [HNX.out, List.append_assoc], HH⟩
         case measure => simp [intOf]; omega
       ·obtain rfl : i = l.length := by omega
        have hdl : decide ((l.length : Int) < (l.length : Int)) = false := decide_eq_false (by omega)
        rw [List.take_length]
        obtain ⟨PE, hPE⟩ : ∃ p, P ++ depsE v T2 l = p := ⟨_, rfl⟩
        have hle := depsE_len v T2 (by omega) l (fun y hy => ⟨(HM.out.d y hy).2.1, (HDR.out y hy).2⟩)
        have lPE : PE.length ≤ 2000 := by rw [← hPE, List.length_append]; omega
        rw [hPE]
        obtain ⟨q4, hq4⟩ : ∃ q, ints (vb x4.toNat) = q := ⟨_, rfl⟩
        obtain ⟨q5, hq5⟩ : ∃ q, ints (vb x5.toNat) = q := ⟨_, rfl⟩
        have l4 : q4.length ≤ 10 := by rw [← hq4]; exact vbI_len x4 HR4.out.2
        have l5 : q5.length ≤ 10 := by rw [← hq5]; exact vbI_len x5 HR5.out.2
        have HQ4 := Lib.hid (fun (W' : World) => put1_any x4 HR4.out W')
        have HQ5 := Lib.hid (fun (W' : World) => put1_any x5 HR5.out W')
        rw [hq4] at HQ4
        rw [hq5] at HQ5
        have hadd4 := add_str PE q4 (by omega)
        have hadd5 := add_str (PE ++ q4) q5 (by rw [List.length_append]; omega)
        have HPE := Lib.hid hPE
        have HQ45 := Lib.hid (And.intro hq4 hq5)
        clear hPE hle hq4 hq5
        have y4 : (wr).cell? ⟨b5, 4, none⟩ = some (.int .u64 x4) := (blk_cell H.out.box 4).trans rfl
        go_wp2_with fail
        refine (HQ4.out wr).mono ?_
        rintro e wb ⟨rfl, hb⟩
        have HZ := Lib.hid (H.out.below hb)
        clear hb y3 y4
        have y5 : (wb).cell? ⟨b5, 5, none⟩ = some (.int .u64 x5) := (blk_cell HZ.out.box 5).trans rfl
        go_wp2_with fail
        refine (HQ5.out wb).mono ?_
        rintro e wc ⟨rfl, hb⟩
        have HZ := Lib.hid (HZ.out.below hb)
        clear hb y5
        by_cases h6 : x6.size = 0
        ·have hem : x6.toList.isEmpty = true := by rw [List.isEmpty_iff]; exact tl_nil.2 h6
         have hem2 : (x6.toList == ([] : List UInt8)) = true := by rw [tl_nil.2 h6]; rfl
         have hem3 : (x6.toList != ([] : List UInt8)) = false := by rw [tl_nil.2 h6]; rfl
         obtain ⟨q6, hq6⟩ : ∃ q, ints (vb 0) = q := ⟨_, rfl⟩
         have htg : tagE T2 x6 = q6 := by unfold tagE; rw [if_pos h6, hq6]
         have l6 : q6.length ≤ 10 := by rw [← hq6]; exact vbI_len 0 (by omega)
         have HQ6 := Lib.hid (fun (W' : World) => put1_any 0 (by omega) W')
         rw [Int.toNat_zero, hq6] at HQ6
         have HLE : Hid (lastE v T2 k0 x1 x2 l x4 x5 x6 = PE ++ (q4 ++ (q5 ++ q6))) := Lib.hid (by
          unfold lastE bodyE
          rw [if_neg HKN.out.2, if_pos (show 2 ≤ v by have := HV.out; omega), if_pos (show 3 ≤ v by have := HV.out; omega), HQ45.out.2, htg, ← HPE.out, ← HPP.out, ← HP0.out, ← HQE.out.1, ← HQE.out.2.1, ← HQE.out.2.2.1, ← HQE.out.2.2.2, ← HQ45.out.1, HKN.out.1, Int.toNat_natCast]
          rw [show ints (vb ((1 : Int).toNat)) = [1] from vb_k 1 (by omega)]
          simp only [List.append_assoc, List.append_nil])
         have hadd6 := add_str (PE ++ (q4 ++ q5)) q6 (by simp only [List.length_append]; omega)
         clear h6 hq6 htg
         have y6 : (wc).cell? ⟨b5, 6, none⟩ = some (.string x6) := (blk_cell HZ.out.box 6).trans rfl
         go_wp2_with fail
         refine (HQ6.out wc).mono ?_
         rintro e wd ⟨rfl, hb⟩
         have HZ := Lib.hid (HZ.out.below hb)
         clear hb y6
         have y6 : (wd).cell? ⟨b5, 6, none⟩ = some (.string x6) := (blk_cell HZ.out.box 6).trans rfl
         have hmr : (rows.map strOfNums).length ≤ 1000000 := by rw [List.length_map]; have := HRL.out; omega
         go_wp2_with (at_builtin; refine Halt.mk ?_)
         refine Halt.of ?_
         have hb4 : Below wd.heap.size wd (wd.alloc (.cells #[.string (strOfNums (PE ++ (q4 ++ (q5 ++ q6))))] 9)) := (Below.refl _ _).alloc (Nat.le_refl _) _
         have hk4 : (wd.alloc (.cells #[.string (strOfNums (PE ++ (q4 ++ (q5 ++ q6))))] 9)).heap[wd.heap.size]? = some (.cells #[.string (strOfNums (PE ++ (q4 ++ (q5 ++ q6))))] 9 (0, 0)) := heap_new _ _
         have hZ4 := HZ.out.below hb4
         refine Kd.R_append_rows Kd.string (w0 := Wq) Wq.heap.size rfl (.tmp 164) (.tmp 166) 45 9 (.string ⟨#[]⟩) 16 rfl Try.underlying45 info_str9 rfl (by decide) (by omega) _ (rows.map strOfNums) [strOfNums (PE ++ (q4 ++ (q5 ++ q6)))] _ _ _ (fun _ => True) (fun _ => False) rfl rfl hZ4.rw (row_val _ hk4) ?_ (fun _ h => h.elim) (fun _ _ => trivial) hZ4.bl hZ4.bl.size (by omega) ?_
         ·rintro _ _ ⟨rfl, rfl⟩; rfl
         intro v6 w6 hR6 hb6 hg6 hat6
         have e6 : rows.map strOfNums ++ [strOfNums (PE ++ (q4 ++ (q5 ++ q6)))] = ((rows ++ [(PE ++ (q4 ++ (q5 ++ q6)))]).map strOfNums) := by rw [List.map_append]; rfl
         rw [e6] at hR6
         have h6 := hZ4.pushed hR6 hb6 hg6 hat6
         obtain ⟨A8, c8, e8, hc8, hC8⟩ := h6.tab
         obtain ⟨rfl, _, rfl⟩ : A2 = A8 ∧ T2.length = T2.length ∧ c2 = c8 := by injection e8 with a1 a2 a3; exact ⟨a1, a2, a3⟩
         have HE := Lib.hid (And.intro h6 (And.intro hc8 hC8))
         obtain ⟨Ar, cr, e9⟩ := Kd.R_slice hR6
         rw [List.length_map, List.length_append, List.length_singleton] at e9
         subst e9
         clear hR6 hb6 hg6 hat6 e6 h6 e8 hc8 hC8 hb4 hk4 hZ4
         go_wp2_with fail
         go_ret3
         obtain ⟨h6, hc8, hC8⟩ := HE.out
         refine ⟨_, A2, c2, rfl, ?_, hc8, hC8, h6.bl, h6.tb.imp (fun h => by obtain ⟨e1, e2⟩ := h; injection e2 with a1 a2 a3; exact ⟨a1, a3, e1⟩) (fun hR => Kd.R_mono hR (fun _ _ => trivial))⟩
         have h9 := h6.rw
         show Kd.R Kd.string 9 _ _ _ _ ((rows ++ [lastE v T2 k0 x1 x2 l x4 x5 x6]).map strOfNums)
         rw [HLE.out]
         first | exact h9 | (rw [moreE_self]; exact h9)
        ·have hne : x6.toList ≠ [] := fun h => h6 (tl_nil.1 h)
         have hem : x6.toList.isEmpty = false := by rw [Bool.eq_false_iff, ne_eq, List.isEmpty_iff]; exact hne
         have hem2 : (x6.toList == ([] : List UInt8)) = false := by simpa using hne
         have hem3 : (x6.toList != ([] : List UInt8)) = true := by simpa using hne
         have hsT := HIN.out (by have := HV.out; omega) x6 (by unfold namesL; rw [if_neg hne]; simp)
         have hat := atI_bd T2 x6 (by omega)
         obtain ⟨A', c', e9, _, hCz⟩ := HZ.out.tab
         obtain ⟨rfl, _, rfl⟩ : A2 = A' ∧ T2.length = T2.length ∧ c2 = c' := by injection e9 with a1 a2 a3; exact ⟨a1, a2, a3⟩
         have hPl := tephraref07_Place.calls (T2.length + 1) A2 c2 T2 x6 (posI8 T2 x6) wc hCz hc2 (place_is8 T2 (by omega) x6 _ (by omega))
         rw [atI_pos hsT] at hPl
         obtain ⟨n, hn⟩ : ∃ n, atI T2 x6 = n := ⟨_, rfl⟩
         obtain ⟨q6, hq6⟩ : ∃ q, ints (vb (n + 1).toNat) = q := ⟨_, rfl⟩
         have htg : tagE T2 x6 = q6 := by unfold tagE; rw [if_neg h6, hn, hq6]
         rw [hn] at hPl hat
         have HPL := Lib.hid hPl
         have l6 : q6.length ≤ 10 := by rw [← hq6]; exact vbI_len (n + 1) (by omega)
         have HQ6 := Lib.hid (fun (W' : World) => put1_any (n + 1) (by omega) W')
         rw [hq6] at HQ6
         have HLE : Hid (lastE v T2 k0 x1 x2 l x4 x5 x6 = PE ++ (q4 ++ (q5 ++ q6))) := Lib.hid (by
          unfold lastE bodyE
          rw [if_neg HKN.out.2, if_pos (show 2 ≤ v by have := HV.out; omega), if_pos (show 3 ≤ v by have := HV.out; omega), HQ45.out.2, htg, ← HPE.out, ← HPP.out, ← HP0.out, ← HQE.out.1, ← HQE.out.2.1, ← HQE.out.2.2.1, ← HQE.out.2.2.2, ← HQ45.out.1, HKN.out.1, Int.toNat_natCast]
          rw [show ints (vb ((1 : Int).toNat)) = [1] from vb_k 1 (by omega)]
          simp only [List.append_assoc, List.append_nil])
         have hadd6 := add_str (PE ++ (q4 ++ q5)) q6 (by simp only [List.length_append]; omega)
         have kw1 : IntKind.u64.wrap n = n := by rw [IntKind.wrap_u64]; omega
         have kw2 : IntKind.u64.wrap (n + 1) = n + 1 := by rw [IntKind.wrap_u64]; omega
         clear h6 hq6 htg hsT hn hPl hCz e9 hne
         have y6 : (wc).cell? ⟨b5, 6, none⟩ = some (.string x6) := (blk_cell HZ.out.box 6).trans rfl
         go_wp2_with fail
         refine HPL.out.mono ?_
         rintro e wd ⟨rfl, hdr⟩
         have hb := hdr.below
         have HZ := Lib.hid (HZ.out.below hb)
         clear hb hdr y6
         go_wp2_with fail
         refine (HQ6.out wd).mono ?_
         rintro e we ⟨rfl, hb⟩
         have HZ := Lib.hid (HZ.out.below hb)
         clear hb
         have hmr : (rows.map strOfNums).length ≤ 1000000 := by rw [List.length_map]; have := HRL.out; omega
         go_wp2_with (at_builtin; refine Halt.mk ?_)
         refine Halt.of ?_
         have hb4 : Below we.heap.size we (we.alloc (.cells #[.string (strOfNums (PE ++ (q4 ++ (q5 ++ q6))))] 9)) := (Below.refl _ _).alloc (Nat.le_refl _) _
         have hk4 : (we.alloc (.cells #[.string (strOfNums (PE ++ (q4 ++ (q5 ++ q6))))] 9)).heap[we.heap.size]? = some (.cells #[.string (strOfNums (PE ++ (q4 ++ (q5 ++ q6))))] 9 (0, 0)) := heap_new _ _
         have hZ4 := HZ.out.below hb4
         refine Kd.R_append_rows Kd.string (w0 := Wq) Wq.heap.size rfl (.tmp 164) (.tmp 166) 45 9 (.string ⟨#[]⟩) 16 rfl Try.underlying45 info_str9 rfl (by decide) (by omega) _ (rows.map strOfNums) [strOfNums (PE ++ (q4 ++ (q5 ++ q6)))] _ _ _ (fun _ => True) (fun _ => False) rfl rfl hZ4.rw (row_val _ hk4) ?_ (fun _ h => h.elim) (fun _ _ => trivial) hZ4.bl hZ4.bl.size (by omega) ?_
         ·rintro _ _ ⟨rfl, rfl⟩; rfl
         intro v6 w6 hR6 hb6 hg6 hat6
         have e6 : rows.map strOfNums ++ [strOfNums (PE ++ (q4 ++ (q5 ++ q6)))] = ((rows ++ [(PE ++ (q4 ++ (q5 ++ q6)))]).map strOfNums) := by rw [List.map_append]; rfl
         rw [e6] at hR6
         have h6 := hZ4.pushed hR6 hb6 hg6 hat6
         obtain ⟨A8, c8, e8, hc8, hC8⟩ := h6.tab
         obtain ⟨rfl, _, rfl⟩ : A2 = A8 ∧ T2.length = T2.length ∧ c2 = c8 := by injection e8 with a1 a2 a3; exact ⟨a1, a2, a3⟩
         have HE := Lib.hid (And.intro h6 (And.intro hc8 hC8))
         obtain ⟨Ar, cr, e9⟩ := Kd.R_slice hR6
         rw [List.length_map, List.length_append, List.length_singleton] at e9
         subst e9
         clear hR6 hb6 hg6 hat6 e6 h6 e8 hc8 hC8 hb4 hk4 hZ4
         go_wp2_with fail
         go_ret3
         obtain ⟨h6, hc8, hC8⟩ := HE.out
         refine ⟨_, A2, c2, rfl, ?_, hc8, hC8, h6.bl, h6.tb.imp (fun h => by obtain ⟨e1, e2⟩ := h; injection e2 with a1 a2 a3; exact ⟨a1, a3, e1⟩) (fun hR => Kd.R_mono hR (fun _ _ => trivial))⟩
         have h9 := h6.rw
         show Kd.R Kd.string 9 _ _ _ _ ((rows ++ [lastE v T2 k0 x1 x2 l x4 x5 x6]).map strOfNums)
         rw [HLE.out]
         first | exact h9 | (rw [moreE_self]; exact h9)
    ·have hkd : (k0 == 1) = false := by rw [hk]; rfl
     have hkd2 : decide (k0 = 1) = false := decide_eq_false (by omega)
     have y0 : (W).cell? ⟨b5, 0, none⟩ = some (.int .i64 k0) := (blk_cell HBX.out 0).trans rfl
     have HZ := HX
     have HLE : Hid (lastE v T2 k0 x1 x2 l x4 x5 x6 = p0) := Lib.hid (by
      unfold lastE
      rw [if_pos hk, List.append_nil, ← HP0.out, ← HQE.out.1, ← HQE.out.2.1, hk]
      rw [show ints (vb ((2 : Int).toNat)) = [2] from vb_k 2 (by omega)])
     clear hk
     have hmr : (rows.map strOfNums).length ≤ 1000000 := by rw [List.length_map]; have := HRL.out; omega
     go_wp2_with (at_builtin; refine Halt.mk ?_)
     refine Halt.of ?_
     have hb4 : Below W.heap.size W (W.alloc (.cells #[.string (strOfNums p0)] 9)) := (Below.refl _ _).alloc (Nat.le_refl _) _
     have hk4 : (W.alloc (.cells #[.string (strOfNums p0)] 9)).heap[W.heap.size]? = some (.cells #[.string (strOfNums p0)] 9 (0, 0)) := heap_new _ _
     have hZ4 := HZ.out.below hb4
     refine Kd.R_append_rows Kd.string (w0 := Wq) Wq.heap.size rfl (.tmp 164) (.tmp 166) 45 9 (.string ⟨#[]⟩) 16 rfl Try.underlying45 info_str9 rfl (by decide) (by omega) _ (rows.map strOfNums) [strOfNums p0] _ _ _ (fun _ => True) (fun _ => False) rfl rfl hZ4.rw (row_val _ hk4) ?_ (fun _ h => h.elim) (fun _ _ => trivial) hZ4.bl hZ4.bl.size (by omega) ?_
     ·rintro _ _ ⟨rfl, rfl⟩; rfl
     intro v6 w6 hR6 hb6 hg6 hat6
     have e6 : rows.map strOfNums ++ [strOfNums p0] = ((rows ++ [p0]).map strOfNums) := by rw [List.map_append]; rfl
     rw [e6] at hR6
     have h6 := hZ4.pushed hR6 hb6 hg6 hat6
     obtain ⟨A8, c8, e8, hc8, hC8⟩ := h6.tab
     obtain ⟨rfl, _, rfl⟩ : A2 = A8 ∧ T2.length = T2.length ∧ c2 = c8 := by injection e8 with a1 a2 a3; exact ⟨a1, a2, a3⟩
     have HE := Lib.hid (And.intro h6 (And.intro hc8 hC8))
     obtain ⟨Ar, cr, e9⟩ := Kd.R_slice hR6
     rw [List.length_map, List.length_append, List.length_singleton] at e9
     subst e9
     clear hR6 hb6 hg6 hat6 e6 h6 e8 hc8 hC8 hb4 hk4 hZ4
     go_wp2_with fail
     go_ret3
     obtain ⟨h6, hc8, hC8⟩ := HE.out
     refine ⟨_, A2, c2, rfl, ?_, hc8, hC8, h6.bl, h6.tb.imp (fun h => by obtain ⟨e1, e2⟩ := h; injection e2 with a1 a2 a3; exact ⟨a1, a3, e1⟩) (fun hR => Kd.R_mono hR (fun _ _ => trivial))⟩
     have h9 := h6.rw
     show Kd.R Kd.string 9 _ _ _ _ ((rows ++ [lastE v T2 k0 x1 x2 l x4 x5 x6]).map strOfNums)
     rw [HLE.out]
     first | exact h9 | (rw [moreE_self]; exact h9)
set_option maxRecDepth 100000 in
theorem rput9_ver (W : World) (v : Int) (A : Option Addr) (c : Nat) (T : List ByteArray) (hC : Kd.C Kd.string W A T.length T) (hc : T.length ≤ c) (hT : T.length ≤ 100000) (k0 : Int) (x1 : ByteArray) (x2 : Int) (B : Option Addr) (d : Nat) (l : List S113) (x4 x5 : Int) (x6 : ByteArray)
  (hrow : Kd.C k113 W B l.length l) (hd : l.length ≤ d) (hok : RecOk x1 l x6) (hv : ¬ (1 ≤ v ∧ v ≤ 3)) :
  Calls Try.prog 33 #[.int .i64 v, .slice A T.length c, .agg #[.int .i64 k0, .string x1, .int .u64 x2, .slice B l.length d, .int .u64 x4, .int .u64 x5, .string x6]] W (RPutPost W A c T (putF v T k0 x1 x2 l x4 x5 x6)) := by
 have hpf : putF v T k0 x1 x2 l x4 x5 x6 = ([], T, 11) := by unfold putF; rw [if_neg hv]
 rw [hpf]
 obtain ⟨wz, hwz⟩ : ∃ wz, (W.alloc (.cells #[.int .i64 k0, .string x1, .int .u64 x2, .slice B l.length d, .int .u64 x4, .int .u64 x5, .string x6] 62)).alloc (.cells #[] 9) = wz := ⟨_, rfl⟩
 have hbz : Below W.heap.size W wz := by rw [← hwz]; exact ((Below.refl _ _).alloc (Nat.le_refl _) _).alloc (by rw [heap_size_alloc]; omega) _
 have hke : wz.heap[W.heap.size + 1]? = some (.cells #[] 9 (0, 0)) := by rw [← hwz]; exact heap_new2 _ _ _
 obtain ⟨b5, hb5⟩ : ∃ b, W.heap.size = b := ⟨_, rfl⟩
 rw [hb5] at hke
 have hre := R_empty Kd.string wz W.heap.size (b5 + 1) 9 (fun _ => True) hke (by omega) trivial
 have HC := Lib.hid hC
 have HBZ := Lib.hid hbz
 have HWZ := Lib.hid hwz
 have HREZ := Lib.hid hre
 have HB5 := Lib.hid hb5
 by_cases h1 : v < 1
 ·have d1 : decide (v < 1) = true := decide_eq_true h1
  clear hpf hC hbz hke hre hwz hb5 hok hrow
  go_enter Try.func33, Try.ntmps33
  go_wp2_with fail
  (try rw [HWZ.out, HB5.out])
  go_ret3
  exact ⟨_, A, c, rfl, HREZ.out, hc, Kd.C_below HC.out HBZ.out, HBZ.out, .inl ⟨rfl, rfl, rfl⟩⟩
 ·have d1 : decide (v < 1) = false := decide_eq_false h1
  have d3 : decide (3 < v) = true := decide_eq_true (by omega)
  clear hpf hC hbz hke hre hwz hb5 hok hrow
  go_enter Try.func33, Try.ntmps33
  go_wp2_with fail
  (try rw [HWZ.out, HB5.out])
  go_ret3
  exact ⟨_, A, c, rfl, HREZ.out, hc, Kd.C_below HC.out HBZ.out, HBZ.out, .inl ⟨rfl, rfl, rfl⟩⟩
set_option maxRecDepth 100000 in
theorem rput9_no (W : World) (v : Int) (A : Option Addr) (c : Nat) (T : List ByteArray) (hC : Kd.C Kd.string W A T.length T) (hc : T.length ≤ c) (hT : T.length ≤ 100000) (k0 : Int) (x1 : ByteArray) (x2 : Int) (B : Option Addr) (d : Nat) (l : List S113) (x4 x5 : Int) (x6 : ByteArray)
  (hrow : Kd.C k113 W B l.length l) (hd : l.length ≤ d) (hok : RecOk x1 l x6) (hv : 1 ≤ v ∧ v ≤ 3) (hm : mayB v k0 x1 x2 l x4 x5 x6 = false) :
  Calls Try.prog 33 #[.int .i64 v, .slice A T.length c, .agg #[.int .i64 k0, .string x1, .int .u64 x2, .slice B l.length d, .int .u64 x4, .int .u64 x5, .string x6]] W (RPutPost W A c T (putF v T k0 x1 x2 l x4 x5 x6)) := by
 have hpf : putF v T k0 x1 x2 l x4 x5 x6 = ([], T, 1) := by unfold putF; rw [if_pos hv, if_neg (by rw [hm]; simp)]
 rw [hpf]
 obtain ⟨wz, hwz⟩ : ∃ wz, (W.alloc (.cells #[.int .i64 k0, .string x1, .int .u64 x2, .slice B l.length d, .int .u64 x4, .int .u64 x5, .string x6] 62)).alloc (.cells #[] 9) = wz := ⟨_, rfl⟩
 have hbz : Below W.heap.size W wz := by rw [← hwz]; exact ((Below.refl _ _).alloc (Nat.le_refl _) _).alloc (by rw [heap_size_alloc]; omega) _
 have hke : wz.heap[W.heap.size + 1]? = some (.cells #[] 9 (0, 0)) := by rw [← hwz]; exact heap_new2 _ _ _
 obtain ⟨b5, hb5⟩ : ∃ b, W.heap.size = b := ⟨_, rfl⟩
 rw [hb5] at hke
 have hre := R_empty Kd.string wz W.heap.size (b5 + 1) 9 (fun _ => True) hke (by omega) trivial
 have HC := Lib.hid hC
 have HBZ := Lib.hid hbz
 have HWZ := Lib.hid hwz
 have HREZ := Lib.hid hre
 have HB5 := Lib.hid hb5
 have HMY := Lib.hid (rmay_any v k0 x1 x2 l x4 x5 x6 B d wz (Kd.C_below hrow hbz))
 rw [hm] at HMY
 have d1 : decide (v < 1) = false := decide_eq_false (by omega)
 have d3 : decide (3 < v) = false := decide_eq_false (by omega)
 clear hpf hC hbz hke hre hwz hb5 hok hrow hm
 go_enter Try.func33, Try.ntmps33
 go_wp2_with fail
 rw [HWZ.out, HB5.out]
 refine HMY.out.mono ?_
 rintro e wa ⟨rfl, hb⟩
 have hbb := HBZ.out.trans (hb.mono HBZ.out.size)
 go_wp2_with fail
 go_ret3
 exact ⟨_, A, c, rfl, Kd.R_below HREZ.out hb, hc, Kd.C_below HC.out hbb, hbb, .inl ⟨rfl, rfl, rfl⟩⟩
theorem rput9_any (W : World) (v : Int) (A : Option Addr) (c : Nat) (T : List ByteArray) (hC : Kd.C Kd.string W A T.length T) (hc : T.length ≤ c) (hT : T.length ≤ 100000) (k0 : Int) (x1 : ByteArray) (x2 : Int) (B : Option Addr) (d : Nat) (l : List S113) (x4 x5 : Int) (x6 : ByteArray)
  (hrow : Kd.C k113 W B l.length l) (hd : l.length ≤ d) (hok : RecOk x1 l x6) (h2 : 0 ≤ x2 ∧ x2 < 18446744073709551616) (h4 : 0 ≤ x4 ∧ x4 < 18446744073709551616) (h5 : 0 ≤ x5 ∧ x5 < 18446744073709551616) (hdr : ∀ y ∈ l, 0 ≤ y.f1 ∧ y.f1 < 18446744073709551616) :
  Calls Try.prog 33 #[.int .i64 v, .slice A T.length c, .agg #[.int .i64 k0, .string x1, .int .u64 x2, .slice B l.length d, .int .u64 x4, .int .u64 x5, .string x6]] W (RPutPost W A c T (putF v T k0 x1 x2 l x4 x5 x6)) := by
 by_cases hv : 1 ≤ v ∧ v ≤ 3
 ·by_cases hm : mayB v k0 x1 x2 l x4 x5 x6 = true
  ·have hv3 : v = 1 ∨ v = 2 ∨ v = 3 := by omega
   rcases hv3 with h | h | h
   ·exact rput9_1 W v A c T hC hc hT k0 x1 x2 B d l x4 x5 x6 hrow hd hok h hm h2 h4 h5 hdr
   ·exact rput9_2 W v A c T hC hc hT k0 x1 x2 B d l x4 x5 x6 hrow hd hok h hm h2 h4 h5 hdr
   ·exact rput9_3 W v A c T hC hc hT k0 x1 x2 B d l x4 x5 x6 hrow hd hok h hm h2 h4 h5 hdr
  ·exact rput9_no W v A c T hC hc hT k0 x1 x2 B d l x4 x5 x6 hrow hd hok hv (by rwa [Bool.not_eq_true] at hm)
 ·exact rput9_ver W v A c T hC hc hT k0 x1 x2 B d l x4 x5 x6 hrow hd hok hv
end Go.Proofs.Ytfflenbfapgilaa
