/- Texts laid as one by shake.py, cut to what the claim needs: SchV, CoG, RowR, GreH, SamH. (Names that begin with W and the print's groups (G..x, G..z): laid by the kit's print, cut.) -/
import Derived.Test.YtmeocdkiecknkaaZTt
import Derived.Test.YtmeocdkiecknkaaZTw
import Derived.Test.YtmeocdkiecknkaaZTk
import Derived.Test.YtmeocdkiecknkaaZTe
import Derived.Deep.QuietTactic
import Derived.BigQuiet
set_option linter.unusedVariables false
set_option linter.unusedSimpArgs false
namespace Go.Proofs.Ytmeocdkiecknkaa
open Go.RowKit Go.Proofs.YtmeocdkiecknkaaW.PrintWords Go.Proofs.Ytmeocdkiecknkaa.GRR
theorem wf_u64 {n : Int} (h : (Lit.int .u64 n).wf = true) : 0 ≤ n ∧ n < 18446744073709551616 := by
 simp [Lit.wf, IntKind.min, IntKind.max, IntKind.signed, IntKind.bits] at h; omega
abbrev putR (v : Int) (T : List ByteArray) (r : Rec9) := putF v T r.1 r.2.1 r.2.2.1 r.2.2.2.1 r.2.2.2.2.1 r.2.2.2.2.2.1 r.2.2.2.2.2.2
abbrev mayR (v : Int) (r : Rec9) := mayB v r.1 r.2.1 r.2.2.1 r.2.2.2.1 r.2.2.2.2.1 r.2.2.2.2.2.1 r.2.2.2.2.2.2
structure NumR (r : Rec9) : Prop where
 r2 : 0 ≤ r.2.2.1 ∧ r.2.2.1 < 18446744073709551616
 o : 0 ≤ r.2.2.2.2.1 ∧ r.2.2.2.2.1 < 18446744073709551616
 w : 0 ≤ r.2.2.2.2.2.1 ∧ r.2.2.2.2.2.1 < 18446744073709551616
 d : ∀ d ∈ r.2.2.2.1, 0 ≤ d.f1 ∧ d.f1 < 18446744073709551616
theorem NumR.of {r : Rec9} (h : okRec r) : NumR r := ⟨wf_u64 h.2.2.1, wf_u64 h.2.2.2.2.1, wf_u64 h.2.2.2.2.2.1, fun d hd => wf_u64 (h.2.2.2.1.2 d hd).2.1⟩
structure GoodR (v : Int) (r : Rec9) : Prop where
 may : mayR v r = true
 num : NumR r
theorem putF_yes {v : Int} {T : List ByteArray} {r : Rec9} (h : (putR v T r).2.2 = 0) : mayR v r = true := by
 unfold putR putF at h
 split at h
 ·split at h
  ·rename_i hm; exact hm
  ·exact absurd h (show ¬ (1 : Int) = 0 by decide)
 ·exact absurd h (show ¬ (11 : Int) = 0 by decide)
theorem putF_may {v : Int} (T : List ByteArray) {r : Rec9} (h : mayR v r = true) : putR v T r = (moreE T (if 1 < v then tnewOn T (tnew (namesL r.2.1 r.2.2.2.1 r.2.2.2.2.2.2)) else T) ++ [lastE v (if 1 < v then tnewOn T (tnew (namesL r.2.1 r.2.2.2.1 r.2.2.2.2.2.2)) else T) r.1 r.2.1 r.2.2.1 r.2.2.2.1 r.2.2.2.2.1 r.2.2.2.2.2.1 r.2.2.2.2.2.2], (if 1 < v then tnewOn T (tnew (namesL r.2.1 r.2.2.2.1 r.2.2.2.2.2.2)) else T), 0) := by
 unfold putR putF
 rw [if_pos (may_facts h).ver, if_pos h]
structure PutFit (v : Int) (T : List ByteArray) (F : List (List Int) × List ByteArray × Int) : Prop where
 n0 : 1 ≤ F.1.length
 n1 : F.1.length ≤ 19
 t : F.2.1.length ≤ T.length + 18
 nd : F.2.1.Nodup
 b : ∀ p ∈ F.1, p.length ≤ 3000 ∧ ∀ x ∈ p, 0 ≤ x ∧ x < 256
 z : ∀ s ∈ F.2.1, s ∈ T ∨ s.size ≤ 64
theorem put_fit {v : Int} {T : List ByteArray} {r : Rec9} (hT : T.length ≤ 50000) (hd : T.Nodup) (h : GoodR v r) : PutFit v T (putR v T r) := by
 have M := may_facts h.may
 have hnw := names_few (x1 := r.2.1) (l := r.2.2.2.1) (x6 := r.2.2.2.2.2.2) M.t.2 M.n (fun d hd => (M.d d hd).2.1) M.tag.1
 have hby : ∀ p ∈ (putR v T r).1, ∀ x ∈ p, 0 ≤ x ∧ x < 256 := putF_bytes v T (by omega) r.1 (by have := M.k; omega) r.2.1 (by have := M.t; simp only [maxLen]; omega) r.2.2.1 h.num.r2.2 r.2.2.2.1 (by have := M.n; omega) (fun d hd => ⟨by have := (M.d d hd).2.1; simp only [maxLen]; omega, (h.num.d d hd).2⟩) r.2.2.2.2.1 r.2.2.2.2.2.1 h.num.o.2 h.num.w.2 r.2.2.2.2.2.2
 have e := putF_may T h.may
 obtain ⟨T', hT'⟩ : ∃ T', (if 1 < v then tnewOn T (tnew (namesL r.2.1 r.2.2.2.1 r.2.2.2.2.2.2)) else T) = T' := ⟨_, rfl⟩
 rw [hT'] at e
 have hlen : T'.length ≤ T.length + 18 := by
  rw [← hT']
  split
  ·have := tnewOn_len T (tnew (namesL r.2.1 r.2.2.2.1 r.2.2.2.2.2.2)); omega
  ·omega
 have hmem : ∀ s ∈ T', s ∈ T ∨ s.size ≤ 64 := by
  rw [← hT']
  split
  ·intro s hs
   rw [mem_tnewOn] at hs
   exact hs.imp id (hnw.2 s)
  ·exact fun s hs => .inl hs
 have hpre : ∃ m, T' = T ++ m := by
  rw [← hT']
  split
  ·exact tnewOn_prefix _ _
  ·exact ⟨[], by simp⟩
 have hnd : T'.Nodup := by
  rw [← hT']
  split
  ·exact tnewOn_nodup _ _ hd
  ·exact hd
 rw [e] at hby ⊢
 have hml : (moreE T T').length ≤ 18 := by unfold moreE; rw [List.length_map, List.length_drop]; omega
 refine ⟨by simp, by simp only [List.length_append, List.length_cons, List.length_nil]; omega, hlen, hnd, fun p hp => ⟨?_, hby p hp⟩, hmem⟩
 rcases List.mem_append.1 hp with hp | hp
 ·unfold moreE at hp
  obtain ⟨s, hs, rfl⟩ := List.mem_map.1 hp
  obtain ⟨m, hm⟩ := hpre
  rw [hm, List.drop_left] at hs
  have hs64 : s.size ≤ 64 := by
   have h1 := hmem s (by rw [hm]; exact List.mem_append_right _ hs)
   rcases h1 with h1 | h1
   ·rw [hm] at hnd
    exact absurd rfl ((List.nodup_append.1 hnd).2.2 s h1 s hs)
   ·exact h1
  unfold defE
  rw [List.length_cons, bytesOf_length]
  omega
 ·simp only [List.mem_singleton] at hp
  subst hp
  have h1 := textE_len v T' (by omega) r.2.1 M.t.2
  have h2 := bodyE_len v T' (by omega) r.2.2.1 r.2.2.2.1 r.2.2.2.2.1 r.2.2.2.2.2.1 r.2.2.2.2.2.2 M.n (fun d hd => ⟨(M.d d hd).2.1, (h.num.d d hd).2⟩) h.num.r2.2 h.num.o.2 h.num.w.2
  unfold lastE
  simp only [List.length_append, List.length_cons, List.length_nil]
  split
  ·simp only [List.length_nil]; omega
  ·omega
def layStep (v : Int) (s : List (List Int) × List ByteArray) (r : Rec9) : List (List Int) × List ByteArray := (s.1 ++ (putR v s.2 r).1, (putR v s.2 r).2.1)
def layF (v : Int) (l : List Rec9) : List (List Int) × List ByteArray := l.foldl (layStep v) ([], [])
theorem layF_snoc (v : Int) (l : List Rec9) (r : Rec9) : layF v (l ++ [r]) = layStep v (layF v l) r := by
 unfold layF; rw [List.foldl_append]; rfl
theorem layFold_pre (v : Int) : ∀ (b : List Rec9) (s : List (List Int) × List ByteArray), ∃ post, (b.foldl (layStep v) s).1 = s.1 ++ post := by
 intro b
 induction b with
 | nil => intro s; exact ⟨[], by simp⟩
 | cons r b ih =>
  intro s
  obtain ⟨post, h⟩ := ih (layStep v s r)
  exact ⟨(putR v s.2 r).1 ++ post, by rw [List.foldl_cons, h]; unfold layStep; rw [List.append_assoc]⟩
theorem layF_pre (v : Int) (a b : List Rec9) : ∃ post, (layF v (a ++ b)).1 = (layF v a).1 ++ post := by
 unfold layF; rw [List.foldl_append]; exact layFold_pre v b _
structure LayFit (l : List Rec9) (s : List (List Int) × List ByteArray) : Prop where
 n : s.1.length ≤ 19 * l.length
 t : s.2.length ≤ 18 * l.length
 nd : s.2.Nodup
 b : ∀ p ∈ s.1, p.length ≤ 3000 ∧ ∀ x ∈ p, 0 ≤ x ∧ x < 256
theorem lay_fit {v : Int} (l : List Rec9) (hl : l.length ≤ 1000) (hg : ∀ r ∈ l, GoodR v r) : LayFit l (layF v l) := by
 have h : ∀ n, n ≤ l.length → LayFit (l.take n) (layF v (l.take n)) := by
  intro n
  induction n with
  | zero => intro _; exact ⟨Nat.zero_le _, Nat.zero_le _, List.nodup_nil, by simp [layF]⟩
  | succ n ih =>
   intro hn
   have h := ih (by omega)
   have e : l.take (n + 1) = l.take n ++ [l[n]] := List.take_succ_eq_append_getElem (by omega)
   have hlt : (l.take n).length = n := by rw [List.length_take]; omega
   have hf := put_fit (T := (layF v (l.take n)).2) (by have := h.t; omega) h.nd (hg l[n] (List.getElem_mem _))
   rw [e, layF_snoc]
   unfold layStep
   refine ⟨?_, ?_, hf.nd, ?_⟩
   ·have := h.n; have := hf.n1; simp only [List.length_append, List.length_singleton]; omega
   ·have := h.t; have := hf.t; simp only [List.length_append, List.length_singleton]; omega
   ·intro p hp
    rcases List.mem_append.1 hp with hp | hp
    ·exact h.b p hp
    ·exact hf.b p hp
 have := h l.length (Nat.le_refl _)
 rwa [List.take_length] at this
theorem getF_lay {v : Int} {l : List Rec9} (hl : l.length ≤ 1000) (hg : ∀ r ∈ l, GoodR v r) (j : Nat) (hj : j < l.length) :
  getF v (layF v (l.take j)).2 (layF v l).1 ((layF v (l.take j)).1.length : Int) = (l[j], ((layF v (l.take (j + 1))).1.length : Int), (layF v (l.take (j + 1))).2, 0) ∧ (layF v (l.take j)).1.length < (layF v (l.take (j + 1))).1.length := by
 have e : l = (l.take j ++ [l[j]]) ++ l.drop (j + 1) := by
  rw [← List.take_succ_eq_append_getElem hj, List.take_append_drop]
 have e1 : l.take (j + 1) = l.take j ++ [l[j]] := List.take_succ_eq_append_getElem hj
 obtain ⟨post, hp⟩ := layF_pre v (l.take j ++ [l[j]]) (l.drop (j + 1))
 rw [← e, layF_snoc] at hp
 have hfa := lay_fit (v := v) (l.take j) (by rw [List.length_take]; omega) (fun r hr => hg r (List.mem_of_mem_take hr))
 have hgj := hg l[j] (List.getElem_mem _)
 have hT : (layF v (l.take j)).2.length ≤ 50000 := by have := hfa.t; rw [List.length_take] at this; omega
 have hf := put_fit (T := (layF v (l.take j)).2) hT hfa.nd hgj
 rw [hp, e1, layF_snoc]
 unfold layStep
 dsimp only
 have h := getF_put (T := (layF v (l.take j)).2) (by omega) hfa.nd hgj.may hgj.num.r2 hgj.num.o hgj.num.w hgj.num.d (layF v (l.take j)).1 post
 rw [List.append_assoc, h, List.length_append]
 exact ⟨rfl, by have := hf.n0; omega⟩
theorem getF_end (v : Int) (T : List ByteArray) (ps : List (List Int)) : getF v T ps (ps.length : Int) = (rec0, 0, T, if 1 ≤ v ∧ v ≤ 3 then 6 else 11) := by
 unfold getF
 by_cases hv : 1 ≤ v ∧ v ≤ 3
 ·rw [if_neg (fun h => h hv), if_neg (by omega), if_pos hv]
  have : defsAt ps ps.length = [] := by simp [defsAt]
  simp [this]
 ·rw [if_pos hv, if_neg hv]
theorem cellsOf_recs9 : Try.prog.cellsOf 84 = 1 := by kernel_rfl
set_option maxRecDepth 100000 in
theorem open_t84 {H : Type} {enc : TypeId × Value → H} {W : World} {base : Nat} {held : Bool} {v : Value} {d : DataW H} {ps : List MemPlace} {r : Reach} {b0 : Nat} (hval : Value.okWide Try.prog W r b0 84 v) (h : DataW.Trod enc Try.prog W base (fun _ => true) held 84 v d ps) :
  ∃ x, IsRows kdRec okRec W v x := open_rows Try.underlying84 cellsOf_recs9 opens_rec8 hval h
theorem info_rec9 : (Try.prog.info? 62).map (fun i => (i.zero, i.size, i.bytes)) = some (some (.agg #[.int .i64 0, .string ⟨#[]⟩, .int .u64 0, .slice none 0 0, .int .u64 0, .int .u64 0, .string ⟨#[]⟩]), 7, 88) := by kernel_rfl
def cells9 (r : Rec9) (A : Option Addr) (c : Nat) : List Value := [.int .i64 r.1, .string r.2.1, .int .u64 r.2.2.1, .slice A r.2.2.2.1.length c, .int .u64 r.2.2.2.2.1, .int .u64 r.2.2.2.2.2.1, .string r.2.2.2.2.2.2]
theorem kdRec_open {w : World} {r : Rec9} {cs : List Value} (h : kdRec.K w r cs) : ∃ A c, cs = cells9 r A c ∧ r.2.2.2.1.length ≤ c ∧ Kd.C k109 w A r.2.2.2.1.length r.2.2.2.1 := by
 obtain ⟨x0, x1, x2, x3, x4, x5, x6⟩ := r
 obtain ⟨c0, r0, rfl, h0, c1, r1, rfl, h1, c2, r2, rfl, h2, c3, r3, rfl, ⟨A, c, hc3, hle, hC⟩, c4, r4, rfl, h4, c5, r5, rfl, h5, h6⟩ := h
 have g0 : c0 = [.int .i64 x0] := h0
 have g1 : c1 = [.string x1] := h1
 have g2 : c2 = [.int .u64 x2] := h2
 have g4 : c4 = [.int .u64 x4] := h4
 have g5 : c5 = [.int .u64 x5] := h5
 have g6 : r5 = [.string x6] := h6
 subst g0 g1 g2 g4 g5 g6 hc3
 exact ⟨A, c, rfl, hle, hC⟩
theorem at_row9 {d : Kd Rec9} {w W : World} {A : Option Addr} {l : List Rec9} (hd : d.sz = 7) (hK : ∀ r cs, d.K W r cs → kdRec.K w r cs) (h : Kd.C d W A l.length l) (i : Nat) (hi : i < l.length) (r : Rec9) (hr : l[i] = r) :
  ∃ ad A3 c3, A = some ad ∧ W.cell? (ad.add (i * 7)) = some (.int .i64 r.1) ∧ W.cell? ⟨(ad.add (i * 7)).block, (ad.add (i * 7)).off + 1, none⟩ = some (.string r.2.1) ∧ W.cell? ⟨(ad.add (i * 7)).block, (ad.add (i * 7)).off + 2, none⟩ = some (.int .u64 r.2.2.1) ∧
   W.cell? ⟨(ad.add (i * 7)).block, (ad.add (i * 7)).off + 3, none⟩ = some (.slice A3 r.2.2.2.1.length c3) ∧ W.cell? ⟨(ad.add (i * 7)).block, (ad.add (i * 7)).off + 4, none⟩ = some (.int .u64 r.2.2.2.2.1) ∧ W.cell? ⟨(ad.add (i * 7)).block, (ad.add (i * 7)).off + 5, none⟩ = some (.int .u64 r.2.2.2.2.2.1) ∧
   W.cell? ⟨(ad.add (i * 7)).block, (ad.add (i * 7)).off + 6, none⟩ = some (.string r.2.2.2.2.2.2) ∧ r.2.2.2.1.length ≤ c3 ∧ Kd.C k109 w A3 r.2.2.2.1.length r.2.2.2.1 := by
 obtain ⟨ad, c, e, _, hKr, hc0⟩ := Kd.C_get h rec0 (i : Int) (by omega) (by omega)
 rw [Int.toNat_natCast, hd] at hc0
 rw [Int.toNat_natCast, show l.getD i rec0 = r by simp [hi, hr]] at hKr
 obtain ⟨A3, c3, rfl, hle, hC⟩ := kdRec_open (hK _ _ hKr)
 exact ⟨ad, A3, c3, e, hc0 0 _ rfl, by rw [← add_field _ _ 1 (by omega)]; exact hc0 1 _ rfl, by rw [← add_field _ _ 2 (by omega)]; exact hc0 2 _ rfl, by rw [← add_field _ _ 3 (by omega)]; exact hc0 3 _ rfl, by rw [← add_field _ _ 4 (by omega)]; exact hc0 4 _ rfl, by rw [← add_field _ _ 5 (by omega)]; exact hc0 5 _ rfl, by rw [← add_field _ _ 6 (by omega)]; exact hc0 6 _ rfl, hle, hC⟩
abbrev kFix (w : World) : Kd Rec9 := Kd.fixed kdRec w
structure RwA (w X : World) (S1 S2 : Nat → Prop) (g1 g2 : Nat) (T1 T2 : List ByteArray) (va vg : Value) (rows : List (List Int)) (good : List Rec9) : Prop where
 t1 : Tab X S1 g1 T1
 t2 : Tab X S2 g2 T2
 dj : ∀ k, S1 k → ¬ S2 k
 s1 : ∀ k, S1 k → w.heap.size ≤ k
 s2 : ∀ k, S2 k → w.heap.size ≤ k
 bl : Below w.heap.size w X
 ra : Kd.R kRows 22 X w.heap.size (fun k => ¬ S1 k ∧ ¬ S2 k) va rows
 rg : Kd.R (kFix w) 62 X w.heap.size (fun k => ¬ S1 k ∧ ¬ S2 k) vg good
section
variable {w X X' : World} {S1 S2 : Nat → Prop} {g1 g2 : Nat} {T1 T2 : List ByteArray} {va vg : Value} {rows : List (List Int)} {good : List Rec9}
theorem RwA.below (h : RwA w X S1 S2 g1 g2 T1 T2 va vg rows good) (hb : Below X.heap.size X X') : RwA w X' S1 S2 g1 g2 T1 T2 va vg rows good :=
 ⟨h.t1.keep (Kp.of_below hb (fun _ => False)) (fun _ _ h => h), h.t2.keep (Kp.of_below hb (fun _ => False)) (fun _ _ h => h), h.dj, h.s1, h.s2, h.bl.trans (hb.mono h.bl.size), Kd.R_below h.ra hb, Kd.R_below h.rg hb⟩
end
end Go.Proofs.Ytmeocdkiecknkaa
namespace Go.Proofs.Ytmeocdkiecknkaa
open Go.RowKit Go.Proofs.YtmeocdkiecknkaaW.PrintWords Go.Proofs.Ytmeocdkiecknkaa.GRR
def recsL (v : Int) (ps : List (List Int)) : Nat → List ByteArray → Int → List (Rec9 × Int)
 | 0, _, _ => []
 | f + 1, T, a => if (getF v T ps a).2.2.2 = 0 then ((getF v T ps a).1, (getF v T ps a).2.1) :: recsL v ps f (getF v T ps a).2.2.1 (getF v T ps a).2.1 else []
theorem takeWhile_all {α : Type} (f : α → Bool) : ∀ (l : List α), (∀ a ∈ l, f a = true) → l.takeWhile f = l := by
 intro l
 induction l with
 | nil => intro _; rfl
 | cons a l ih =>
  intro h
  rw [List.takeWhile_cons_of_pos (h a List.mem_cons_self), ih (fun b hb => h b (List.mem_cons_of_mem _ hb))]
theorem getF_part {v : Int} (T : List ByteArray) (hv : 1 ≤ v ∧ v ≤ 3) (pre ds : List (List Int)) (hd : ∀ p ∈ ds, isDef p = true) : getF v T (pre ++ ds) (pre.length : Int) = (rec0, 0, T, 6) := by
 unfold getF
 have e : defsAt (pre ++ ds) pre.length = ds := by
  unfold defsAt
  rw [List.drop_left]
  exact takeWhile_all isDef ds hd
 rw [if_neg (fun h => h hv), if_neg (by rw [List.length_append]; omega)]
 simp only [Int.toNat_natCast]
 rw [e, if_pos (by rw [List.length_append])]
theorem put_defs {v : Int} {T : List ByteArray} {r : Rec9} (h : mayR v r = true) (k : Nat) (hk : k < (putR v T r).1.length) : ∀ p ∈ (putR v T r).1.take k, isDef p = true := by
 rw [putF_may T h] at hk ⊢
 dsimp only at hk ⊢
 rw [List.length_append, List.length_singleton] at hk
 intro p hp
 rw [List.take_append_of_le_length (by omega)] at hp
 exact moreE_def _ _ p (List.mem_of_mem_take hp)
theorem getF_take {v : Int} {l : List Rec9} (hl : l.length ≤ 1000) (hg : ∀ r ∈ l, GoodR v r) (j : Nat) (hj : j < l.length) (m : Nat) (hm : (layF v (l.take j)).1.length ≤ m) :
  ((layF v (l.take (j + 1))).1.length ≤ m → getF v (layF v (l.take j)).2 ((layF v l).1.take m) ((layF v (l.take j)).1.length : Int) = (l[j], ((layF v (l.take (j + 1))).1.length : Int), (layF v (l.take (j + 1))).2, 0)) ∧
  (m < (layF v (l.take (j + 1))).1.length → (getF v (layF v (l.take j)).2 ((layF v l).1.take m) ((layF v (l.take j)).1.length : Int)).2.2.2 = 6) := by
 have e : l = (l.take j ++ [l[j]]) ++ l.drop (j + 1) := by
  rw [← List.take_succ_eq_append_getElem hj, List.take_append_drop]
 have e1 : l.take (j + 1) = l.take j ++ [l[j]] := List.take_succ_eq_append_getElem hj
 obtain ⟨post, hp⟩ := layF_pre v (l.take j ++ [l[j]]) (l.drop (j + 1))
 rw [← e, layF_snoc] at hp
 have hfa := lay_fit (v := v) (l.take j) (by rw [List.length_take]; omega) (fun r hr => hg r (List.mem_of_mem_take hr))
 have hgj := hg l[j] (List.getElem_mem _)
 have hT : (layF v (l.take j)).2.length ≤ 50000 := by have := hfa.t; rw [List.length_take] at this; omega
 have hnd := hfa.nd
 clear hfa e
 rw [hp, e1, layF_snoc]
 unfold layStep
 dsimp only
 generalize (layF v (l.take j)).1 = pre at *
 generalize hTT : (layF v (l.take j)).2 = T at *
 rw [List.append_assoc, List.length_append]
 constructor
 ·intro h
  have h1 : (pre ++ ((putR v T l[j]).1 ++ post)).take m = pre ++ ((putR v T l[j]).1 ++ post.take (m - pre.length - (putR v T l[j]).1.length)) := by
   rw [List.take_append, List.take_of_length_le (by omega), List.take_append, List.take_of_length_le (by omega)]
  rw [h1, getF_put (T := T) (by omega) hnd hgj.may hgj.num.r2 hgj.num.o hgj.num.w hgj.num.d pre _]
 ·intro h
  have h1 : (pre ++ ((putR v T l[j]).1 ++ post)).take m = pre ++ (putR v T l[j]).1.take (m - pre.length) := by
   rw [List.take_append, List.take_of_length_le (by omega), List.take_append_of_le_length (by omega)]
  rw [h1, getF_part T (may_facts hgj.may).ver pre _ (put_defs hgj.may _ (by omega))]
theorem getF_next {v : Int} {T : List ByteArray} {ps : List (List Int)} {a : Int} (h : (getF v T ps a).2.2.2 = 0) : ∃ n : Nat, (getF v T ps a).2.1 = (n : Int) ∧ a + 1 ≤ (n : Int) ∧ n ≤ ps.length ∧ (getF v T ps a).2.2.1.length ≤ T.length + 18 ∧ 0 ≤ a := by
 unfold getF at h ⊢
 by_cases hv : 1 ≤ v ∧ v ≤ 3
 ·rw [if_neg (fun h => h hv)] at h ⊢
  by_cases h1 : a < 0 ∨ (ps.length : Int) < a
  ·rw [if_pos h1] at h
   exact absurd h (show ¬ (1 : Int) = 0 by decide)
  ·rw [if_neg h1] at h ⊢
   have hlen : (defsAt ps a.toNat).length ≤ ps.length - a.toNat := by
    unfold defsAt
    have := (List.takeWhile_sublist (l := ps.drop a.toNat) isDef).length_le
    rwa [List.length_drop] at this
   dsimp only at h ⊢
   split at h
   ·exact absurd h (show ¬ (6 : Int) = 0 by decide)
   ·rename_i hn
    rw [if_neg hn]
    split at h
    ·rename_i hok
     rw [if_pos hok]
     generalize (lastR v (tnewOn T ((defsAt ps a.toNat).map defS)) (ps.getD (a.toNat + (defsAt ps a.toNat).length) [])).1 = r at *
     have hm : mayR v r = true := putF_yes (v := v) (T := T) (r := r) hok.1
     have M := may_facts hm
     have hnw := names_few (x1 := r.2.1) (l := r.2.2.2.1) (x6 := r.2.2.2.2.2.2) M.t.2 M.n (fun d hd => (M.d d hd).2.1) M.tag.1
     refine ⟨_, rfl, by omega, by omega, ?_, by omega⟩
     have e := putF_may T hm
     unfold putR at e
     dsimp only
     rw [e]
     dsimp only
     split
     ·have := tnewOn_len T (tnew (namesL r.2.1 r.2.2.2.1 r.2.2.2.2.2.2)); omega
     ·omega
    ·exact absurd h (show ¬ (3 : Int) = 0 by decide)
 ·rw [if_pos hv] at h
  exact absurd h (show ¬ (11 : Int) = 0 by decide)
theorem recsL_take {v : Int} {l : List Rec9} (hl : l.length ≤ 1000) (hg : ∀ r ∈ l, GoodR v r) (m : Nat) (hv : 1 ≤ v ∧ v ≤ 3) : ∀ (d j f : Nat), l.length = j + d → d < f → (layF v (l.take j)).1.length ≤ m →
  ∃ k, j ≤ k ∧ k ≤ l.length ∧ (layF v (l.take k)).1.length ≤ m ∧ (k < l.length → m < (layF v (l.take (k + 1))).1.length) ∧
   recsL v ((layF v l).1.take m) f (layF v (l.take j)).2 ((layF v (l.take j)).1.length : Int) = (List.range' j (k - j)).map (fun i => (l.getD i rec0, ((layF v (l.take (i + 1))).1.length : Int))) := by
 intro d
 induction d with
 | zero =>
  intro j f hj hf hm
  obtain ⟨f, rfl⟩ : ∃ q, f = q + 1 := ⟨f - 1, by omega⟩
  obtain rfl : j = l.length := by omega
  rw [List.take_length] at hm
  refine ⟨l.length, Nat.le_refl _, Nat.le_refl _, by rw [List.take_length]; exact hm, fun h => by omega, ?_⟩
  rw [List.take_length, List.take_of_length_le hm, recsL, getF_end]
  simp [hv]
 | succ d ih =>
  intro j f hj hf hm
  obtain ⟨f, rfl⟩ : ∃ q, f = q + 1 := ⟨f - 1, by omega⟩
  have hlt : j < l.length := by omega
  have h := getF_take hl hg j hlt m hm
  rw [recsL]
  by_cases hm2 : (layF v (l.take (j + 1))).1.length ≤ m
  ·obtain ⟨k, k1, k2, k3, k4, k5⟩ := ih (j + 1) f (by omega) (by omega) hm2
   rw [h.1 hm2]
   refine ⟨k, by omega, k2, k3, k4, ?_⟩
   dsimp only
   rw [if_pos rfl, k5, show k - j = (k - (j + 1)) + 1 by omega, List.range'_succ, List.map_cons]
   congr 1
   simp [hlt]
  ·refine ⟨j, Nat.le_refl _, by omega, hm, fun _ => by omega, ?_⟩
   rw [h.2 (by omega), if_neg (by decide), Nat.sub_self]
   rfl
end Go.Proofs.Ytmeocdkiecknkaa
namespace Go.Proofs.Ytmeocdkiecknkaa
open Go.RowKit Go.Proofs.YtmeocdkiecknkaaW.PrintWords Go.Proofs.Ytmeocdkiecknkaa.GRR
def rowRw (r2 r6 : Option Nat) (i : Nat) : Option Nat := match i with
 | 2 => r2
 | 6 => r6
 | _ => none
theorem rowRw_ne {r2 r6 : Option Nat} (i q : Nat) (h2 : i ≠ 2 ∨ some q ≠ r2) (h6 : i ≠ 6 ∨ some q ≠ r6) : some q ≠ rowRw r2 r6 i := by
 unfold rowRw
 split
 ·exact h2.resolve_left (fun h => h rfl)
 ·exact h6.resolve_left (fun h => h rfl)
 ·simp
structure RestRw (r2 r6 : Option Nat) (wc X : World) : Prop where
 size : wc.heap.size ≤ X.heap.size
 eq : ∀ q, q < wc.heap.size → some q ≠ r2 → some q ≠ r6 → X.heap[q]? = wc.heap[q]?
theorem RestRw.step {r2 r6 : Option Nat} {wc X X' : World} (h : RestRw r2 r6 wc X) {i : Nat} (hg : X.grownBy X' (rowRw r2 r6 i)) (hs : X.heap.size ≤ X'.heap.size) : RestRw r2 r6 wc X' :=
 ⟨Nat.le_trans h.size hs, fun q hq h2 h6 => (hg.block q (Nat.lt_of_lt_of_le hq h.size) (rowRw_ne i q (.inr h2) (.inr h6))).trans (h.eq q hq h2 h6)⟩
theorem R_not {α : Type} {d : Kd α} {e base : Nat} {ok : Nat → Prop} {W : World} {v : Value} {xs : List α} (h : d.R e W base ok v xs) (r : Option Nat) (hr : ∀ k, r = some k → ∃ C t, W.heap[k]? = some (.cells C t (0, 0)) ∧ ∀ q, q ∈ e :: d.E → q ≠ t) : d.R e W base (fun k => ok k ∧ some k ≠ r) v xs := by
 cases r with
 | none => exact Kd.R_mono h (fun k hk => ⟨hk, by simp⟩)
 | some b =>
  obtain ⟨C, t, hC, ht⟩ := hr b rfl
  exact Kd.R_mono (Kd.R_types h hC ht) (fun k hk => ⟨hk.1, by simpa using hk.2⟩)
end Go.Proofs.Ytmeocdkiecknkaa
namespace Go.Proofs.Ytmeocdkiecknkaa
open Go.RowKit Go.Proofs.YtmeocdkiecknkaaW.PrintWords Go.Proofs.Ytmeocdkiecknkaa.GRR
set_option maxRecDepth 100000 in
set_option maxHeartbeats 1000000 in
theorem great8_any (k0 : Int) (x1 : ByteArray) (x2 : Int) (ds : List S109) (x4 x5 : Int) (x6 : ByteArray) (A : Option Addr) (c : Nat) (w : World) (hC : Kd.C k109 w A ds.length ds) :
  Calls Try.prog 28 #[.agg #[.int .i64 k0, .string x1, .int .u64 x2, .slice A ds.length c, .int .u64 x4, .int .u64 x5, .string x6]] w fun e w' => ∃ g : Bool, e = .returned (.bool g) ∧ (g = false → RecFew x1 ds x6) ∧ Below w.heap.size w w' := by
 have hm := hC.2.1
 obtain ⟨w1, hw1⟩ : ∃ w1, w.alloc (.cells #[.int .i64 k0, .string x1, .int .u64 x2, .slice A ds.length c, .int .u64 x4, .int .u64 x5, .string x6] 62) = w1 := ⟨_, rfl⟩
 have hb1 : Below w.heap.size w w1 := by rw [← hw1]; exact (Below.refl _ _).alloc (Nat.le_refl _) _
 have hk1 : w1.heap[w.heap.size]? = some (.cells #[.int .i64 k0, .string x1, .int .u64 x2, .slice A ds.length c, .int .u64 x4, .int .u64 x5, .string x6] 62 (0, 0)) := by rw [← hw1]; exact heap_new _ _
 obtain ⟨b1, hbb⟩ : ∃ b, w.heap.size = b := ⟨_, rfl⟩
 rw [hbb] at hk1
 have HC := Lib.hid hC
 have HB1 := Lib.hid hb1
 have HW1 := Lib.hid hw1
 have HK1 := Lib.hid hk1
 have HBB := Lib.hid hbb
 clear hC hb1 hw1 hk1 hbb
 go_enter Try.func28, Try.ntmps28
 go_wp2_with fail
 rw [HW1.out, HBB.out]
 go_loopw [8] (fun u wr => ∃ (i : Nat), i ≤ ds.length ∧ u = .int .i64 (i : Int) ∧ Hid (Below w1.heap.size w1 wr) ∧ Hid (∀ d ∈ ds.take i, d.f0.size ≤ 300)) (fun u _ => ds.length - (intOf u).toNat)
 case atStart => exact ⟨0, by omega, rfl, Lib.hid (Below.refl _ _), Lib.hid (by simp)⟩
 case round =>
  obtain ⟨i, hi, rfl, HB, HF⟩ := hrel
  have HBW := Lib.hid (HB1.out.trans (HB.out.mono HB1.out.size))
  by_cases hlt : i < ds.length
  ·have hdl : decide ((i : Int) < (ds.length : Int)) = true := decide_eq_true (by omega)
   obtain ⟨ad, hA, g0, g1, g2⟩ := at_T109 (Kd.C_below HC.out HBW.out) (i : Int) (by omega) (by omega)
   subst hA
   have htk : ds.take (i + 1) = ds.take i ++ [ds[i]] := List.take_succ_eq_append_getElem hlt
   rw [rd_dep ds i hlt, Int.toNat_natCast] at g0 g1 g2
   generalize ds[i] = d at g0 g1 g2 htk
   obtain ⟨d0, dh, do_⟩ := d
   dsimp only at g0 g1 g2
   have HTK := Lib.hid htk
   have HBA := Lib.hid (HB.out.alloc HB.out.size (.cells #[.string d0, .int .u64 dh, .bool do_] 109))
   clear htk
   by_cases h3 : 300 < d0.size
   ·have d3 : decide (300 < (d0.size : Int)) = true := decide_eq_true (by omega)
    go_wp2_with fail
    go_ret
    exact ⟨true, rfl, by simp, HB1.out.trans (HBA.out.mono HB1.out.size)⟩
   ·have d3 : decide (300 < (d0.size : Int)) = false := decide_eq_false (by omega)
    have HF2 : Hid (∀ d ∈ ds.take (i + 1), d.f0.size ≤ 300) := Lib.hid (by
     rw [HTK.out]
     intro d hd
     rcases List.mem_append.1 hd with hd | hd
     ·exact HF.out d hd
     ·simp only [List.mem_singleton] at hd
      subst hd
      show d0.size ≤ 300
      omega)
    go_wp2_with fail
    go_roundw
    case rel => exact ⟨i + 1, by omega, by go_num, HBA, HF2⟩
    case measure => simp [intOf]; omega
  ·obtain rfl : i = ds.length := by omega
   have hF := HF.out
   rw [List.take_length] at hF
   have HF2 := Lib.hid hF
   clear hF
   have hk := blk_below HK1.out HB.out
   have s1 : wr.cell? ⟨b1, 1, none⟩ = some (.string x1) := (blk_cell hk 1).trans rfl
   have s3 : wr.cell? ⟨b1, 3, none⟩ = some (.slice A ds.length c) := (blk_cell hk 3).trans rfl
   have s6 : wr.cell? ⟨b1, 6, none⟩ = some (.string x6) := (blk_cell hk 6).trans rfl
   clear hk
   by_cases h1 : 60 < ds.length
   ·have d1 : decide (60 < (ds.length : Int)) = true := decide_eq_true (by omega)
    go_wp2_with fail
    go_ret
    exact ⟨true, rfl, by simp, HBW.out⟩
   ·have d1 : decide (60 < (ds.length : Int)) = false := decide_eq_false (by omega)
    by_cases h2 : 300 < x1.size
    ·have d2 : decide (300 < (x1.size : Int)) = true := decide_eq_true (by omega)
     go_wp2_with fail
     go_ret
     exact ⟨true, rfl, by simp, HBW.out⟩
    ·have d2 : decide (300 < (x1.size : Int)) = false := decide_eq_false (by omega)
     by_cases h3 : 300 < x6.size
     ·have d3 : decide (300 < (x6.size : Int)) = true := decide_eq_true (by omega)
      go_wp2_with fail
      go_ret
      exact ⟨true, rfl, by simp, HBW.out⟩
     ·have d3 : decide (300 < (x6.size : Int)) = false := decide_eq_false (by omega)
      go_wp2_with fail
      go_ret
      exact ⟨false, rfl, fun _ => ⟨by omega, by omega, by omega, HF2.out⟩, HBW.out⟩
end Go.Proofs.Ytmeocdkiecknkaa
namespace Go.Proofs.Ytmeocdkiecknkaa
open Go.RowKit Go.Proofs.YtmeocdkiecknkaaW.PrintWords Go.Proofs.Ytmeocdkiecknkaa.GRR
set_option maxRecDepth 100000 in
set_option maxHeartbeats 2000000 in
theorem rsame_any (k0 : Int) (x1 : ByteArray) (x2 : Int) (ds : List S109) (x4 x5 : Int) (x6 : ByteArray) (A3 A4 : Option Addr) (c3 c4 : Nat) (w : World) (hA3 : Kd.C k109 w A3 ds.length ds) (hA4 : Kd.C k109 w A4 ds.length ds) :
  Calls Try.prog 38 #[.agg #[.int .i64 k0, .string x1, .int .u64 x2, .slice A3 ds.length c3, .int .u64 x4, .int .u64 x5, .string x6], .agg #[.int .i64 k0, .string x1, .int .u64 x2, .slice A4 ds.length c4, .int .u64 x4, .int .u64 x5, .string x6]] w fun e w' => e = .returned (.bool true) ∧ Below w.heap.size w w' := by
 have hm := hA3.2.1
 obtain ⟨w1, hw1⟩ : ∃ w1, (w.alloc (.cells #[.int .i64 k0, .string x1, .int .u64 x2, .slice A3 ds.length c3, .int .u64 x4, .int .u64 x5, .string x6] 62)).alloc (.cells #[.int .i64 k0, .string x1, .int .u64 x2, .slice A4 ds.length c4, .int .u64 x4, .int .u64 x5, .string x6] 62) = w1 := ⟨_, rfl⟩
 have hb1 : Below w.heap.size w w1 := by rw [← hw1]; exact ((Below.refl _ _).alloc (Nat.le_refl _) _).alloc (by rw [heap_size_alloc]; omega) _
 have k2 : w1.heap[w.heap.size]? = some (.cells #[.int .i64 k0, .string x1, .int .u64 x2, .slice A3 ds.length c3, .int .u64 x4, .int .u64 x5, .string x6] 62 (0, 0)) := by rw [← hw1]; exact blk_alloc (heap_new _ _) _
 have k3 : w1.heap[w.heap.size + 1]? = some (.cells #[.int .i64 k0, .string x1, .int .u64 x2, .slice A4 ds.length c4, .int .u64 x4, .int .u64 x5, .string x6] 62 (0, 0)) := by
  rw [← hw1]
  have := heap_new (w.alloc (.cells #[.int .i64 k0, .string x1, .int .u64 x2, .slice A3 ds.length c3, .int .u64 x4, .int .u64 x5, .string x6] 62)) (.cells #[.int .i64 k0, .string x1, .int .u64 x2, .slice A4 ds.length c4, .int .u64 x4, .int .u64 x5, .string x6] 62)
  rwa [heap_size_alloc] at this
 obtain ⟨b2, hbb⟩ : ∃ b, w.heap.size = b := ⟨_, rfl⟩
 rw [hbb] at k2 k3
 have HA3 := Lib.hid hA3
 have HA4 := Lib.hid hA4
 have HB1 := Lib.hid hb1
 have HW1 := Lib.hid hw1
 have HK2 := Lib.hid k2
 have HK3 := Lib.hid k3
 have HBB := Lib.hid hbb
 clear hA3 hA4 hb1 hw1 k2 k3 hbb
 go_enter Try.func38, Try.ntmps38
 go_wp2_with fail
 rw [HW1.out, HBB.out]
 go_loopw [5] (fun u wr => ∃ (i : Nat), i ≤ ds.length ∧ u = .int .i64 (i : Int) ∧ Hid (Below w1.heap.size w1 wr)) (fun u _ => ds.length - (intOf u).toNat)
 case atStart => exact ⟨0, by omega, rfl, Lib.hid (Below.refl _ _)⟩
 case round =>
  obtain ⟨i, hi, rfl, HB⟩ := hrel
  have hk2 := blk_below HK2.out HB.out
  have s3 : wr.cell? ⟨b2, 3, none⟩ = some (.slice A3 ds.length c3) := (blk_cell hk2 3).trans rfl
  by_cases hlt : i < ds.length
  ·have hdl : decide ((i : Int) < (ds.length : Int)) = true := decide_eq_true (by omega)
   have hbw := HB1.out.trans (HB.out.mono HB1.out.size)
   obtain ⟨ad3, h3, g0, g1, g2⟩ := at_T109 (Kd.C_below HA3.out hbw) (i : Int) (by omega) (by omega)
   obtain ⟨ad4, h4, q0, q1, q2⟩ := at_T109 (Kd.C_below HA4.out hbw) (i : Int) (by omega) (by omega)
   subst h3 h4
   rw [rd_dep ds i hlt, Int.toNat_natCast] at g0 g1 g2 q0 q1 q2
   generalize ds[i] = d at g0 g1 g2 q0 q1 q2
   obtain ⟨d0, d1, d2⟩ := d
   dsimp only at g0 g1 g2 q0 q1 q2
   have hk3 := blk_below HK3.out HB.out
   have u3 : wr.cell? ⟨b2 + 1, 3, none⟩ = some (.slice (some ad4) ds.length c4) := (blk_cell hk3 3).trans rfl
   clear hk2 hk3 hbw
   go_wp2_with fail
   go_quiet (fail)
   go_wp2_with fail
   go_roundw
   case rel => exact ⟨i + 1, by omega, by go_num, Lib.hid (pw_below_drewN HB.out _)⟩
   case measure => simp [intOf]; omega
  ·obtain rfl : i = ds.length := by omega
   clear hk2
   go_wp2_with fail
   go_ret
   exact ⟨rfl, HB1.out.trans (HB.out.mono HB1.out.size)⟩
end Go.Proofs.Ytmeocdkiecknkaa
