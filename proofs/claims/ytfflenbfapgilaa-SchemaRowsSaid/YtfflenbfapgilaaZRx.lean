/- Texts laid as one by shake.py, cut to what the claim needs: SchV, RowR, WSchemaRows. (Names that begin with W and the print's groups (G..x, G..z): laid by the kit's print, cut.) -/
import Derived.Test.YtfflenbfapgilaaZRt
import Derived.Test.YtfflenbfapgilaaZRw
import Derived.Test.YtfflenbfapgilaaZRk
import Derived.Test.YtfflenbfapgilaaZRe
set_option linter.unusedVariables false
set_option linter.unusedSimpArgs false
namespace Go.Proofs.Ytfflenbfapgilaa
open Go.RowKit Go.Proofs.YtfflenbfapgilaaW.PrintWords Go.Proofs.Ytfflenbfapgilaa.GRR
theorem wf_u64 {n : Int} (h : (Lit.int .u64 n).wf = true) : 0 ≤ n ∧ n < 18446744073709551616 := by
 simp [Lit.wf, IntKind.min, IntKind.max, IntKind.signed, IntKind.bits] at h; omega
abbrev putR (v : Int) (T : List ByteArray) (r : Rec9) := putF v T r.1 r.2.1 r.2.2.1 r.2.2.2.1 r.2.2.2.2.1 r.2.2.2.2.2.1 r.2.2.2.2.2.2
abbrev mayR (v : Int) (r : Rec9) := mayB v r.1 r.2.1 r.2.2.1 r.2.2.2.1 r.2.2.2.2.1 r.2.2.2.2.2.1 r.2.2.2.2.2.2
structure NumR (r : Rec9) : Prop where
 r2 : 0 ≤ r.2.2.1 ∧ r.2.2.1 < 18446744073709551616
 o : 0 ≤ r.2.2.2.2.1 ∧ r.2.2.2.2.1 < 18446744073709551616
 w : 0 ≤ r.2.2.2.2.2.1 ∧ r.2.2.2.2.2.1 < 18446744073709551616
 d : ∀ d ∈ r.2.2.2.1, 0 ≤ d.f1 ∧ d.f1 < 18446744073709551616
theorem NumR.of {r : Rec9} (h : okRec r) : NumR r := ⟨wf_u64 h.2.2.1, wf_u64 h.2.2.2.2.1, wf_u64 h.2.2.2.2.2.1, fun d hd => wf_u64 (h.2.2.2.1.2 d hd).2.1⟩
structure GoodR (v : Int) (r : Rec9) : Prop where
 may : mayR v r = true
 num : NumR r
theorem putF_no {v : Int} {T : List ByteArray} {r : Rec9} (h : (putR v T r).2.2 ≠ 0) : (putR v T r).1 = [] ∧ (putR v T r).2.1 = T := by
 unfold putR putF at *
 split
 ·rename_i hv
  split
  ·rename_i hm
   rw [if_pos hv, if_pos hm] at h
   exact absurd rfl h
  ·exact ⟨rfl, rfl⟩
 ·exact ⟨rfl, rfl⟩
theorem putF_yes {v : Int} {T : List ByteArray} {r : Rec9} (h : (putR v T r).2.2 = 0) : mayR v r = true := by
 unfold putR putF at h
 split at h
 ·split at h
  ·rename_i hm; exact hm
  ·exact absurd h (show ¬ (1 : Int) = 0 by decide)
 ·exact absurd h (show ¬ (11 : Int) = 0 by decide)
theorem putF_may {v : Int} (T : List ByteArray) {r : Rec9} (h : mayR v r = true) : putR v T r = (moreE T (if 1 < v then tnewOn T (tnew (namesL r.2.1 r.2.2.2.1 r.2.2.2.2.2.2)) else T) ++ [lastE v (if 1 < v then tnewOn T (tnew (namesL r.2.1 r.2.2.2.1 r.2.2.2.2.2.2)) else T) r.1 r.2.1 r.2.2.1 r.2.2.2.1 r.2.2.2.2.1 r.2.2.2.2.2.1 r.2.2.2.2.2.2], (if 1 < v then tnewOn T (tnew (namesL r.2.1 r.2.2.2.1 r.2.2.2.2.2.2)) else T), 0) := by
 unfold putR putF
 rw [if_pos (may_facts h).ver, if_pos h]
structure PutFit (v : Int) (T : List ByteArray) (F : List (List Int) × List ByteArray × Int) : Prop where
 n0 : 1 ≤ F.1.length
 n1 : F.1.length ≤ 19
 t : F.2.1.length ≤ T.length + 18
 nd : F.2.1.Nodup
 b : ∀ p ∈ F.1, p.length ≤ 3000 ∧ ∀ x ∈ p, 0 ≤ x ∧ x < 256
 z : ∀ s ∈ F.2.1, s ∈ T ∨ s.size ≤ 64
theorem put_fit {v : Int} {T : List ByteArray} {r : Rec9} (hT : T.length ≤ 50000) (hd : T.Nodup) (h : GoodR v r) : PutFit v T (putR v T r) := by
 have M := may_facts h.may
 have hnw := names_few (x1 := r.2.1) (l := r.2.2.2.1) (x6 := r.2.2.2.2.2.2) M.t.2 M.n (fun d hd => (M.d d hd).2.1) M.tag.1
 have hby : ∀ p ∈ (putR v T r).1, ∀ x ∈ p, 0 ≤ x ∧ x < 256 := putF_bytes v T (by omega) r.1 (by have := M.k; omega) r.2.1 (by have := M.t; simp only [maxLen]; omega) r.2.2.1 h.num.r2.2 r.2.2.2.1 (by have := M.n; omega) (fun d hd => ⟨by have := (M.d d hd).2.1; simp only [maxLen]; omega, (h.num.d d hd).2⟩) r.2.2.2.2.1 r.2.2.2.2.2.1 h.num.o.2 h.num.w.2 r.2.2.2.2.2.2
 have e := putF_may T h.may
 obtain ⟨T', hT'⟩ : ∃ T', (if 1 < v then tnewOn T (tnew (namesL r.2.1 r.2.2.2.1 r.2.2.2.2.2.2)) else T) = T' := ⟨_, rfl⟩
 rw [hT'] at e
 have hlen : T'.length ≤ T.length + 18 := by
  rw [← hT']
  split
  ·have := tnewOn_len T (tnew (namesL r.2.1 r.2.2.2.1 r.2.2.2.2.2.2)); omega
  ·omega
 have hmem : ∀ s ∈ T', s ∈ T ∨ s.size ≤ 64 := by
  rw [← hT']
  split
  ·intro s hs
   rw [mem_tnewOn] at hs
   exact hs.imp id (hnw.2 s)
  ·exact fun s hs => .inl hs
 have hpre : ∃ m, T' = T ++ m := by
  rw [← hT']
  split
  ·exact tnewOn_prefix _ _
  ·exact ⟨[], by simp⟩
 have hnd : T'.Nodup := by
  rw [← hT']
  split
  ·exact tnewOn_nodup _ _ hd
  ·exact hd
 rw [e] at hby ⊢
 have hml : (moreE T T').length ≤ 18 := by unfold moreE; rw [List.length_map, List.length_drop]; omega
 refine ⟨by simp, by simp only [List.length_append, List.length_cons, List.length_nil]; omega, hlen, hnd, fun p hp => ⟨?_, hby p hp⟩, hmem⟩
 rcases List.mem_append.1 hp with hp | hp
 ·unfold moreE at hp
  obtain ⟨s, hs, rfl⟩ := List.mem_map.1 hp
  obtain ⟨m, hm⟩ := hpre
  rw [hm, List.drop_left] at hs
  have hs64 : s.size ≤ 64 := by
   have h1 := hmem s (by rw [hm]; exact List.mem_append_right _ hs)
   rcases h1 with h1 | h1
   ·rw [hm] at hnd
    exact absurd rfl ((List.nodup_append.1 hnd).2.2 s h1 s hs)
   ·exact h1
  unfold defE
  rw [List.length_cons, bytesOf_length]
  omega
 ·simp only [List.mem_singleton] at hp
  subst hp
  have h1 := textE_len v T' (by omega) r.2.1 M.t.2
  have h2 := bodyE_len v T' (by omega) r.2.2.1 r.2.2.2.1 r.2.2.2.2.1 r.2.2.2.2.2.1 r.2.2.2.2.2.2 M.n (fun d hd => ⟨(M.d d hd).2.1, (h.num.d d hd).2⟩) h.num.r2.2 h.num.o.2 h.num.w.2
  unfold lastE
  simp only [List.length_append, List.length_cons, List.length_nil]
  split
  ·simp only [List.length_nil]; omega
  ·omega
def layStep (v : Int) (s : List (List Int) × List ByteArray) (r : Rec9) : List (List Int) × List ByteArray := (s.1 ++ (putR v s.2 r).1, (putR v s.2 r).2.1)
def layF (v : Int) (l : List Rec9) : List (List Int) × List ByteArray := l.foldl (layStep v) ([], [])
theorem layF_snoc (v : Int) (l : List Rec9) (r : Rec9) : layF v (l ++ [r]) = layStep v (layF v l) r := by
 unfold layF; rw [List.foldl_append]; rfl
theorem layFold_pre (v : Int) : ∀ (b : List Rec9) (s : List (List Int) × List ByteArray), ∃ post, (b.foldl (layStep v) s).1 = s.1 ++ post := by
 intro b
 induction b with
 | nil => intro s; exact ⟨[], by simp⟩
 | cons r b ih =>
  intro s
  obtain ⟨post, h⟩ := ih (layStep v s r)
  exact ⟨(putR v s.2 r).1 ++ post, by rw [List.foldl_cons, h]; unfold layStep; rw [List.append_assoc]⟩
theorem layF_pre (v : Int) (a b : List Rec9) : ∃ post, (layF v (a ++ b)).1 = (layF v a).1 ++ post := by
 unfold layF; rw [List.foldl_append]; exact layFold_pre v b _
structure LayFit (l : List Rec9) (s : List (List Int) × List ByteArray) : Prop where
 n : s.1.length ≤ 19 * l.length
 t : s.2.length ≤ 18 * l.length
 nd : s.2.Nodup
 b : ∀ p ∈ s.1, p.length ≤ 3000 ∧ ∀ x ∈ p, 0 ≤ x ∧ x < 256
theorem lay_fit {v : Int} (l : List Rec9) (hl : l.length ≤ 1000) (hg : ∀ r ∈ l, GoodR v r) : LayFit l (layF v l) := by
 have h : ∀ n, n ≤ l.length → LayFit (l.take n) (layF v (l.take n)) := by
  intro n
  induction n with
  | zero => intro _; exact ⟨Nat.zero_le _, Nat.zero_le _, List.nodup_nil, by simp [layF]⟩
  | succ n ih =>
   intro hn
   have h := ih (by omega)
   have e : l.take (n + 1) = l.take n ++ [l[n]] := List.take_succ_eq_append_getElem (by omega)
   have hlt : (l.take n).length = n := by rw [List.length_take]; omega
   have hf := put_fit (T := (layF v (l.take n)).2) (by have := h.t; omega) h.nd (hg l[n] (List.getElem_mem _))
   rw [e, layF_snoc]
   unfold layStep
   refine ⟨?_, ?_, hf.nd, ?_⟩
   ·have := h.n; have := hf.n1; simp only [List.length_append, List.length_singleton]; omega
   ·have := h.t; have := hf.t; simp only [List.length_append, List.length_singleton]; omega
   ·intro p hp
    rcases List.mem_append.1 hp with hp | hp
    ·exact h.b p hp
    ·exact hf.b p hp
 have := h l.length (Nat.le_refl _)
 rwa [List.take_length] at this
theorem getF_lay {v : Int} {l : List Rec9} (hl : l.length ≤ 1000) (hg : ∀ r ∈ l, GoodR v r) (j : Nat) (hj : j < l.length) :
  getF v (layF v (l.take j)).2 (layF v l).1 ((layF v (l.take j)).1.length : Int) = (l[j], ((layF v (l.take (j + 1))).1.length : Int), (layF v (l.take (j + 1))).2, 0) ∧ (layF v (l.take j)).1.length < (layF v (l.take (j + 1))).1.length := by
 have e : l = (l.take j ++ [l[j]]) ++ l.drop (j + 1) := by
  rw [← List.take_succ_eq_append_getElem hj, List.take_append_drop]
 have e1 : l.take (j + 1) = l.take j ++ [l[j]] := List.take_succ_eq_append_getElem hj
 obtain ⟨post, hp⟩ := layF_pre v (l.take j ++ [l[j]]) (l.drop (j + 1))
 rw [← e, layF_snoc] at hp
 have hfa := lay_fit (v := v) (l.take j) (by rw [List.length_take]; omega) (fun r hr => hg r (List.mem_of_mem_take hr))
 have hgj := hg l[j] (List.getElem_mem _)
 have hT : (layF v (l.take j)).2.length ≤ 50000 := by have := hfa.t; rw [List.length_take] at this; omega
 have hf := put_fit (T := (layF v (l.take j)).2) hT hfa.nd hgj
 rw [hp, e1, layF_snoc]
 unfold layStep
 dsimp only
 have h := getF_put (T := (layF v (l.take j)).2) (by omega) hfa.nd hgj.may hgj.num.r2 hgj.num.o hgj.num.w hgj.num.d (layF v (l.take j)).1 post
 rw [List.append_assoc, h, List.length_append]
 exact ⟨rfl, by have := hf.n0; omega⟩
theorem getF_end (v : Int) (T : List ByteArray) (ps : List (List Int)) : getF v T ps (ps.length : Int) = (rec0, 0, T, if 1 ≤ v ∧ v ≤ 3 then 6 else 11) := by
 unfold getF
 by_cases hv : 1 ≤ v ∧ v ≤ 3
 ·rw [if_neg (fun h => h hv), if_neg (by omega), if_pos hv]
  have : defsAt ps ps.length = [] := by simp [defsAt]
  simp [this]
 ·rw [if_pos hv, if_neg hv]
theorem cellsOf_recs9 : Try.prog.cellsOf 84 = 1 := by kernel_rfl
set_option maxRecDepth 100000 in
theorem open_t84 {H : Type} {enc : TypeId × Value → H} {W : World} {base : Nat} {held : Bool} {v : Value} {d : DataW H} {ps : List MemPlace} {r : Reach} {b0 : Nat} (hval : Value.okWide Try.prog W r b0 84 v) (h : DataW.Trod enc Try.prog W base (fun _ => true) held 84 v d ps) :
  ∃ x, IsRows kdRec okRec W v x := open_rows Try.underlying84 cellsOf_recs9 opens_rec8 hval h
theorem info_rec9 : (Try.prog.info? 62).map (fun i => (i.zero, i.size, i.bytes)) = some (some (.agg #[.int .i64 0, .string ⟨#[]⟩, .int .u64 0, .slice none 0 0, .int .u64 0, .int .u64 0, .string ⟨#[]⟩]), 7, 88) := by kernel_rfl
def cells9 (r : Rec9) (A : Option Addr) (c : Nat) : List Value := [.int .i64 r.1, .string r.2.1, .int .u64 r.2.2.1, .slice A r.2.2.2.1.length c, .int .u64 r.2.2.2.2.1, .int .u64 r.2.2.2.2.2.1, .string r.2.2.2.2.2.2]
theorem kdRec_open {w : World} {r : Rec9} {cs : List Value} (h : kdRec.K w r cs) : ∃ A c, cs = cells9 r A c ∧ r.2.2.2.1.length ≤ c ∧ Kd.C k113 w A r.2.2.2.1.length r.2.2.2.1 := by
 obtain ⟨x0, x1, x2, x3, x4, x5, x6⟩ := r
 obtain ⟨c0, r0, rfl, h0, c1, r1, rfl, h1, c2, r2, rfl, h2, c3, r3, rfl, ⟨A, c, hc3, hle, hC⟩, c4, r4, rfl, h4, c5, r5, rfl, h5, h6⟩ := h
 have g0 : c0 = [.int .i64 x0] := h0
 have g1 : c1 = [.string x1] := h1
 have g2 : c2 = [.int .u64 x2] := h2
 have g4 : c4 = [.int .u64 x4] := h4
 have g5 : c5 = [.int .u64 x5] := h5
 have g6 : r5 = [.string x6] := h6
 subst g0 g1 g2 g4 g5 g6 hc3
 exact ⟨A, c, rfl, hle, hC⟩
theorem kdRec_mk {w : World} (r : Rec9) {A : Option Addr} {c : Nat} (hle : r.2.2.2.1.length ≤ c) (hC : Kd.C k113 w A r.2.2.2.1.length r.2.2.2.1) : kdRec.K w r (cells9 r A c) :=
 ⟨[_], _, rfl, rfl, [_], _, rfl, rfl, [_], _, rfl, rfl, [_], _, rfl, ⟨A, c, rfl, hle, hC⟩, [_], _, rfl, rfl, [_], _, rfl, rfl, rfl⟩
theorem at_row9 {d : Kd Rec9} {w W : World} {A : Option Addr} {l : List Rec9} (hd : d.sz = 7) (hK : ∀ r cs, d.K W r cs → kdRec.K w r cs) (h : Kd.C d W A l.length l) (i : Nat) (hi : i < l.length) (r : Rec9) (hr : l[i] = r) :
  ∃ ad A3 c3, A = some ad ∧ W.cell? (ad.add (i * 7)) = some (.int .i64 r.1) ∧ W.cell? ⟨(ad.add (i * 7)).block, (ad.add (i * 7)).off + 1, none⟩ = some (.string r.2.1) ∧ W.cell? ⟨(ad.add (i * 7)).block, (ad.add (i * 7)).off + 2, none⟩ = some (.int .u64 r.2.2.1) ∧
   W.cell? ⟨(ad.add (i * 7)).block, (ad.add (i * 7)).off + 3, none⟩ = some (.slice A3 r.2.2.2.1.length c3) ∧ W.cell? ⟨(ad.add (i * 7)).block, (ad.add (i * 7)).off + 4, none⟩ = some (.int .u64 r.2.2.2.2.1) ∧ W.cell? ⟨(ad.add (i * 7)).block, (ad.add (i * 7)).off + 5, none⟩ = some (.int .u64 r.2.2.2.2.2.1) ∧
   W.cell? ⟨(ad.add (i * 7)).block, (ad.add (i * 7)).off + 6, none⟩ = some (.string r.2.2.2.2.2.2) ∧ r.2.2.2.1.length ≤ c3 ∧ Kd.C k113 w A3 r.2.2.2.1.length r.2.2.2.1 := by
 obtain ⟨ad, c, e, _, hKr, hc0⟩ := Kd.C_get h rec0 (i : Int) (by omega) (by omega)
 rw [Int.toNat_natCast, hd] at hc0
 rw [Int.toNat_natCast, show l.getD i rec0 = r by simp [hi, hr]] at hKr
 obtain ⟨A3, c3, rfl, hle, hC⟩ := kdRec_open (hK _ _ hKr)
 exact ⟨ad, A3, c3, e, hc0 0 _ rfl, by rw [← add_field _ _ 1 (by omega)]; exact hc0 1 _ rfl, by rw [← add_field _ _ 2 (by omega)]; exact hc0 2 _ rfl, by rw [← add_field _ _ 3 (by omega)]; exact hc0 3 _ rfl, by rw [← add_field _ _ 4 (by omega)]; exact hc0 4 _ rfl, by rw [← add_field _ _ 5 (by omega)]; exact hc0 5 _ rfl, by rw [← add_field _ _ 6 (by omega)]; exact hc0 6 _ rfl, hle, hC⟩
theorem row_one9 {w : World} {b : Nat} {r : Rec9} {A3 : Option Addr} {c3 : Nat} (hb : w.heap[b]? = some (.cells #[.int .i64 r.1, .string r.2.1, .int .u64 r.2.2.1, .slice A3 r.2.2.2.1.length c3, .int .u64 r.2.2.2.2.1, .int .u64 r.2.2.2.2.2.1, .string r.2.2.2.2.2.2] 62 (0, 0))) :
  ReadsRow (fun y cs => y = r ∧ cs = cells9 r A3 c3) 7 w (some ⟨b, 0, none⟩) 1 [r] := by
 refine ⟨rfl, by omega, fun _ => ⟨_, rfl, fun j p hj => ?_⟩⟩
 match j with
 | 0 =>
  obtain rfl : r = p := by simpa using hj
  refine ⟨_, rfl, ⟨rfl, rfl⟩, fun i u hu => ?_⟩
  rw [Nat.zero_mul, Nat.zero_add]
  have e : (⟨b, 0, none⟩ : Addr).add i = ⟨b, i, none⟩ := add_plain b i
  rw [e, blk_cell hb i]
  simpa [cells9] using hu
 | j + 1 => simp at hj
abbrev kFix (w : World) : Kd Rec9 := Kd.fixed kdRec w
structure RwA (w X : World) (S1 S2 : Nat → Prop) (g1 g2 : Nat) (T1 T2 : List ByteArray) (va vg : Value) (rows : List (List Int)) (good : List Rec9) : Prop where
 t1 : Tab X S1 g1 T1
 t2 : Tab X S2 g2 T2
 dj : ∀ k, S1 k → ¬ S2 k
 s1 : ∀ k, S1 k → w.heap.size ≤ k
 s2 : ∀ k, S2 k → w.heap.size ≤ k
 bl : Below w.heap.size w X
 ra : Kd.R kRows 22 X w.heap.size (fun k => ¬ S1 k ∧ ¬ S2 k) va rows
 rg : Kd.R (kFix w) 62 X w.heap.size (fun k => ¬ S1 k ∧ ¬ S2 k) vg good
section
variable {w X X' : World} {S1 S2 : Nat → Prop} {g1 g2 : Nat} {T1 T2 : List ByteArray} {va vg : Value} {rows : List (List Int)} {good : List Rec9}
theorem RwA.below (h : RwA w X S1 S2 g1 g2 T1 T2 va vg rows good) (hb : Below X.heap.size X X') : RwA w X' S1 S2 g1 g2 T1 T2 va vg rows good :=
 ⟨h.t1.keep (Kp.of_below hb (fun _ => False)) (fun _ _ h => h), h.t2.keep (Kp.of_below hb (fun _ => False)) (fun _ _ h => h), h.dj, h.s1, h.s2, h.bl.trans (hb.mono h.bl.size), Kd.R_below h.ra hb, Kd.R_below h.rg hb⟩
theorem R_two {α : Type} {d : Kd α} {e : Nat} {W1 W2 : World} {Sa Sb Sa' : Nat → Prop} {base : Nat} {v : Value} {xs : List α} (h : d.R e W1 base (fun k => ¬ Sa k ∧ ¬ Sb k) v xs) (hk : Kp W1 W2 Sa) (hs : ∀ k, Sa' k → Sa k ∨ W1.heap.size ≤ k) : d.R e W2 base (fun k => ¬ Sa' k ∧ ¬ Sb k) v xs :=
 Kd.R_mono (Kd.R_step (Kd.R_bound h) (fun k hk' hlt => hk.block k hlt hk'.1.1)) (fun k hk' => ⟨fun h2 => (hs k h2).elim hk'.1.1 (fun h3 => by have := hk'.2.2.1; omega), hk'.1.2⟩)
theorem RwA.wrote1 {S1' : Nat → Prop} {T' : List ByteArray} (h : RwA w X S1 S2 g1 g2 T1 T2 va vg rows good) (ht : Tab X' S1' g1 T') (hs : ∀ k, S1' k → S1 k ∨ X.heap.size ≤ k) (hk : Kp X X' S1) : RwA w X' S1' S2 g1 g2 T' T2 va vg rows good :=
 ⟨ht, h.t2.keep hk (fun k h2 h1 => h.dj k h1 h2), fun k h1 h2 => (hs k h1).elim (fun h3 => h.dj k h3 h2) (fun h3 => by have := h.t2.lt k h2; omega), fun k h1 => (hs k h1).elim (h.s1 k) (fun h3 => Nat.le_trans h.bl.size h3), h.s2,
  ((Kp.of_below h.bl S1).trans hk (fun k h1 => .inl h1)).to_below h.s1, R_two h.ra hk hs, R_two h.rg hk hs⟩
theorem RwA.swap (h : RwA w X S1 S2 g1 g2 T1 T2 va vg rows good) : RwA w X S2 S1 g2 g1 T2 T1 va vg rows good :=
 ⟨h.t2, h.t1, fun k h2 h1 => h.dj k h1 h2, h.s2, h.s1, h.bl, Kd.R_mono h.ra (fun k hk => ⟨hk.2, hk.1⟩), Kd.R_mono h.rg (fun k hk => ⟨hk.2, hk.1⟩)⟩
theorem RwA.wrote2 {S2' : Nat → Prop} {T' : List ByteArray} (h : RwA w X S1 S2 g1 g2 T1 T2 va vg rows good) (ht : Tab X' S2' g2 T') (hs : ∀ k, S2' k → S2 k ∨ X.heap.size ≤ k) (hk : Kp X X' S2) : RwA w X' S1 S2' g1 g2 T1 T' va vg rows good :=
 (h.swap.wrote1 ht hs hk).swap
end
end Go.Proofs.Ytfflenbfapgilaa
namespace Go.Proofs.Ytfflenbfapgilaa
open Go.RowKit Go.Proofs.YtfflenbfapgilaaW.PrintWords Go.Proofs.Ytfflenbfapgilaa.GRR
def VRw (wc : World) (va vp vg : Value) (rec : Array Value) (RA RG : Value → World → Prop) (i : Nat) (v : Value) (X : World) : Prop := match i with
 | 0 => v = va
 | 1 => v = vp
 | 2 => RA v X
 | 3 => v = vg
 | 4 => v = .agg rec
 | 5 => ∃ k, v = .slice (some ⟨k, 0, none⟩) 1 1 ∧ wc.heap.size ≤ k ∧ X.heap[k]? = some (.cells rec 62 (0, 0))
 | 6 => RG v X
 | 7 => RA v X
 | 8 => RG v X
 | _ => True
def GRw (RR GA GG : World → Prop) (i : Nat) (X : World) : Prop := match i with
 | 2 => RR X ∧ GA X
 | 6 => RR X ∧ GG X
 | _ => RR X
def rowRw (r2 r6 : Option Nat) (i : Nat) : Option Nat := match i with
 | 2 => r2
 | 6 => r6
 | _ => none
theorem rowRw_ne {r2 r6 : Option Nat} (i q : Nat) (h2 : i ≠ 2 ∨ some q ≠ r2) (h6 : i ≠ 6 ∨ some q ≠ r6) : some q ≠ rowRw r2 r6 i := by
 unfold rowRw
 split
 ·exact h2.resolve_left (fun h => h rfl)
 ·exact h6.resolve_left (fun h => h rfl)
 ·simp
structure RestRw (r2 r6 : Option Nat) (wc X : World) : Prop where
 size : wc.heap.size ≤ X.heap.size
 eq : ∀ q, q < wc.heap.size → some q ≠ r2 → some q ≠ r6 → X.heap[q]? = wc.heap[q]?
theorem RestRw.step {r2 r6 : Option Nat} {wc X X' : World} (h : RestRw r2 r6 wc X) {i : Nat} (hg : X.grownBy X' (rowRw r2 r6 i)) (hs : X.heap.size ≤ X'.heap.size) : RestRw r2 r6 wc X' :=
 ⟨Nat.le_trans h.size hs, fun q hq h2 h6 => (hg.block q (Nat.lt_of_lt_of_le hq h.size) (rowRw_ne i q (.inr h2) (.inr h6))).trans (h.eq q hq h2 h6)⟩
theorem vrw_keep {wc : World} {va vp vg : Value} {rec : Array Value} {RA RG : Value → World → Prop} {r2 r6 : Option Nat} {i j : Nat} {v : Value} {X X' : World} (h2 : ∀ k, r2 = some k → k < wc.heap.size) (h6 : ∀ k, r6 = some k → k < wc.heap.size)
  (hA : ∀ i X X' v, i ≠ 2 → X.grownBy X' (rowRw r2 r6 i) → RA v X → RA v X') (hG : ∀ i X X' v, i ≠ 6 → X.grownBy X' (rowRw r2 r6 i) → RG v X → RG v X')
  (hij : i ≠ j) (h27 : j = 7 → i ≠ 2) (h68 : j = 8 → i ≠ 6) (hg : X.grownBy X' (rowRw r2 r6 i)) (h : VRw wc va vp vg rec RA RG j v X) : VRw wc va vp vg rec RA RG j v X' := by
 unfold VRw at h ⊢
 split at h
 ·exact h
 ·exact h
 ·exact hA i X X' v hij hg h
 ·exact h
 ·exact h
 ·obtain ⟨k, e1, e2, e3⟩ := h
  exact ⟨k, e1, e2, (hg.block k (Array.getElem?_eq_some_iff.1 e3).1 (rowRw_ne i k (.inr fun e => by have := h2 k e.symm; omega) (.inr fun e => by have := h6 k e.symm; omega))).trans e3⟩
 ·exact hG i X X' v hij hg h
 ·exact hA i X X' v (h27 rfl) hg h
 ·exact hG i X X' v (h68 rfl) hg h
 ·trivial
theorem grown_size {X X' : World} {r : Option Nat} (h : X.grownBy X' r) : X.heap.size ≤ X'.heap.size := ((Kp.refl X (fun k => r = some k)).grown h (fun k e => .inl e)).size
theorem own_typed_R {α : Type} {d : Kd α} {e base : Nat} {ok : Nat → Prop} {W : World} {v : Value} {xs : List α} (h : d.R e W base ok v xs) : ∀ k, v.ownBlock = some k → base ≤ k ∧ k < W.heap.size ∧ ∃ C, W.heap[k]? = some (.cells C e (0, 0)) := by
 intro k hk
 obtain ⟨inner, ho⟩ := Kd.R_own h
 exact ⟨own_base ho k hk, own_lt ho k hk, own_typed ho k hk⟩
theorem R_not {α : Type} {d : Kd α} {e base : Nat} {ok : Nat → Prop} {W : World} {v : Value} {xs : List α} (h : d.R e W base ok v xs) (r : Option Nat) (hr : ∀ k, r = some k → ∃ C t, W.heap[k]? = some (.cells C t (0, 0)) ∧ ∀ q, q ∈ e :: d.E → q ≠ t) : d.R e W base (fun k => ok k ∧ some k ≠ r) v xs := by
 cases r with
 | none => exact Kd.R_mono h (fun k hk => ⟨hk, by simp⟩)
 | some b =>
  obtain ⟨C, t, hC, ht⟩ := hr b rfl
  exact Kd.R_mono (Kd.R_types h hC ht) (fun k hk => ⟨hk.1, by simpa using hk.2⟩)
theorem E_rows_ne : ∀ q, q ∈ (22 : Nat) :: kRows.E → q ≠ 62 := by intro q hq; simp [Kd.slice, Kd.int, Kd.scalar] at hq; rcases hq with rfl | rfl <;> decide
theorem E_fix_ne (w : World) : ∀ q, q ∈ (62 : Nat) :: (kFix w).E → q ≠ 22 := by intro q hq; simp [Kd.fixed] at hq; subst hq; decide
theorem RwA.two {w wc X : World} {S1 S2 : Nat → Prop} {g1 g2 : Nat} {T1 T2 : List ByteArray} {va vg va' vg' : Value} {rows rows' : List (List Int)} {good good' : List Rec9} (h : RwA w wc S1 S2 g1 g2 T1 T2 va vg rows good) (hB : Below w.heap.size w X) (hr : RestRw va.ownBlock vg.ownBlock wc X)
  (hA : Kd.R kRows 22 X w.heap.size (fun k => (¬ S1 k ∧ ¬ S2 k) ∧ some k ≠ vg.ownBlock) va' rows') (hG : Kd.R (kFix w) 62 X w.heap.size (fun k => (¬ S1 k ∧ ¬ S2 k) ∧ some k ≠ va.ownBlock) vg' good') : RwA w X S1 S2 g1 g2 T1 T2 va' vg' rows' good' := by
 have hk : Kp wc X (fun k => some k = va.ownBlock ∨ some k = vg.ownBlock) := ⟨hB.os.trans h.bl.os.symm, hB.tape.trans h.bl.tape.symm, hB.output.trans h.bl.output.symm, hr.size, fun k hk hn => hr.eq k hk (fun e => hn (.inl e)) (fun e => hn (.inr e))⟩
 have ha := h.ra.1
 have hg := h.rg.1
 refine ⟨h.t1.keep hk (fun k hs e => ?_), h.t2.keep hk (fun k hs e => ?_), h.dj, h.s1, h.s2, hB, Kd.R_mono hA (fun k hk => hk.1), Kd.R_mono hG (fun k hk => hk.1)⟩
 ·rcases e with e | e
  ·exact (ha k e.symm).1 hs
  ·exact (hg k e.symm).1 hs
 ·rcases e with e | e
  ·exact (ha k e.symm).2 hs
  ·exact (hg k e.symm).2 hs
end Go.Proofs.Ytfflenbfapgilaa
namespace Go.Proofs.Ytfflenbfapgilaa.WSchemaRows
open Go.RowKit Go.Proofs.YtfflenbfapgilaaW.PrintWords Go.Proofs.Ytfflenbfapgilaa.GRR
set_option maxHeartbeats 8000000 in
set_option maxRecDepth 100000 in
theorem walk (v : Int) (v1 : Value) (p1 : Option Addr × Nat × List Rec9) (w : World) (w0 : (Lit.int .i64 v).wf = true) (w1 : IsRows kdRec okRec w v1 p1) :
  Calls Try.prog 10 #[.int .i64 v, v1] w fun e w' => e = .returned (.bool true) ∧ Below w.heap.size w w' := by
 obtain ⟨A, c, l⟩ := p1
 obtain ⟨rfl, hcA, hC, hml, hok⟩ := w1
 dsimp only at hcA hC hml hok ⊢
 have HN := Lib.hid (fun W => new_any none 0 [] W (Kd.C_nil _ _) (Nat.le_refl _) (by simp) (by simp))
 rw [show ([] : List ByteArray).length = 0 from rfl, show tnew ([] : List ByteArray) = [] from rfl] at HN
 have HC := Lib.hid hC
 have HOK := Lib.hid hok
 clear hC hok w0
 go_enter Try.func10, Try.ntmps10
 go_wp2_with fail
 refine (HN.out w).mono ?_
 rintro e w2 ⟨rfl, S1, hT1, hS1, hB1⟩
 go_wp2_with fail
 refine (HN.out w2).mono ?_
 rintro e w3 ⟨rfl, S2, hT2, hS2, hB2⟩
 obtain ⟨g1, hg1⟩ : ∃ g, w.heap.size = g := ⟨_, rfl⟩
 obtain ⟨g2, hg2⟩ : ∃ g, w2.heap.size = g := ⟨_, rfl⟩
 have hb3 : Below w.heap.size w w3 := hB1.trans (hB2.mono hB1.size)
 have hst : RwA w w3 S1 S2 g1 g2 [] [] (.slice none 0 0) (.slice none 0 0) [] [] :=
  ⟨hg1 ▸ hT1.keep (Kp.of_below hB2 (fun _ => False)) (fun _ _ h => h), hg2 ▸ hT2, fun k h1 h2 => by have := hT1.lt k h1; have := hS2 k h2; omega, hS1, fun k h2 => Nat.le_trans hB1.size (hS2 k h2), hb3, Kd.R_nil _ _ _ _ _, Kd.R_nil _ _ _ _ _⟩
 rw [hg1, hg2]
 have HST := Lib.hid hst
 have HB3 := Lib.hid hb3
 clear hT1 hS1 hB1 hT2 hS2 hB2 hg1 hg2 hb3 hst HN
 by_cases h20 : 20 < l.length
 ·have h20d : decide (20 < (l.length : Int)) = true := decide_eq_true (by omega)
  go_wp2_with fail
  refine (fixed9_any _).mono ?_
  rintro en wq ⟨rfl, hbq⟩
  go_wp2_with fail
  go_ret
  exact ⟨rfl, HB3.out.trans (hbq.mono HB3.out.size)⟩
 ·have h20d : decide (20 < (l.length : Int)) = false := decide_eq_false (by omega)
  go_wp2_with fail
  clear h20d HB3
  go_loopw [7, 8, 38] (fun u7 u8 u38 wr => ∃ (i : Nat) (S1 : Nat → Prop) (T : List ByteArray) (rows : List (List Int)) (good : List Rec9), i ≤ l.length ∧ u38 = .int .i64 (i : Int) ∧ Hid (RwA w wr S1 S2 g1 g2 T [] u7 u8 rows good) ∧ Hid ((rows, T) = layF v good ∧ (∀ r ∈ good, GoodR v r ∧ RecFew r.2.1 r.2.2.2.1 r.2.2.2.2.2.2) ∧ good.length ≤ i)) (fun _ _ u _ => l.length - (intOf u).toNat)
  case atStart => exact ⟨0, S1, [], [], [], by omega, rfl, HST, Lib.hid ⟨rfl, by simp, by simp⟩⟩
  case round =>
   clear HST
   obtain ⟨i, S1, T, rows, good, hi, rfl, H, HG⟩ := hrel
   by_cases hlt : i < l.length
   ·have hdl : decide ((i : Int) < (l.length : Int)) = true := decide_eq_true (by omega)
    obtain ⟨r, hr⟩ : ∃ r, l[i] = r := ⟨_, rfl⟩
    obtain ⟨ad, A3, c3, hA, h0, h1, h2, h3, h4, h5, h6, hle, hrow⟩ := at_row9 (w := w) (W := w) rfl (fun _ _ h => h) HC.out i hlt r hr
    subst hA
    have hokr := HOK.out r (hr ▸ List.getElem_mem _)
    obtain ⟨k0, x1, x2, ds, x4, x5, x6⟩ := r
    dsimp only at h0 h1 h2 h3 h4 h5 h6 hle hrow
    have hnum := NumR.of hokr
    have hbl := H.out.bl
    replace h0 := pw_cell_below hbl h0
    replace h1 := pw_cell_below hbl h1
    replace h2 := pw_cell_below hbl h2
    replace h3 := pw_cell_below hbl h3
    replace h4 := pw_cell_below hbl h4
    replace h5 := pw_cell_below hbl h5
    replace h6 := pw_cell_below hbl h6
    obtain ⟨g, hgf, hG⟩ := great8_at k0 x1 x2 ds x4 x5 x6 A3 c3 w hrow hle
    obtain ⟨wa, hwa⟩ : ∃ wa, wr.alloc (.cells #[.int .i64 k0, .string x1, .int .u64 x2, .slice A3 ds.length c3, .int .u64 x4, .int .u64 x5, .string x6] 62) = wa := ⟨_, rfl⟩
    have hba : Below wr.heap.size wr wa := by rw [← hwa]; exact (Below.refl _ _).alloc (Nat.le_refl _) _
    have hka : wa.heap[wr.heap.size]? = some (.cells #[.int .i64 k0, .string x1, .int .u64 x2, .slice A3 ds.length c3, .int .u64 x4, .int .u64 x5, .string x6] 62 (0, 0)) := by rw [← hwa]; exact heap_new _ _
    have hsa : wa.heap.size = wr.heap.size + 1 := by rw [← hwa, heap_size_alloc]
    obtain ⟨b, hbb⟩ : ∃ b, wr.heap.size = b := ⟨_, rfl⟩
    rw [hbb] at hka hsa
    have HAA := Lib.hid (H.out.below hba)
    have HKA := Lib.hid hka
    have HWA := Lib.hid hwa
    have HBB := Lib.hid hbb
    have HSA := Lib.hid hsa
    have HGR := Lib.hid (hG wa HAA.out.bl)
    have HGF := Lib.hid hgf
    have HROW := Lib.hid hrow
    have HNUM := Lib.hid hnum
    have HLT := Lib.hid (fun k (hk : S1 k) => H.out.t1.lt k hk)
    have HLT2 := Lib.hid (fun k (hk : S2 k) => H.out.t2.lt k hk)
    have HO7 := Lib.hid (fun k (hk : u7.ownBlock = some k) => own_lt (Kd.R_own H.out.ra).choose_spec k hk)
    have HO8 := Lib.hid (fun k (hk : u8.ownBlock = some k) => own_lt (Kd.R_own H.out.rg).choose_spec k hk)
    clear hr hokr hnum hbl hgf hG hwa hba hka hbb hrow hsa H
    obtain ⟨q0, q1, q2, q3, q4, q5, q6⟩ := facts7 HKA.out
    go_wp2_with fail
    rw [HWA.out, HBB.out]
    clear q0 q1 q2 q3 q4 q5 q6 h0 h1 h2 h3 h4 h5 h6
    refine HGR.out.mono ?_
    rintro e wb ⟨rfl, hb⟩
    have HB := Lib.hid (HAA.out.below hb)
    have HKB := Lib.hid (blk_below HKA.out hb)
    have HSB := Lib.hid (show b + 1 ≤ wb.heap.size by have := HSA.out; have := hb.size; omega)
    clear hb HAA HKA HGR HWA HSA
    cases g with
    | true =>
     go_wp2_with fail
     refine (fixed9_any _).mono ?_
     rintro en wq ⟨rfl, hbq⟩
     go_wp2_with fail
     go_ret
     exact ⟨rfl, HB.out.bl.trans (hbq.mono HB.out.bl.size)⟩
    | false =>
     have hfew := HGF.out rfl
     have hlay := HG.out
     have hfit := lay_fit (v := v) good (by omega) (fun r hr => (hlay.2.1 r hr).1)
     rw [← hlay.1] at hfit
     have hgl : good.length ≤ 20 := by have := hlay.2.2; omega
     have hPT := sput_any v HB.out.t1 k0 x1 x2 A3 c3 ds x4 x5 x6 (fun W' hk => Kd.C_below HROW.out (below_kp HB.out.bl hk HB.out.s1)) hle hfew.ok HNUM.out.r2 HNUM.out.o HNUM.out.w HNUM.out.d (by have := hfit.t; dsimp only at this; omega)
     have hno : (putR v T (k0, x1, x2, ds, x4, x5, x6)).2.2 ≠ 0 → _ := putF_no (v := v) (T := T) (r := (k0, x1, x2, ds, x4, x5, x6))
     have hyes : (putR v T (k0, x1, x2, ds, x4, x5, x6)).2.2 = 0 → GoodR v (k0, x1, x2, ds, x4, x5, x6) := fun h => ⟨putF_yes h, HNUM.out⟩
     have hfits : (putR v T (k0, x1, x2, ds, x4, x5, x6)).2.2 = 0 → PutFit v T (putR v T (k0, x1, x2, ds, x4, x5, x6)) := fun h => put_fit (by have := hfit.t; dsimp only at this; omega) hfit.nd (hyes h)
     have hstep : layF v (good ++ [(k0, x1, x2, ds, x4, x5, x6)]) = (rows ++ (putR v T (k0, x1, x2, ds, x4, x5, x6)).1, (putR v T (k0, x1, x2, ds, x4, x5, x6)).2.1) := by
      rw [layF_snoc, ← hlay.1]; rfl
     unfold putR at hno hyes hfits hstep
     dsimp only at hno hyes hfits hstep
     generalize putF v T k0 x1 x2 ds x4 x5 x6 = F at hPT hno hyes hfits hstep
     obtain ⟨F1, T', er⟩ := F
     dsimp only at hno hyes hfits hstep
     have HPT := Lib.hid hPT
     have HNO := Lib.hid hno
     have HYES := Lib.hid hyes
     have HFITS := Lib.hid hfits
     have HSTEP := Lib.hid hstep
     have HFIT := Lib.hid hfit
     have HFEW := Lib.hid hfew
     clear hPT hno hyes hfits hstep hfit hlay hfew
     obtain ⟨q0, q1, q2, q3, q4, q5, q6⟩ := facts7 HKB.out
     go_wp2_with fail
     clear q0 q1 q2 q3 q4 q5 q6
     refine HPT.out.mono ?_
     rintro e wc ⟨vp, S1', rfl, hT', hs', hk', hRp⟩
     dsimp only at hT' hRp ⊢
     have HCC := Lib.hid (HB.out.wrote1 hT' hs' hk')
     have hkc := hk'.heap HKB.out (fun hs => by have := HLT.out b hs; have := HBB.out; omega)
     have HKC := Lib.hid hkc
     obtain ⟨Ap, cp, rfl⟩ := Kd.R_slice hRp
     have HRP := Lib.hid hRp
     have HKK := Lib.hid hk'
     have HSS := Lib.hid hs'
     have HTL := Lib.hid (fun k (hk : S1' k) => hT'.lt k hk)
     clear hT' hs' hk' hRp hkc HPT HKB
     by_cases he : er = 0
     ·subst he
      go_wp2_with fail
      have t7 := own_typed_R HCC.out.ra
      have t8 := own_typed_R HCC.out.rg
      have h78 : ∀ k, u7.ownBlock = some k → u8.ownBlock ≠ some k := fun k e1 e2 => by
       obtain ⟨_, _, C1, c1⟩ := t7 k e1
       obtain ⟨_, _, C2, c2⟩ := t8 k e2
       rw [c1] at c2; cases c2
      have hb7 : some b ≠ u7.ownBlock := fun e => by have := HO7.out b e.symm; have := HBB.out; omega
      have hb8 : some b ≠ u8.ownBlock := fun e => by have := HO8.out b e.symm; have := HBB.out; omega
      have hRA0 := R_not HCC.out.ra u8.ownBlock (fun k e => by obtain ⟨_, _, C, c⟩ := t8 k e; exact ⟨C, _, c, E_rows_ne⟩)
      have hRG0 := R_not HCC.out.rg u7.ownBlock (fun k e => by obtain ⟨_, _, C, c⟩ := t7 k e; exact ⟨C, _, c, E_fix_ne w⟩)
      have hRS0 : Kd.R kRows 22 wc wb.heap.size (fun k => (¬ S1' k ∧ ¬ S2 k) ∧ some k ≠ u7.ownBlock ∧ some k ≠ u8.ownBlock) (.slice Ap F1.length cp) F1 := Kd.R_mono (Kd.R_bound HRP.out) (fun k hk => by
       have h1 := hk.2.1
       have h2 := HSB.out
       refine ⟨⟨hk.1, fun h => ?_⟩, fun e => ?_, fun e => ?_⟩
       ·have := HLT2.out k h; have := HBB.out; omega
       ·have := HO7.out k e.symm; have := HBB.out; omega
       ·have := HO8.out k e.symm; have := HBB.out; omega)
      have hfresh : ∀ (X : World) k, wc.heap.size ≤ X.heap.size → X.heap.size ≤ k → (¬ S1' k ∧ ¬ S2 k) ∧ some k ≠ u7.ownBlock ∧ some k ≠ u8.ownBlock := fun X k h1 h2 => by
       refine ⟨⟨fun h => ?_, fun h => ?_⟩, fun e => ?_, fun e => ?_⟩
       ·have := HTL.out k h; omega
       ·have := HCC.out.t2.lt k h; omega
       ·have := (t7 k e.symm).2.1; omega
       ·have := (t8 k e.symm).2.1; omega
      have hrn := HFIT.out.n
      have hfn := (HFITS.out (by trivial)).n1
      dsimp only at hrn hfn
      have hwz := HCC.out.bl.size
      obtain ⟨RA, hRA⟩ : ∃ R : Value → World → Prop, R = fun v X => Kd.R kRows 22 X w.heap.size (fun k => (¬ S1' k ∧ ¬ S2 k) ∧ some k ≠ u8.ownBlock) v (rows ++ F1) := ⟨_, rfl⟩
      obtain ⟨RG, hRG⟩ : ∃ R : Value → World → Prop, R = fun v X => Kd.R (kFix w) 62 X w.heap.size (fun k => (¬ S1' k ∧ ¬ S2 k) ∧ some k ≠ u7.ownBlock) v (good ++ [(k0, x1, x2, ds, x4, x5, x6)]) := ⟨_, rfl⟩
      obtain ⟨GA, hGA⟩ : ∃ R : World → Prop, R = fun X => Kd.R kRows 22 X w.heap.size (fun k => (¬ S1' k ∧ ¬ S2 k) ∧ some k ≠ u8.ownBlock) u7 rows ∧ Kd.R kRows 22 X wb.heap.size (fun k => (¬ S1' k ∧ ¬ S2 k) ∧ some k ≠ u7.ownBlock ∧ some k ≠ u8.ownBlock) (.slice Ap F1.length cp) F1 := ⟨_, rfl⟩
      obtain ⟨GG, hGG⟩ : ∃ R : World → Prop, R = fun X => Kd.R (kFix w) 62 X w.heap.size (fun k => (¬ S1' k ∧ ¬ S2 k) ∧ some k ≠ u7.ownBlock) u8 good := ⟨_, rfl⟩
      refine wp_region_any (by kernel_rfl) ?_
      refine flow2_any (n := 9) (base := w.heap.size) (w0 := w) (VRw wc u7 (.slice Ap F1.length cp) u8 #[.int .i64 k0, .string x1, .int .u64 x2, .slice A3 ds.length c3, .int .u64 x4, .int .u64 x5, .string x6] RA RG) (fun _ => RestRw u7.ownBlock u8.ownBlock wc) (GRw (RestRw u7.ownBlock u8.ownBlock wc) GA GG) (rowRw u7.ownBlock u8.ownBlock) rfl (by kernel_rfl) (by kernel_rfl) ?hV ?hF ?hG HCC.out.bl.drew ?hG0 (show AllLt 9 _ from ?hs) ?he
      case hV =>
       intro i j hi hj hij hw v X X' hB hg h
       refine vrw_keep (fun k e => (t7 k e).2.1) (fun k e => (t8 k e).2.1) ?_ ?_ hij ?_ ?_ hg h
       ·intro i X X' v hi hg h
        subst hRA
        exact Kd.R_grown h hg (fun k hk => rowRw_ne i k (.inl hi) (.inr hk.2))
       ·intro i X X' v hi hg h
        subst hRG
        exact Kd.R_grown h hg (fun k hk => rowRw_ne i k (.inr hk.2) (.inl hi))
       ·rintro rfl rfl
        exact Bool.noConfusion (hw.symm.trans (c := true) (by kernel_rfl))
       ·rintro rfl rfl
        exact Bool.noConfusion (hw.symm.trans (c := true) (by kernel_rfl))
      case hF =>
       intro i j hi hj hij hw X X' hB hg h
       exact h.step hg (grown_size hg)
      case hG =>
       intro i j hi hj hij hw X X' hB hg h
       unfold GRw at h ⊢
       split at h
       ·refine ⟨h.1.step hg (grown_size hg), ?_⟩
        have h2 := h.2
        subst hGA
        exact ⟨Kd.R_grown h2.1 hg (fun k hk => rowRw_ne i k (.inl hij) (.inr hk.2)), Kd.R_grown h2.2 hg (fun k hk => rowRw_ne i k (.inr hk.2.1) (.inr hk.2.2))⟩
       ·refine ⟨h.1.step hg (grown_size hg), ?_⟩
        have h2 := h.2
        subst hGG
        exact Kd.R_grown h2 hg (fun k hk => rowRw_ne i k (.inr hk.2) (.inl hij))
       ·exact h.step hg (grown_size hg)
      case hG0 =>
       intro i hi
       have hR0 : RestRw u7.ownBlock u8.ownBlock wc { wc with drawn := wc.drawn + 1 } := ⟨Nat.le_refl _, fun _ _ _ _ => rfl⟩
       unfold GRw
       split
       ·subst hGA; exact ⟨hR0, Kd.R_drew hRA0, Kd.R_drew hRS0⟩
       ·subst hGG; exact ⟨hR0, Kd.R_drew hRG0⟩
       ·exact hR0
      case hs =>
       refine allLt_succ (allLt_succ (allLt_succ (allLt_succ (allLt_succ (allLt_succ (allLt_succ (allLt_succ (allLt_succ (allLt_zero _) ?s0) ?s1) ?s2) ?s3) ?s4) ?s5) ?s6) ?s7) ?s8
       case s0 =>
        refine StepFlow2.run (o := ?o0) ?ho0 ?hg0 ?h0
        case ho0 => rfl
        case hg0 => rfl
        case h0 =>
         intro a X hS2 hB hd hG hE
         have e7 : a.tmps[7]? = some u7 := hE.get 7 rfl (by kernel_rfl) rfl rfl
         exact wpF (V := VRw wc u7 (.slice Ap F1.length cp) u8 #[.int .i64 k0, .string x1, .int .u64 x2, .slice A3 ds.length c3, .int .u64 x4, .int .u64 x5, .string x6] RA RG) (F := fun _ => RestRw u7.ownBlock u8.ownBlock wc) (i := 0) (row := rowRw u7.ownBlock u8.ownBlock) (c := u7) (W' := X) (by go_simp) rfl hG (World.grownBy.refl _ _) hB
       case s1 =>
        refine StepFlow2.run (o := ?o1) ?ho1 ?hg1 ?h1
        case ho1 => rfl
        case hg1 => rfl
        case h1 =>
         intro a X hS2 hB hd hG hE
         have e11 : a.tmps[11]? = some (.slice Ap F1.length cp) := hS2.get rfl rfl
         exact wpF (V := VRw wc u7 (.slice Ap F1.length cp) u8 #[.int .i64 k0, .string x1, .int .u64 x2, .slice A3 ds.length c3, .int .u64 x4, .int .u64 x5, .string x6] RA RG) (F := fun _ => RestRw u7.ownBlock u8.ownBlock wc) (i := 1) (row := rowRw u7.ownBlock u8.ownBlock) (c := .slice Ap F1.length cp) (W' := X) (by go_simp) rfl hG (World.grownBy.refl _ _) hB
       case s2 =>
        refine StepFlow2.run (o := ?o2) ?ho2 ?hg2 ?h2
        case ho2 => rfl
        case hg2 => rfl
        case h2 =>
         intro a X hS2 hB hd hG hE
         obtain ⟨u, e54, hu⟩ := (hd 0 (by kernel_rfl)).1.get rfl rfl
         obtain rfl : u = u7 := hu
         obtain ⟨v, e55, hv⟩ := (hd 1 (by kernel_rfl)).1.get rfl rfl
         obtain rfl : v = .slice Ap F1.length cp := hv
         obtain ⟨hrest, hga⟩ : RestRw u.ownBlock u8.ownBlock wc X ∧ GA X := hG
         subst hGA
         obtain ⟨Aq, cq, he1, hl1, hr1⟩ := OwnRow.reads (Kd.R_bound hga.2).2
         have hsz := hrest.size
         refine wpF_rows (a := a) (V := VRw wc u (.slice Ap F1.length cp) u8 #[.int .i64 k0, .string x1, .int .u64 x2, .slice A3 ds.length c3, .int .u64 x4, .int .u64 x5, .string x6] RA RG) (F := fun _ => RestRw u.ownBlock u8.ownBlock wc) (i := 2) (row := rowRw u.ownBlock u8.ownBlock) kRows w.heap.size rfl (.tmp 54) (.tmp 55) 41 22 (.slice none 0 0) 24 rfl Try.underlying41 info_bs9 rfl (by decide) (by decide) u rows F1 Aq F1.length cq (fun k => (¬ S1' k ∧ ¬ S2 k) ∧ some k ≠ u8.ownBlock) (fun k => (¬ S1' k ∧ ¬ S2 k) ∧ some k ≠ u.ownBlock ∧ some k ≠ u8.ownBlock) (by simp [Act.eval, e54]) (by rw [← he1]; simp [Act.eval, e55]) hga.1 hr1 (fun x cs hM => kRows.M_lower HB.out.bl.size (kRows.M_mono (fun k hk => hk.1.1) hM)) (fun k hk => ⟨⟨hk.1, hk.2.2⟩, hk.2.1⟩) (fun k hk => ⟨(hfresh X k hsz hk).1, (hfresh X k hsz hk).2.2⟩) (by omega) (by omega) hB (Nat.le_refl _) (by omega) rfl ?_
         intro v1 w1 h1 h2
         refine ⟨?_, hrest.step (i := 2) h2 (grown_size h2)⟩
         subst hRA
         exact h1
       case s3 =>
        refine StepFlow2.run (o := ?o3) ?ho3 ?hg3 ?h3
        case ho3 => rfl
        case hg3 => rfl
        case h3 =>
         intro a X hS2 hB hd hG hE
         have e8 : a.tmps[8]? = some u8 := hE.get 8 rfl (by kernel_rfl) rfl rfl
         exact wpF (V := VRw wc u7 (.slice Ap F1.length cp) u8 #[.int .i64 k0, .string x1, .int .u64 x2, .slice A3 ds.length c3, .int .u64 x4, .int .u64 x5, .string x6] RA RG) (F := fun _ => RestRw u7.ownBlock u8.ownBlock wc) (i := 3) (row := rowRw u7.ownBlock u8.ownBlock) (c := u8) (W' := X) (by go_simp) rfl hG (World.grownBy.refl _ _) hB
       case s4 =>
        refine StepFlow2.run (o := ?o4) ?ho4 ?hg4 ?h4
        case ho4 => rfl
        case hg4 => rfl
        case h4 =>
         intro a X hS2 hB hd hG hE
         have e10 : a.tmps[10]? = some (.pointer (some ⟨b, 0, none⟩)) := hS2.get rfl rfl
         have hrest : RestRw u7.ownBlock u8.ownBlock wc X := hG
         have hkX := (hrest.eq b (blk_lt HKC.out) hb7 hb8).trans HKC.out
         obtain ⟨q0, q1, q2, q3, q4, q5, q6⟩ := facts7 hkX
         exact wpF (V := VRw wc u7 (.slice Ap F1.length cp) u8 #[.int .i64 k0, .string x1, .int .u64 x2, .slice A3 ds.length c3, .int .u64 x4, .int .u64 x5, .string x6] RA RG) (F := fun _ => RestRw u7.ownBlock u8.ownBlock wc) (i := 4) (row := rowRw u7.ownBlock u8.ownBlock) (c := .agg #[.int .i64 k0, .string x1, .int .u64 x2, .slice A3 ds.length c3, .int .u64 x4, .int .u64 x5, .string x6]) (W' := X) (by go_simp) rfl hrest (World.grownBy.refl _ _) hB
       case s5 =>
        refine StepFlow2.run (o := ?o5) ?ho5 ?hg5 ?h5
        case ho5 => rfl
        case hg5 => rfl
        case h5 =>
         intro a X hS2 hB hd hG hE
         obtain ⟨u, e58, hu⟩ := (hd 4 (by kernel_rfl)).1.get rfl rfl
         obtain rfl : u = .agg #[.int .i64 k0, .string x1, .int .u64 x2, .slice A3 ds.length c3, .int .u64 x4, .int .u64 x5, .string x6] := hu
         have hrest : RestRw u7.ownBlock u8.ownBlock wc X := hG
         have hgr : X.grownBy (X.alloc (.cells #[.int .i64 k0, .string x1, .int .u64 x2, .slice A3 ds.length c3, .int .u64 x4, .int .u64 x5, .string x6] 62)) none := World.grownBy_alloc _ _ _
         exact wpF (V := VRw wc u7 (.slice Ap F1.length cp) u8 #[.int .i64 k0, .string x1, .int .u64 x2, .slice A3 ds.length c3, .int .u64 x4, .int .u64 x5, .string x6] RA RG) (F := fun _ => RestRw u7.ownBlock u8.ownBlock wc) (i := 5) (row := rowRw u7.ownBlock u8.ownBlock) (c := .slice (some ⟨X.heap.size, 0, none⟩) 1 1) (W' := X.alloc (.cells #[.int .i64 k0, .string x1, .int .u64 x2, .slice A3 ds.length c3, .int .u64 x4, .int .u64 x5, .string x6] 62)) (by go_simp) ⟨_, rfl, hrest.size, blk_new _ _⟩ (hrest.step (i := 5) hgr (grown_size hgr)) hgr (hB.alloc (by have := hB.size; omega) _)
       case s6 =>
        refine StepFlow2.run (o := ?o6) ?ho6 ?hg6 ?h6
        case ho6 => rfl
        case hg6 => rfl
        case h6 =>
         intro a X hS2 hB hd hG hE
         obtain ⟨u, e57, hu⟩ := (hd 3 (by kernel_rfl)).1.get rfl rfl
         obtain rfl : u = u8 := hu
         obtain ⟨v, e59, k, hv, hk1, hk2⟩ := (hd 5 (by kernel_rfl)).1.get rfl rfl
         subst hv
         obtain ⟨hrest, hgg⟩ : RestRw u7.ownBlock u.ownBlock wc X ∧ GG X := hG
         subst hGG
         have hsz := hrest.size
         refine wpF_rows (a := a) (V := VRw wc u7 (.slice Ap F1.length cp) u #[.int .i64 k0, .string x1, .int .u64 x2, .slice A3 ds.length c3, .int .u64 x4, .int .u64 x5, .string x6] RA RG) (F := fun _ => RestRw u7.ownBlock u.ownBlock wc) (i := 6) (row := rowRw u7.ownBlock u.ownBlock) (kFix w) w.heap.size rfl (.tmp 57) (.tmp 59) 84 62 (.agg #[.int .i64 0, .string ⟨#[]⟩, .int .u64 0, .slice none 0 0, .int .u64 0, .int .u64 0, .string ⟨#[]⟩]) 88 rfl Try.underlying84 info_rec9 rfl (show 0 < 7 by decide) (by decide) u good [(k0, x1, x2, ds, x4, x5, x6)] (some ⟨k, 0, none⟩) 1 1 (fun k => (¬ S1' k ∧ ¬ S2 k) ∧ some k ≠ u7.ownBlock) (fun _ => False) (by simp [Act.eval, e57]) (by simp [Act.eval, e59]) hgg (row_one9 (r := (k0, x1, x2, ds, x4, x5, x6)) hk2) ?_ (fun _ h => h.elim) (fun k hk => ⟨(hfresh X k hsz hk).1, (hfresh X k hsz hk).2.1⟩) (by omega) (by omega) hB (Nat.le_refl _) (by omega) rfl ?_
         ·rintro _ _ ⟨rfl, rfl⟩
          exact kdRec_mk (k0, x1, x2, ds, x4, x5, x6) hle HROW.out
         ·intro v1 w1 h1 h2
          refine ⟨?_, hrest.step (i := 6) h2 (grown_size h2)⟩
          subst hRG
          exact h1
       case s7 =>
        refine StepFlow2.run (o := ?o7) ?ho7 ?hg7 ?h7
        case ho7 => rfl
        case hg7 => rfl
        case h7 =>
         intro a X hS2 hB hd hG hE
         obtain ⟨u, e56, hu⟩ := (hd 2 (by kernel_rfl)).1.get rfl rfl
         exact wpF (V := VRw wc u7 (.slice Ap F1.length cp) u8 #[.int .i64 k0, .string x1, .int .u64 x2, .slice A3 ds.length c3, .int .u64 x4, .int .u64 x5, .string x6] RA RG) (F := fun _ => RestRw u7.ownBlock u8.ownBlock wc) (i := 7) (row := rowRw u7.ownBlock u8.ownBlock) (c := u) (W' := X) (by go_simp) hu hG (World.grownBy.refl _ _) hB
       case s8 =>
        refine StepFlow2.run (o := ?o8) ?ho8 ?hg8 ?h8
        case ho8 => rfl
        case hg8 => rfl
        case h8 =>
         intro a X hS2 hB hd hG hE
         obtain ⟨u, e60, hu⟩ := (hd 6 (by kernel_rfl)).1.get rfl rfl
         exact wpF (V := VRw wc u7 (.slice Ap F1.length cp) u8 #[.int .i64 k0, .string x1, .int .u64 x2, .slice A3 ds.length c3, .int .u64 x4, .int .u64 x5, .string x6] RA RG) (F := fun _ => RestRw u7.ownBlock u8.ownBlock wc) (i := 8) (row := rowRw u7.ownBlock u8.ownBlock) (c := u) (W' := X) (by go_simp) hu hG (World.grownBy.refl _ _) hB
      case he =>
       intro a X hS hB hh
       obtain ⟨va', e7, hva⟩ := (hh 7 (by omega)).1.get rfl rfl
       obtain ⟨vg', e8, hvg⟩ := (hh 8 (by omega)).1.get rfl rfl
       have hrest := (hh 8 (by omega)).2
       replace hva : RA va' X := hva
       replace hvg : RG vg' X := hvg
       subst hRA hRG
       have HFF := Lib.hid (HCC.out.two hB hrest hva hvg)
       have HGN : Hid ((rows ++ F1, T') = layF v (good ++ [(k0, x1, x2, ds, x4, x5, x6)]) ∧ (∀ r ∈ good ++ [(k0, x1, x2, ds, x4, x5, x6)], GoodR v r ∧ RecFew r.2.1 r.2.2.2.1 r.2.2.2.2.2.2) ∧ (good ++ [(k0, x1, x2, ds, x4, x5, x6)]).length ≤ i + 1) := Lib.hid ⟨HSTEP.out.symm, fun r hr => by
        rcases List.mem_append.1 hr with hr | hr
        ·exact HG.out.2.1 r hr
        ·simp only [List.mem_singleton] at hr
         subst hr
         exact ⟨HYES.out (by trivial), HFEW.out⟩, by have := HG.out.2.2; rw [List.length_append, List.length_singleton]; omega⟩
       have hlit := same_lit hS
       clear hh hS hB hva hvg hrest hfresh hRA0 hRG0 hRS0 t7 t8 h78 hb7 hb8 hGA hGG
       simp only [List.filterMap_cons, List.filterMap_nil, List.foldl_cons, List.foldl_nil, List.setIfInBounds_toArray, List.set_cons_zero, List.set_cons_succ] at hlit
       rw [show a.tmps.getD 7 undef = va' by simp [Array.getD_eq_getD_getElem?, e7]] at hlit
       rw [show a.tmps.getD 8 undef = vg' by simp [Array.getD_eq_getD_getElem?, e8]] at hlit
       generalize a.tmps.getD 54 undef = z54 at hlit
       generalize a.tmps.getD 55 undef = z55 at hlit
       generalize a.tmps.getD 56 undef = z56 at hlit
       generalize a.tmps.getD 57 undef = z57 at hlit
       generalize a.tmps.getD 58 undef = z58 at hlit
       generalize a.tmps.getD 59 undef = z59 at hlit
       generalize a.tmps.getD 60 undef = z60 at hlit
       clear e7 e8
       subst hlit
       go_wp2_with fail
       go_roundw
       case rel => exact ⟨i + 1, S1', T', rows ++ F1, good ++ [(k0, x1, x2, ds, x4, x5, x6)], by omega, by go_num, HFF, HGN⟩
       case measure => simp [intOf]; omega
     ·have hde : decide (er = 0) = false := decide_eq_false he
      have hn := (HNO.out he).2
      go_wp2_with fail
      go_roundw
      case rel => exact ⟨i + 1, S1', T, rows, good, by omega, by go_num, Lib.hid (by rw [← hn]; exact HCC.out), Lib.hid ⟨HG.out.1, HG.out.2.1, by have := HG.out.2.2; omega⟩⟩
      case measure => simp [intOf]; omega
   ·obtain rfl : i = l.length := by omega
    obtain ⟨Aa, ca, rfl⟩ := Kd.R_slice H.out.ra
    obtain ⟨Ag, cg, rfl⟩ := Kd.R_slice H.out.rg
    have hgl : good.length ≤ 20 := by have := HG.out.2.2; omega
    have hfit := lay_fit (v := v) good (by omega) (fun r hr => (HG.out.2.1 r hr).1)
    rw [← HG.out.1] at hfit
    have HFIT := Lib.hid hfit
    have hl1 : (layF v good).1 = rows := by rw [← HG.out.1]
    have hl2 : (layF v good).2 = T := by rw [← HG.out.1]
    have HL1 := Lib.hid hl1
    have HL2 := Lib.hid hl2
    have hml2 : good.length ≤ 9223372036854775807 := by omega
    clear hfit hl1 hl2 HC HOK
    go_wp2_with fail
    go_loopw [13, 64] (fun u13 u64 wr => ∃ (j : Nat) (S2 : Nat → Prop), j ≤ good.length ∧ u64 = .int .i64 (j : Int) ∧ u13 = .int .i64 (((layF v (good.take j)).1.length : Nat) : Int) ∧ Hid (RwA w wr S1 S2 g1 g2 T (layF v (good.take j)).2 (.slice Aa rows.length ca) (.slice Ag good.length cg) rows good)) (fun _ u _ => good.length - (intOf u).toNat)
    case atStart => exact ⟨0, S2, by omega, rfl, rfl, H⟩
    case round =>
     clear H
     obtain ⟨j, S2, hj, rfl, rfl, H⟩ := hrel
     by_cases hlt : j < good.length
     ·have hdl : decide ((j : Int) < (good.length : Int)) = true := decide_eq_true (by omega)
      obtain ⟨hgg, hnx⟩ := getF_lay (v := v) (l := good) (by omega) (fun r hr => (HG.out.2.1 r hr).1) j hlt
      rw [HL1.out] at hgg
      have hf1 := lay_fit (v := v) (good.take j) (by rw [List.length_take]; omega) (fun r hr => (HG.out.2.1 r (List.mem_of_mem_take hr)).1)
      have hT2 : (layF v (good.take j)).2.length ≤ 50000 := by have := hf1.t; rw [List.length_take] at this; omega
      obtain ⟨r, hr⟩ : ∃ r, good[j] = r := ⟨_, rfl⟩
      rw [hr] at hgg
      obtain ⟨ad, A3, c3, hA, h0, h1, h2, h3, h4, h5, h6, hle, hrow⟩ := at_row9 (d := kFix w) (w := w) (W := wr) rfl (fun _ _ h => h) (Kd.R_reads' H.out.rg).2.2 j hlt r hr
      subst hA
      have hfew := (HG.out.2.1 r (hr ▸ List.getElem_mem _)).2
      obtain ⟨k0, x1, x2, ds, x4, x5, x6⟩ := r
      dsimp only at h0 h1 h2 h3 h4 h5 h6 hle hrow hfew
      generalize (layF v (good.take j)).1.length = at0 at *
      generalize (layF v (good.take j)).2 = Tj at *
      generalize hN : (layF v (good.take (j + 1))).1.length = nx at hgg hnx
      generalize hTN : (layF v (good.take (j + 1))).2 = Tn at hgg
      obtain ⟨wa, hwa⟩ : ∃ wa, wr.alloc (.cells #[.int .i64 k0, .string x1, .int .u64 x2, .slice A3 ds.length c3, .int .u64 x4, .int .u64 x5, .string x6] 62) = wa := ⟨_, rfl⟩
      have hba : Below wr.heap.size wr wa := by rw [← hwa]; exact (Below.refl _ _).alloc (Nat.le_refl _) _
      have hka : wa.heap[wr.heap.size]? = some (.cells #[.int .i64 k0, .string x1, .int .u64 x2, .slice A3 ds.length c3, .int .u64 x4, .int .u64 x5, .string x6] 62 (0, 0)) := by rw [← hwa]; exact heap_new _ _
      obtain ⟨b, hbb⟩ : ∃ b, wr.heap.size = b := ⟨_, rfl⟩
      rw [hbb] at hka
      have hA := H.out.below hba
      have hbS : ∀ k, S2 k → k < b := fun k hk => by have := H.out.t2.lt k hk; omega
      have hGT := sget_any hA.t2 v Aa ca rows (at0 : Int) (fun W' hk => (Kd.R_reads' (Kd.R_step hA.ra (fun k hk' hlt => hk.block k hlt hk'.2))).2.2) (Kd.R_reads' hA.ra).2.1 HFIT.out.b hT2 (by have := HFIT.out.n; dsimp only at this; omega)
      rw [hgg] at hGT
      have HAA := Lib.hid hA
      have HKA := Lib.hid hka
      have HWA := Lib.hid hwa
      have HBB := Lib.hid hbb
      have HGT := Lib.hid hGT
      have HROW := Lib.hid hrow
      have HFEW := Lib.hid hfew
      have HNN := Lib.hid hN
      have HTN := Lib.hid hTN
      have HBS := Lib.hid hbS
      clear hgg hf1 hT2 hr hrow hfew hN hTN hwa hba hka hbb hA hGT hbS H
      obtain ⟨q0, q1, q2, q3, q4, q5, q6⟩ := facts7 HKA.out
      go_wp2_with fail
      rw [HWA.out, HBB.out]
      clear q0 q1 q2 q3 q4 q5 q6 h0 h1 h2 h3 h4 h5 h6
      refine HGT.out.mono ?_
      rintro e wb ⟨dv, S2', rfl, hT', hs', hk', hRd⟩
      dsimp only at hT' hRd ⊢
      have hB := HAA.out.wrote2 hT' hs' hk'
      have hkb := hk'.heap HKA.out (fun hs => by have := HBS.out b hs; omega)
      obtain ⟨A5, c5, rfl⟩ := Kd.R_slice hRd
      have HKC0 := Lib.hid (blk_below hkb ((Below.refl wb.heap.size wb).alloc (Nat.le_refl _) (.cells #[.int .i64 k0, .string x1, .int .u64 x2, .slice A5 ds.length c5, .int .u64 x4, .int .u64 x5, .string x6] 62)))
      have HKC3 : Hid ((wb.alloc (.cells #[.int .i64 k0, .string x1, .int .u64 x2, .slice A5 ds.length c5, .int .u64 x4, .int .u64 x5, .string x6] 62)).heap[wb.heap.size]? = some (.cells #[.int .i64 k0, .string x1, .int .u64 x2, .slice A5 ds.length c5, .int .u64 x4, .int .u64 x5, .string x6] 62 (0, 0))) := Lib.hid (heap_new _ _)
      obtain ⟨wc, hwc⟩ : ∃ wc, wb.alloc (.cells #[.int .i64 k0, .string x1, .int .u64 x2, .slice A5 ds.length c5, .int .u64 x4, .int .u64 x5, .string x6] 62) = wc := ⟨_, rfl⟩
      have hbc : Below wb.heap.size wb wc := by rw [← hwc]; exact (Below.refl _ _).alloc (Nat.le_refl _) _
      have hkc2 : wc.heap[wb.heap.size]? = some (.cells #[.int .i64 k0, .string x1, .int .u64 x2, .slice A5 ds.length c5, .int .u64 x4, .int .u64 x5, .string x6] 62 (0, 0)) := by rw [← hwc]; exact heap_new _ _
      obtain ⟨b2, hb2⟩ : ∃ b, wb.heap.size = b := ⟨_, rfl⟩
      rw [hb2] at hkc2
      have HCC := Lib.hid (hB.below hbc)
      have HKC := Lib.hid (blk_below hkb hbc)
      have HKC2 := Lib.hid hkc2
      have HWC := Lib.hid hwc
      have HB2 := Lib.hid hb2
      have hR5 := Kd.R_reads' (Kd.R_below hRd hbc)
      have HSM := Lib.hid (same_self k0 x1 x2 ds x4 x5 x6 A5 A3 c5 c3 wc hR5.2.2 (Kd.C_below HROW.out HCC.out.bl) hR5.2.1 hle (by have := HFEW.out.n; omega))
      clear hT' hs' hk' hRd hB hkb hwc hbc hkc2 hb2 hR5 HGT HKA HAA HWA
      have hnd : decide ((nx : Int) ≤ (at0 : Int)) = false := decide_eq_false (by omega)
      obtain ⟨q0, q1, q2, q3, q4, q5, q6⟩ := facts7 HKC0.out
      obtain ⟨p0, p1, p2, p3, p4, p5, p6⟩ := facts7 HKC3.out
      go_wp2_with fail
      rw [HWC.out, HB2.out]
      clear q0 q1 q2 q3 q4 q5 q6 p0 p1 p2 p3 p4 p5 p6
      refine HSM.out.mono ?_
      rintro e wd ⟨rfl, hb⟩
      have HDD := Lib.hid (HCC.out.below hb)
      clear hb HCC HKC HKC2 HWC HSM HKC0 HKC3
      go_wp2_with fail
      go_roundw
      case rel => exact ⟨j + 1, S2', by omega, by go_num, by rw [HNN.out], Lib.hid (by rw [HTN.out]; exact HDD.out)⟩
      case measure => simp [intOf]; omega
     ·obtain rfl : j = good.length := by omega
      have hend := getF_end v T rows
      have h8 := H.out
      rw [List.take_length, HL2.out] at h8
      have hln : (layF v (good.take good.length)).1.length = rows.length := by rw [List.take_length, HL1.out]
      have hge : ¬ (1 ≤ v ∧ v ≤ 3) → good.length = 0 := fun hv => by
       rcases Nat.eq_zero_or_pos good.length with h | h
       ·exact h
       ·exact absurd (may_facts (HG.out.2.1 good[0] (List.getElem_mem _)).1.may).ver hv
      have hGT := sget_any h8.t2 v Aa ca rows (rows.length : Int) (fun W' hk => (Kd.R_reads' (Kd.R_step h8.ra (fun k hk' hlt => hk.block k hlt hk'.2))).2.2) (Kd.R_reads' h8.ra).2.1 HFIT.out.b (by have := HFIT.out.t; dsimp only at this; omega) (by have := HFIT.out.n; dsimp only at this; omega)
      rw [hend] at hGT
      rw [hln]
      by_cases hv : 1 ≤ v ∧ v ≤ 3
      ·rw [if_pos hv] at hGT
       clear hge
       have HGT := Lib.hid hGT
       have HS8 := Lib.hid h8
       clear hend h8 hln hGT H
       go_wp2_with fail
       refine HGT.out.mono ?_
       rintro e wb ⟨dv, S2', rfl, hT', hs', hk', hRd⟩
       dsimp only at hT' hRd ⊢
       obtain ⟨A5, c5, rfl⟩ := Kd.R_slice hRd
       have hB := HS8.out.wrote2 hT' hs' hk'
       have hend := fun (W : World) (hb : Below wb.heap.size wb W) => hB.below hb
       have HEN := Lib.hid hend
       clear hT' hs' hk' hRd hB hend HGT HS8
       go_wp2_with fail
       obtain ⟨wc, hwc⟩ : ∃ wc, wb.alloc (.cells #[.int .i64 0, .string ⟨#[]⟩, .int .u64 0, .slice A5 0 c5, .int .u64 0, .int .u64 0, .string ⟨#[]⟩] 62) = wc := ⟨_, rfl⟩
       have hbc : Below wb.heap.size wb wc := by rw [← hwc]; exact (Below.refl _ _).alloc (Nat.le_refl _) _
       rw [hwc]
       have HCC := Lib.hid (HEN.out _ hbc)
       clear hbc hwc HEN
       refine (fixed9_any _).mono ?_
       rintro en wq ⟨rfl, hbq⟩
       have HQ := Lib.hid (HCC.out.below hbq)
       clear hbq HCC
       have HTX1 := Lib.hid (texts9_any HQ.out.t1)
       go_wp2_with fail
       refine HTX1.out.mono ?_
       rintro en wx ⟨vx, rfl, hRx, hbx⟩
       have HX := Lib.hid (HQ.out.below hbx)
       obtain ⟨Ax, cx, rfl⟩ := Kd.R_slice hRx
       have HRX := Lib.hid hRx
       have HTX2 := Lib.hid (texts9_any HX.out.t2)
       clear hRx hbx HTX1 HQ
       go_wp2_with fail
       refine HTX2.out.mono ?_
       rintro en wy ⟨vy, rfl, hRy, hby⟩
       have HBY := Lib.hid (HX.out.below hby)
       obtain ⟨Ay, cy, rfl⟩ := Kd.R_slice hRy
       have hx9 := Kd.R_reads' (Kd.R_below HRX.out hby)
       have hy9 := Kd.R_reads' hRy
       have hSM := tephraref04_Same.calls (T.length + 1) Ax cx T Ay cy T true wy hx9.2.2 hx9.2.1 hy9.2.2 hy9.2.1 (same4_is T HBY.out.t1.len)
       have HSM := Lib.hid hSM
       clear hRy hby hx9 hy9 hSM HTX2 HRX HX
       go_wp2_with fail
       refine HSM.out.mono ?_
       rintro en wz ⟨rfl, hdr⟩
       have hbz := hdr.below
       go_wp2_with fail
       go_ret
       exact ⟨rfl, HBY.out.bl.trans (hbz.mono HBY.out.bl.size)⟩
      ·rw [if_neg hv] at hGT
       have hg0 : good = [] := List.eq_nil_of_length_eq_zero (hge hv)
       clear hge
       subst hg0
       have HGT := Lib.hid hGT
       have HS8 := Lib.hid h8
       clear hend h8 hln hGT H
       go_wp2_with fail
       refine HGT.out.mono ?_
       rintro e wb ⟨dv, S2', rfl, hT', hs', hk', hRd⟩
       dsimp only at hT' hRd ⊢
       obtain ⟨A5, c5, rfl⟩ := Kd.R_slice hRd
       have hB := HS8.out.wrote2 hT' hs' hk'
       have hend := fun (W : World) (hb : Below wb.heap.size wb W) => hB.below hb
       have HEN := Lib.hid hend
       clear hT' hs' hk' hRd hB hend HGT HS8
       go_wp2_with fail
       obtain ⟨wc, hwc⟩ : ∃ wc, wb.alloc (.cells #[.int .i64 0, .string ⟨#[]⟩, .int .u64 0, .slice A5 0 c5, .int .u64 0, .int .u64 0, .string ⟨#[]⟩] 62) = wc := ⟨_, rfl⟩
       have hbc : Below wb.heap.size wb wc := by rw [← hwc]; exact (Below.refl _ _).alloc (Nat.le_refl _) _
       rw [hwc]
       have HCC := Lib.hid (HEN.out _ hbc)
       clear hbc hwc HEN
       refine (fixed9_any _).mono ?_
       rintro en wq ⟨rfl, hbq⟩
       have HQ := Lib.hid (HCC.out.below hbq)
       clear hbq HCC
       have HTX1 := Lib.hid (texts9_any HQ.out.t1)
       go_wp2_with fail
       refine HTX1.out.mono ?_
       rintro en wx ⟨vx, rfl, hRx, hbx⟩
       have HX := Lib.hid (HQ.out.below hbx)
       obtain ⟨Ax, cx, rfl⟩ := Kd.R_slice hRx
       have HRX := Lib.hid hRx
       have HTX2 := Lib.hid (texts9_any HX.out.t2)
       clear hRx hbx HTX1 HQ
       go_wp2_with fail
       refine HTX2.out.mono ?_
       rintro en wy ⟨vy, rfl, hRy, hby⟩
       have HBY := Lib.hid (HX.out.below hby)
       obtain ⟨Ay, cy, rfl⟩ := Kd.R_slice hRy
       have hx9 := Kd.R_reads' (Kd.R_below HRX.out hby)
       have hy9 := Kd.R_reads' hRy
       have hSM := tephraref04_Same.calls (T.length + 1) Ax cx T Ay cy T true wy hx9.2.2 hx9.2.1 hy9.2.2 hy9.2.1 (same4_is T HBY.out.t1.len)
       have HSM := Lib.hid hSM
       clear hRy hby hx9 hy9 hSM HTX2 HRX HX
       go_wp2_with fail
       refine HSM.out.mono ?_
       rintro en wz ⟨rfl, hdr⟩
       have hbz := hdr.below
       go_wp2_with fail
       go_ret
       exact ⟨rfl, HBY.out.bl.trans (hbz.mono HBY.out.bl.size)⟩
end Go.Proofs.Ytfflenbfapgilaa.WSchemaRows
