/- Texts laid as one by shake.py, cut to what the claim needs: SchF, SchE2, SchY, SchZ, SchG, SchH. (Names that begin with W and the print's groups (G..x, G..z): laid by the kit's print, cut.) -/
import Derived.Test.YtmeocdkiecknkaaZTs
import Derived.Test.YtmeocdkiecknkaaZTg
import Derived.Laws.IdiomStrings
set_option linter.unusedVariables false
set_option linter.unusedSimpArgs false
namespace Go.Proofs.Ytmeocdkiecknkaa
open Go.RowKit Go.Proofs.YtmeocdkiecknkaaW.PrintWords Go.Proofs.Ytmeocdkiecknkaa.GRR
end Go.Proofs.Ytmeocdkiecknkaa
namespace Go.Proofs.Ytmeocdkiecknkaa
open Go.RowKit Go.Proofs.YtmeocdkiecknkaaW.PrintWords Go.Proofs.Ytmeocdkiecknkaa.GRR
theorem ints_nats (l : List Int) (h : ∀ x ∈ l, 0 ≤ x ∧ x < 256) : ints (nats l) = l := by
 induction l with
 | nil => rfl
 | cons a r ih =>
  have h1 := h a List.mem_cons_self
  have h2 := ih (fun x hx => h x (List.mem_cons_of_mem _ hx))
  have e : ints (nats (a :: r)) = ((a.toNat : Nat) : Int) :: ints (nats r) := by simp [ints, nats]
  rw [e, h2]
  congr 1
  omega
theorem strs_inj {l1 l2 : List Int} (h1 : ∀ x ∈ l1, 0 ≤ x ∧ x < 256) (h2 : ∀ x ∈ l2, 0 ≤ x ∧ x < 256) : ((strOfNums l1).toList == (strOfNums l2).toList) = decide (l1 = l2) := by
 rw [Bool.eq_iff_iff, beq_iff_eq, decide_eq_true_eq]
 constructor
 ·intro h
  rw [← ints_nats l1 h1, ← ints_nats l2 h2] at h ⊢
  have hb : ∀ (l : List Int), (∀ x ∈ l, 0 ≤ x ∧ x < 256) → ∀ x ∈ nats l, x < 256 := by
   intro l hl x hx
   simp only [nats, List.mem_map] at hx
   obtain ⟨y, hy, rfl⟩ := hx
   have := hl y hy
   omega
  rw [GVB.str_inj (nats l1) (nats l2) (hb l1 h1) (hb l2 h2) h]
 ·rintro rfl; rfl
set_option maxHeartbeats 2000000 in
set_option maxRecDepth 100000 in
theorem eqf_any (A1 A2 : Option Addr) (c1 c2 : Nat) (l1 l2 : List (List Int)) (w : World) (hC1 : Kd.C kRows w A1 l1.length l1) (hC2 : Kd.C kRows w A2 l2.length l2) (hb1 : ∀ p ∈ l1, ∀ x ∈ p, 0 ≤ x ∧ x < 256) (hb2 : ∀ p ∈ l2, ∀ x ∈ p, 0 ≤ x ∧ x < 256) :
  Calls Try.prog 74 #[.slice A1 l1.length c1, .slice A2 l2.length c2, .func (.func 75) #[] #[]] w fun e w' => e = .returned (.bool (decide (l1 = l2))) ∧ Below w.heap.size w w' := by
 have H1 := Lib.hid hC1
 have H2 := Lib.hid hC2
 have HB1 := Lib.hid hb1
 have HB2 := Lib.hid hb2
 have hm1 := hC1.2.1
 have hm2 := hC2.2.1
 clear hC1 hC2 hb1 hb2
 by_cases hlen : l1.length = l2.length
 ·have hld : decide ((l1.length : Int) = (l2.length : Int)) = true := decide_eq_true (by omega)
  have hlq : ((l1.length : Int) != (l2.length : Int)) = false := by simp; omega
  have HLN := Lib.hid hlen
  clear hlen
  go_enter Try.func74, Try.ntmps74
  go_wp2_with fail
  go_loopw [17] (fun u wr => ∃ (i : Nat), i ≤ l1.length ∧ u = .int .i64 i ∧ Hid (l1.take i = l2.take i) ∧ Hid (Below w.heap.size w wr)) (fun v _ => l1.length - (intOf v).toNat)
  case atStart => exact ⟨0, by omega, rfl, Lib.hid rfl, Lib.hid (Below.refl _ _)⟩
  case round =>
   obtain ⟨i, hi, rfl, HE, HB⟩ := hrel
   by_cases hlt : i < l1.length
   ·have hlt2 : i < l2.length := by have := HLN.out; omega
    obtain ⟨ad1, B1, d1, hA1, hc1, hl1, hr1⟩ := at_L5 (Kd.C_below H1.out HB.out) (i : Int) (by omega) (by omega)
    obtain ⟨ad2, B2, d2, hA2, hc2, hl2, hr2⟩ := at_L5 (Kd.C_below H2.out HB.out) (i : Int) (by omega) (by omega)
    subst hA1 hA2
    have e1 : rd_L5 l1 (i : Int) = l1[i] := by simp [rd_L5, hlt]
    have e2 : rd_L5 l2 (i : Int) = l2[i] := by simp [rd_L5, hlt2]
    rw [e1, Int.toNat_natCast] at hc1
    rw [e2, Int.toNat_natCast] at hc2
    rw [e1] at hl1 hr1
    rw [e2] at hl2 hr2
    have hp1 := HB1.out l1[i] (List.getElem_mem _)
    have hp2 := HB2.out l2[i] (List.getElem_mem _)
    have ht1 : l1.take (i + 1) = l1.take i ++ [l1[i]] := List.take_succ_eq_append_getElem hlt
    have ht2 : l2.take (i + 1) = l2.take i ++ [l2[i]] := List.take_succ_eq_append_getElem hlt2
    have hne : l1[i] ≠ l2[i] → l1 ≠ l2 := fun h e => h (by subst e; rfl)
    generalize l1[i] = p1 at *
    generalize l2[i] = p2 at *
    have HQ := Lib.hid (fun (W : World) (hb : Below _ _ W) => bytes_Equal.calls B1 d1 p1 B2 d2 p2 _ W (Kd.C_below hr1 hb) hl1 (Kd.C_below hr2 hb) hl2 (show bytes_Equal.f p1 p2 = some (decide (p1 = p2)) by unfold bytes_Equal.f; rw [strs_inj hp1 hp2]))
    have HT1 := Lib.hid ht1
    have HT2 := Lib.hid ht2
    have HNE := Lib.hid hne
    have hdl : decide ((i : Int) < (l1.length : Int)) = true := decide_eq_true (by omega)
    clear e1 e2 hl1 hr1 hl2 hr2 hp1 hp2 ht1 ht2 hne
    by_cases hpe : p1 = p2
    ·rw [show decide (p1 = p2) = true from decide_eq_true hpe] at HQ
     have HPE := Lib.hid hpe
     clear hpe
     go_wp2_with fail
     refine (HQ.out _ (Below.refl _ _)).mono ?_
     rintro e w5 ⟨rfl, hdr⟩
     have HB5 := Lib.hid (HB.out.trans (hdr.below.mono HB.out.size))
     clear hdr HQ hc1 hc2
     go_wp2_with fail
     go_roundw
     case rel => exact ⟨i + 1, by omega, by go_num, Lib.hid (by rw [HT1.out, HT2.out, HE.out, HPE.out]), HB5⟩
     case measure => simp [intOf]; omega
    ·rw [show decide (p1 = p2) = false from decide_eq_false hpe] at HQ
     have hne := HNE.out hpe
     have HNQ := Lib.hid hne
     clear hpe hne
     go_wp2_with fail
     refine (HQ.out _ (Below.refl _ _)).mono ?_
     rintro e w5 ⟨rfl, hdr⟩
     have HB5 := Lib.hid (HB.out.trans (hdr.below.mono HB.out.size))
     clear hdr HQ hc1 hc2
     go_wp2_with fail
     go_ret
     rw [show decide (l1 = l2) = false from decide_eq_false HNQ.out]
     exact ⟨rfl, HB5.out⟩
   ·obtain rfl : i = l1.length := by omega
    have he := HE.out
    have hl := HLN.out
    rw [List.take_length, List.take_of_length_le (by omega)] at he
    have HEQ := Lib.hid he
    clear he hl
    go_wp2_with fail
    go_ret
    rw [show decide (l1 = l2) = true from decide_eq_true HEQ.out]
    exact ⟨rfl, HB.out⟩
 ·have hlq : ((l1.length : Int) != (l2.length : Int)) = true := by simp; omega
  have hld : decide ((l1.length : Int) = (l2.length : Int)) = false := decide_eq_false (by omega)
  rw [show decide (l1 = l2) = false from decide_eq_false (fun e => hlen (congrArg List.length e))]
  clear hlen
  go_enter Try.func74, Try.ntmps74
  go_wp2_with fail
  go_ret
  exact ⟨rfl, Below.refl _ _⟩
end Go.Proofs.Ytmeocdkiecknkaa
namespace Go.Proofs.Ytmeocdkiecknkaa
open Go.RowKit Go.Proofs.YtmeocdkiecknkaaW.PrintWords Go.Proofs.Ytmeocdkiecknkaa.GRR
def isDef (p : List Int) : Bool := match p with
 | [] => false
 | x :: _ => decide (x = 0)
theorem isDef_self (s : ByteArray) : isDef (defE s) = true := by simp [isDef, defE]
def defS (p : List Int) : ByteArray := strOfNums p.tail
theorem defS_self (s : ByteArray) : defS (defE s) = s := by simp [defS, defE, bytes_str]
theorem take_while_at {α : Type} (f : α → Bool) (l : List α) (i : Nat) (hi : i ≤ l.length) (h : ∀ j, (hj : j < i) → f l[j] = true) (he : ∀ hl : i < l.length, f l[i] = false) : l.takeWhile f = l.take i := by
 induction l generalizing i with
 | nil => simp
 | cons a r ih =>
  match i with
  | 0 =>
   have := he (by simp)
   rw [List.getElem_cons_zero] at this
   rw [List.takeWhile_cons_of_neg (by simp [this])]
   rfl
  | i + 1 =>
   have h0 := h 0 (by omega)
   rw [List.getElem_cons_zero] at h0
   rw [List.takeWhile_cons_of_pos h0, List.take_succ_cons]
   congr 1
   simp only [List.length_cons] at hi
   refine ih i (by omega) (fun j hj => ?_) (fun hl => ?_)
   ·have := h (j + 1) (by omega)
    rwa [List.getElem_cons_succ] at this
   ·have := he (by simp; omega)
    rwa [List.getElem_cons_succ] at this
def defsAt (ps : List (List Int)) (at0 : Nat) : List (List Int) := (ps.drop at0).takeWhile isDef
abbrev rec0 : Rec9 := (0, ⟨#[]⟩, 0, [], 0, 0, ⟨#[]⟩)
def getF (v : Int) (T : List ByteArray) (ps : List (List Int)) (at0 : Int) : Rec9 × Int × List ByteArray × Int :=
 if ¬ (1 ≤ v ∧ v ≤ 3) then (rec0, 0, T, 11)
 else if at0 < 0 ∨ (ps.length : Int) < at0 then (rec0, 0, T, 1)
 else
  let ds := defsAt ps at0.toNat
  let n := at0.toNat + ds.length
  if n = ps.length then (rec0, 0, T, 6)
  else
   let r := (lastR v (tnewOn T (ds.map defS)) (ps.getD n [])).1
   let F := putF v T r.1 r.2.1 r.2.2.1 r.2.2.2.1 r.2.2.2.2.1 r.2.2.2.2.2.1 r.2.2.2.2.2.2
   if F.2.2 = 0 ∧ F.1 = (ps.drop at0.toNat).take (ds.length + 1) then (r, ((n + 1 : Nat) : Int), F.2.1, 0)
   else (rec0, 0, T, 3)
structure RecRg (r : Rec9) (n : Nat) : Prop where
 k : 0 ≤ r.1 ∧ r.1 < 256
 t : r.2.1.size ≤ maxLen
 r2 : 0 ≤ r.2.2.1 ∧ r.2.2.1 < 18446744073709551616
 n : r.2.2.2.1.length ≤ n
 d : ∀ d ∈ r.2.2.2.1, d.f0.size ≤ maxLen ∧ 0 ≤ d.f1 ∧ d.f1 < 18446744073709551616
 o : 0 ≤ r.2.2.2.2.1 ∧ r.2.2.2.2.1 < 18446744073709551616
 w : 0 ≤ r.2.2.2.2.2.1 ∧ r.2.2.2.2.2.1 < 18446744073709551616
 tag : r.2.2.2.2.2.2.size ≤ maxLen
theorem txF_size {T : List ByteArray} (hT : ∀ s ∈ T, s.size ≤ maxLen) (n : Int) (hn : 0 ≤ n) : (txF T n).size ≤ maxLen := by
 unfold txF
 split
 ·have h1 : n.toNat < T.length := by omega
  have e : T.getD n.toNat ⟨#[]⟩ = T[n.toNat] := by simp [h1]
  rw [e]
  exact hT _ (List.getElem_mem _)
 ·exact Nat.zero_le _
theorem textR_size {v : Int} {T : List ByteArray} {l : List Int} (hT : ∀ s ∈ T, s.size ≤ maxLen) (hb : ∀ x ∈ l, 0 ≤ x ∧ x < 256) (hl : l.length ≤ 1000000) (a e : Int) (ha : 0 ≤ a ∧ a ≤ l.length) : (textR v T l a e).1.size ≤ maxLen ∧ 0 ≤ (textR v T l a e).2.1 ∧ (textR v T l a e).2.1 ≤ l.length := by
 unfold textR txR
 split
 ·have h := cuText_step l hb 64 a e ha
  exact ⟨by have := h.2.2.2.2.2; simp only [maxLen]; omega, by omega, h.1⟩
 ·have h := cuNum_step l hb a e ha
  exact ⟨txF_size hT _ h.2.2.2.1, by show 0 ≤ (cuNum l a e).2.1; omega, h.1⟩
theorem depR_size {v : Int} {T : List ByteArray} {l : List Int} (hT : ∀ s ∈ T, s.size ≤ maxLen) (hb : ∀ x ∈ l, 0 ≤ x ∧ x < 256) (hl : l.length ≤ 1000000) (a e : Int) (ha : 0 ≤ a ∧ a ≤ l.length) : (depR v T l a e).1.1.size ≤ maxLen := by
 unfold depR
 split
 ·exact (textR_size hT hb hl a e ha).1
 ·have h := cuNum_step l hb a e ha
  exact txF_size hT _ (by omega)
theorem depR_place0 {v : Int} {T : List ByteArray} {l : List Int} (hT : ∀ s ∈ T, s.size ≤ maxLen) (hb : ∀ x ∈ l, 0 ≤ x ∧ x < 256) (hl : l.length ≤ 1000000) (a e : Int) (ha : 0 ≤ a ∧ a ≤ l.length) : 0 ≤ (depR v T l a e).2.1 ∧ (depR v T l a e).2.1 ≤ l.length := by
 have := depR_place v T l hb a e ha
 omega
theorem depsL_rg {v : Int} {T : List ByteArray} {l : List Int} (hT : ∀ s ∈ T, s.size ≤ maxLen) (hb : ∀ x ∈ l, 0 ≤ x ∧ x < 256) (hl : l.length ≤ 1000000) : ∀ (f : Nat) (n a e : Int) (acc : List S109), 0 ≤ a ∧ a ≤ (l.length : Int) → (∀ d ∈ acc, d.f0.size ≤ maxLen ∧ 0 ≤ d.f1 ∧ d.f1 < 18446744073709551616) →
  (∀ d ∈ (depsL v T l f n a e acc).1, d.f0.size ≤ maxLen ∧ 0 ≤ d.f1 ∧ d.f1 < 18446744073709551616) ∧ (depsL v T l f n a e acc).1.length ≤ acc.length + f ∧ 0 ≤ (depsL v T l f n a e acc).2.1 ∧ (depsL v T l f n a e acc).2.1 ≤ (l.length : Int) := by
 intro f
 induction f with
 | zero => intro n a e acc ha h; exact ⟨h, by simp [depsL], ha.1, ha.2⟩
 | succ f ih =>
  intro n a e acc ha h
  rw [depsL]
  split
  ·have h1 := depR_place0 (v := v) hT hb hl a e ha
   have h2 := depR_size (v := v) hT hb hl a e ha
   have h3 := cuNum_step l hb (depR v T l a e).2.1 (depR v T l a e).2.2 h1
   have h4 := ih (n - 1) (cuNum l (depR v T l a e).2.1 (depR v T l a e).2.2).2.1 (cuNum l (depR v T l a e).2.1 (depR v T l a e).2.2).2.2 (acc ++ [⟨(depR v T l a e).1.1, (cuNum l (depR v T l a e).2.1 (depR v T l a e).2.2).1, (depR v T l a e).1.2⟩]) ⟨by omega, h3.1⟩ (by
    intro d hd
    rcases List.mem_append.1 hd with hd | hd
    ·exact h d hd
    ·simp only [List.mem_singleton] at hd
     subst hd
     exact ⟨h2, h3.2.2.2.1, h3.2.2.2.2.1⟩)
   exact ⟨h4.1, by have := h4.2.1; rw [List.length_append, List.length_singleton] at this; omega, h4.2.2⟩
  ·exact ⟨h, by simp, ha.1, ha.2⟩
theorem tailR_rg {v : Int} {T : List ByteArray} {l : List Int} (hT : ∀ s ∈ T, s.size ≤ maxLen) (hb : ∀ x ∈ l, 0 ≤ x ∧ x < 256) (hl : l.length ≤ 1000000) {k : Int} {s : ByteArray} {x2 : Int} {ds : List S109} {x4 : Int} {n : Nat} (a e : Int) (ha : 0 ≤ a ∧ a ≤ (l.length : Int)) (hk : 0 ≤ k ∧ k < 256) (hs : s.size ≤ maxLen) (h2 : 0 ≤ x2 ∧ x2 < 18446744073709551616)
  (hn : ds.length ≤ n) (hd : ∀ d ∈ ds, d.f0.size ≤ maxLen ∧ 0 ≤ d.f1 ∧ d.f1 < 18446744073709551616) (h4 : 0 ≤ x4 ∧ x4 < 18446744073709551616) : RecRg (tailR v T l k s x2 ds x4 a e).1 n := by
 have z : (0 : Int) ≤ 0 ∧ (0 : Int) < 18446744073709551616 := ⟨by omega, by omega⟩
 have h5 := cuNum_step l hb a e ha
 have h6 := cuNum_step l hb (cuNum l a e).2.1 (cuNum l a e).2.2 ⟨by omega, h5.1⟩
 have r5 : 0 ≤ (cuNum l a e).1 ∧ (cuNum l a e).1 < 18446744073709551616 := ⟨h5.2.2.2.1, h5.2.2.2.2.1⟩
 unfold tailR
 split
 ·exact ⟨hk, hs, h2, hn, hd, h4, z, Nat.zero_le _⟩
 ·split
  ·exact ⟨hk, hs, h2, hn, hd, h4, r5, Nat.zero_le _⟩
  ·split
   ·exact ⟨hk, hs, h2, hn, hd, h4, r5, txF_size hT _ (by omega)⟩
   ·exact ⟨hk, hs, h2, hn, hd, h4, r5, Nat.zero_le _⟩
theorem lastR_rg {v : Int} {T : List ByteArray} {l : List Int} (hT : ∀ s ∈ T, s.size ≤ maxLen) (hb : ∀ x ∈ l, 0 ≤ x ∧ x < 256) (hl : l.length ≤ 1000000) : RecRg (lastR v T l).1 (l.length + 2) := by
 have z : (0 : Int) ≤ 0 ∧ (0 : Int) < 18446744073709551616 := ⟨by omega, by omega⟩
 have hk := cuByte_rg l hb
 have hb1p : 0 ≤ (cuByte l 0 0).2.1 ∧ (cuByte l 0 0).2.1 ≤ (l.length : Int) := by unfold cuByte; rw [if_neg (by simp)]; split <;> (dsimp only; constructor <;> omega)
 have h1 := textR_size (v := v) hT hb hl (cuByte l 0 0).2.1 (cuByte l 0 0).2.2 hb1p
 unfold lastR
 generalize cuByte l 0 0 = F1 at *
 generalize textR v T l F1.2.1 F1.2.2 = F2 at *
 split
 ·unfold traceR
  have h2 := cuNum_step l hb F2.2.1 F2.2.2 h1.2
  have h3 := cuNum_step l hb (cuNum l F2.2.1 F2.2.2).2.1 (cuNum l F2.2.1 F2.2.2).2.2 ⟨by omega, h2.1⟩
  generalize cuNum l F2.2.1 F2.2.2 = N1 at *
  generalize cuNum l N1.2.1 N1.2.2 = N2 at *
  have h4 := depsL_rg (v := v) hT hb hl (l.length + 2) N2.1 N2.2.1 N2.2.2 [] ⟨by omega, h3.1⟩ (by simp)
  generalize depsL v T l (l.length + 2) N2.1 N2.2.1 N2.2.2 [] = D at *
  have h5 := cuNum_step l hb D.2.1 D.2.2 h4.2.2
  generalize cuNum l D.2.1 D.2.2 = N3 at *
  exact tailR_rg hT hb hl N3.2.1 N3.2.2 ⟨by omega, h5.1⟩ hk h1.1 ⟨h2.2.2.2.1, h2.2.2.2.2.1⟩ (by have := h4.2.1; simp only [List.length_nil] at this; omega) h4.1 ⟨h5.2.2.2.1, h5.2.2.2.2.1⟩
 ·exact ⟨hk, h1.1, z, Nat.zero_le _, by simp, z, z, Nat.zero_le _⟩
theorem tput_prefix (T : List ByteArray) (s : ByteArray) : ∃ m, tput T s = T ++ m := by
 by_cases h : s ∈ T
 ·exact ⟨[], by rw [tput_in h]; simp⟩
 ·exact ⟨[s], tput_out h⟩
theorem tnewOn_prefix : ∀ (ns T : List ByteArray), ∃ m, tnewOn T ns = T ++ m := by
 intro ns
 induction ns with
 | nil => intro T; exact ⟨[], by simp [tnewOn]⟩
 | cons a r ih =>
  intro T
  obtain ⟨m1, h1⟩ := tput_prefix T a
  obtain ⟨m2, h2⟩ := ih (tput T a)
  exact ⟨m1 ++ m2, by rw [show tnewOn T (a :: r) = tnewOn (tput T a) r from rfl, h2, h1, List.append_assoc]⟩
theorem tnewOn_more {T : List ByteArray} (hd : T.Nodup) (ns : List ByteArray) : tnewOn T ((moreE T (tnewOn T ns)).map defS) = tnewOn T ns := by
 obtain ⟨m, hm⟩ := tnewOn_prefix ns T
 have hN := tnewOn_nodup T ns hd
 unfold moreE
 rw [hm] at hN ⊢
 rw [List.drop_left, List.map_map, show (defS ∘ defE : ByteArray → ByteArray) = id from funext (fun s => defS_self s), List.map_id]
 exact tnewOn_self T m hN
theorem moreE_def (T T' : List ByteArray) : ∀ p ∈ moreE T T', isDef p = true := by
 intro p hp
 unfold moreE at hp
 obtain ⟨s, _, rfl⟩ := List.mem_map.1 hp
 exact isDef_self s
theorem takeWhile_app {α : Type} (f : α → Bool) : ∀ (l : List α) (x : α) (r : List α), (∀ a ∈ l, f a = true) → f x = false → (l ++ x :: r).takeWhile f = l := by
 intro l
 induction l with
 | nil => intro x r _ hx; rw [List.nil_append, List.takeWhile_cons_of_neg (by simp [hx])]
 | cons a l ih =>
  intro x r h hx
  rw [List.cons_append, List.takeWhile_cons_of_pos (h a List.mem_cons_self), ih x r (fun b hb => h b (List.mem_cons_of_mem _ hb)) hx]
theorem getF_put {v : Int} {T : List ByteArray} (hT : T.length ≤ 100000) (hd : T.Nodup) {k0 : Int} {x1 : ByteArray} {x2 : Int} {l : List S109} {x4 x5 : Int} {x6 : ByteArray} (hm : mayB v k0 x1 x2 l x4 x5 x6 = true)
  (h2 : 0 ≤ x2 ∧ x2 < 18446744073709551616) (h4 : 0 ≤ x4 ∧ x4 < 18446744073709551616) (h5 : 0 ≤ x5 ∧ x5 < 18446744073709551616) (hdr : ∀ d ∈ l, 0 ≤ d.f1 ∧ d.f1 < 18446744073709551616) (pre post : List (List Int)) :
  getF v T (pre ++ ((putF v T k0 x1 x2 l x4 x5 x6).1 ++ post)) (pre.length : Int) = ((k0, x1, x2, l, x4, x5, x6), ((pre.length + (putF v T k0 x1 x2 l x4 x5 x6).1.length : Nat) : Int), (putF v T k0 x1 x2 l x4 x5 x6).2.1, 0) := by
 have M := may_facts hm
 obtain ⟨T', hT'⟩ : ∃ T', (if 1 < v then tnewOn T (tnew (namesL x1 l x6)) else T) = T' := ⟨_, rfl⟩
 have hP : putF v T k0 x1 x2 l x4 x5 x6 = (moreE T T' ++ [lastE v T' k0 x1 x2 l x4 x5 x6], T', 0) := by
  unfold putF
  rw [if_pos M.ver, if_pos hm]
  simp only [hT']
 have hnw := names_few (x1 := x1) (l := l) (x6 := x6) M.t.2 M.n (fun d hd => (M.d d hd).2.1) M.tag.1
 have hall : tnewOn T ((moreE T T').map defS) = T' := by
  rw [← hT']
  split
  ·exact tnewOn_more hd _
  ·rw [moreE_self]; rfl
 have hlen : T'.length ≤ 1000000 := by
  rw [← hT']
  split
  ·have := tnewOn_len T (tnew (namesL x1 l x6)); omega
  ·omega
 have hrt := lastR_rt v T' hlen k0 x1 x2 l x4 x5 x6 hm h2 h4 h5 hdr (fun hv s hs => by
  rw [← hT', if_pos (by have := M.ver; omega), mem_tnewOn, mem_tnew]
  exact .inr hs)
 have hhead : isDef (lastE v T' k0 x1 x2 l x4 x5 x6) = false := by
  unfold lastE isDef
  rw [List.append_assoc, List.singleton_append]
  exact decide_eq_false (by have := M.k; omega)
 rw [hP]
 dsimp only
 have hds : defsAt (pre ++ (moreE T T' ++ [lastE v T' k0 x1 x2 l x4 x5 x6] ++ post)) pre.length = moreE T T' := by
  unfold defsAt
  rw [List.drop_left, List.append_assoc, List.singleton_append]
  exact takeWhile_app isDef _ _ _ (moreE_def T T') hhead
 have hne : ¬ pre.length + (moreE T T').length = (pre ++ (moreE T T' ++ [lastE v T' k0 x1 x2 l x4 x5 x6] ++ post)).length := by
  simp only [List.length_append, List.length_cons, List.length_nil]
  omega
 have hgt : (pre ++ (moreE T T' ++ [lastE v T' k0 x1 x2 l x4 x5 x6] ++ post)).getD (pre.length + (moreE T T').length) [] = lastE v T' k0 x1 x2 l x4 x5 x6 := by
  rw [List.getD_eq_getElem?_getD, List.append_assoc, List.getElem?_append_right (by omega), List.getElem?_append_right (by omega)]
  simp
 have htk : ((pre ++ (moreE T T' ++ [lastE v T' k0 x1 x2 l x4 x5 x6] ++ post)).drop pre.length).take ((moreE T T').length + 1) = moreE T T' ++ [lastE v T' k0 x1 x2 l x4 x5 x6] := by
  rw [List.drop_left]
  exact List.take_left' (by simp)
 unfold getF
 rw [if_neg (fun h => h M.ver), if_neg (by simp only [List.length_append]; omega)]
 simp only [Int.toNat_natCast]
 rw [hds, if_neg hne, hgt, hall, hrt]
 dsimp only
 rw [hP, htk]
 dsimp only
 rw [if_pos ⟨rfl, rfl⟩]
 simp only [List.length_append, List.length_cons, List.length_nil]
 rfl
theorem numI_bytes (n : Int) (h : n < 18446744073709551616) : ∀ x ∈ ints (vb n.toNat), 0 ≤ x ∧ x < 256 := GVB.ints_bytes _ (GVB.vb_bytes _ (by omega))
theorem textE_bytes (v : Int) (T : List ByteArray) (hT : T.length ≤ 1000000) (s : ByteArray) (h : s.size ≤ maxLen) : ∀ x ∈ textE v T s, 0 ≤ x ∧ x < 256 := by
 unfold textE
 split
 ·exact blob_bytes s (by simp only [maxLen] at h; omega)
 ·exact numI_bytes _ (by have := (atI_bd T s hT).2; omega)
theorem app_bytes {a b : List Int} (ha : ∀ x ∈ a, 0 ≤ x ∧ x < 256) (hb : ∀ x ∈ b, 0 ≤ x ∧ x < 256) : ∀ x ∈ a ++ b, 0 ≤ x ∧ x < 256 := fun x hx => (List.mem_append.1 hx).elim (ha x) (hb x)
theorem lastE_bytes (v : Int) (T : List ByteArray) (hT : T.length ≤ 1000000) (k0 : Int) (hk : 0 ≤ k0 ∧ k0 < 256) (x1 : ByteArray) (h1 : x1.size ≤ maxLen) (x2 : Int) (h2 : x2 < 18446744073709551616) (l : List S109) (hn : l.length ≤ 3010)
  (hd : ∀ d ∈ l, d.f0.size ≤ maxLen ∧ d.f1 < 18446744073709551616) (x4 x5 : Int) (h4 : x4 < 18446744073709551616) (h5 : x5 < 18446744073709551616) (x6 : ByteArray) :
  ∀ x ∈ lastE v T k0 x1 x2 l x4 x5 x6, 0 ≤ x ∧ x < 256 := by
 unfold lastE
 refine app_bytes (app_bytes (by simp; exact hk) (textE_bytes v T hT x1 h1)) ?_
 split
 ·simp
 ·unfold bodyE
  have e : ints (vb l.length) = ints (vb ((l.length : Int)).toNat) := by rw [Int.toNat_natCast]
  rw [e]
  refine app_bytes (app_bytes (app_bytes (app_bytes (app_bytes (numI_bytes _ h2) (numI_bytes _ (by omega))) ?_) (numI_bytes _ h4)) ?_) ?_
  ·intro x hx
   unfold depsE at hx
   obtain ⟨y, hy, hxy⟩ := List.mem_flatten.1 hx
   obtain ⟨d, hdl, rfl⟩ := List.mem_map.1 hy
   refine app_bytes ?_ (numI_bytes _ (hd d hdl).2) x hxy
   unfold depE
   split
   ·exact textE_bytes v T hT d.f0 (hd d hdl).1
   ·exact numI_bytes _ (by have := (atI_bd T d.f0 hT).2; split <;> omega)
  ·split
   ·exact numI_bytes _ h5
   ·simp
  ·split
   ·unfold tagE
    split
    ·exact GVB.ints_bytes _ (GVB.vb_bytes _ (by omega))
    ·exact numI_bytes _ (by have := (atI_bd T x6 hT).2; omega)
   ·simp
theorem putF_bytes (v : Int) (T : List ByteArray) (hT : T.length ≤ 100000) (k0 : Int) (hk : 0 ≤ k0 ∧ k0 < 256) (x1 : ByteArray) (h1 : x1.size ≤ maxLen) (x2 : Int) (h2 : x2 < 18446744073709551616) (l : List S109) (hn : l.length ≤ 3010)
  (hd : ∀ d ∈ l, d.f0.size ≤ maxLen ∧ d.f1 < 18446744073709551616) (x4 x5 : Int) (h4 : x4 < 18446744073709551616) (h5 : x5 < 18446744073709551616) (x6 : ByteArray) :
  ∀ p ∈ (putF v T k0 x1 x2 l x4 x5 x6).1, ∀ x ∈ p, 0 ≤ x ∧ x < 256 := by
 unfold putF
 split
 ·split
  ·rename_i hm
   have M := may_facts hm
   have hnw := names_few (x1 := x1) (l := l) (x6 := x6) M.t.2 M.n (fun d hd => (M.d d hd).2.1) M.tag.1
   obtain ⟨T', hT'⟩ : ∃ T', (if 1 < v then tnewOn T (tnew (namesL x1 l x6)) else T) = T' := ⟨_, rfl⟩
   have hlen : T'.length ≤ 1000000 := by
    rw [← hT']
    split
    ·have := tnewOn_len T (tnew (namesL x1 l x6)); omega
    ·omega
   simp only [hT']
   intro p hp
   rcases List.mem_append.1 hp with hp | hp
   ·unfold moreE at hp
    obtain ⟨s, _, rfl⟩ := List.mem_map.1 hp
    intro x hx
    rcases List.mem_cons.1 hx with rfl | hx
    ·exact ⟨by omega, by omega⟩
    ·exact bytesOf_byte s x hx
   ·simp only [List.mem_singleton] at hp
    subst hp
    exact lastE_bytes v T' hlen k0 hk x1 h1 x2 h2 l hn hd x4 x5 h4 h5 x6
  ·simp
 ·simp
def getG (v : Int) (T : List ByteArray) (ps : List (List Int)) (a n : Nat) (r : Rec9) : Rec9 × Int × List ByteArray × Int :=
 if (putF v T r.1 r.2.1 r.2.2.1 r.2.2.2.1 r.2.2.2.2.1 r.2.2.2.2.2.1 r.2.2.2.2.2.2).2.2 = 0 ∧ (putF v T r.1 r.2.1 r.2.2.1 r.2.2.2.1 r.2.2.2.2.1 r.2.2.2.2.2.1 r.2.2.2.2.2.2).1 = (ps.take (n + 1)).drop a
 then (r, ((n + 1 : Nat) : Int), (putF v T r.1 r.2.1 r.2.2.1 r.2.2.2.1 r.2.2.2.2.1 r.2.2.2.2.2.1 r.2.2.2.2.2.2).2.1, 0) else (rec0, 0, T, 3)
theorem getF_at {v : Int} {T : List ByteArray} {ps : List (List Int)} {a n : Nat} (hv : 1 ≤ v ∧ v ≤ 3) (ha : a ≤ n) (hn : n ≤ ps.length) (hd : ∀ j, a ≤ j → j < n → isDef (ps.getD j []) = true) (he : n < ps.length → isDef (ps.getD n []) = false) :
  getF v T ps (a : Int) = if n = ps.length then (rec0, 0, T, 6) else getG v T ps a n (lastR v (tnewOn T (((ps.drop a).take (n - a)).map defS)) (ps.getD n [])).1 := by
 have hds : defsAt ps a = (ps.drop a).take (n - a) := by
  unfold defsAt
  refine take_while_at isDef _ _ (by rw [List.length_drop]; omega) (fun j hj => ?_) (fun hl => ?_)
  ·have := hd (a + j) (by omega) (by omega)
   rw [List.getElem_drop]
   simpa [show a + j < ps.length by omega] using this
  ·rw [List.length_drop] at hl
   have := he (by omega)
   rw [List.getElem_drop]
   have e : a + (n - a) = n := by omega
   simp only [e]
   simpa [show n < ps.length by omega] using this
 have hlen : (defsAt ps a).length = n - a := by rw [hds, List.length_take, List.length_drop]; omega
 have e1 : a + (n - a) = n := by omega
 unfold getF
 rw [if_neg (fun h => h hv), if_neg (by omega)]
 simp only [Int.toNat_natCast]
 rw [hlen, hds, e1]
 split
 ·rfl
 ·unfold getG
  rw [List.drop_take, show n + 1 - a = n - a + 1 by omega]
theorem getF_ver {v : Int} (T : List ByteArray) (ps : List (List Int)) (at0 : Int) (hv : ¬ (1 ≤ v ∧ v ≤ 3)) : getF v T ps at0 = (rec0, 0, T, 11) := by unfold getF; rw [if_pos hv]
theorem getF_arg {v : Int} (T : List ByteArray) (ps : List (List Int)) (at0 : Int) (hv : 1 ≤ v ∧ v ≤ 3) (h : at0 < 0 ∨ (ps.length : Int) < at0) : getF v T ps at0 = (rec0, 0, T, 1) := by unfold getF; rw [if_neg (fun h => h hv), if_pos h]
theorem blk_put7 {w : World} {g : Nat} {t : TypeId} {a0 a1 a2 a3 a4 a5 a6 : Value} (h : w.heap[g]? = some (.cells #[a0, a1, a2, a3, a4, a5, a6] t (0, 0))) (v0 v1 v2 v3 v4 v5 v6 : Value) :
  (((((((w.setCell ⟨g, 0, none⟩ v0).setCell ⟨g, 1, none⟩ v1).setCell ⟨g, 2, none⟩ v2).setCell ⟨g, 3, none⟩ v3).setCell ⟨g, 4, none⟩ v4).setCell ⟨g, 5, none⟩ v5).setCell ⟨g, 6, none⟩ v6).heap[g]? = some (.cells #[v0, v1, v2, v3, v4, v5, v6] t (0, 0)) := by
 have h0 := blk_put (cs' := #[v0, a1, a2, a3, a4, a5, a6]) h 0 v0 rfl
 have h1 := blk_put (cs' := #[v0, v1, a2, a3, a4, a5, a6]) h0 1 v1 rfl
 have h2 := blk_put (cs' := #[v0, v1, v2, a3, a4, a5, a6]) h1 2 v2 rfl
 have h3 := blk_put (cs' := #[v0, v1, v2, v3, a4, a5, a6]) h2 3 v3 rfl
 have h4 := blk_put (cs' := #[v0, v1, v2, v3, v4, a5, a6]) h3 4 v4 rfl
 have h5 := blk_put (cs' := #[v0, v1, v2, v3, v4, v5, a6]) h4 5 v5 rfl
 have h6 := blk_put (cs' := #[v0, v1, v2, v3, v4, v5, v6]) h5 6 v6 rfl
 exact h6
theorem below_put7 {B : Nat} {w0 w : World} {g : Nat} (h : Below B w0 w) (hg : B ≤ g) (v0 v1 v2 v3 v4 v5 v6 : Value) :
  Below B w0 (((((((w.setCell ⟨g, 0, none⟩ v0).setCell ⟨g, 1, none⟩ v1).setCell ⟨g, 2, none⟩ v2).setCell ⟨g, 3, none⟩ v3).setCell ⟨g, 4, none⟩ v4).setCell ⟨g, 5, none⟩ v5).setCell ⟨g, 6, none⟩ v6) :=
 ((((((h.setCell (p := ⟨g, 0, none⟩) hg v0).setCell (p := ⟨g, 1, none⟩) hg v1).setCell (p := ⟨g, 2, none⟩) hg v2).setCell (p := ⟨g, 3, none⟩) hg v3).setCell (p := ⟨g, 4, none⟩) hg v4).setCell (p := ⟨g, 5, none⟩) hg v5).setCell (p := ⟨g, 6, none⟩) hg v6
theorem kp_put7 (w : World) (g : Nat) (v0 v1 v2 v3 v4 v5 v6 : Value) :
  Kp w (((((((w.setCell ⟨g, 0, none⟩ v0).setCell ⟨g, 1, none⟩ v1).setCell ⟨g, 2, none⟩ v2).setCell ⟨g, 3, none⟩ v3).setCell ⟨g, 4, none⟩ v4).setCell ⟨g, 5, none⟩ v5).setCell ⟨g, 6, none⟩ v6) (fun k => k = g) :=
 (((((((Kp.refl w (fun k => k = g)).setCell (p := ⟨g, 0, none⟩) (.inl rfl) v0).setCell (p := ⟨g, 1, none⟩) (.inl rfl) v1).setCell (p := ⟨g, 2, none⟩) (.inl rfl) v2).setCell (p := ⟨g, 3, none⟩) (.inl rfl) v3).setCell (p := ⟨g, 4, none⟩) (.inl rfl) v4).setCell (p := ⟨g, 5, none⟩) (.inl rfl) v5).setCell (p := ⟨g, 6, none⟩) (.inl rfl) v6
theorem rlast_any {w0 W : World} {S : Nat → Prop} {g t : Nat} {T : List ByteArray} {l : List Int} (v : Int) (hv : 1 ≤ v ∧ v ≤ 3) (h : Rd w0 W S g t T l 0 0) (hb : ∀ x ∈ l, 0 ≤ x ∧ x < 256) (hl : l.length ≤ 1000000) :
  Calls Try.prog 73 #[.agg #[.pointer (some ⟨g, 0, none⟩), .pointer (some ⟨t, 0, none⟩)], .int .i64 v] W (LastPost W g (lastR v T l).1) := by
 have hv3 : v = 1 ∨ v = 2 ∨ v = 3 := by omega
 rcases hv3 with rfl | rfl | rfl
 ·exact rlast1_any h hb hl
 ·exact rlast2_any h hb hl
 ·exact rlast3_any h hb hl
theorem newAt0 (l : List Int) : newAt l 0 = 0 := by unfold newAt; split <;> rfl
theorem newE0 (l : List Int) : newE l 0 = 0 := by unfold newE; rw [if_neg (by omega)]
def GetPost (W : World) (S : Nat → Prop) (t : Nat) (F : Rec9 × Int × List ByteArray × Int) (e : Ending) (W' : World) : Prop :=
 ∃ dv S', e = .returned (.tuple #[.agg #[.int .i64 F.1.1, .string F.1.2.1, .int .u64 F.1.2.2.1, dv, .int .u64 F.1.2.2.2.2.1, .int .u64 F.1.2.2.2.2.2.1, .string F.1.2.2.2.2.2.2], .int .i64 F.2.1, .int .i64 F.2.2.2]) ∧
  Tab W' S' t F.2.2.1 ∧ (∀ k, S' k → S k ∨ W.heap.size ≤ k) ∧ Kp W W' S ∧ Kd.R k109 109 W' W.heap.size (fun k => ¬ S' k) dv F.1.2.2.2.1
theorem GetPost.early {W W' : World} {S : Nat → Prop} {t : Nat} {T : List ByteArray} (h : Tab W S t T) (hb : Below W.heap.size W W') (ec : Int) :
  GetPost W S t (rec0, 0, T, ec) (.returned (.tuple #[.agg #[.int .i64 0, .string ⟨#[]⟩, .int .u64 0, .slice none 0 0, .int .u64 0, .int .u64 0, .string ⟨#[]⟩], .int .i64 0, .int .i64 ec])) W' :=
 ⟨.slice none 0 0, S, rfl, h.keep (Kp.of_below hb (fun _ => False)) (fun _ _ h => h), fun k hk => .inl hk, Kp.of_below hb _, Kd.R_nil _ _ _ _ _⟩
end Go.Proofs.Ytmeocdkiecknkaa
namespace Go.Proofs.Ytmeocdkiecknkaa
open Go.RowKit Go.Proofs.YtmeocdkiecknkaaW.PrintWords Go.Proofs.Ytmeocdkiecknkaa.GRR
set_option maxRecDepth 100000 in
theorem sget_ver {W : World} {S : Nat → Prop} {t : Nat} {T : List ByteArray} (h : Tab W S t T) (v : Int) (A : Option Addr) (c : Nat) (ps : List (List Int)) (at0 : Int) (hv : ¬ (1 ≤ v ∧ v ≤ 3)) :
  Calls Try.prog 37 #[.int .i64 v, .pointer (some ⟨t, 0, none⟩), .slice A ps.length c, .int .i64 at0] W (GetPost W S t (getF v T ps at0)) := by
 rw [getF_ver T ps at0 hv]
 obtain ⟨W1, hW1⟩ : ∃ w, W.alloc (.cells #[.int .i64 0, .string ⟨#[]⟩, .int .u64 0, .slice none 0 0, .int .u64 0, .int .u64 0, .string ⟨#[]⟩] 62) = w := ⟨_, rfl⟩
 have hb1 : Below W.heap.size W W1 := by rw [← hW1]; exact (Below.refl _ _).alloc (Nat.le_refl _) _
 have hk1 : W1.heap[W.heap.size]? = some (.cells #[.int .i64 0, .string ⟨#[]⟩, .int .u64 0, .slice none 0 0, .int .u64 0, .int .u64 0, .string ⟨#[]⟩] 62 (0, 0)) := by rw [← hW1]; exact heap_new _ _
 have hs1 : W1.heap.size = W.heap.size + 1 := by rw [← hW1, heap_size_alloc]
 obtain ⟨b8, hb8⟩ : ∃ b, W.heap.size = b := ⟨_, rfl⟩
 rw [hb8] at hk1 hs1
 have HH := Lib.hid h
 have HB1 := Lib.hid hb1
 have HK1 := Lib.hid hk1
 have HW1 := Lib.hid hW1
 have HB8 := Lib.hid hb8
 have HS1 := Lib.hid hs1
 have HU := Lib.hid Try.underlying62
 have HKN := Lib.hid (known9_any v W1)
 rw [show decide (1 ≤ v ∧ v ≤ 3) = false from decide_eq_false hv] at HKN
 clear h hb1 hk1 hs1 hb8 hW1 hv
 go_enter Try.func37, Try.ntmps37
 go_wp2_with fail
 rw [HW1.out, HB8.out]
 refine HKN.out.mono ?_
 rintro e w9 ⟨rfl, rfl⟩
 obtain ⟨c0, cf0, c1, cf1, c2, cf2, c3, cf3, c4, cf4, c5, cf5, c6, cf6⟩ := facts7f HK1.out
 go_wp2_with fail
 refine bodyPost_ret (results_ctt rfl _ _ b8 62 #[_, _, _, _, _, _, _] (0, 0) _ rfl (blk_put7 HK1.out _ _ _ _ _ _ _) HU.out rfl (by kernel_rfl)) rfl ?_
 have HBE := below_put7 (g := b8) HB1.out (by have := HB8.out; omega) (.int .i64 0) (.string ⟨#[]⟩) (.int .u64 0) (.slice none 0 0) (.int .u64 0) (.int .u64 0) (.string ⟨#[]⟩)
 exact GetPost.early HH.out HBE 11
set_option maxRecDepth 100000 in
theorem sget_arg1 {W : World} {S : Nat → Prop} {t : Nat} {T : List ByteArray} (h : Tab W S t T) (v : Int) (A : Option Addr) (c : Nat) (ps : List (List Int)) (at0 : Int) (hv : 1 ≤ v ∧ v ≤ 3) (h0 : at0 < 0) :
  Calls Try.prog 37 #[.int .i64 v, .pointer (some ⟨t, 0, none⟩), .slice A ps.length c, .int .i64 at0] W (GetPost W S t (getF v T ps at0)) := by
 rw [getF_arg T ps at0 hv (by omega)]
 obtain ⟨W1, hW1⟩ : ∃ w, W.alloc (.cells #[.int .i64 0, .string ⟨#[]⟩, .int .u64 0, .slice none 0 0, .int .u64 0, .int .u64 0, .string ⟨#[]⟩] 62) = w := ⟨_, rfl⟩
 have hb1 : Below W.heap.size W W1 := by rw [← hW1]; exact (Below.refl _ _).alloc (Nat.le_refl _) _
 have hk1 : W1.heap[W.heap.size]? = some (.cells #[.int .i64 0, .string ⟨#[]⟩, .int .u64 0, .slice none 0 0, .int .u64 0, .int .u64 0, .string ⟨#[]⟩] 62 (0, 0)) := by rw [← hW1]; exact heap_new _ _
 have hs1 : W1.heap.size = W.heap.size + 1 := by rw [← hW1, heap_size_alloc]
 obtain ⟨b8, hb8⟩ : ∃ b, W.heap.size = b := ⟨_, rfl⟩
 rw [hb8] at hk1 hs1
 have HH := Lib.hid h
 have HB1 := Lib.hid hb1
 have HK1 := Lib.hid hk1
 have HW1 := Lib.hid hW1
 have HB8 := Lib.hid hb8
 have HS1 := Lib.hid hs1
 have HU := Lib.hid Try.underlying62
 have HKN := Lib.hid (known9_any v W1)
 rw [show decide (1 ≤ v ∧ v ≤ 3) = true from decide_eq_true hv] at HKN
 have d0 : decide (at0 < 0) = true := decide_eq_true (by omega)
 clear h hb1 hk1 hs1 hb8 hW1 hv h0
 go_enter Try.func37, Try.ntmps37
 go_wp2_with fail
 rw [HW1.out, HB8.out]
 refine HKN.out.mono ?_
 rintro e w9 ⟨rfl, rfl⟩
 obtain ⟨c0, cf0, c1, cf1, c2, cf2, c3, cf3, c4, cf4, c5, cf5, c6, cf6⟩ := facts7f HK1.out
 go_wp2_with fail
 refine bodyPost_ret (results_ctt rfl _ _ b8 62 #[_, _, _, _, _, _, _] (0, 0) _ rfl (blk_put7 HK1.out _ _ _ _ _ _ _) HU.out rfl (by kernel_rfl)) rfl ?_
 have HBE := below_put7 (g := b8) HB1.out (by have := HB8.out; omega) (.int .i64 0) (.string ⟨#[]⟩) (.int .u64 0) (.slice none 0 0) (.int .u64 0) (.int .u64 0) (.string ⟨#[]⟩)
 exact GetPost.early HH.out HBE 1
set_option maxRecDepth 100000 in
theorem sget_arg2 {W : World} {S : Nat → Prop} {t : Nat} {T : List ByteArray} (h : Tab W S t T) (v : Int) (A : Option Addr) (c : Nat) (ps : List (List Int)) (at0 : Int) (hv : 1 ≤ v ∧ v ≤ 3) (h0 : 0 ≤ at0 ∧ (ps.length : Int) < at0) :
  Calls Try.prog 37 #[.int .i64 v, .pointer (some ⟨t, 0, none⟩), .slice A ps.length c, .int .i64 at0] W (GetPost W S t (getF v T ps at0)) := by
 rw [getF_arg T ps at0 hv (by omega)]
 obtain ⟨W1, hW1⟩ : ∃ w, W.alloc (.cells #[.int .i64 0, .string ⟨#[]⟩, .int .u64 0, .slice none 0 0, .int .u64 0, .int .u64 0, .string ⟨#[]⟩] 62) = w := ⟨_, rfl⟩
 have hb1 : Below W.heap.size W W1 := by rw [← hW1]; exact (Below.refl _ _).alloc (Nat.le_refl _) _
 have hk1 : W1.heap[W.heap.size]? = some (.cells #[.int .i64 0, .string ⟨#[]⟩, .int .u64 0, .slice none 0 0, .int .u64 0, .int .u64 0, .string ⟨#[]⟩] 62 (0, 0)) := by rw [← hW1]; exact heap_new _ _
 have hs1 : W1.heap.size = W.heap.size + 1 := by rw [← hW1, heap_size_alloc]
 obtain ⟨b8, hb8⟩ : ∃ b, W.heap.size = b := ⟨_, rfl⟩
 rw [hb8] at hk1 hs1
 have HH := Lib.hid h
 have HB1 := Lib.hid hb1
 have HK1 := Lib.hid hk1
 have HW1 := Lib.hid hW1
 have HB8 := Lib.hid hb8
 have HS1 := Lib.hid hs1
 have HU := Lib.hid Try.underlying62
 have HKN := Lib.hid (known9_any v W1)
 rw [show decide (1 ≤ v ∧ v ≤ 3) = true from decide_eq_true hv] at HKN
 have d0 : decide (at0 < 0) = false := decide_eq_false (by omega)
 have d1 : decide ((ps.length : Int) < at0) = true := decide_eq_true (by omega)
 clear h hb1 hk1 hs1 hb8 hW1 hv h0
 go_enter Try.func37, Try.ntmps37
 go_wp2_with fail
 rw [HW1.out, HB8.out]
 refine HKN.out.mono ?_
 rintro e w9 ⟨rfl, rfl⟩
 obtain ⟨c0, cf0, c1, cf1, c2, cf2, c3, cf3, c4, cf4, c5, cf5, c6, cf6⟩ := facts7f HK1.out
 go_wp2_with fail
 refine bodyPost_ret (results_ctt rfl _ _ b8 62 #[_, _, _, _, _, _, _] (0, 0) _ rfl (blk_put7 HK1.out _ _ _ _ _ _ _) HU.out rfl (by kernel_rfl)) rfl ?_
 have HBE := below_put7 (g := b8) HB1.out (by have := HB8.out; omega) (.int .i64 0) (.string ⟨#[]⟩) (.int .u64 0) (.slice none 0 0) (.int .u64 0) (.int .u64 0) (.string ⟨#[]⟩)
 exact GetPost.early HH.out HBE 1
theorem R_above' {α : Type} {d : Kd α} {e : Nat} {w w' : World} {base g : Nat} {ok : Nat → Prop} {v : Value} {xs : List α} (h : d.R e w base (fun k => ok k ∧ base ≤ k ∧ k < w.heap.size ∧ ∃ q, q ∈ e :: d.E ∧ ∃ cells, w.heap[k]? = some (.cells cells q (0, 0))) v xs) (hk : Kp w w' (fun k => k = g)) (hg : g < base := by omega) : d.R e w' base (fun k => ok k ∧ base ≤ k) v xs :=
 Kd.R_mono (Kd.R_step h (fun k hk' hlt => hk.block k hlt (fun e => by have := hk'.2.1; omega))) (fun k hk => ⟨hk.1, hk.2.1⟩)
theorem heap_put7 (w : World) {g k : Nat} (h : k ≠ g) (v0 v1 v2 v3 v4 v5 v6 : Value) :
  (((((((w.setCell ⟨g, 0, none⟩ v0).setCell ⟨g, 1, none⟩ v1).setCell ⟨g, 2, none⟩ v2).setCell ⟨g, 3, none⟩ v3).setCell ⟨g, 4, none⟩ v4).setCell ⟨g, 5, none⟩ v5).setCell ⟨g, 6, none⟩ v6).heap[k]? = w.heap[k]? := by
 rw [Below.heap_setCell _ _ _ _ h, Below.heap_setCell _ _ _ _ h, Below.heap_setCell _ _ _ _ h, Below.heap_setCell _ _ _ _ h, Below.heap_setCell _ _ _ _ h, Below.heap_setCell _ _ _ _ h, Below.heap_setCell _ _ _ _ h]
set_option maxHeartbeats 8000000 in
set_option maxRecDepth 100000 in
theorem sget_ok {W : World} {S : Nat → Prop} {t : Nat} {T : List ByteArray} (h : Tab W S t T) (v : Int) (A : Option Addr) (c : Nat) (ps : List (List Int)) (a : Nat) (hv : 1 ≤ v ∧ v ≤ 3) (ha : a ≤ ps.length) (hps : ∀ W', Kp W W' S → Kd.C kRows W' A ps.length ps) (hc : ps.length ≤ c) (hbt : ∀ p ∈ ps, p.length ≤ 3000 ∧ ∀ x ∈ p, 0 ≤ x ∧ x < 256) (hT : T.length ≤ 50000) (hn : ps.length ≤ 10000) :
  Calls Try.prog 37 #[.int .i64 v, .pointer (some ⟨t, 0, none⟩), .slice A ps.length c, .int .i64 (a : Int)] W (GetPost W S t (getF v T ps (a : Int))) := by
 obtain ⟨W1, hW1⟩ : ∃ w, W.alloc (.cells #[.int .i64 0, .string ⟨#[]⟩, .int .u64 0, .slice none 0 0, .int .u64 0, .int .u64 0, .string ⟨#[]⟩] 62) = w := ⟨_, rfl⟩
 have hb1 : Below W.heap.size W W1 := by rw [← hW1]; exact (Below.refl _ _).alloc (Nat.le_refl _) _
 have hk1 : W1.heap[W.heap.size]? = some (.cells #[.int .i64 0, .string ⟨#[]⟩, .int .u64 0, .slice none 0 0, .int .u64 0, .int .u64 0, .string ⟨#[]⟩] 62 (0, 0)) := by rw [← hW1]; exact heap_new _ _
 have hs1 : W1.heap.size = W.heap.size + 1 := by rw [← hW1, heap_size_alloc]
 obtain ⟨b8, hb8⟩ : ∃ b, W.heap.size = b := ⟨_, rfl⟩
 rw [hb8] at hk1 hs1
 have HH := Lib.hid h
 have HB1 := Lib.hid hb1
 have HK1 := Lib.hid hk1
 have HW1 := Lib.hid hW1
 have HB8 := Lib.hid hb8
 have HS1 := Lib.hid hs1
 have HU := Lib.hid Try.underlying62
 have HCP := Lib.hid (copy_any (h.keep (Kp.of_below hb1 (fun _ => False)) (fun _ _ h => h)) (by omega))
 have HKN := Lib.hid (known9_any v W1)
 rw [show decide (1 ≤ v ∧ v ≤ 3) = true from decide_eq_true hv] at HKN
 obtain ⟨g1, hg1⟩ : ∃ g, W1.heap.size = g := ⟨_, rfl⟩
 rw [hg1] at HCP
 have HV := Lib.hid hv
 have HPS := Lib.hid hps
 have HBT := Lib.hid hbt
 have HG1 := Lib.hid hg1
 have d0 : decide ((a : Int) < 0) = false := decide_eq_false (by omega)
 have d1 : decide ((ps.length : Int) < (a : Int)) = false := decide_eq_false (by omega)
 clear h hb1 hk1 hs1 hb8 hW1 hv hps hbt hg1
 go_enter Try.func37, Try.ntmps37
 go_wp2_with fail
 rw [HW1.out, HB8.out]
 refine HKN.out.mono ?_
 rintro e w9 ⟨rfl, rfl⟩
 go_wp2_with fail
 refine HCP.out.mono ?_
 rintro e w2 ⟨rfl, hN⟩
 have HN0 := Lib.hid hN
 clear hN d0 d1 HKN HCP
 go_wp2_with fail
 go_loopw [9] (fun u9 wr => ∃ (n : Nat), a ≤ n ∧ n ≤ ps.length ∧ u9 = .int .i64 (n : Int) ∧ Hid (∀ j, a ≤ j → j < n → isDef (ps.getD j []) = true) ∧ Hid (NewTab W1 wr g1 (tnewOn T (((ps.drop a).take (n - a)).map defS)))) (fun v _ => ps.length - (intOf v).toNat)
 case atStart => exact ⟨a, Nat.le_refl _, ha, rfl, Lib.hid (fun j h1 h2 => by omega), Lib.hid (by rw [Nat.sub_self, List.take_zero]; exact HN0.out)⟩
 case round =>
  obtain ⟨n, hna, hnl, rfl, HD, HN⟩ := hrel
  by_cases hlt : n < ps.length
  ·have hC := HPS.out wr (Kp.of_below (HB1.out.trans ((HN.out.below).mono HB1.out.size)) _)
   obtain ⟨ad1, B1, d1, hA1, hc1, hl1, hr1⟩ := at_L5 hC (n : Int) (by omega) (by omega)
   subst hA1
   have e1 : rd_L5 ps (n : Int) = ps[n] := by simp [rd_L5, hlt]
   rw [e1, Int.toNat_natCast] at hc1
   rw [e1] at hl1 hr1
   have hbp := HBT.out ps[n] (List.getElem_mem _)
   have hgd : ps.getD n [] = ps[n] := by simp [hlt]
   have hG : isDef ps[n] = false → getF v T ps (a : Int) = getG v T ps a n (lastR v (tnewOn T (((ps.drop a).take (n - a)).map defS)) ps[n]).1 := fun hd => by
    rw [getF_at HV.out hna hnl HD.out (fun _ => by rw [hgd]; exact hd), if_neg (by omega), hgd]
   have htk : (ps.drop a).take (n + 1 - a) = (ps.drop a).take (n - a) ++ [ps[n]] := by
    have h1 : n - a < (ps.drop a).length := by rw [List.length_drop]; omega
    rw [show n + 1 - a = n - a + 1 by omega, List.take_succ_eq_append_getElem h1, List.getElem_drop]
    congr 3
    omega
   have hdn : isDef ps[n] = true → ∀ j, a ≤ j → j < n + 1 → isDef (ps.getD j []) = true := fun hd j h1 h2 => by
    rcases Nat.lt_or_ge j n with h3 | h3
    ·exact HD.out j h1 h3
    ·obtain rfl : j = n := by omega
     rw [hgd]; exact hd
   clear hgd e1
   generalize ps[n] = p at *
   have hdl : decide ((n : Int) < (ps.length : Int)) = true := decide_eq_true (by omega)
   by_cases hp0 : 0 < p.length
   ·obtain ⟨ad2, he2, hcell2⟩ := Kd.at_int hr1 (0 : Int) (by omega) (by omega)
    subst he2
    have had : ad2.add 0 = ad2 := by obtain ⟨b, o, i⟩ := ad2; cases i <;> simp [Addr.add]
    replace hcell2 : wr.cell? ad2 = some (.int .u8 (rd p 0)) := by
     have h9 : wr.cell? (ad2.add 0) = some (.int .u8 (rd p 0)) := hcell2
     rwa [had] at h9
    clear had
    have hpd : decide (0 < (p.length : Int)) = true := decide_eq_true (by omega)
    have hdef : isDef p = decide (rd p 0 = 0) := by
     cases p with
     | nil => simp at hp0
     | cons x r => simp [isDef, rd]
    by_cases hx : rd p 0 = 0
    ·rw [hx] at hcell2
     rw [decide_eq_true hx] at hdef
     have hdt : decide (rd p 0 = 0) = true := decide_eq_true hx
     have hCd := Kd.C_drop (c := d1) (m := 1) hr1 (by omega) hl1
     have hcv := Kd.C_string (P := Try.prog) (c := d1 - 1) Try.underlying22 Try.underlying5 Try.underlying9 hCd
     rw [show (p.drop 1).length = p.length - 1 from List.length_drop, List.drop_one] at hcv
     simp only [show (Kd.int .u8).sz = 1 from rfl, Nat.mul_one] at hcv
     obtain ⟨S1, hT1, hS1, hbl⟩ := HN.out
     obtain ⟨s, hs⟩ : ∃ s, strOfNums p.tail = s := ⟨_, rfl⟩
     rw [hs] at hcv
     have hLn := tnewOn_len T (((ps.drop a).take (n - a)).map defS)
     rw [List.length_map, List.length_take] at hLn
     have hsz : s.size ≤ maxLen := by rw [← hs, strOfNums_size, List.length_tail]; have := hbp.1; simp only [maxLen]; omega
     have HID := Lib.hid (id_any hT1 s hsz (by omega))
     have hput : tput (tnewOn T (((ps.drop a).take (n - a)).map defS)) s = tnewOn T (((ps.drop a).take (n + 1 - a)).map defS) := by
      rw [htk, List.map_append, List.map_singleton, tnewOn_snoc, show defS p = s from hs]
     rw [hput] at HID
     have HDN := Lib.hid (hdn hdef)
     have HS1' := Lib.hid hS1
     have HBL := Lib.hid hbl
     have hdle : 1 ≤ d1 := by omega
     have hplen : p.length ≤ 3000 := hbp.1
     clear hG htk hdn hdef hT1 hS1 hbl hs hLn hsz hput hCd hr1 hC hbp HN0
     by_cases hd11 : d1 = 1
     ·rw [if_pos hd11] at hcv
      subst hd11
      have hcv : (convert 22 9 (.slice (some ad2) 0 0)).run Try.prog wr = .ok (.string s) wr := by
       have h9 : p.length - 1 = 0 := by omega
       rw [h9] at hcv
       exact hcv
      go_wp2_with fail
      refine HID.out.mono ?_
      rintro e w5 ⟨rfl, hd⟩
      have HN5 := Lib.hid (NewTab.put HS1'.out HBL.out hd)
      clear hd HID hcv
      go_wp2_with fail
      go_roundw
      case rel => exact ⟨n + 1, by omega, by omega, by go_num, HDN, HN5⟩
      case measure => simp [intOf]; omega
     ·rw [if_neg hd11] at hcv
      have hcv : (convert 22 9 (.slice (some ⟨ad2.block, ad2.off + 1, none⟩) (p.length - 1) (d1 - 1))).run Try.prog wr = .ok (.string s) wr := hcv
      go_wp2_with fail
      refine HID.out.mono ?_
      rintro e w5 ⟨rfl, hd⟩
      have HN5 := Lib.hid (NewTab.put HS1'.out HBL.out hd)
      clear hd HID hcv
      go_wp2_with fail
      go_roundw
      case rel => exact ⟨n + 1, by omega, by omega, by go_num, HDN, HN5⟩
      case measure => simp [intOf]; omega
    ·rw [decide_eq_false hx] at hdef
     have hdt : decide (rd p 0 = 0) = false := decide_eq_false hx
     have hqf : decide ((n : Int) = (ps.length : Int)) = false := decide_eq_false (by omega)
     have HGQ := Lib.hid (hG hdef)
     obtain ⟨L, hLL⟩ : ∃ L, tnewOn T (((ps.drop a).take (n - a)).map defS) = L := ⟨_, rfl⟩
     rw [hLL] at HN HGQ
     obtain ⟨S1, hT1, hS1, hbl⟩ := HN.out
     have hwd := hT1.wide
     have hrg := lastR_rg (v := v) (T := L) hwd hbp.2 (by omega)
     have HCN := Lib.hid (cnew_any (some ad2) d1 p 0 wr hr1 hl1 (by omega))
     have HT1 := Lib.hid hT1
     have HS1' := Lib.hid hS1
     have HBL := Lib.hid hbl
     have HBP := Lib.hid hbp
     have hplen : p.length ≤ 3000 := hbp.1
     have haq : a ≤ n + 1 := by omega
     have hqn : n + 1 ≤ ps.length := by omega
     have hqc : n + 1 ≤ c := by omega
     obtain ⟨R, hR⟩ : ∃ R, (lastR v L p).1 = R := ⟨_, rfl⟩
     rw [hR] at hrg HGQ
     have HRR := Lib.hid hR
     obtain ⟨k0, x1, x2, l, x4, x5, x6⟩ := R
     have HRG := Lib.hid hrg
     clear hT1 hS1 hbl hwd hrg hbp hLL hR hG hl1 hr1 hC htk hdn hdef
     go_wp2_with fail
     refine HCN.out.mono ?_
     rintro en w3 ⟨g, w0, rfl, hbA, hcu, hbB, _, _⟩
     rw [newAt0 p, newE0 p] at hcu
     have hg0 : w0.heap.size ≤ g := by obtain ⟨_, _, _, h, _⟩ := hcu; exact h
     have hbw : Below wr.heap.size wr w3 := hbA.trans (hbB.mono hbA.size)
     have hRd : Rd w0 w3 S1 g g1 L p 0 0 := ⟨hcu, hbB, HT1.out.keep (Kp.of_below hbw (fun _ => False)) (fun _ _ h => h), fun hs => by have := HT1.out.lt _ hs; have := hbA.size; omega⟩
     have hb3 : Below W1.heap.size W1 w3 := HBL.out.trans (hbw.mono HBL.out.size)
     have hgb : W1.heap.size ≤ g := by have := HBL.out.size; have := hbA.size; omega
     have HRL := Lib.hid (rlast_any v HV.out hRd HBP.out.2 (by omega))
     rw [HRR.out] at HRL
     have HB3 := Lib.hid hb3
     have HGB := Lib.hid hgb
     clear hRd hcu hbA hbB hbw hb3 hgb hg0 HCN
     go_wp2_with fail
     refine HRL.out.mono ?_
     rintro en w4 ⟨dv, rfl, hR4, hk4⟩
     dsimp only at hR4
     obtain ⟨A4, c4, rfl⟩ := Kd.R_slice hR4
     dsimp only
     have hb4 : Below W1.heap.size W1 w4 := (Kp.trans (Kp.of_below HB3.out (fun k => k = g)) hk4 (fun _ h => .inl h)).to_below (fun k hk => by have := HGB.out; omega)
     have hk48 : w4.heap[b8]? = some (.cells #[.int .i64 0, .string ⟨#[]⟩, .int .u64 0, .slice none 0 0, .int .u64 0, .int .u64 0, .string ⟨#[]⟩] 62 (0, 0)) := (hb4.block b8 (by have := HS1.out; omega)).trans HK1.out
     obtain ⟨w5, hw5⟩ : ∃ w5, (((((((w4.setCell ⟨b8, 0, none⟩ (.int .i64 k0)).setCell ⟨b8, 1, none⟩ (.string x1)).setCell ⟨b8, 2, none⟩ (.int .u64 x2)).setCell ⟨b8, 3, none⟩ (.slice A4 l.length c4)).setCell ⟨b8, 4, none⟩ (.int .u64 x4)).setCell ⟨b8, 5, none⟩ (.int .u64 x5)).setCell ⟨b8, 6, none⟩ (.string x6)) = w5 := ⟨_, rfl⟩
     have hk58 : w5.heap[b8]? = some (.cells #[.int .i64 k0, .string x1, .int .u64 x2, .slice A4 l.length c4, .int .u64 x4, .int .u64 x5, .string x6] 62 (0, 0)) := by rw [← hw5]; exact blk_put7 hk48 _ _ _ _ _ _ _
     have hb40 : Below b8 W w4 := (by have := HB8.out; subst this; exact HB1.out.trans (hb4.mono HB1.out.size))
     have hb5 : Below b8 W w5 := by rw [← hw5]; exact below_put7 hb40 (Nat.le_refl _) _ _ _ _ _ _ _
     have hR5 : Kd.R k109 109 w5 (b8 + 1) (fun _ => True) (.slice A4 l.length c4) l := by
      rw [← hw5]
      exact R_above (Kd.R_lower hR4 (by have := HB3.out.size; have := HS1.out; omega)) (fun q hq _ => heap_put7 _ (by omega) _ _ _ _ _ _ _)
     have hT5 : Tab w5 S t T := HH.out.keep (Kp.of_below (HB8.out ▸ hb5) (fun _ => False)) (fun _ _ h => h)
     have HCP2 := Lib.hid (copy_any hT5 (by omega))
     have HK48 := Lib.hid hk48
     have HW5 := Lib.hid hw5
     have HK58 := Lib.hid hk58
     have HB5 := Lib.hid hb5
     have HR5 := Lib.hid hR5
     obtain ⟨g2, hg2⟩ : ∃ g, w5.heap.size = g := ⟨_, rfl⟩
     rw [hg2] at HCP2
     have HG2 := Lib.hid hg2
     clear hb4 hk48 hw5 hk58 hb40 hb5 hR5 hT5 hR4 hk4 hg2 HRL HB3 HGB HRR
     obtain ⟨c0, cf0, c1, cf1, c2, cf2, c3, cf3, c4, cf4, c5, cf5, c6, cf6⟩ := facts7f HK48.out
     go_wp2_with fail
     rw [HW5.out]
     clear c0 cf0 c1 cf1 c2 cf2 c3 cf3 c4 cf4 c5 cf5 c6 cf6
     refine HCP2.out.mono ?_
     rintro en w6 ⟨rfl, hN6⟩
     obtain ⟨S2, hT2, hS2, hb6⟩ := hN6
     rw [HG2.out] at hS2
     have h5b : b8 + 1 ≤ g2 := by have := HG2.out; have := blk_lt HK58.out; omega
     have hR6 : Kd.R k109 109 w6 (b8 + 1) (fun k => k < g2) (.slice A4 l.length c4) l := Kd.R_below (Kd.R_mono (Kd.R_bound HR5.out) (fun k hk => by have := hk.2.2.1; have := HG2.out; omega)) hb6
     have hk68 := blk_below HK58.out hb6
     have hc4 := (Kd.R_reads' hR6).2.1
     have hb68 : Below b8 W w6 := HB5.out.trans (hb6.mono (Nat.le_of_lt (blk_lt HK58.out)))
     have HPT := Lib.hid (sput_any v hT2 k0 x1 x2 A4 c4 l x4 x5 x6 (fun W' hk => (Kd.R_reads' (Kd.R_step hR6 (fun k hk' hlt => hk.block k hlt (fun h2 => by have := hS2 k h2; omega)))).2.2) hc4 ⟨by have := HRG.out.n; dsimp only at this; omega, HRG.out.t, HRG.out.tag, fun d hd => (HRG.out.d d hd).1⟩ HRG.out.r2 HRG.out.o HRG.out.w (fun d hd => (HRG.out.d d hd).2) (by omega))
     have hpby := putF_bytes v T (by omega) k0 HRG.out.k x1 HRG.out.t x2 HRG.out.r2.2 l (by have := HRG.out.n; dsimp only at this; omega) (fun d hd => ⟨(HRG.out.d d hd).1, (HRG.out.d d hd).2.2⟩) x4 x5 HRG.out.o.2 HRG.out.w.2 x6
     have HGE : Hid (getF v T ps (a : Int) = getG v T ps a n (k0, x1, x2, l, x4, x5, x6)) := Lib.hid HGQ.out
     have hge := HGE.out
     unfold getG at hge
     dsimp only at hge
     have HPT2 := Lib.hid (fun (W' : World) (h9 : Tab W' S t T) (hR : Kd.R k109 109 W' (b8 + 1) (fun k => k < g2) (.slice A4 l.length c4) l) => sput_any v h9 k0 x1 x2 A4 c4 l x4 x5 x6 (fun W'' hk => (Kd.R_reads' (Kd.R_step (Kd.R_bound hR) (fun k hk' hlt => hk.block k hlt (fun h2 => by have := HH.out.lt k h2; have := HB8.out; have := hk'.2.1; omega)))).2.2) hc4 ⟨by have := HRG.out.n; dsimp only at this; omega, HRG.out.t, HRG.out.tag, fun d hd => (HRG.out.d d hd).1⟩ HRG.out.r2 HRG.out.o HRG.out.w (fun d hd => (HRG.out.d d hd).2) (by omega))
     generalize putF v T k0 x1 x2 l x4 x5 x6 = F at HPT HPT2 hpby hge
     obtain ⟨rows, T2, er⟩ := F
     dsimp only at hpby hge
     have HGE2 := Lib.hid hge
     have HPBY := Lib.hid hpby
     have HR6 := Lib.hid hR6
     have HS2 := Lib.hid hS2
     have HB68 := Lib.hid hb68
     have HK68 := Lib.hid hk68
     clear hge hpby hR6 hb6 hT2 hS2 hb68 hk68 HGE HGQ HCP2 HK58 HW5 HR5
     obtain ⟨c0, cf0, c1, cf1, c2, cf2, c3, cf3, c4, cf4, c5, cf5, c6, cf6⟩ := facts7f HK68.out
     go_wp2_with fail
     clear c0 cf0 c1 cf1 c2 cf2 c3 cf3 c4 cf4 c5 cf5 c6 cf6
     refine HPT.out.mono ?_
     rintro en w7 ⟨v7, S7, rfl, hT7, hs7, hk7, hR7⟩
     dsimp only at hR7 ⊢
     obtain ⟨A7, c7, rfl⟩ := Kd.R_slice hR7
     have hb7 : Below b8 W w7 := by
      have e := HB8.out
      subst e
      exact (Kp.trans (Kp.of_below HB68.out S2) hk7 (fun _ h => .inl h)).to_below (fun k hk => by have := HS2.out k hk; omega)
     have hk78 := hk7.heap HK68.out (fun hs => by have := HS2.out _ hs; omega)
     have hR7d : Kd.R k109 109 w7 (b8 + 1) (fun k => k < g2) (.slice A4 l.length c4) l := Kd.R_step HR6.out (fun k hk' hlt => hk7.block k hlt (fun h2 => by have := HS2.out k h2; omega))
     have hC7 := (Kd.R_reads' hR7).2.2
     have HB7 := Lib.hid hb7
     have HK78 := Lib.hid hk78
     have HR7 := Lib.hid hR7d
     have HC7 := Lib.hid hC7
     clear hb7 hk78 hR7d hC7 hR7 hk7 hT7 hs7 HPT HB68 HK68 HR6
     by_cases her : er = 0
     ·subst her
      have hCm := Kd.C_mid (lo := a) (hi := n + 1) (c := c) (HPS.out w7 (Kp.of_below (HB8.out ▸ HB7.out) _)) haq hqn hc
      have hml : ((ps.take (n + 1)).drop a).length = n + 1 - a := by rw [List.length_drop, List.length_take]; omega
      simp only [show (kRows).sz = 1 from rfl, Nat.mul_one] at hCm
      have hmb : ∀ p ∈ (ps.take (n + 1)).drop a, ∀ x ∈ p, 0 ≤ x ∧ x < 256 := fun p hp => (HBT.out p (List.mem_of_mem_take (List.mem_of_mem_drop hp))).2
      have hge3 := HGE2.out
      generalize (ps.take (n + 1)).drop a = M at hCm hml hmb hge3
      rw [hml] at hCm
      have HGE3 := Lib.hid hge3
      have HMB := Lib.hid hmb
      have HML := Lib.hid hml
      clear hmb hml hge3
      have HEQ := Lib.hid (fun (A2 : Option Addr) (c2 : Nat) (h2 : Kd.C kRows w7 A2 M.length M) => eqf_any A7 A2 c7 c2 rows M w7 HC7.out h2 HPBY.out HMB.out)
      rw [HML.out] at HEQ
      by_cases hca : c = a
      ·omega
      ·rw [if_neg hca] at hCm
       have HCM : Hid (Kd.C kRows w7 (some (ad1.add a)) (n + 1 - a) M) := Lib.hid hCm
       have HEQ2 := Lib.hid (HEQ.out (some (ad1.add a)) (c - a) HCM.out)
       clear hCm HEQ HCM
       go_wp2_with fail
       refine HEQ2.out.mono ?_
       rintro en w8 ⟨rfl, hb78⟩
       have hb8' : Below b8 W w8 := HB7.out.trans (hb78.mono (Nat.le_of_lt (blk_lt HK78.out)))
       have hk88 := blk_below HK78.out hb78
       have hR8 := Kd.R_below HR7.out hb78
       have HB9 := Lib.hid hb8'
       have HK88 := Lib.hid hk88
       have HR8 := Lib.hid hR8
       clear hb8' hk88 hR8 hb78 HEQ2 HB7 HK78
       have HG3 := HGE3.out
       by_cases heq : rows = M
       ·rw [if_pos ⟨by trivial, heq⟩] at HG3
        have HGZ := Lib.hid HG3
        rw [show decide (rows = M) = true from decide_eq_true heq]
        clear HG3 heq HGE3
        obtain ⟨c0, cf0, c1, cf1, c2, cf2, c3, cf3, c4, cf4, c5, cf5, c6, cf6⟩ := facts7f HK88.out
        go_wp2_with fail
        clear c0 cf0 c1 cf1 c2 cf2 c3 cf3 c4 cf4 c5 cf5 c6 cf6
        refine (HPT2.out w8 (HH.out.keep (Kp.of_below (HB8.out ▸ HB9.out) (fun _ => False)) (fun _ _ h => h)) HR8.out).mono ?_
        rintro en w9 ⟨v9, S9, rfl, hT9, hs9, hk9, _⟩
        dsimp only at hT9
        have hnS : ∀ k, b8 ≤ k → ¬ S k := fun k hk hs => by have := HH.out.lt k hs; have := HB8.out; omega
        have hk98 := hk9.heap HK88.out (hnS b8 (Nat.le_refl _))
        have hR9 : Kd.R k109 109 w9 (b8 + 1) (fun k => k < w8.heap.size ∧ b8 + 1 ≤ k) (.slice A4 l.length c4) l := Kd.R_step (Kd.R_mono (Kd.R_bound HR8.out) (fun k hk => ⟨hk.2.2.1, hk.2.1⟩)) (fun k hk' hlt => hk9.block k hlt (hnS k (by omega)))
        have HK98 := Lib.hid hk98
        have HR9 := Lib.hid hR9
        have HT9 := Lib.hid hT9
        have HS9 := Lib.hid hs9
        have HK9 := Lib.hid hk9
        have HNS := Lib.hid hnS
        clear hk98 hR9 hT9 hs9 hk9 hnS
        obtain ⟨c0, cf0, c1, cf1, c2, cf2, c3, cf3, c4, cf4, c5, cf5, c6, cf6⟩ := facts7f HK98.out
        go_wp2_with fail
        clear c0 cf0 c1 cf1 c2 cf2 c3 cf3 c4 cf4 c5 cf5 c6 cf6
        refine bodyPost_ret (results_ctt rfl _ _ b8 62 #[_, _, _, _, _, _, _] (0, 0) _ rfl (blk_put7 HK98.out _ _ _ _ _ _ _) HU.out rfl (by kernel_rfl)) rfl ?_
        rw [HGZ.out]
        have hkp := kp_put7 w9 b8 (.int .i64 k0) (.string x1) (.int .u64 x2) (.slice A4 l.length c4) (.int .u64 x4) (.int .u64 x5) (.string x6)
        have hb9 : ∀ k, S9 k → ¬ k = b8 := fun k hk e => by
         rcases HS9.out k hk with h9 | h9
         ·exact HNS.out k (by omega) h9
         ·have := blk_lt HK88.out; omega
        have hsz := blk_lt HK88.out
        have e8 := HB8.out
        refine ⟨.slice A4 l.length c4, S9, rfl, HT9.out.keep hkp hb9, fun k hk => ?_, ?_, ?_⟩
        ·rcases HS9.out k hk with h9 | h9
         ·exact .inl h9
         ·exact .inr (by omega)
        ·exact ((Kp.of_below (HB8.out ▸ HB9.out) S).trans HK9.out (fun k hk => .inl hk)).trans hkp (fun k hk => .inr (by omega))
        ·refine Kd.R_mono (Kd.R_lower (R_above' (Kd.R_bound HR9.out) hkp) (by omega)) (fun k hk hs => ?_)
         rcases HS9.out k hs with h9 | h9
         ·exact HNS.out k (by have := hk.1.2; omega) h9
         ·have := hk.1.1; omega
       ·rw [if_neg (fun h => heq h.2)] at HG3
        have HGZ := Lib.hid HG3
        rw [show decide (rows = M) = false from decide_eq_false heq]
        clear HG3 heq HGE3
        obtain ⟨c0, cf0, c1, cf1, c2, cf2, c3, cf3, c4, cf4, c5, cf5, c6, cf6⟩ := facts7f HK88.out
        go_wp2_with fail
        refine bodyPost_ret (results_ctt rfl _ _ b8 62 #[_, _, _, _, _, _, _] (0, 0) _ rfl (blk_put7 HK88.out _ _ _ _ _ _ _) HU.out rfl (by kernel_rfl)) rfl ?_
        rw [HGZ.out]
        have HBE := below_put7 HB9.out (Nat.le_refl b8) (.int .i64 0) (.string ⟨#[]⟩) (.int .u64 0) (.slice none 0 0) (.int .u64 0) (.int .u64 0) (.string ⟨#[]⟩)
        have HE8 := HB8.out
        subst HE8
        exact GetPost.early HH.out HBE 3
     ·have hne : (er != 0) = true := by simp [her]
      have hed : decide (er = 0) = false := decide_eq_false her
      have hG3 := HGE2.out
      rw [if_neg (fun h => her h.1)] at hG3
      have HG3 := Lib.hid hG3
      clear hG3
      obtain ⟨c0, cf0, c1, cf1, c2, cf2, c3, cf3, c4, cf4, c5, cf5, c6, cf6⟩ := facts7f HK78.out
      go_wp2_with fail
      refine bodyPost_ret (results_ctt rfl _ _ b8 62 #[_, _, _, _, _, _, _] (0, 0) _ rfl (blk_put7 HK78.out _ _ _ _ _ _ _) HU.out rfl (by kernel_rfl)) rfl ?_
      rw [HG3.out]
      have HBE := below_put7 HB7.out (Nat.le_refl b8) (.int .i64 0) (.string ⟨#[]⟩) (.int .u64 0) (.slice none 0 0) (.int .u64 0) (.int .u64 0) (.string ⟨#[]⟩)
      have HE8 := HB8.out
      subst HE8
      exact GetPost.early HH.out HBE 3
   ·have hpd : decide (0 < (p.length : Int)) = false := decide_eq_false (by omega)
    have hdef : isDef p = false := by
     cases p with
     | nil => rfl
     | cons x r => simp at hp0
    have hqf : decide ((n : Int) = (ps.length : Int)) = false := decide_eq_false (by omega)
    have HGQ := Lib.hid (hG hdef)
    obtain ⟨L, hLL⟩ : ∃ L, tnewOn T (((ps.drop a).take (n - a)).map defS) = L := ⟨_, rfl⟩
    rw [hLL] at HN HGQ
    obtain ⟨S1, hT1, hS1, hbl⟩ := HN.out
    have hwd := hT1.wide
    have hrg := lastR_rg (v := v) (T := L) hwd hbp.2 (by omega)
    have HCN := Lib.hid (cnew_any B1 d1 p 0 wr hr1 hl1 (by omega))
    have HT1 := Lib.hid hT1
    have HS1' := Lib.hid hS1
    have HBL := Lib.hid hbl
    have HBP := Lib.hid hbp
    have hplen : p.length ≤ 3000 := hbp.1
    have haq : a ≤ n + 1 := by omega
    have hqn : n + 1 ≤ ps.length := by omega
    have hqc : n + 1 ≤ c := by omega
    obtain ⟨R, hR⟩ : ∃ R, (lastR v L p).1 = R := ⟨_, rfl⟩
    rw [hR] at hrg HGQ
    have HRR := Lib.hid hR
    obtain ⟨k0, x1, x2, l, x4, x5, x6⟩ := R
    have HRG := Lib.hid hrg
    clear hT1 hS1 hbl hwd hrg hbp hLL hR hG hl1 hr1 hC htk hdn hdef
    go_wp2_with fail
    refine HCN.out.mono ?_
    rintro en w3 ⟨g, w0, rfl, hbA, hcu, hbB, _, _⟩
    rw [newAt0 p, newE0 p] at hcu
    have hg0 : w0.heap.size ≤ g := by obtain ⟨_, _, _, h, _⟩ := hcu; exact h
    have hbw : Below wr.heap.size wr w3 := hbA.trans (hbB.mono hbA.size)
    have hRd : Rd w0 w3 S1 g g1 L p 0 0 := ⟨hcu, hbB, HT1.out.keep (Kp.of_below hbw (fun _ => False)) (fun _ _ h => h), fun hs => by have := HT1.out.lt _ hs; have := hbA.size; omega⟩
    have hb3 : Below W1.heap.size W1 w3 := HBL.out.trans (hbw.mono HBL.out.size)
    have hgb : W1.heap.size ≤ g := by have := HBL.out.size; have := hbA.size; omega
    have HRL := Lib.hid (rlast_any v HV.out hRd HBP.out.2 (by omega))
    rw [HRR.out] at HRL
    have HB3 := Lib.hid hb3
    have HGB := Lib.hid hgb
    clear hRd hcu hbA hbB hbw hb3 hgb hg0 HCN
    go_wp2_with fail
    refine HRL.out.mono ?_
    rintro en w4 ⟨dv, rfl, hR4, hk4⟩
    dsimp only at hR4
    obtain ⟨A4, c4, rfl⟩ := Kd.R_slice hR4
    dsimp only
    have hb4 : Below W1.heap.size W1 w4 := (Kp.trans (Kp.of_below HB3.out (fun k => k = g)) hk4 (fun _ h => .inl h)).to_below (fun k hk => by have := HGB.out; omega)
    have hk48 : w4.heap[b8]? = some (.cells #[.int .i64 0, .string ⟨#[]⟩, .int .u64 0, .slice none 0 0, .int .u64 0, .int .u64 0, .string ⟨#[]⟩] 62 (0, 0)) := (hb4.block b8 (by have := HS1.out; omega)).trans HK1.out
    obtain ⟨w5, hw5⟩ : ∃ w5, (((((((w4.setCell ⟨b8, 0, none⟩ (.int .i64 k0)).setCell ⟨b8, 1, none⟩ (.string x1)).setCell ⟨b8, 2, none⟩ (.int .u64 x2)).setCell ⟨b8, 3, none⟩ (.slice A4 l.length c4)).setCell ⟨b8, 4, none⟩ (.int .u64 x4)).setCell ⟨b8, 5, none⟩ (.int .u64 x5)).setCell ⟨b8, 6, none⟩ (.string x6)) = w5 := ⟨_, rfl⟩
    have hk58 : w5.heap[b8]? = some (.cells #[.int .i64 k0, .string x1, .int .u64 x2, .slice A4 l.length c4, .int .u64 x4, .int .u64 x5, .string x6] 62 (0, 0)) := by rw [← hw5]; exact blk_put7 hk48 _ _ _ _ _ _ _
    have hb40 : Below b8 W w4 := (by have := HB8.out; subst this; exact HB1.out.trans (hb4.mono HB1.out.size))
    have hb5 : Below b8 W w5 := by rw [← hw5]; exact below_put7 hb40 (Nat.le_refl _) _ _ _ _ _ _ _
    have hR5 : Kd.R k109 109 w5 (b8 + 1) (fun _ => True) (.slice A4 l.length c4) l := by
     rw [← hw5]
     exact R_above (Kd.R_lower hR4 (by have := HB3.out.size; have := HS1.out; omega)) (fun q hq _ => heap_put7 _ (by omega) _ _ _ _ _ _ _)
    have hT5 : Tab w5 S t T := HH.out.keep (Kp.of_below (HB8.out ▸ hb5) (fun _ => False)) (fun _ _ h => h)
    have HCP2 := Lib.hid (copy_any hT5 (by omega))
    have HK48 := Lib.hid hk48
    have HW5 := Lib.hid hw5
    have HK58 := Lib.hid hk58
    have HB5 := Lib.hid hb5
    have HR5 := Lib.hid hR5
    obtain ⟨g2, hg2⟩ : ∃ g, w5.heap.size = g := ⟨_, rfl⟩
    rw [hg2] at HCP2
    have HG2 := Lib.hid hg2
    clear hb4 hk48 hw5 hk58 hb40 hb5 hR5 hT5 hR4 hk4 hg2 HRL HB3 HGB HRR
    obtain ⟨c0, cf0, c1, cf1, c2, cf2, c3, cf3, c4, cf4, c5, cf5, c6, cf6⟩ := facts7f HK48.out
    go_wp2_with fail
    rw [HW5.out]
    clear c0 cf0 c1 cf1 c2 cf2 c3 cf3 c4 cf4 c5 cf5 c6 cf6
    refine HCP2.out.mono ?_
    rintro en w6 ⟨rfl, hN6⟩
    obtain ⟨S2, hT2, hS2, hb6⟩ := hN6
    rw [HG2.out] at hS2
    have h5b : b8 + 1 ≤ g2 := by have := HG2.out; have := blk_lt HK58.out; omega
    have hR6 : Kd.R k109 109 w6 (b8 + 1) (fun k => k < g2) (.slice A4 l.length c4) l := Kd.R_below (Kd.R_mono (Kd.R_bound HR5.out) (fun k hk => by have := hk.2.2.1; have := HG2.out; omega)) hb6
    have hk68 := blk_below HK58.out hb6
    have hc4 := (Kd.R_reads' hR6).2.1
    have hb68 : Below b8 W w6 := HB5.out.trans (hb6.mono (Nat.le_of_lt (blk_lt HK58.out)))
    have HPT := Lib.hid (sput_any v hT2 k0 x1 x2 A4 c4 l x4 x5 x6 (fun W' hk => (Kd.R_reads' (Kd.R_step hR6 (fun k hk' hlt => hk.block k hlt (fun h2 => by have := hS2 k h2; omega)))).2.2) hc4 ⟨by have := HRG.out.n; dsimp only at this; omega, HRG.out.t, HRG.out.tag, fun d hd => (HRG.out.d d hd).1⟩ HRG.out.r2 HRG.out.o HRG.out.w (fun d hd => (HRG.out.d d hd).2) (by omega))
    have hpby := putF_bytes v T (by omega) k0 HRG.out.k x1 HRG.out.t x2 HRG.out.r2.2 l (by have := HRG.out.n; dsimp only at this; omega) (fun d hd => ⟨(HRG.out.d d hd).1, (HRG.out.d d hd).2.2⟩) x4 x5 HRG.out.o.2 HRG.out.w.2 x6
    have HGE : Hid (getF v T ps (a : Int) = getG v T ps a n (k0, x1, x2, l, x4, x5, x6)) := Lib.hid HGQ.out
    have hge := HGE.out
    unfold getG at hge
    dsimp only at hge
    have HPT2 := Lib.hid (fun (W' : World) (h9 : Tab W' S t T) (hR : Kd.R k109 109 W' (b8 + 1) (fun k => k < g2) (.slice A4 l.length c4) l) => sput_any v h9 k0 x1 x2 A4 c4 l x4 x5 x6 (fun W'' hk => (Kd.R_reads' (Kd.R_step (Kd.R_bound hR) (fun k hk' hlt => hk.block k hlt (fun h2 => by have := HH.out.lt k h2; have := HB8.out; have := hk'.2.1; omega)))).2.2) hc4 ⟨by have := HRG.out.n; dsimp only at this; omega, HRG.out.t, HRG.out.tag, fun d hd => (HRG.out.d d hd).1⟩ HRG.out.r2 HRG.out.o HRG.out.w (fun d hd => (HRG.out.d d hd).2) (by omega))
    generalize putF v T k0 x1 x2 l x4 x5 x6 = F at HPT HPT2 hpby hge
    obtain ⟨rows, T2, er⟩ := F
    dsimp only at hpby hge
    have HGE2 := Lib.hid hge
    have HPBY := Lib.hid hpby
    have HR6 := Lib.hid hR6
    have HS2 := Lib.hid hS2
    have HB68 := Lib.hid hb68
    have HK68 := Lib.hid hk68
    clear hge hpby hR6 hb6 hT2 hS2 hb68 hk68 HGE HGQ HCP2 HK58 HW5 HR5
    obtain ⟨c0, cf0, c1, cf1, c2, cf2, c3, cf3, c4, cf4, c5, cf5, c6, cf6⟩ := facts7f HK68.out
    go_wp2_with fail
    clear c0 cf0 c1 cf1 c2 cf2 c3 cf3 c4 cf4 c5 cf5 c6 cf6
    refine HPT.out.mono ?_
    rintro en w7 ⟨v7, S7, rfl, hT7, hs7, hk7, hR7⟩
    dsimp only at hR7 ⊢
    obtain ⟨A7, c7, rfl⟩ := Kd.R_slice hR7
    have hb7 : Below b8 W w7 := by
     have e := HB8.out
     subst e
     exact (Kp.trans (Kp.of_below HB68.out S2) hk7 (fun _ h => .inl h)).to_below (fun k hk => by have := HS2.out k hk; omega)
    have hk78 := hk7.heap HK68.out (fun hs => by have := HS2.out _ hs; omega)
    have hR7d : Kd.R k109 109 w7 (b8 + 1) (fun k => k < g2) (.slice A4 l.length c4) l := Kd.R_step HR6.out (fun k hk' hlt => hk7.block k hlt (fun h2 => by have := HS2.out k h2; omega))
    have hC7 := (Kd.R_reads' hR7).2.2
    have HB7 := Lib.hid hb7
    have HK78 := Lib.hid hk78
    have HR7 := Lib.hid hR7d
    have HC7 := Lib.hid hC7
    clear hb7 hk78 hR7d hC7 hR7 hk7 hT7 hs7 HPT HB68 HK68 HR6
    by_cases her : er = 0
    ·subst her
     have hCm := Kd.C_mid (lo := a) (hi := n + 1) (c := c) (HPS.out w7 (Kp.of_below (HB8.out ▸ HB7.out) _)) haq hqn hc
     have hml : ((ps.take (n + 1)).drop a).length = n + 1 - a := by rw [List.length_drop, List.length_take]; omega
     simp only [show (kRows).sz = 1 from rfl, Nat.mul_one] at hCm
     have hmb : ∀ p ∈ (ps.take (n + 1)).drop a, ∀ x ∈ p, 0 ≤ x ∧ x < 256 := fun p hp => (HBT.out p (List.mem_of_mem_take (List.mem_of_mem_drop hp))).2
     have hge3 := HGE2.out
     generalize (ps.take (n + 1)).drop a = M at hCm hml hmb hge3
     rw [hml] at hCm
     have HGE3 := Lib.hid hge3
     have HMB := Lib.hid hmb
     have HML := Lib.hid hml
     clear hmb hml hge3
     have HEQ := Lib.hid (fun (A2 : Option Addr) (c2 : Nat) (h2 : Kd.C kRows w7 A2 M.length M) => eqf_any A7 A2 c7 c2 rows M w7 HC7.out h2 HPBY.out HMB.out)
     rw [HML.out] at HEQ
     by_cases hca : c = a
     ·omega
     ·rw [if_neg hca] at hCm
      have HCM : Hid (Kd.C kRows w7 (some (ad1.add a)) (n + 1 - a) M) := Lib.hid hCm
      have HEQ2 := Lib.hid (HEQ.out (some (ad1.add a)) (c - a) HCM.out)
      clear hCm HEQ HCM
      go_wp2_with fail
      refine HEQ2.out.mono ?_
      rintro en w8 ⟨rfl, hb78⟩
      have hb8' : Below b8 W w8 := HB7.out.trans (hb78.mono (Nat.le_of_lt (blk_lt HK78.out)))
      have hk88 := blk_below HK78.out hb78
      have hR8 := Kd.R_below HR7.out hb78
      have HB9 := Lib.hid hb8'
      have HK88 := Lib.hid hk88
      have HR8 := Lib.hid hR8
      clear hb8' hk88 hR8 hb78 HEQ2 HB7 HK78
      have HG3 := HGE3.out
      by_cases heq : rows = M
      ·rw [if_pos ⟨by trivial, heq⟩] at HG3
       have HGZ := Lib.hid HG3
       rw [show decide (rows = M) = true from decide_eq_true heq]
       clear HG3 heq HGE3
       obtain ⟨c0, cf0, c1, cf1, c2, cf2, c3, cf3, c4, cf4, c5, cf5, c6, cf6⟩ := facts7f HK88.out
       go_wp2_with fail
       clear c0 cf0 c1 cf1 c2 cf2 c3 cf3 c4 cf4 c5 cf5 c6 cf6
       refine (HPT2.out w8 (HH.out.keep (Kp.of_below (HB8.out ▸ HB9.out) (fun _ => False)) (fun _ _ h => h)) HR8.out).mono ?_
       rintro en w9 ⟨v9, S9, rfl, hT9, hs9, hk9, _⟩
       dsimp only at hT9
       have hnS : ∀ k, b8 ≤ k → ¬ S k := fun k hk hs => by have := HH.out.lt k hs; have := HB8.out; omega
       have hk98 := hk9.heap HK88.out (hnS b8 (Nat.le_refl _))
       have hR9 : Kd.R k109 109 w9 (b8 + 1) (fun k => k < w8.heap.size ∧ b8 + 1 ≤ k) (.slice A4 l.length c4) l := Kd.R_step (Kd.R_mono (Kd.R_bound HR8.out) (fun k hk => ⟨hk.2.2.1, hk.2.1⟩)) (fun k hk' hlt => hk9.block k hlt (hnS k (by omega)))
       have HK98 := Lib.hid hk98
       have HR9 := Lib.hid hR9
       have HT9 := Lib.hid hT9
       have HS9 := Lib.hid hs9
       have HK9 := Lib.hid hk9
       have HNS := Lib.hid hnS
       clear hk98 hR9 hT9 hs9 hk9 hnS
       obtain ⟨c0, cf0, c1, cf1, c2, cf2, c3, cf3, c4, cf4, c5, cf5, c6, cf6⟩ := facts7f HK98.out
       go_wp2_with fail
       clear c0 cf0 c1 cf1 c2 cf2 c3 cf3 c4 cf4 c5 cf5 c6 cf6
       refine bodyPost_ret (results_ctt rfl _ _ b8 62 #[_, _, _, _, _, _, _] (0, 0) _ rfl (blk_put7 HK98.out _ _ _ _ _ _ _) HU.out rfl (by kernel_rfl)) rfl ?_
       rw [HGZ.out]
       have hkp := kp_put7 w9 b8 (.int .i64 k0) (.string x1) (.int .u64 x2) (.slice A4 l.length c4) (.int .u64 x4) (.int .u64 x5) (.string x6)
       have hb9 : ∀ k, S9 k → ¬ k = b8 := fun k hk e => by
        rcases HS9.out k hk with h9 | h9
        ·exact HNS.out k (by omega) h9
        ·have := blk_lt HK88.out; omega
       have hsz := blk_lt HK88.out
       have e8 := HB8.out
       refine ⟨.slice A4 l.length c4, S9, rfl, HT9.out.keep hkp hb9, fun k hk => ?_, ?_, ?_⟩
       ·rcases HS9.out k hk with h9 | h9
        ·exact .inl h9
        ·exact .inr (by omega)
       ·exact ((Kp.of_below (HB8.out ▸ HB9.out) S).trans HK9.out (fun k hk => .inl hk)).trans hkp (fun k hk => .inr (by omega))
       ·refine Kd.R_mono (Kd.R_lower (R_above' (Kd.R_bound HR9.out) hkp) (by omega)) (fun k hk hs => ?_)
        rcases HS9.out k hs with h9 | h9
        ·exact HNS.out k (by have := hk.1.2; omega) h9
        ·have := hk.1.1; omega
      ·rw [if_neg (fun h => heq h.2)] at HG3
       have HGZ := Lib.hid HG3
       rw [show decide (rows = M) = false from decide_eq_false heq]
       clear HG3 heq HGE3
       obtain ⟨c0, cf0, c1, cf1, c2, cf2, c3, cf3, c4, cf4, c5, cf5, c6, cf6⟩ := facts7f HK88.out
       go_wp2_with fail
       refine bodyPost_ret (results_ctt rfl _ _ b8 62 #[_, _, _, _, _, _, _] (0, 0) _ rfl (blk_put7 HK88.out _ _ _ _ _ _ _) HU.out rfl (by kernel_rfl)) rfl ?_
       rw [HGZ.out]
       have HBE := below_put7 HB9.out (Nat.le_refl b8) (.int .i64 0) (.string ⟨#[]⟩) (.int .u64 0) (.slice none 0 0) (.int .u64 0) (.int .u64 0) (.string ⟨#[]⟩)
       have HE8 := HB8.out
       subst HE8
       exact GetPost.early HH.out HBE 3
    ·have hne : (er != 0) = true := by simp [her]
     have hed : decide (er = 0) = false := decide_eq_false her
     have hG3 := HGE2.out
     rw [if_neg (fun h => her h.1)] at hG3
     have HG3 := Lib.hid hG3
     clear hG3
     obtain ⟨c0, cf0, c1, cf1, c2, cf2, c3, cf3, c4, cf4, c5, cf5, c6, cf6⟩ := facts7f HK78.out
     go_wp2_with fail
     refine bodyPost_ret (results_ctt rfl _ _ b8 62 #[_, _, _, _, _, _, _] (0, 0) _ rfl (blk_put7 HK78.out _ _ _ _ _ _ _) HU.out rfl (by kernel_rfl)) rfl ?_
     rw [HG3.out]
     have HBE := below_put7 HB7.out (Nat.le_refl b8) (.int .i64 0) (.string ⟨#[]⟩) (.int .u64 0) (.slice none 0 0) (.int .u64 0) (.int .u64 0) (.string ⟨#[]⟩)
     have HE8 := HB8.out
     subst HE8
     exact GetPost.early HH.out HBE 3
  ·obtain rfl : n = ps.length := by omega
   have hC := HPS.out wr (Kp.of_below (HB1.out.trans ((HN.out.below).mono HB1.out.size)) _)
   have hGF := getF_at (T := T) HV.out hna hnl HD.out (fun h => absurd h (by omega))
   rw [if_pos rfl] at hGF
   have HGF := Lib.hid hGF
   have hb9 := HN.out.below
   have hk98 := (hb9.block b8 (by have := HS1.out; omega)).trans HK1.out
   have hb98 : Below b8 W wr := (by have e := HB8.out; subst e; exact HB1.out.trans (hb9.mono HB1.out.size))
   have HK98 := Lib.hid hk98
   have HB98 := Lib.hid hb98
   have hdl : decide ((ps.length : Int) < (ps.length : Int)) = false := decide_eq_false (by omega)
   clear hGF hb9 hk98 hb98 hC
   obtain ⟨c0, cf0, c1, cf1, c2, cf2, c3, cf3, c4, cf4, c5, cf5, c6, cf6⟩ := facts7f HK98.out
   go_wp2_with fail
   refine bodyPost_ret (results_ctt rfl _ _ b8 62 #[_, _, _, _, _, _, _] (0, 0) _ rfl (blk_put7 HK98.out _ _ _ _ _ _ _) HU.out rfl (by kernel_rfl)) rfl ?_
   rw [HGF.out]
   have HBE := below_put7 HB98.out (Nat.le_refl b8) (.int .i64 0) (.string ⟨#[]⟩) (.int .u64 0) (.slice none 0 0) (.int .u64 0) (.int .u64 0) (.string ⟨#[]⟩)
   have HE8 := HB8.out
   subst HE8
   exact GetPost.early HH.out HBE 6
theorem sget_any {W : World} {S : Nat → Prop} {t : Nat} {T : List ByteArray} (h : Tab W S t T) (v : Int) (A : Option Addr) (c : Nat) (ps : List (List Int)) (at0 : Int) (hps : ∀ W', Kp W W' S → Kd.C kRows W' A ps.length ps) (hc : ps.length ≤ c) (hbt : ∀ p ∈ ps, p.length ≤ 3000 ∧ ∀ x ∈ p, 0 ≤ x ∧ x < 256) (hT : T.length ≤ 50000) (hn : ps.length ≤ 10000) :
  Calls Try.prog 37 #[.int .i64 v, .pointer (some ⟨t, 0, none⟩), .slice A ps.length c, .int .i64 at0] W (GetPost W S t (getF v T ps at0)) := by
 by_cases hv : 1 ≤ v ∧ v ≤ 3
 ·by_cases h0 : at0 < 0
  ·exact sget_arg1 h v A c ps at0 hv h0
  ·by_cases h1 : (ps.length : Int) < at0
   ·exact sget_arg2 h v A c ps at0 hv ⟨by omega, h1⟩
   ·obtain ⟨a, rfl⟩ := Int.eq_ofNat_of_zero_le (show 0 ≤ at0 by omega)
    exact sget_ok h v A c ps a hv (by omega) hps hc hbt hT hn
 ·exact sget_ver h v A c ps at0 hv
end Go.Proofs.Ytmeocdkiecknkaa
namespace Go.Proofs.Ytmeocdkiecknkaa
open Go.RowKit Go.Proofs.YtmeocdkiecknkaaW.PrintWords Go.Proofs.Ytmeocdkiecknkaa.GRR
theorem below_kp {w W W' : World} {S : Nat → Prop} (h : Below w.heap.size w W) (hk : Kp W W' S) (hs : ∀ k, S k → w.heap.size ≤ k) : Below w.heap.size w W' :=
 ((Kp.of_below h (fun _ => False)).trans hk (fun k h => .inr (hs k h))).to_below (fun _ h => h.elim)
end Go.Proofs.Ytmeocdkiecknkaa
namespace Go.Proofs.Ytmeocdkiecknkaa
open Go.RowKit Go.Proofs.YtmeocdkiecknkaaW.PrintWords Go.Proofs.Ytmeocdkiecknkaa.GRR
def RdB (B : Nat) (W : World) (v : Value) (s : ByteArray) : Prop := ∃ b c cap fr, v = .slice (some ⟨b, 0, none⟩) s.size c ∧ B ≤ b ∧ s.size ≤ c ∧ W.heap[b]? = some (.cells (Go.bytesRow s cap) 5 fr)
theorem RdB.below {B : Nat} {W W' : World} {v : Value} {s : ByteArray} (h : RdB B W v s) (hb : Below W.heap.size W W') : RdB B W' v s := by
 obtain ⟨b, c, cap, fr, h1, h2, h3, h4⟩ := h
 exact ⟨b, c, cap, fr, h1, h2, h3, (hb.block b (Array.getElem?_eq_some_iff.1 h4).1).trans h4⟩
theorem RdB.grown {B : Nat} {W W' : World} {v : Value} {s : ByteArray} {row : Option Nat} (h : RdB B W v s) (hg : W.grownBy W' row) (ht : ∀ k, row = some k → ∃ C fr, W.heap[k]? = some (.cells C 22 fr)) : RdB B W' v s := by
 obtain ⟨b, c, cap, fr, h1, h2, h3, h4⟩ := h
 refine ⟨b, c, cap, fr, h1, h2, h3, (hg.block b (Array.getElem?_eq_some_iff.1 h4).1 (fun e => ?_)).trans h4⟩
 obtain ⟨C, fr2, h5⟩ := ht b e.symm
 rw [h4] at h5
 injection h5 with h5
 injection h5 with _ h5
 exact absurd h5 (by decide)
end Go.Proofs.Ytmeocdkiecknkaa
