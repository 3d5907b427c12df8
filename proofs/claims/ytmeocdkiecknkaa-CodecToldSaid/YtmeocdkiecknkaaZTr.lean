/- Texts laid as one by shake.py, cut to what the claim needs: RecP, RecM, RecR. (Names that begin with W and the print's groups (G..x, G..z): laid by the kit's print, cut.) -/
import Derived.Test.YtmeocdkiecknkaaZTp
import Derived.Test.YtmeocdkiecknkaaZTq
import Derived.Test.YtmeocdkiecknkaaZTg
import Derived.Lib.Strings
set_option linter.unusedVariables false
set_option linter.unusedSimpArgs false
namespace Go.Proofs.Ytmeocdkiecknkaa
open Go.RowKit Go.Proofs.YtmeocdkiecknkaaW.PrintWords Go.Proofs.Ytmeocdkiecknkaa.GRR
theorem tl_eq {s t : ByteArray} : s.toList = t.toList ↔ s = t := by
  rw [Lib.toList_data, Lib.toList_data]
  exact ⟨fun h => ByteArray.ext (Array.ext' h), fun h => by rw [h]⟩
theorem tl_nil {s : ByteArray} : s.toList = ([] : List UInt8) ↔ s.size = 0 := by
  rw [Lib.toList_data]
  constructor
  · intro h
    have := congrArg List.length h
    rw [Array.length_toList] at this
    exact this
  · intro h
    exact List.eq_nil_of_length_eq_zero (by rw [Array.length_toList]; exact h)
def mayB (v k : Int) (t : ByteArray) (rule : Int) (deps : List S109) (out when : Int) (tag : ByteArray) : Bool :=
  decide (1 ≤ v ∧ v ≤ 3) && nameB t &&
    (if k = 1 then !(decide (v < 2) && decide (when ≠ 0) || decide (v < 3) && decide (tag.size ≠ 0)) && decide (tag.size ≤ 64) && depsB v t deps
     else decide (k = 2) && decide (rule = 0) && decide (deps.length = 0) && decide (out = 0) && decide (when = 0) && decide (tag.size = 0))
structure RecOk (t : ByteArray) (deps : List S109) (tag : ByteArray) : Prop where
  n : deps.length ≤ 3010
  t : t.size ≤ maxLen
  tag : tag.size ≤ maxLen
  d : ∀ d ∈ deps, d.f0.size ≤ maxLen
theorem wr1 (i n : Nat) (h : i < n) (hn : n ≤ 9223372036854775807) : wrap64 ((i : Int) + 1) = ((i + 1 : Nat) : Int) := by unfold wrap64; omega
section
variable (v k0 : Int) (t : ByteArray) (rule : Int) (l : List S109) (out when : Int) (tag : ByteArray)
end
theorem deq_l0 (l r : List S109) (hlen : l.length = r.length) (hl : l.length ≤ 1000000) : ∀ (d i k : Nat), l.length = i + d → d < k →
    ∃ b, api_Dep_111.l0 k l r (l.length : Int) (i : Int) = some b ∧ (b = true ↔ l.drop i = r.drop i) := by
  intro d
  induction d with
  | zero =>
    intro i k hi hk
    obtain ⟨k, rfl⟩ : ∃ m, k = m + 1 := ⟨k - 1, by omega⟩
    refine ⟨true, ?_, ?_⟩
    · simp only [api_Dep_111.l0]; rw [if_neg (by omega)]
    · rw [List.drop_of_length_le (by omega), List.drop_of_length_le (by omega)]; simp
  | succ d ih =>
    intro i k hi hk
    obtain ⟨k, rfl⟩ : ∃ m, k = m + 1 := ⟨k - 1, by omega⟩
    have h1 : i < l.length := by omega
    have h2 : i < r.length := by omega
    simp only [api_Dep_111.l0]
    rw [if_pos (by omega), if_pos (by omega), if_pos (by omega), if_pos (by omega), rd_dep l i h1, rd_dep r i h2, wr1 i l.length h1 (by omega), List.drop_eq_getElem_cons h1, List.drop_eq_getElem_cons h2]
    obtain ⟨b, hb, hb2⟩ := ih (i + 1) k (by omega) (by omega)
    generalize hx : l[i] = x
    generalize hy : r[i] = y
    obtain ⟨x0, x1, x2⟩ := x
    obtain ⟨y0, y1, y2⟩ := y
    by_cases he : x0 = y0 ∧ x1 = y1 ∧ x2 = y2
    · obtain ⟨rfl, rfl, rfl⟩ := he
      refine ⟨b, ?_, ?_⟩
      · rw [if_neg (by simp)]; exact hb
      · rw [hb2]; simp
    · refine ⟨false, ?_, ?_⟩
      · rw [if_pos]
        have e0 : (x0.toList == y0.toList) = decide (x0 = y0) := by rw [Bool.eq_iff_iff, beq_iff_eq, decide_eq_true_eq, tl_eq]
        rw [e0]
        simp only [Bool.or_eq_true, Bool.not_eq_true', decide_eq_false_iff_not, beq_eq_false_iff_ne]
        by_cases a : x0 = y0
        · by_cases b : x1 = y1
          · exact .inr (.inr (fun c => he ⟨a, b, c⟩))
          · exact .inr (.inl b)
        · exact .inl a
      · simp only [Bool.false_eq_true, false_iff]
        intro h
        injection h with h _
        injection h with h0 h1 h2
        exact he ⟨h0, h1, h2⟩
theorem deq_is (l r : List S109) (hl : l.length ≤ 1000000) (k : Nat) (hk : l.length < k) : ∃ b, api_Dep_111.f k l r = some b ∧ (b = true ↔ l = r) := by
  unfold api_Dep_111.f
  by_cases h : l.length = r.length
  · rw [if_pos (by omega)]
    have := deq_l0 l r h hl l.length 0 k (by omega) hk
    simpa using this
  · rw [if_neg (by omega)]
    exact ⟨false, rfl, by simp; intro e; exact h (by rw [e])⟩
theorem record_Same_is (a0 b0 : Int) (a1 b1 : ByteArray) (a2 b2 : Int) (a3 b3 : List S109) (a4 b4 a5 b5 : Int) (a6 b6 : ByteArray) (hl : a3.length ≤ 1000000) (k : Nat) (hk : a3.length < k) :
    ∃ b, record_Same.f k a0 a1 a2 a3 a4 a5 a6 b0 b1 b2 b3 b4 b5 b6 = some b ∧ (b = true ↔ a0 = b0 ∧ a1 = b1 ∧ a2 = b2 ∧ a3 = b3 ∧ a4 = b4 ∧ a5 = b5 ∧ a6 = b6) := by
  obtain ⟨b, hb, hb2⟩ := deq_is a3 b3 hl k hk
  unfold record_Same.f record_of.f
  simp only [Option.bind_some]
  rw [hb]
  have e1 : (a1.toList == b1.toList) = decide (a1 = b1) := by rw [Bool.eq_iff_iff, beq_iff_eq, decide_eq_true_eq, tl_eq]
  have e6 : (a6.toList == b6.toList) = decide (a6 = b6) := by rw [Bool.eq_iff_iff, beq_iff_eq, decide_eq_true_eq, tl_eq]
  rw [e1, e6]
  split
  · rename_i h
    simp only [Bool.and_eq_true, beq_iff_eq, decide_eq_true_eq] at h
    refine ⟨b, rfl, ?_⟩
    rw [hb2]
    exact ⟨fun h3 => ⟨h.1, h.2.1, h.2.2.2.1, h3, h.2.2.2.2.1, h.2.2.2.2.2, h.2.2.1⟩, fun h3 => h3.2.2.2.1⟩
  · rename_i h
    simp only [Bool.and_eq_true, beq_iff_eq, decide_eq_true_eq] at h
    refine ⟨false, rfl, ?_⟩
    simp only [Bool.false_eq_true, false_iff]
    rintro ⟨h0, h1, h2, h3, h4, h5, h6⟩
    exact h ⟨h0, h1, h6, h2, h4, h5⟩
structure RecFew (t : ByteArray) (deps : List S109) (tag : ByteArray) : Prop where
  n : deps.length ≤ 60
  t : t.size ≤ 300
  tag : tag.size ≤ 300
  d : ∀ d ∈ deps, d.f0.size ≤ 300
theorem RecFew.ok {t : ByteArray} {deps : List S109} {tag : ByteArray} (h : RecFew t deps tag) : RecOk t deps tag :=
  ⟨by have := h.n; omega, by have := h.t; simp only [maxLen]; omega, by have := h.tag; simp only [maxLen]; omega, fun d hd => by have := h.d d hd; simp only [maxLen]; omega⟩
end Go.Proofs.Ytmeocdkiecknkaa
namespace Go.Proofs.Ytmeocdkiecknkaa
open Go.RowKit Go.Proofs.YtmeocdkiecknkaaW.PrintWords Go.Proofs.Ytmeocdkiecknkaa.GRR
section
variable (v k0 : Int) (t : ByteArray) (rule : Int) (A : Option Addr) (c : Nat) (l : List S109) (out when : Int) (tag : ByteArray) (w : World)
set_option maxHeartbeats 2000000 in
set_option maxRecDepth 100000 in
theorem may_any (hr : Kd.C k109 w A l.length l) (hc : l.length ≤ c) (hok : RecOk t l tag) :
    Calls Try.prog 59 #[.int .i64 v, .agg #[.int .i64 k0, .string t, .int .u64 rule, .slice A l.length c, .int .u64 out, .int .u64 when, .string tag]] w fun e w' => e = .returned (.bool (mayB v k0 t rule l out when tag)) ∧ Below w.heap.size w w' := by
  have hb0 := (Below.refl w.heap.size w).alloc (Nat.le_refl _) (.cells #[.int .i64 k0, .string t, .int .u64 rule, .slice A l.length c, .int .u64 out, .int .u64 when, .string tag] 62)
  have HB0 := Lib.hid hb0
  have hC1 := Kd.C_below hr hb0
  have hszt : t.size ≤ 9223372036854775807 := by have := hok.t; simp only [maxLen] at this; omega
  have HNM := Lib.hid (fun W => name_any t W hszt)
  have HDP := Lib.hid (deps_any v k0 t rule A c l out when tag _ hC1 hc hok.n hok.d hok.t)
  obtain ⟨sb, hs, hs2⟩ := record_Same_is k0 2 t t rule 0 l [] out 0 when 0 tag ⟨#[]⟩ (by have := hok.n; omega) 5000 (by have := hok.n; omega)
  have HSM := Lib.hid (record_Same.calls 5000 k0 t rule A c l out when tag 2 t 0 none 0 [] 0 0 ⟨#[]⟩ sb _ hC1 hc (Kd.C_nil _ _) (Nat.le_refl _) hs)
  have htag : tag = ⟨#[]⟩ ↔ tag.size = 0 := by
    constructor
    · intro h; rw [h]; rfl
    · intro h; exact tl_eq.1 ((tl_nil.2 h).trans (tl_nil.2 rfl).symm)
  rw [htag, show l = [] ↔ l.length = 0 by simp] at hs2
  have HS2 := Lib.hid hs2
  have hres : mayB v k0 t rule l out when tag = mayB v k0 t rule l out when tag := rfl
  obtain ⟨M, hM⟩ : ∃ M, mayB v k0 t rule l out when tag = M := ⟨_, rfl⟩
  rw [hM]
  unfold mayB at hM
  obtain ⟨nb, hnb⟩ : ∃ nb, nameB t = nb := ⟨_, rfl⟩
  obtain ⟨D, hD⟩ : ∃ D, depsB v t l = D := ⟨_, rfl⟩
  rw [hnb] at HNM hM
  rw [hD] at HDP hM
  have HM := Lib.hid hM
  have htsz : tag.size ≤ 9223372036854775807 := by have := hok.tag; simp only [maxLen] at this; omega
  clear hr hok hb0 hC1 hs hs2 htag hres hM hnb hD
  by_cases h1 : v < 1
  · have b1 : decide (v < 1) = true := decide_eq_true h1
    go_enter Try.func59, Try.ntmps59
    go_wp2_with fail
    go_ret
    refine ⟨?_, HB0.out⟩
    rw [← HM.out, show decide (1 ≤ v ∧ v ≤ 3) = false from decide_eq_false (by omega)]; rfl
  · by_cases h3 : 3 < v
    · have b1 : decide (v < 1) = false := decide_eq_false h1
      have b3 : decide (3 < v) = true := decide_eq_true h3
      go_enter Try.func59, Try.ntmps59
      go_wp2_with fail
      go_ret
      refine ⟨?_, HB0.out⟩
      rw [← HM.out, show decide (1 ≤ v ∧ v ≤ 3) = false from decide_eq_false (by omega)]; rfl
    · have b1 : decide (v < 1) = false := decide_eq_false h1
      have b3 : decide (3 < v) = false := decide_eq_false h3
      have hm := HM.out
      rw [show decide (1 ≤ v ∧ v ≤ 3) = true from decide_eq_true (by omega)] at hm
      cases nb with
      | false =>
        go_enter Try.func59, Try.ntmps59
        go_wp2_with fail
        refine (HNM.out _).mono ?_
        rintro e w1 ⟨rfl, rfl⟩
        go_wp2_with fail
        go_ret
        exact ⟨by rw [← HM.out]; simp, HB0.out⟩
      | true =>
        by_cases k1 : k0 = 1
        · subst k1
          obtain ⟨v2, hv2⟩ : ∃ x, decide (v < 2) = x := ⟨_, rfl⟩
          obtain ⟨v3, hv3⟩ : ∃ x, decide (v < 3) = x := ⟨_, rfl⟩
          obtain ⟨bw, hbw⟩ : ∃ x, (when != 0) = x := ⟨_, rfl⟩
          obtain ⟨bt, hbt⟩ : ∃ x, tag.toList.isEmpty = x := ⟨_, rfl⟩
          obtain ⟨bl, hbl⟩ : ∃ x, decide ((tag.size : Int) ≤ 64) = x := ⟨_, rfl⟩
          have hm1 : (!(v2 && bw || v3 && !bt) && bl && D) = M := by
            rw [← hm, if_pos rfl, ← hv2, ← hv3, ← hbw, ← hbt, ← hbl]
            have e1 : (when != 0) = decide (when ≠ 0) := by by_cases h : when = 0 <;> simp [h]
            have e2 : (!tag.toList.isEmpty) = decide (tag.size ≠ 0) := by
              by_cases h : tag.size = 0
              · rw [(tl_nil.2 h)]; simp [h]
              · have : tag.toList ≠ [] := fun hh => h (tl_nil.1 hh)
                simp [h, this]
            have e3 : decide ((tag.size : Int) ≤ 64) = decide (tag.size ≤ 64) := by congr 1; apply propext; omega
            rw [e1, e2, e3]; simp
          have HM1 := Lib.hid hm1
          clear hm hm1 HM
          go_enter Try.func59, Try.ntmps59
          go_wp2_with fail
          refine (HNM.out _).mono ?_
          rintro e w1 ⟨rfl, rfl⟩
          cases v2 <;> cases v3 <;> cases bw <;> cases bt <;> cases bl
          all_goals go_wp2_with fail
          all_goals first
            | (refine HDP.out.mono ?_
               rintro e w1 ⟨rfl, hd⟩
               go_wp2_with fail
               go_ret
               exact ⟨by rw [← HM1.out]; rfl, HB0.out.trans (hd.mono HB0.out.size)⟩)
            | (go_ret
               exact ⟨by rw [← HM1.out]; rfl, HB0.out⟩)
        · by_cases k2 : k0 = 2
          · subst k2
            go_enter Try.func59, Try.ntmps59
            go_wp2_with fail
            refine (HNM.out _).mono ?_
            rintro e w1 ⟨rfl, rfl⟩
            go_wp2_with fail
            refine HSM.out.mono ?_
            rintro e w1 ⟨rfl, hd⟩
            go_wp2_with fail
            go_ret
            refine ⟨?_, HB0.out.trans (hd.mono HB0.out.size)⟩
            rw [← HM.out, if_neg (by decide : ¬ (2 : Int) = 1)]
            have h2 := HS2.out
            simp only [true_and] at h2
            congr 1
            refine Eq.trans (show _ = Value.bool sb from rfl) (congrArg Value.bool (Bool.eq_iff_iff.2 ?_))
            rw [h2, show decide (1 ≤ v ∧ v ≤ 3) = true from decide_eq_true (by omega)]
            simp only [Bool.true_and, Bool.and_eq_true, decide_eq_true_eq, if_true, eq_self_iff_true]
            simp [and_assoc]
          · have b4 : ((k0 : Int) == 1) = false := by simp [k1]
            have b5 : ((k0 : Int) == 2) = false := by simp [k2]
            clear hm
            go_enter Try.func59, Try.ntmps59
            go_wp2_with fail
            refine (HNM.out _).mono ?_
            rintro e w1 ⟨rfl, rfl⟩
            go_wp2_with fail
            go_ret
            exact ⟨by rw [← HM.out, if_neg k1]; simp [k2], HB0.out⟩
end
def record_May.f (a0 : Int) (a1_0 : Int) (a1_1 : ByteArray) (a1_2 : Int) (l1_3 : List S109) (a1_4 : Int) (a1_5 : Int) (a1_6 : ByteArray) : Option Bool :=
  if l1_3.length ≤ 3010 ∧ (∀ d ∈ l1_3, d.f0.size ≤ maxLen) ∧ a1_1.size ≤ maxLen ∧ a1_6.size ≤ maxLen then some (mayB a0 a1_0 a1_1 a1_2 l1_3 a1_4 a1_5 a1_6) else none
theorem record_May.calls (a0 : Int) (a1_0 : Int) (a1_1 : ByteArray) (a1_2 : Int) (A1_3 : Option Addr) (c1_3 : Nat) (l1_3 : List S109) (a1_4 : Int) (a1_5 : Int) (a1_6 : ByteArray) (r : Bool) (w : World) (hr1_3 : Kd.C k109 w A1_3 l1_3.length l1_3) (hc1_3 : l1_3.length ≤ c1_3) (h : record_May.f a0 a1_0 a1_1 a1_2 l1_3 a1_4 a1_5 a1_6 = some r) :
    Calls Try.prog 59 #[.int .i64 a0, .agg #[.int .i64 a1_0, .string a1_1, .int .u64 a1_2, .slice A1_3 l1_3.length c1_3, .int .u64 a1_4, .int .u64 a1_5, .string a1_6]] w fun e w' => e = .returned (.bool r) ∧ Below w.heap.size w w' := by
  unfold record_May.f at h
  split at h
  · rename_i hh
    cases h; exact may_any a0 a1_0 a1_1 a1_2 A1_3 c1_3 l1_3 a1_4 a1_5 a1_6 w hr1_3 hc1_3 ⟨hh.1, hh.2.2.1, hh.2.2.2, hh.2.1⟩
  · cases h
end Go.Proofs.Ytmeocdkiecknkaa
namespace Go.Proofs.Ytmeocdkiecknkaa
open Go.RowKit Go.Proofs.YtmeocdkiecknkaaW.PrintWords Go.Proofs.Ytmeocdkiecknkaa.GRR
section
variable (a0 b0 : Int) (a1 b1 : ByteArray) (a2 b2 : Int) (a3 b3 : List S109) (a4 b4 a5 b5 : Int) (a6 b6 : ByteArray)
end
end Go.Proofs.Ytmeocdkiecknkaa
