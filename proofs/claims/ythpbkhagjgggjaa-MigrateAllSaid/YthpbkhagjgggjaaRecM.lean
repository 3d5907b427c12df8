/- What record.May answers. -/
import Derived.Test.YthpbkhagjgggjaaRecN
import Derived.Test.YthpbkhagjgggjaaRecP
set_option linter.unusedVariables false
set_option linter.unusedSimpArgs false
namespace Go.Proofs.Ythpbkhagjgggjaa
open Go.RowKit Go.Proofs.YthpbkhagjgggjaaW.PrintWords Go.Proofs.Ythpbkhagjgggjaa.GRR

section
variable (v k0 : Int) (t : ByteArray) (rule : Int) (A : Option Addr) (c : Nat) (l : List S76) (out when : Int) (tag : ByteArray) (w : World)
set_option maxHeartbeats 2000000 in
set_option maxRecDepth 100000 in
theorem may_any (hr : Kd.C k76 w A l.length l) (hc : l.length ≤ c) (hok : RecOk t l tag) :
    Calls Try.prog 44 #[.int .i64 v, .agg #[.int .i64 k0, .string t, .int .u64 rule, .slice A l.length c, .int .u64 out, .int .u64 when, .string tag]] w fun e w' => e = .returned (.bool (mayB v k0 t rule l out when tag)) ∧ Below w.heap.size w w' := by
  have hb0 := (Below.refl w.heap.size w).alloc (Nat.le_refl _) (.cells #[.int .i64 k0, .string t, .int .u64 rule, .slice A l.length c, .int .u64 out, .int .u64 when, .string tag] 70)
  have HB0 := Lib.hid hb0
  have hC1 := Kd.C_below hr hb0
  have hszt : t.size ≤ 9223372036854775807 := by have := hok.t; simp only [maxLen] at this; omega
  have HNM := Lib.hid (fun W => name_any t W hszt)
  have HDP := Lib.hid (deps_any v k0 t rule A c l out when tag _ hC1 hc hok.n hok.d hok.t)
  obtain ⟨sb, hs, hs2⟩ := record_Same_is k0 2 t t rule 0 l [] out 0 when 0 tag ⟨#[]⟩ (by have := hok.n; omega) 2000 (by have := hok.n; omega)
  have HSM := Lib.hid (record_Same.calls 2000 k0 t rule A c l out when tag 2 t 0 none 0 [] 0 0 ⟨#[]⟩ sb _ hC1 hc (Kd.C_nil _ _) (Nat.le_refl _) hs)
  have htag : tag = ⟨#[]⟩ ↔ tag.size = 0 := by
    constructor
    · intro h; rw [h]; rfl
    · intro h; exact tl_eq.1 ((tl_nil.2 h).trans (tl_nil.2 rfl).symm)
  rw [htag, show l = [] ↔ l.length = 0 by simp] at hs2
  have HS2 := Lib.hid hs2
  have hres : mayB v k0 t rule l out when tag = mayB v k0 t rule l out when tag := rfl
  obtain ⟨M, hM⟩ : ∃ M, mayB v k0 t rule l out when tag = M := ⟨_, rfl⟩
  rw [hM]
  unfold mayB at hM
  obtain ⟨nb, hnb⟩ : ∃ nb, nameB t = nb := ⟨_, rfl⟩
  obtain ⟨D, hD⟩ : ∃ D, depsB v t l = D := ⟨_, rfl⟩
  rw [hnb] at HNM hM
  rw [hD] at HDP hM
  have HM := Lib.hid hM
  have htsz : tag.size ≤ 9223372036854775807 := by have := hok.tag; simp only [maxLen] at this; omega
  clear hr hok hb0 hC1 hs hs2 htag hres hM hnb hD
  by_cases h1 : v < 1
  · have b1 : decide (v < 1) = true := decide_eq_true h1
    go_enter Try.func44, Try.ntmps44
    go_wp2_with fail
    go_ret
    refine ⟨?_, HB0.out⟩
    rw [← HM.out, show decide (1 ≤ v ∧ v ≤ 3) = false from decide_eq_false (by omega)]; rfl
  · by_cases h3 : 3 < v
    · have b1 : decide (v < 1) = false := decide_eq_false h1
      have b3 : decide (3 < v) = true := decide_eq_true h3
      go_enter Try.func44, Try.ntmps44
      go_wp2_with fail
      go_ret
      refine ⟨?_, HB0.out⟩
      rw [← HM.out, show decide (1 ≤ v ∧ v ≤ 3) = false from decide_eq_false (by omega)]; rfl
    · have b1 : decide (v < 1) = false := decide_eq_false h1
      have b3 : decide (3 < v) = false := decide_eq_false h3
      have hm := HM.out
      rw [show decide (1 ≤ v ∧ v ≤ 3) = true from decide_eq_true (by omega)] at hm
      cases nb with
      | false =>
        go_enter Try.func44, Try.ntmps44
        go_wp2_with fail
        refine (HNM.out _).mono ?_
        rintro e w1 ⟨rfl, rfl⟩
        go_wp2_with fail
        go_ret
        exact ⟨by rw [← HM.out]; simp, HB0.out⟩
      | true =>
        by_cases k1 : k0 = 1
        · subst k1
          obtain ⟨v2, hv2⟩ : ∃ x, decide (v < 2) = x := ⟨_, rfl⟩
          obtain ⟨v3, hv3⟩ : ∃ x, decide (v < 3) = x := ⟨_, rfl⟩
          obtain ⟨bw, hbw⟩ : ∃ x, (when != 0) = x := ⟨_, rfl⟩
          obtain ⟨bt, hbt⟩ : ∃ x, tag.toList.isEmpty = x := ⟨_, rfl⟩
          obtain ⟨bl, hbl⟩ : ∃ x, decide ((tag.size : Int) ≤ 64) = x := ⟨_, rfl⟩
          have hm1 : (!(v2 && bw || v3 && !bt) && bl && D) = M := by
            rw [← hm, if_pos rfl, ← hv2, ← hv3, ← hbw, ← hbt, ← hbl]
            have e1 : (when != 0) = decide (when ≠ 0) := by by_cases h : when = 0 <;> simp [h]
            have e2 : (!tag.toList.isEmpty) = decide (tag.size ≠ 0) := by
              by_cases h : tag.size = 0
              · rw [(tl_nil.2 h)]; simp [h]
              · have : tag.toList ≠ [] := fun hh => h (tl_nil.1 hh)
                simp [h, this]
            have e3 : decide ((tag.size : Int) ≤ 64) = decide (tag.size ≤ 64) := by congr 1; apply propext; omega
            rw [e1, e2, e3]; simp
          have HM1 := Lib.hid hm1
          clear hm hm1 HM
          go_enter Try.func44, Try.ntmps44
          go_wp2_with fail
          refine (HNM.out _).mono ?_
          rintro e w1 ⟨rfl, rfl⟩
          cases v2 <;> cases v3 <;> cases bw <;> cases bt <;> cases bl
          all_goals go_wp2_with fail
          all_goals first
            | (refine HDP.out.mono ?_
               rintro e w1 ⟨rfl, hd⟩
               go_wp2_with fail
               go_ret
               exact ⟨by rw [← HM1.out]; rfl, HB0.out.trans (hd.mono HB0.out.size)⟩)
            | (go_ret
               exact ⟨by rw [← HM1.out]; rfl, HB0.out⟩)
        · by_cases k2 : k0 = 2
          · subst k2
            go_enter Try.func44, Try.ntmps44
            go_wp2_with fail
            refine (HNM.out _).mono ?_
            rintro e w1 ⟨rfl, rfl⟩
            go_wp2_with fail
            refine HSM.out.mono ?_
            rintro e w1 ⟨rfl, hd⟩
            go_wp2_with fail
            go_ret
            refine ⟨?_, HB0.out.trans (hd.mono HB0.out.size)⟩
            rw [← HM.out, if_neg (by decide : ¬ (2 : Int) = 1)]
            have h2 := HS2.out
            simp only [true_and] at h2
            congr 1
            refine Eq.trans (show _ = Value.bool sb from rfl) (congrArg Value.bool (Bool.eq_iff_iff.2 ?_))
            rw [h2, show decide (1 ≤ v ∧ v ≤ 3) = true from decide_eq_true (by omega)]
            simp only [Bool.true_and, Bool.and_eq_true, decide_eq_true_eq, if_true, eq_self_iff_true]
            simp [and_assoc]
          · have b4 : ((k0 : Int) == 1) = false := by simp [k1]
            have b5 : ((k0 : Int) == 2) = false := by simp [k2]
            clear hm
            go_enter Try.func44, Try.ntmps44
            go_wp2_with fail
            refine (HNM.out _).mono ?_
            rintro e w1 ⟨rfl, rfl⟩
            go_wp2_with fail
            go_ret
            exact ⟨by rw [← HM.out, if_neg k1]; simp [k2], HB0.out⟩
end
def record_May.f (a0 : Int) (a1_0 : Int) (a1_1 : ByteArray) (a1_2 : Int) (l1_3 : List S76) (a1_4 : Int) (a1_5 : Int) (a1_6 : ByteArray) : Option Bool :=
  if l1_3.length ≤ 1000 ∧ (∀ d ∈ l1_3, d.f0.size ≤ maxLen) ∧ a1_1.size ≤ maxLen ∧ a1_6.size ≤ maxLen then some (mayB a0 a1_0 a1_1 a1_2 l1_3 a1_4 a1_5 a1_6) else none
theorem record_May.calls (a0 : Int) (a1_0 : Int) (a1_1 : ByteArray) (a1_2 : Int) (A1_3 : Option Addr) (c1_3 : Nat) (l1_3 : List S76) (a1_4 : Int) (a1_5 : Int) (a1_6 : ByteArray) (r : Bool) (w : World) (hr1_3 : Kd.C k76 w A1_3 l1_3.length l1_3) (hc1_3 : l1_3.length ≤ c1_3) (h : record_May.f a0 a1_0 a1_1 a1_2 l1_3 a1_4 a1_5 a1_6 = some r) :
    Calls Try.prog 44 #[.int .i64 a0, .agg #[.int .i64 a1_0, .string a1_1, .int .u64 a1_2, .slice A1_3 l1_3.length c1_3, .int .u64 a1_4, .int .u64 a1_5, .string a1_6]] w fun e w' => e = .returned (.bool r) ∧ Below w.heap.size w w' := by
  unfold record_May.f at h
  split at h
  · rename_i hh
    cases h; exact may_any a0 a1_0 a1_1 a1_2 A1_3 c1_3 l1_3 a1_4 a1_5 a1_6 w hr1_3 hc1_3 ⟨hh.1, hh.2.2.1, hh.2.2.2, hh.2.1⟩
  · cases h
theorem record_May_is {v k0 : Int} {t : ByteArray} {rule : Int} {l : List S76} {out when : Int} {tag : ByteArray} (hr : RecOk t l tag) : record_May.f v k0 t rule l out when tag = some (mayB v k0 t rule l out when tag) := by
  unfold record_May.f
  rw [if_pos ⟨hr.n, hr.d, hr.t, hr.tag⟩]
end Go.Proofs.Ythpbkhagjgggjaa
