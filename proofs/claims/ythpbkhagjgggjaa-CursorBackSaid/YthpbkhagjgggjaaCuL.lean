/- New; what the cursor's many does, of numbers and of texts; Numbers and Texts. -/
import Derived.Test.YthpbkhagjgggjaaCuM
import Derived.Laws.EntriesVeiled
import Derived.Maps.Range
set_option linter.unusedVariables false
set_option linter.unusedSimpArgs false
namespace Go.Proofs.Ythpbkhagjgggjaa
open Go.RowKit Go.Proofs.YthpbkhagjgggjaaW.PrintWords Go.Proofs.Ythpbkhagjgggjaa.GVB
attribute [local go_sem] Go.Proofs.YthpbkhagjgggjaaW.PrintMore.max2_int

def newAt (l : List Int) (at0 : Int) : Int := if at0 < 0 ∨ (l.length : Int) < at0 then 0 else at0
def newE (l : List Int) (at0 : Int) : Int := if at0 < 0 ∨ (l.length : Int) < at0 then 1 else 0
/-- The cursor at block g, its bytes in a row that is its own (its block is of the world w0, and not below base). -/
def CuOwn (base : Nat) (w0 W : World) (g : Nat) (l : List Int) (a e : Int) : Prop :=
  ∃ A c, W.heap[g]? = some (.cells #[.slice A l.length c, .int .i64 a, .int .i64 e] 99 (0, 0)) ∧ w0.heap.size ≤ g ∧ Kd.R (Kd.int .u8) 5 w0 base (fun _ => True) (.slice A l.length c) l
def NewPost (w : World) (l : List Int) (at0 : Int) (en : Ending) (w' : World) : Prop :=
  ∃ g w0, en = .returned (.pointer (some ⟨g, 0, none⟩)) ∧ Below w.heap.size w w0 ∧ IsCu w0 w' g l (newAt l at0) (newE l at0) ∧ Below w0.heap.size w0 w' ∧ w0.grownBy w' none ∧ CuOwn w.heap.size w0 w' g l (newAt l at0) (newE l at0)
set_option maxRecDepth 100000 in
set_option maxHeartbeats 1000000 in
theorem new_any (A : Option Addr) (c : Nat) (l : List Int) (at0 : Int) (w : World) (hC : Kd.C (Kd.int .u8) w A l.length l) (hc : l.length ≤ c) (hl : l.length ≤ 1000000) :
    Calls Try.prog 17 #[.slice A l.length c, .int .i64 at0] w (NewPost w l at0) := by
  have HCL := Lib.hid (clone_any A c l w hC hc (by omega))
  clear hC
  by_cases h0 : at0 < 0
  · have d0 : decide (at0 < 0) = true := decide_eq_true h0
    have e1 : newAt l at0 = 0 := by unfold newAt; rw [if_pos (.inl h0)]
    have e2 : newE l at0 = 1 := by unfold newE; rw [if_pos (.inl h0)]
    have HE := Lib.hid (And.intro e1 e2)
    clear e1 e2
    go_enter Try.func17, Try.ntmps17
    go_wp2_with fail
    refine HCL.out.mono ?_
    rintro en w1 ⟨v, rfl, hR, hb⟩
    obtain ⟨A1, c1, rfl⟩ := Kd.R_slice hR
    have HR := Lib.hid (Kd.R_reads' hR)
    have HO := Lib.hid hR
    have HB := Lib.hid hb
    clear hR hb
    go_wp2_with fail
    go_ret
    have hb1 := (Below.refl w1.heap.size w1).alloc (Nat.le_refl _) (.cells #[.slice A1 l.length c1, .int .i64 0, .int .i64 1] 99)
    refine ⟨w1.heap.size, w1, rfl, HB.out, ⟨A1, c1, ?_, Nat.le_refl _, HR.out.2.2, HR.out.2.1⟩, hb1, grownBy_none hb1, A1, c1, ?_, Nat.le_refl _, HO.out⟩
    all_goals (rw [HE.out.1, HE.out.2]; exact blk_new _ _)
  · have d0 : decide (at0 < 0) = false := decide_eq_false h0
    by_cases h1 : (l.length : Int) < at0
    · have d1 : decide ((l.length : Int) < at0) = true := decide_eq_true h1
      have e1 : newAt l at0 = 0 := by unfold newAt; rw [if_pos (.inr h1)]
      have e2 : newE l at0 = 1 := by unfold newE; rw [if_pos (.inr h1)]
      have HE := Lib.hid (And.intro e1 e2)
      clear e1 e2
      go_enter Try.func17, Try.ntmps17
      go_wp2_with fail
      refine HCL.out.mono ?_
      rintro en w1 ⟨v, rfl, hR, hb⟩
      obtain ⟨A1, c1, rfl⟩ := Kd.R_slice hR
      have HR := Lib.hid (Kd.R_reads' hR)
      have HO := Lib.hid hR
      have HB := Lib.hid hb
      clear hR hb
      go_wp2_with fail
      go_ret
      have hb1 := (Below.refl w1.heap.size w1).alloc (Nat.le_refl _) (.cells #[.slice A1 l.length c1, .int .i64 0, .int .i64 1] 99)
      refine ⟨w1.heap.size, w1, rfl, HB.out, ⟨A1, c1, ?_, Nat.le_refl _, HR.out.2.2, HR.out.2.1⟩, hb1, grownBy_none hb1, A1, c1, ?_, Nat.le_refl _, HO.out⟩
      all_goals (rw [HE.out.1, HE.out.2]; exact blk_new _ _)
    · have d1 : decide ((l.length : Int) < at0) = false := decide_eq_false h1
      have e1 : newAt l at0 = at0 := by unfold newAt; rw [if_neg (by omega)]
      have e2 : newE l at0 = 0 := by unfold newE; rw [if_neg (by omega)]
      have HE := Lib.hid (And.intro e1 e2)
      clear e1 e2
      go_enter Try.func17, Try.ntmps17
      go_wp2_with fail
      refine HCL.out.mono ?_
      rintro en w1 ⟨v, rfl, hR, hb⟩
      obtain ⟨A1, c1, rfl⟩ := Kd.R_slice hR
      have HR := Lib.hid (Kd.R_reads' hR)
      have HO := Lib.hid hR
      have HB := Lib.hid hb
      clear hR hb
      go_wp2_with fail
      go_ret
      have hb1 := (Below.refl w1.heap.size w1).alloc (Nat.le_refl _) (.cells #[.slice A1 l.length c1, .int .i64 at0, .int .i64 0] 99)
      refine ⟨w1.heap.size, w1, rfl, HB.out, ⟨A1, c1, ?_, Nat.le_refl _, HR.out.2.2, HR.out.2.1⟩, hb1, grownBy_none hb1, A1, c1, ?_, Nat.le_refl _, HO.out⟩
      all_goals (rw [HE.out.1, HE.out.2]; exact blk_new _ _)
/-- What a step of taking leaves: the place never goes back, nor beyond; where nothing fails it goes on. -/
theorem cuNum_step (l : List Int) (hb : ∀ x ∈ l, 0 ≤ x ∧ x < 256) (a e : Int) (ha : 0 ≤ a ∧ a ≤ l.length) : (cuNum l a e).2.1 ≤ l.length ∧ a ≤ (cuNum l a e).2.1 ∧ ((cuNum l a e).2.2 = 0 → a + 1 ≤ (cuNum l a e).2.1 ∧ e = 0) ∧ 0 ≤ (cuNum l a e).1 ∧ (cuNum l a e).1 < 18446744073709551616 ∧ ((cuNum l a e).2.2 ≠ 0 → (cuNum l a e).1 = 0 ∧ (cuNum l a e).2.1 = a) ∧ (e ≠ 0 → (cuNum l a e).2.2 = e) := by
  unfold cuNum
  by_cases he : e = 0
  · subst he
    rw [if_neg (by simp)]
    rcases getS_cases2 l hb a with ⟨ec, h1, h2, h3⟩ | ⟨lo, n, p, h1, h2, h3, h4, h5⟩
    · rw [h1, if_pos (by show ec ≠ 0; omega)]
      dsimp only
      exact ⟨by omega, by omega, fun h => by omega, by omega, by omega, fun _ => ⟨rfl, rfl⟩, fun h => absurd rfl h⟩
    · rw [h2, if_neg (by simp)]
      dsimp only
      exact ⟨by omega, by omega, fun _ => ⟨by omega, rfl⟩, by omega, by omega, fun h => absurd rfl h, fun h => absurd rfl h⟩
  · rw [if_pos he]
    dsimp only
    exact ⟨by omega, by omega, fun h => absurd h he, by omega, by omega, fun _ => ⟨rfl, rfl⟩, fun _ => rfl⟩
theorem cuText_step (l : List Int) (hb : ∀ x ∈ l, 0 ≤ x ∧ x < 256) (lim a e : Int) (ha : 0 ≤ a ∧ a ≤ l.length) : (cuText l lim a e).2.1 ≤ l.length ∧ a ≤ (cuText l lim a e).2.1 ∧ ((cuText l lim a e).2.2 = 0 → a + 1 ≤ (cuText l lim a e).2.1 ∧ e = 0) ∧ ((cuText l lim a e).2.2 ≠ 0 → (cuText l lim a e).1 = ⟨#[]⟩ ∧ (cuText l lim a e).2.1 = a) ∧ (e ≠ 0 → (cuText l lim a e).2.2 = e) ∧ (cuText l lim a e).1.size ≤ l.length := by
  unfold cuText
  by_cases he : e = 0
  · subst he
    rw [if_neg (by simp)]
    rcases bgetS_cases l hb a lim with ⟨ec, h1, h2⟩ | ⟨lo, p, q, h1, h2, h3, h4, h5, h6⟩
    · rw [h1, if_pos (by show ec ≠ 0; omega)]
      dsimp only
      exact ⟨by omega, by omega, fun h => by omega, fun _ => ⟨rfl, rfl⟩, fun h => absurd rfl h, Nat.zero_le _⟩
    · rw [h2, if_neg (by simp)]
      dsimp only
      exact ⟨by omega, by omega, fun _ => ⟨by omega, rfl⟩, fun h => absurd rfl h, fun h => absurd rfl h, by rw [strOfNums_size, List.length_drop, List.length_take]; omega⟩
  · rw [if_pos he]
    dsimp only
    exact ⟨by omega, by omega, fun h => absurd h he, fun _ => ⟨rfl, rfl⟩, fun _ => rfl, Nat.zero_le _⟩
/-- So many are taken, one behind the other. -/
def numsL (l : List Int) : Nat → List Int → Int → List Int × Int × Int
  | 0, acc, a => (acc, a, 0)
  | k + 1, acc, a => if (cuNum l a 0).2.2 ≠ 0 then ([], (cuNum l a 0).2.1, (cuNum l a 0).2.2) else numsL l k (acc ++ [(cuNum l a 0).1]) (cuNum l a 0).2.1
def mx0 (x : Int) : Int := if x < 0 then 0 else x
/-- Numbers, Texts: what is taken, the place then, the error. -/
def cuNums (l : List Int) (most a e : Int) : List Int × Int × Int :=
  if mx0 most < (cuNum l a e).1 then ([], (cuNum l a e).2.1, 5)
  else if (cuNum l a e).2.2 ≠ 0 then ([], (cuNum l a e).2.1, (cuNum l a e).2.2)
  else numsL l (cuNum l a e).1.toNat [] (cuNum l a e).2.1
def NumsPost (w0 w : World) (g : Nat) (l : List Int) (r : List Int × Int × Int) (en : Ending) (w' : World) : Prop :=
  ∃ v, en = .returned v ∧ Kd.R (Kd.int .u64) 48 w' w.heap.size (fun k => k ≠ g) v r.1 ∧ IsCu w0 w' g l r.2.1 r.2.2 ∧ w.grownBy w' (some g) ∧ Below w0.heap.size w0 w'
theorem info_num : (Try.prog.info? 48).map (fun i => (i.zero, i.size, i.bytes)) = some (some (.int .u64 0), 1, 8) := by kernel_rfl
set_option maxRecDepth 100000 in
set_option maxHeartbeats 2000000 in
theorem many_num (w0 w : World) (g : Nat) (l : List Int) (at0 e most : Int) (hI : IsCu w0 w g l at0 e) (hB : Below w0.heap.size w0 w) (hb : ∀ x ∈ l, 0 ≤ x ∧ x < 256) (hl : l.length ≤ 1000000) (ha : 0 ≤ at0 ∧ at0 ≤ l.length) (hmost : -9223372036854775808 ≤ most ∧ most ≤ 9223372036854775807)
    (hT : ∀ W a' e', w.grownBy W (some g) → IsCu w0 W g l a' e' → Below w0.heap.size w0 W → Calls Try.prog 28 #[.pointer (some ⟨g, 0, none⟩)] W (CuPost w0 W g l (.int .u64 (cuNum l a' e').1) (cuNum l a' e').2.1 (cuNum l a' e').2.2)) :
    Calls Try.prog 66 #[.pointer (some ⟨g, 0, none⟩), .int .i64 most, .func (.func 28) #[.pointer (some ⟨g, 0, none⟩)] #[]] w (NumsPost w0 w g l (cuNums l most at0 e)) := by
  have hstep := cuNum_step l hb at0 e ha
  have HST := Lib.hid (fun a' (h : 0 ≤ a' ∧ a' ≤ (l.length : Int)) => (show (cuNum l a' 0).2.1 ≤ l.length ∧ a' ≤ (cuNum l a' 0).2.1 ∧ ((cuNum l a' 0).2.2 = 0 → a' + 1 ≤ (cuNum l a' 0).2.1) from ⟨(cuNum_step l hb a' 0 h).1, (cuNum_step l hb a' 0 h).2.1, fun h0 => ((cuNum_step l hb a' 0 h).2.2.1 h0).1⟩))
  have HN := Lib.hid (num_any w0 w g l at0 e hI hB hb hl)
  have HT := Lib.hid hT
  obtain ⟨M, hM⟩ : ∃ M, mx0 most = M := ⟨_, rfl⟩
  have hM2 : (if most < 0 then 0 else most) = M := hM
  have hM0 : 0 ≤ M ∧ M ≤ 9223372036854775807 := by rw [← hM]; unfold mx0; split <;> omega
  have hw : IntKind.u64.wrap M = M := by rw [IntKind.wrap_u64]; omega
  have hS : cuNums l most at0 e = if M < (cuNum l at0 e).1 then ([], (cuNum l at0 e).2.1, 5) else if (cuNum l at0 e).2.2 ≠ 0 then ([], (cuNum l at0 e).2.1, (cuNum l at0 e).2.2) else numsL l (cuNum l at0 e).1.toNat [] (cuNum l at0 e).2.1 := by unfold cuNums; rw [hM]
  rw [hS]
  obtain ⟨ni, hni⟩ : ∃ ni, (cuNum l at0 e).1 = ni := ⟨_, rfl⟩
  obtain ⟨a1, ha1⟩ : ∃ a1, (cuNum l at0 e).2.1 = a1 := ⟨_, rfl⟩
  obtain ⟨e1, he1⟩ : ∃ e1, (cuNum l at0 e).2.2 = e1 := ⟨_, rfl⟩
  rw [hni, ha1, he1] at hstep HN ⊢
  obtain ⟨n, rfl⟩ := Int.eq_ofNat_of_zero_le hstep.2.2.2.1
  have hn64 : n < 18446744073709551616 := by omega
  have ha1b : 0 ≤ a1 ∧ a1 ≤ l.length := by omega
  have hz : e1 ≠ 0 → n = 0 := fun h => by have := (hstep.2.2.2.2.2.1 h).1; omega
  clear hS hM hT hstep hni ha1 he1 hI
  by_cases hgt : M < (n : Int)
  · rw [if_pos hgt]
    have hgt1 : decide (M < (n : Int)) = true := decide_eq_true hgt
    have he10 : e1 = 0 := by
      by_cases h : e1 = 0
      · exact h
      · have := hz h; omega
    subst he10
    have hn1 : 0 < n := by omega
    clear hz
    go_enter Try.func66, Try.ntmps66
    go_wp2_with fail
    refine HN.out.mono ?_
    rintro en w1 ⟨rfl, hI1, hg1, hB1⟩
    have HF := Lib.hid (fail_any w0 w1 g l a1 0 5 hI1 hB1)
    have HG1 := Lib.hid hg1
    rw [if_pos rfl] at HF
    clear hI1 hg1 hB1
    go_wp2_with fail
    refine HF.out.mono ?_
    rintro en w2 ⟨rfl, hI2, hg2, hB2⟩
    have HG2 := Lib.hid (HG1.out.trans hg2)
    have HT2 := Lib.hid (HT.out w2 a1 5 HG2.out hI2 hB2)
    have HI2 := Lib.hid hI2
    clear hI2 hg2 hB2
    have hs5 : cuNum l a1 5 = (0, a1, 5) := by unfold cuNum; rw [if_pos (by decide)]
    rw [hs5] at HT2
    clear hs5
    go_wp2_with fail
    refine (wp_loop_rounds 1 ?_)
    rw [rounds_succ]
    go_wp2_with fail
    refine HT2.out.mono ?_
    rintro en w3 ⟨rfl, hI3, hg3, hB3⟩
    obtain ⟨A3, c3, _, _, _, _, d0, d1, d2, _, _⟩ := cu_cells hI3
    have HP := Lib.hid (And.intro hI3 (And.intro (HG2.out.trans hg3) hB3))
    clear hI3 hg3 hB3
    go_wp2_with fail
    go_ret
    exact ⟨_, rfl, Kd.R_nil _ _ _ _ _, HP.out.1, HP.out.2.1, HP.out.2.2⟩
  · rw [if_neg hgt]
    have hgt1 : decide (M < (n : Int)) = false := decide_eq_false hgt
    have hRES : (if e1 ≠ 0 then ([], a1, e1) else numsL l (n : Int).toNat [] a1) = if e1 ≠ 0 then ([], a1, e1) else numsL l n [] a1 := by rw [Int.toNat_natCast]
    rw [hRES]
    clear hRES
    have HZ := Lib.hid hz
    clear hz
    obtain ⟨res, HRES⟩ : ∃ res, Hid ((if e1 ≠ 0 then ([], a1, e1) else numsL l n [] a1) = res) := ⟨_, Lib.hid rfl⟩
    rw [HRES.out]
    have hRL : e1 = 0 → numsL l n [] a1 = res := fun h => by rw [← HRES.out, if_neg (by simpa using h)]
    have hRE : e1 ≠ 0 → res = ([], a1, e1) := fun h => by rw [← HRES.out, if_pos h]
    have HRL := Lib.hid hRL
    have HRE := Lib.hid hRE
    clear hRL hRE HRES
    go_enter Try.func66, Try.ntmps66
    go_wp2_with fail
    refine HN.out.mono ?_
    rintro en w1 ⟨rfl, hI1, hg1, hB1⟩
    have HI1 := Lib.hid (And.intro hI1 (And.intro hg1 hB1))
    clear hI1 hg1 hB1
    go_wp2_with fail
    go_loopw [8, 20] (fun u8 u wr => ∃ (i : Nat) (acc : List Int) (a' : Int), i ≤ n ∧ u = .int .u64 i ∧ (∃ A8 c8, u8 = .slice A8 acc.length c8) ∧ 0 ≤ a' ∧ a' ≤ l.length ∧ (acc.length : Int) ≤ a' ∧ Hid (Kd.R (Kd.int .u64) 48 wr w.heap.size (fun k => k ≠ g) u8 acc) ∧ Hid (IsCu w0 wr g l a' e1) ∧ Hid (e1 = 0 → numsL l (n - i) acc a' = res) ∧ Hid (e1 ≠ 0 → acc = [] ∧ a' = a1) ∧ Hid (w.grownBy wr (some g)) ∧ Hid (Below w0.heap.size w0 wr)) (fun _ v _ => n - (intOf v).toNat)
    case atStart => exact ⟨0, [], a1, by omega, rfl, ⟨_, _, rfl⟩, ha1b.1, ha1b.2, ha1b.1, Kd.R_nil _ _ _ _ _, HI1.out.1, fun h => HRL.out h, fun h => ⟨rfl, rfl⟩, HI1.out.2.1, HI1.out.2.2⟩
    case round =>
      obtain ⟨i, acc, a', hi, rfl, ⟨A8, c8, rfl⟩, ha0', hal', hacc, HR, HI, HLE, HEE, HG, HBW⟩ := hrel
      by_cases hlt : i < n
      · have he10 : e1 = 0 := by
          by_cases h : e1 = 0
          · exact h
          · have := HZ.out h; omega
        subst he10
        have hst := HST.out a' ⟨ha0', hal'⟩
        have hle := HLE.out rfl
        rw [show n - i = (n - (i + 1)) + 1 by omega, numsL] at hle
        have hT1 := HT.out wr a' 0 HG.out HI.out HBW.out
        obtain ⟨x, hx⟩ : ∃ x, (cuNum l a' 0).1 = x := ⟨_, rfl⟩
        obtain ⟨a2, ha2⟩ : ∃ a2, (cuNum l a' 0).2.1 = a2 := ⟨_, rfl⟩
        obtain ⟨e2, he2⟩ : ∃ e2, (cuNum l a' 0).2.2 = e2 := ⟨_, rfl⟩
        rw [hx, ha2, he2] at hle hT1
        simp only [ha2, he2] at hst
        have HT1 := Lib.hid hT1
        have HLE2 := Lib.hid hle
        have ha2l := hst.1
        have ha2g := hst.2.1
        have ha2s := hst.2.2
        clear hle hT1 hx ha2 he2 hst HLE HEE
        by_cases hne : e2 = 0
        · have hne1 : (e2 != 0) = false := by rw [hne]; rfl
          have ha2s' := ha2s hne
          have hle3 := HLE2.out
          rw [if_neg (by simpa using hne)] at hle3
          have HLE3 := Lib.hid hle3
          subst hne
          clear hle3 ha2s
          go_wp2_with fail
          refine HT1.out.mono ?_
          rintro en w2 ⟨rfl, hI2, hg2, hB2⟩
          obtain ⟨A3, c3, _, _, hgg, hh3, d0, d1, d2, _, _⟩ := cu_cells hI2
          have hglt : g < w2.heap.size := (Array.getElem?_eq_some_iff.1 hh3).1
          have HG2 := Lib.hid (HG.out.trans hg2)
          have HI2 := Lib.hid (And.intro hI2 hB2)
          have HR2 := Lib.hid (Kd.R_grown HR.out hg2 (fun k hk => by intro e; cases e; exact hk rfl))
          have HHG := Lib.hid hh3
          clear hI2 hg2 hB2 hh3
          go_wp2_with (at_builtin; refine Halt.mk ?_)
          refine Halt.of ?_
          have hwsz : w.heap.size ≤ w2.heap.size := HG2.out.size
          refine Kd.R_append (Kd.int .u64) (w0 := w2) w.heap.size rfl (.tmp 29) (.tmp 31) 23 48 (.int .u64 0) 8 rfl Try.underlying23 info_num rfl (by decide) (by omega) _ acc x [.int .u64 x] (fun k => k ≠ g) (fun _ => False) rfl rfl rfl (fun _ h => h.elim) (fun k hk => by omega) HR2.out ?hB hwsz (by omega) ?_
          case hB => exact ⟨rfl, rfl, rfl, Nat.le_refl _, fun _ _ => rfl⟩
          intro v1 w3 hR3 hb3 hgr3 _
          obtain ⟨A9, c9, rfl⟩ := Kd.R_slice hR3
          have hrow : ∀ k, (Value.slice A8 acc.length c8).ownBlock = some k → w.heap.size ≤ k ∧ k ≠ g := fun k hk => ⟨Kd.R_base HR2.out k hk, HR2.out.1 k hk⟩
          have HI3 := Lib.hid (HI2.out.1.grown hgr3 (fun e => (hrow g e.symm).2 rfl))
          have HG3 := Lib.hid (World.grownBy.andThen HG2.out hgr3 (fun k hk => .inl (hrow k hk).1))
          have HB3 := Lib.hid (HI2.out.2.grown hgr3 HI2.out.2.size (fun k hk => Nat.le_trans hB.size (hrow k hk).1))
          have HR3 := Lib.hid hR3
          clear hR3 hb3 hgr3 hrow d0 d1 d2
          go_wp2
          go_roundw
          case rel => exact ⟨i + 1, acc ++ [x], a2, by omega, by go_num, ⟨A9, c9, by simp⟩, by omega, by omega, by simp; omega, by first | exact HR3 | (simpa using HR3), HI3, fun _ => HLE3.out, fun h => absurd rfl h, HG3, HB3⟩
          case measure => simp [intOf]; omega
        · have hne1 : (e2 != 0) = true := by simpa using hne
          have hle3 := HLE2.out
          rw [if_pos hne] at hle3
          have HLE3 := Lib.hid hle3
          clear hle3 ha2s hne
          go_wp2_with fail
          refine HT1.out.mono ?_
          rintro en w2 ⟨rfl, hI2, hg2, hB2⟩
          obtain ⟨A3, c3, _, _, hgg, hh3, d0, d1, d2, _, _⟩ := cu_cells hI2
          have HP := Lib.hid (And.intro hI2 (And.intro (HG.out.trans hg2) hB2))
          clear hI2 hg2 hB2 hh3
          go_wp2_with fail
          go_ret
          refine ⟨_, rfl, ?_, ?_, HP.out.2.1, HP.out.2.2⟩
          · rw [← HLE3.out]; exact Kd.R_nil _ _ _ _ _
          · rw [← HLE3.out]; exact HP.out.1
      · obtain rfl : n = i := by omega
        have HFIN := Lib.hid (show res = (acc, a', e1) from by
          by_cases h : e1 = 0
          · have := HLE.out h
            rw [Nat.sub_self, numsL] at this
            rw [← this, h]
          · rw [HRE.out h, (HEE.out h).1, (HEE.out h).2])
        go_wp2_with fail
        go_ret
        refine ⟨_, rfl, ?_, ?_, HG.out, HBW.out⟩
        · rw [HFIN.out]; exact HR.out
        · rw [HFIN.out]; exact HI.out
/-- So many are taken, one behind the other. -/
def textsL (l : List Int) (lim : Int) : Nat → List ByteArray → Int → List ByteArray × Int × Int
  | 0, acc, a => (acc, a, 0)
  | k + 1, acc, a => if (cuText l lim a 0).2.2 ≠ 0 then ([], (cuText l lim a 0).2.1, (cuText l lim a 0).2.2) else textsL l lim k (acc ++ [(cuText l lim a 0).1]) (cuText l lim a 0).2.1
/-- Numbers, Texts: what is taken, the place then, the error. -/
def cuTexts (l : List Int) (lim : Int) (most a e : Int) : List ByteArray × Int × Int :=
  if mx0 most < (cuNum l a e).1 then ([], (cuNum l a e).2.1, 5)
  else if (cuNum l a e).2.2 ≠ 0 then ([], (cuNum l a e).2.1, (cuNum l a e).2.2)
  else textsL l lim (cuNum l a e).1.toNat [] (cuNum l a e).2.1
def TextsPost (w0 w : World) (g : Nat) (l : List Int) (r : List ByteArray × Int × Int) (en : Ending) (w' : World) : Prop :=
  ∃ v, en = .returned v ∧ Kd.R Kd.string 9 w' w.heap.size (fun k => k ≠ g) v r.1 ∧ IsCu w0 w' g l r.2.1 r.2.2 ∧ w.grownBy w' (some g) ∧ Below w0.heap.size w0 w'
theorem info_text : (Try.prog.info? 9).map (fun i => (i.zero, i.size, i.bytes)) = some (some (.string ⟨#[]⟩), 1, 16) := by kernel_rfl
set_option maxRecDepth 100000 in
set_option maxHeartbeats 2000000 in
theorem many_text (w0 w : World) (g : Nat) (pc pe : Addr) (l : List Int) (lim : Int) (at0 e most : Int) (hI : IsCu w0 w g l at0 e) (hB : Below w0.heap.size w0 w) (hb : ∀ x ∈ l, 0 ≤ x ∧ x < 256) (hl : l.length ≤ 1000000) (ha : 0 ≤ at0 ∧ at0 ≤ l.length) (hmost : -9223372036854775808 ≤ most ∧ most ≤ 9223372036854775807)
    (hT : ∀ W a' e', w.grownBy W (some g) → IsCu w0 W g l a' e' → Below w0.heap.size w0 W → Calls Try.prog 65 #[.pointer (some pc), .pointer (some pe)] W (CuPost w0 W g l (.string (cuText l lim a' e').1) (cuText l lim a' e').2.1 (cuText l lim a' e').2.2)) :
    Calls Try.prog 64 #[.pointer (some ⟨g, 0, none⟩), .int .i64 most, .func (.func 65) #[] #[.pointer (some pc), .pointer (some pe)]] w (TextsPost w0 w g l (cuTexts l lim most at0 e)) := by
  have hstep := cuNum_step l hb at0 e ha
  have HST := Lib.hid (fun a' (h : 0 ≤ a' ∧ a' ≤ (l.length : Int)) => (show (cuText l lim a' 0).2.1 ≤ l.length ∧ a' ≤ (cuText l lim a' 0).2.1 ∧ ((cuText l lim a' 0).2.2 = 0 → a' + 1 ≤ (cuText l lim a' 0).2.1) from ⟨(cuText_step l hb lim a' 0 h).1, (cuText_step l hb lim a' 0 h).2.1, fun h0 => ((cuText_step l hb lim a' 0 h).2.2.1 h0).1⟩))
  have HN := Lib.hid (num_any w0 w g l at0 e hI hB hb hl)
  have HT := Lib.hid hT
  obtain ⟨M, hM⟩ : ∃ M, mx0 most = M := ⟨_, rfl⟩
  have hM2 : (if most < 0 then 0 else most) = M := hM
  have hM0 : 0 ≤ M ∧ M ≤ 9223372036854775807 := by rw [← hM]; unfold mx0; split <;> omega
  have hw : IntKind.u64.wrap M = M := by rw [IntKind.wrap_u64]; omega
  have hS : cuTexts l lim most at0 e = if M < (cuNum l at0 e).1 then ([], (cuNum l at0 e).2.1, 5) else if (cuNum l at0 e).2.2 ≠ 0 then ([], (cuNum l at0 e).2.1, (cuNum l at0 e).2.2) else textsL l lim (cuNum l at0 e).1.toNat [] (cuNum l at0 e).2.1 := by unfold cuTexts; rw [hM]
  rw [hS]
  obtain ⟨ni, hni⟩ : ∃ ni, (cuNum l at0 e).1 = ni := ⟨_, rfl⟩
  obtain ⟨a1, ha1⟩ : ∃ a1, (cuNum l at0 e).2.1 = a1 := ⟨_, rfl⟩
  obtain ⟨e1, he1⟩ : ∃ e1, (cuNum l at0 e).2.2 = e1 := ⟨_, rfl⟩
  rw [hni, ha1, he1] at hstep HN ⊢
  obtain ⟨n, rfl⟩ := Int.eq_ofNat_of_zero_le hstep.2.2.2.1
  have hn64 : n < 18446744073709551616 := by omega
  have ha1b : 0 ≤ a1 ∧ a1 ≤ l.length := by omega
  have hz : e1 ≠ 0 → n = 0 := fun h => by have := (hstep.2.2.2.2.2.1 h).1; omega
  clear hS hM hT hstep hni ha1 he1 hI
  by_cases hgt : M < (n : Int)
  · rw [if_pos hgt]
    have hgt1 : decide (M < (n : Int)) = true := decide_eq_true hgt
    have he10 : e1 = 0 := by
      by_cases h : e1 = 0
      · exact h
      · have := hz h; omega
    subst he10
    have hn1 : 0 < n := by omega
    clear hz
    go_enter Try.func64, Try.ntmps64
    go_wp2_with fail
    refine HN.out.mono ?_
    rintro en w1 ⟨rfl, hI1, hg1, hB1⟩
    have HF := Lib.hid (fail_any w0 w1 g l a1 0 5 hI1 hB1)
    have HG1 := Lib.hid hg1
    rw [if_pos rfl] at HF
    clear hI1 hg1 hB1
    go_wp2_with fail
    refine HF.out.mono ?_
    rintro en w2 ⟨rfl, hI2, hg2, hB2⟩
    have HG2 := Lib.hid (HG1.out.trans hg2)
    have HT2 := Lib.hid (HT.out w2 a1 5 HG2.out hI2 hB2)
    have HI2 := Lib.hid hI2
    clear hI2 hg2 hB2
    have hs5 : cuText l lim a1 5 = (⟨#[]⟩, a1, 5) := by unfold cuText; rw [if_pos (by decide)]
    rw [hs5] at HT2
    clear hs5
    go_wp2_with fail
    refine (wp_loop_rounds 1 ?_)
    rw [rounds_succ]
    go_wp2_with fail
    refine HT2.out.mono ?_
    rintro en w3 ⟨rfl, hI3, hg3, hB3⟩
    obtain ⟨A3, c3, _, _, _, _, d0, d1, d2, _, _⟩ := cu_cells hI3
    have HP := Lib.hid (And.intro hI3 (And.intro (HG2.out.trans hg3) hB3))
    clear hI3 hg3 hB3
    go_wp2_with fail
    go_ret
    exact ⟨_, rfl, Kd.R_nil _ _ _ _ _, HP.out.1, HP.out.2.1, HP.out.2.2⟩
  · rw [if_neg hgt]
    have hgt1 : decide (M < (n : Int)) = false := decide_eq_false hgt
    have hRES : (if e1 ≠ 0 then ([], a1, e1) else textsL l lim (n : Int).toNat [] a1) = if e1 ≠ 0 then ([], a1, e1) else textsL l lim n [] a1 := by rw [Int.toNat_natCast]
    rw [hRES]
    clear hRES
    have HZ := Lib.hid hz
    clear hz
    obtain ⟨res, HRES⟩ : ∃ res, Hid ((if e1 ≠ 0 then ([], a1, e1) else textsL l lim n [] a1) = res) := ⟨_, Lib.hid rfl⟩
    rw [HRES.out]
    have hRL : e1 = 0 → textsL l lim n [] a1 = res := fun h => by rw [← HRES.out, if_neg (by simpa using h)]
    have hRE : e1 ≠ 0 → res = ([], a1, e1) := fun h => by rw [← HRES.out, if_pos h]
    have HRL := Lib.hid hRL
    have HRE := Lib.hid hRE
    clear hRL hRE HRES
    go_enter Try.func64, Try.ntmps64
    go_wp2_with fail
    refine HN.out.mono ?_
    rintro en w1 ⟨rfl, hI1, hg1, hB1⟩
    have HI1 := Lib.hid (And.intro hI1 (And.intro hg1 hB1))
    clear hI1 hg1 hB1
    go_wp2_with fail
    go_loopw [8, 20] (fun u8 u wr => ∃ (i : Nat) (acc : List ByteArray) (a' : Int), i ≤ n ∧ u = .int .u64 i ∧ (∃ A8 c8, u8 = .slice A8 acc.length c8) ∧ 0 ≤ a' ∧ a' ≤ l.length ∧ (acc.length : Int) ≤ a' ∧ Hid (Kd.R Kd.string 9 wr w.heap.size (fun k => k ≠ g) u8 acc) ∧ Hid (IsCu w0 wr g l a' e1) ∧ Hid (e1 = 0 → textsL l lim (n - i) acc a' = res) ∧ Hid (e1 ≠ 0 → acc = [] ∧ a' = a1) ∧ Hid (w.grownBy wr (some g)) ∧ Hid (Below w0.heap.size w0 wr)) (fun _ v _ => n - (intOf v).toNat)
    case atStart => exact ⟨0, [], a1, by omega, rfl, ⟨_, _, rfl⟩, ha1b.1, ha1b.2, ha1b.1, Kd.R_nil _ _ _ _ _, HI1.out.1, fun h => HRL.out h, fun h => ⟨rfl, rfl⟩, HI1.out.2.1, HI1.out.2.2⟩
    case round =>
      obtain ⟨i, acc, a', hi, rfl, ⟨A8, c8, rfl⟩, ha0', hal', hacc, HR, HI, HLE, HEE, HG, HBW⟩ := hrel
      by_cases hlt : i < n
      · have he10 : e1 = 0 := by
          by_cases h : e1 = 0
          · exact h
          · have := HZ.out h; omega
        subst he10
        have hst := HST.out a' ⟨ha0', hal'⟩
        have hle := HLE.out rfl
        rw [show n - i = (n - (i + 1)) + 1 by omega, textsL] at hle
        have hT1 := HT.out wr a' 0 HG.out HI.out HBW.out
        obtain ⟨x, hx⟩ : ∃ x, (cuText l lim a' 0).1 = x := ⟨_, rfl⟩
        obtain ⟨a2, ha2⟩ : ∃ a2, (cuText l lim a' 0).2.1 = a2 := ⟨_, rfl⟩
        obtain ⟨e2, he2⟩ : ∃ e2, (cuText l lim a' 0).2.2 = e2 := ⟨_, rfl⟩
        rw [hx, ha2, he2] at hle hT1
        simp only [ha2, he2] at hst
        have HT1 := Lib.hid hT1
        have HLE2 := Lib.hid hle
        have ha2l := hst.1
        have ha2g := hst.2.1
        have ha2s := hst.2.2
        clear hle hT1 hx ha2 he2 hst HLE HEE
        by_cases hne : e2 = 0
        · have hne1 : (e2 != 0) = false := by rw [hne]; rfl
          have ha2s' := ha2s hne
          have hle3 := HLE2.out
          rw [if_neg (by simpa using hne)] at hle3
          have HLE3 := Lib.hid hle3
          subst hne
          clear hle3 ha2s
          go_wp2_with fail
          refine HT1.out.mono ?_
          rintro en w2 ⟨rfl, hI2, hg2, hB2⟩
          obtain ⟨A3, c3, _, _, hgg, hh3, d0, d1, d2, _, _⟩ := cu_cells hI2
          have hglt : g < w2.heap.size := (Array.getElem?_eq_some_iff.1 hh3).1
          have HG2 := Lib.hid (HG.out.trans hg2)
          have HI2 := Lib.hid (And.intro hI2 hB2)
          have HR2 := Lib.hid (Kd.R_grown HR.out hg2 (fun k hk => by intro e; cases e; exact hk rfl))
          have HHG := Lib.hid hh3
          clear hI2 hg2 hB2 hh3
          go_wp2_with (at_builtin; refine Halt.mk ?_)
          refine Halt.of ?_
          have hwsz : w.heap.size ≤ w2.heap.size := HG2.out.size
          refine Kd.R_append Kd.string (w0 := w2) w.heap.size rfl (.tmp 29) (.tmp 31) 22 9 (.string ⟨#[]⟩) 16 rfl Try.underlying22 info_text rfl (by decide) (by omega) _ acc x [.string x] (fun k => k ≠ g) (fun _ => False) rfl rfl rfl (fun _ h => h.elim) (fun k hk => by omega) HR2.out ?hB hwsz (by omega) ?_
          case hB => exact ⟨rfl, rfl, rfl, Nat.le_refl _, fun _ _ => rfl⟩
          intro v1 w3 hR3 hb3 hgr3 _
          obtain ⟨A9, c9, rfl⟩ := Kd.R_slice hR3
          have hrow : ∀ k, (Value.slice A8 acc.length c8).ownBlock = some k → w.heap.size ≤ k ∧ k ≠ g := fun k hk => ⟨Kd.R_base HR2.out k hk, HR2.out.1 k hk⟩
          have HI3 := Lib.hid (HI2.out.1.grown hgr3 (fun e => (hrow g e.symm).2 rfl))
          have HG3 := Lib.hid (World.grownBy.andThen HG2.out hgr3 (fun k hk => .inl (hrow k hk).1))
          have HB3 := Lib.hid (HI2.out.2.grown hgr3 HI2.out.2.size (fun k hk => Nat.le_trans hB.size (hrow k hk).1))
          have HR3 := Lib.hid hR3
          clear hR3 hb3 hgr3 hrow d0 d1 d2
          go_wp2
          go_roundw
          case rel => exact ⟨i + 1, acc ++ [x], a2, by omega, by go_num, ⟨A9, c9, by simp⟩, by omega, by omega, by simp; omega, by first | exact HR3 | (simpa using HR3), HI3, fun _ => HLE3.out, fun h => absurd rfl h, HG3, HB3⟩
          case measure => simp [intOf]; omega
        · have hne1 : (e2 != 0) = true := by simpa using hne
          have hle3 := HLE2.out
          rw [if_pos hne] at hle3
          have HLE3 := Lib.hid hle3
          clear hle3 ha2s hne
          go_wp2_with fail
          refine HT1.out.mono ?_
          rintro en w2 ⟨rfl, hI2, hg2, hB2⟩
          obtain ⟨A3, c3, _, _, hgg, hh3, d0, d1, d2, _, _⟩ := cu_cells hI2
          have HP := Lib.hid (And.intro hI2 (And.intro (HG.out.trans hg2) hB2))
          clear hI2 hg2 hB2 hh3
          go_wp2_with fail
          go_ret
          refine ⟨_, rfl, ?_, ?_, HP.out.2.1, HP.out.2.2⟩
          · rw [← HLE3.out]; exact Kd.R_nil _ _ _ _ _
          · rw [← HLE3.out]; exact HP.out.1
      · obtain rfl : n = i := by omega
        have HFIN := Lib.hid (show res = (acc, a', e1) from by
          by_cases h : e1 = 0
          · have := HLE.out h
            rw [Nat.sub_self, textsL] at this
            rw [← this, h]
          · rw [HRE.out h, (HEE.out h).1, (HEE.out h).2])
        go_wp2_with fail
        go_ret
        refine ⟨_, rfl, ?_, ?_, HG.out, HBW.out⟩
        · rw [HFIN.out]; exact HR.out
        · rw [HFIN.out]; exact HI.out
end Go.Proofs.Ythpbkhagjgggjaa
