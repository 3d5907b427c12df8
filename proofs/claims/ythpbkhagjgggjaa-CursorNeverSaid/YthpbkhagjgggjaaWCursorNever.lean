/- Its place is from 0 to how many bytes there are, and never goes back; behind an error nothing is taken: the law CursorNever returns true, and writes nothing that was there (up to 500 bytes, 40 calls). -/
import Derived.Test.YthpbkhagjgggjaaCuT
set_option linter.unusedVariables false
set_option linter.unusedSimpArgs false
namespace Go.Proofs.Ythpbkhagjgggjaa.WCursorNever
open Go.RowKit Go.Proofs.YthpbkhagjgggjaaW.PrintWords Go.Proofs.Ythpbkhagjgggjaa.GVB

theorem never_great (A : Option Addr) (c : Nat) (l : List Int) (at0 : Int) (B : Option Addr) (d : Nat) (ts : List Take4) (w : World) (hg : 500 < (l.length : Int) ∨ ¬ 500 < (l.length : Int) ∧ 40 < (ts.length : Int)) (h1 : l.length ≤ 9223372036854775807) (h2 : ts.length ≤ 9223372036854775807) :
    Calls Try.prog 5 #[.slice A l.length c, .int .i64 at0, .slice B ts.length d] w fun e w' => e = .returned (.bool true) ∧ Below w.heap.size w w' := by
  rcases hg with h | ⟨h, h'⟩
  · have d0 : decide (500 < (l.length : Int)) = true := decide_eq_true h
    go_enter Try.func5, Try.ntmps5
    go_wp2_with (go_at_call 15; refine (fixed4_any _).mono ?_; rintro e w1 ⟨rfl, hb⟩)
    go_ret
    exact ⟨rfl, hb⟩
  · have d0 : decide (500 < (l.length : Int)) = false := decide_eq_false h
    have d1 : decide (40 < (ts.length : Int)) = true := decide_eq_true h'
    go_enter Try.func5, Try.ntmps5
    go_wp2_with (go_at_call 15; refine (fixed4_any _).mono ?_; rintro e w1 ⟨rfl, hb⟩)
    go_ret
    exact ⟨rfl, hb⟩
set_option maxRecDepth 100000 in
set_option maxHeartbeats 8000000 in
theorem never_main (A : Option Addr) (c : Nat) (l : List Int) (at0 : Int) (B : Option Addr) (d : Nat) (ts : List Take4) (w : World) (hC : Kd.C (Kd.int .u8) w A l.length l) (hc : l.length ≤ c) (hb : ∀ x ∈ l, 0 ≤ x ∧ x < 256) (hl : l.length ≤ 500) (hT : Kd.C kdTake w B ts.length ts) (hok : ∀ t ∈ ts, okTake t) (hts : ts.length ≤ 40) :
    Calls Try.prog 5 #[.slice A l.length c, .int .i64 at0, .slice B ts.length d] w fun e w' => e = .returned (.bool true) ∧ Below w.heap.size w w' := by
  have d0 : decide (500 < (l.length : Int)) = false := decide_eq_false (by omega)
  have d1 : decide (40 < (ts.length : Int)) = false := decide_eq_false (by omega)
  have HN := Lib.hid (new_any A c l at0 w hC hc (by omega))
  have HTS := Lib.hid (fun (W : World) (h : Below w.heap.size w W) => Kd.C_below hT h)
  have HOK := Lib.hid hok
  have HBY := Lib.hid hb
  have hna := newAt_in l at0
  obtain ⟨a0, ha0⟩ : ∃ a0, newAt l at0 = a0 := ⟨_, rfl⟩
  obtain ⟨e0, he0⟩ : ∃ e0, newE l at0 = e0 := ⟨_, rfl⟩
  unfold NewPost at HN
  rw [ha0, he0] at HN
  rw [ha0] at hna
  clear hC hT hok hb ha0 he0
  go_enter Try.func5, Try.ntmps5
  go_wp2_with fail
  refine HN.out.mono ?_
  rintro en w1 ⟨g, w0, rfl, hbw, hI, hB, _⟩
  have HA := Lib.hid (at_any w0 w1 g l a0 e0 hI)
  have HI1 := Lib.hid (And.intro hI (And.intro hB (And.intro hbw (hbw.trans (hB.mono hbw.size)))))
  clear hI hB hbw
  go_wp2_with fail
  refine HA.out.mono ?_
  rintro en w2 ⟨rfl, rfl⟩
  go_wp2_with fail
  go_loopw [8, 31] (fun u8 u wr => ∃ (i : Nat) (a e : Int), i ≤ ts.length ∧ u = .int .i64 i ∧ u8 = .int .i64 a ∧ 0 ≤ a ∧ a ≤ l.length ∧ Hid (IsCu w0 wr g l a e) ∧ Hid (Below w0.heap.size w0 wr) ∧ Hid (Below w.heap.size w wr)) (fun _ v _ => ts.length - (intOf v).toNat)
  case atStart => exact ⟨0, a0, e0, by omega, rfl, rfl, hna.1, hna.2, HI1.out.1, HI1.out.2.1, HI1.out.2.2.2⟩
  case round =>
    obtain ⟨i, a, e, hi, rfl, rfl, ha1, ha2, HI, HB, HBW⟩ := hrel
    by_cases hlt : i < ts.length
    · obtain ⟨ad, he, hc0, hc1, hc2⟩ := take_at (HTS.out wr HBW.out) i hlt
      subst he
      have hw := HOK.out ts[i] (List.getElem_mem _)
      generalize ts[i] = t at *
      obtain ⟨kd, most, each⟩ := t
      have hw2 : -9223372036854775808 ≤ most ∧ most ≤ 9223372036854775807 := by have := hw.2.1; simp [Lit.wf, IntKind.min, IntKind.max, IntKind.signed, IntKind.bits] at this; omega
      have hw3 : -9223372036854775808 ≤ each ∧ each ≤ 9223372036854775807 := by have := hw.2.2; simp [Lit.wf, IntKind.min, IntKind.max, IntKind.signed, IntKind.bits] at this; omega
      dsimp only at hc0 hc1 hc2
      have HW := Lib.hid (And.intro hw2 hw3)
      clear hw hw2 hw3
      by_cases q0 : kd = 0
      · subst q0
        have HE0 := Lib.hid (err_any w0 (wr.alloc (.cells #[.int .i64 0, .int .i64 most, .int .i64 each] 44)) g l a e (HI.out.keep ((Below.refl _ _).alloc (Nat.le_refl _) _)))
        go_wp2_with fail
        refine HE0.out.mono ?_
        rintro en w2 ⟨rfl, hw2⟩
        have hbx : Below wr.heap.size wr w2 := by rw [← hw2]; exact (Below.refl _ _).alloc (Nat.le_refl _) _
        have hBx : Below w0.heap.size w0 w2 := HB.out.trans (hbx.mono HB.out.size)
        have hBWx : Below w.heap.size w w2 := HBW.out.trans (hbx.mono HBW.out.size)
        have hblk : w2.heap[wr.heap.size]? = some (.cells #[.int .i64 0, .int .i64 most, .int .i64 each] 44 (0, 0)) := by rw [← hw2]; exact blk_new _ _
        obtain ⟨k0, k1, k2⟩ : w2.cell? ⟨wr.heap.size, 0, none⟩ = some (.int .i64 0) ∧ w2.cell? ⟨wr.heap.size, 1, none⟩ = some (.int .i64 most) ∧ w2.cell? ⟨wr.heap.size, 2, none⟩ = some (.int .i64 each) := by simp [World.cell?, hblk]
        have HCALL := Lib.hid (byte_any w0 w2 g l a e (HI.out.keep hbx) hBx (by omega) ⟨ha1, ha2⟩)
        have hst := (cuByte_step l HBY.out a e ⟨ha1, ha2⟩)
        obtain ⟨R, hR⟩ : ∃ R, cuByte l a e = R := ⟨_, rfl⟩
        rw [hR] at HCALL hst
        obtain ⟨x, a2, e2⟩ := R
        dsimp only at hst
        have hs1 : a2 ≤ l.length := hst.1
        have hs2 : a ≤ a2 := hst.2.1
        have HX := Lib.hid (And.intro hbx (And.intro hBx hBWx))
        clear hw2 hbx hBx hBWx hblk hR
        have hx1 : 0 ≤ x ∧ x < 256 := ⟨hst.2.2.1, hst.2.2.2.1⟩
        have hs3 : e ≠ 0 → x = 0 ∧ a2 = a ∧ e2 = e := fun h => by have := hst.2.2.2.2 h; injection this with h1 h2; injection h2 with h2 h3; exact ⟨h1, h2, h3⟩
        clear hst
        go_wp2_with fail
        refine HCALL.out.mono ?_
        rintro en w3 ⟨rfl, hI3, hg3, hB3⟩
        have HI3 := Lib.hid hI3
        have HB3 := Lib.hid (And.intro hB3 (HX.out.2.2.grown hg3 HX.out.2.2.size (fun k hk => by cases hk; have := HI1.out.2.2.1.size; obtain ⟨_, _, _, h, _⟩ := HI.out; omega)))
        clear hI3 hg3 hB3
        have HA3 := Lib.hid (at_any w0 w3 g l a2 e2 HI3.out)
        have HE3 := Lib.hid (err_any w0 w3 g l a2 e2 HI3.out)
        have HL3 := Lib.hid (left_any w0 w3 g l a2 e2 HI3.out (by omega) ⟨by omega, hs1⟩)
        by_cases hee : e = 0
        · have ne : (e != 0) = false := by rw [hee]; rfl
          clear hs3
          go_wp2_with fail
          refine HA3.out.mono ?_
          rintro en w4 ⟨rfl, rfl⟩
          have f1 : decide (a2 < a) = false := decide_eq_false (by omega)
          go_wp2_with fail
          refine HA3.out.mono ?_
          rintro en w4 ⟨rfl, rfl⟩
          have f2 : decide ((l.length : Int) < a2) = false := decide_eq_false (by omega)
          go_wp2_with fail
          refine HL3.out.mono ?_
          rintro en w4 ⟨rfl, hb4⟩
          have HI4 := Lib.hid (HI3.out.keep hb4)
          have HA4 := Lib.hid (at_any w0 w4 g l a2 e2 HI4.out)
          have HB4 := Lib.hid (And.intro (HB3.out.1.trans (hb4.mono HB3.out.1.size)) (HB3.out.2.trans (hb4.mono HB3.out.2.size)))
          clear hb4
          go_wp2_with fail
          refine HA4.out.mono ?_
          rintro en w5 ⟨rfl, rfl⟩
          go_wp2_with fail
          refine HA4.out.mono ?_
          rintro en w5 ⟨rfl, rfl⟩
          go_wp2
          go_roundw
          case rel => exact ⟨i + 1, a2, e2, by omega, by go_num, rfl, by omega, hs1, HI4.out, HB4.out.1, HB4.out.2⟩
          case measure => simp [intOf]; omega
        · have ne : (e != 0) = true := by simpa using hee
          obtain ⟨hz1, hz2, hz3⟩ := hs3 hee
          cases hz1
          cases hz2
          cases hz3
          clear hs3
          go_wp2_with fail
          refine HA3.out.mono ?_
          rintro en w4 ⟨rfl, rfl⟩
          go_wp2_with fail
          refine HA3.out.mono ?_
          rintro en w4 ⟨rfl, rfl⟩
          have f2 : decide ((l.length : Int) < a) = false := decide_eq_false (by omega)
          go_wp2_with fail
          refine HL3.out.mono ?_
          rintro en w4 ⟨rfl, hb4⟩
          have HI4 := Lib.hid (HI3.out.keep hb4)
          have HA4 := Lib.hid (at_any w0 w4 g l a e HI4.out)
          have HE4 := Lib.hid (err_any w0 w4 g l a e HI4.out)
          have HB4 := Lib.hid (And.intro (HB3.out.1.trans (hb4.mono HB3.out.1.size)) (HB3.out.2.trans (hb4.mono HB3.out.2.size)))
          clear hb4
          go_wp2_with fail
          refine HA4.out.mono ?_
          rintro en w5 ⟨rfl, rfl⟩
          go_wp2_with fail
          refine HA4.out.mono ?_
          rintro en w5 ⟨rfl, rfl⟩
          go_wp2_with fail
          refine HE4.out.mono ?_
          rintro en w5 ⟨rfl, rfl⟩
          go_wp2_with fail
          refine HA4.out.mono ?_
          rintro en w5 ⟨rfl, rfl⟩
          go_wp2
          go_roundw
          case rel => exact ⟨i + 1, a, e, by omega, by go_num, rfl, by omega, by omega, HI4.out, HB4.out.1, HB4.out.2⟩
          case measure => simp [intOf]; omega
      · have p0 : (kd == 0) = false := by simpa using q0
        clear q0
        by_cases q1 : kd = 1
        · subst q1
          have HE0 := Lib.hid (err_any w0 (wr.alloc (.cells #[.int .i64 1, .int .i64 most, .int .i64 each] 44)) g l a e (HI.out.keep ((Below.refl _ _).alloc (Nat.le_refl _) _)))
          go_wp2_with fail
          refine HE0.out.mono ?_
          rintro en w2 ⟨rfl, hw2⟩
          have hbx : Below wr.heap.size wr w2 := by rw [← hw2]; exact (Below.refl _ _).alloc (Nat.le_refl _) _
          have hBx : Below w0.heap.size w0 w2 := HB.out.trans (hbx.mono HB.out.size)
          have hBWx : Below w.heap.size w w2 := HBW.out.trans (hbx.mono HBW.out.size)
          have hblk : w2.heap[wr.heap.size]? = some (.cells #[.int .i64 1, .int .i64 most, .int .i64 each] 44 (0, 0)) := by rw [← hw2]; exact blk_new _ _
          obtain ⟨k0, k1, k2⟩ : w2.cell? ⟨wr.heap.size, 0, none⟩ = some (.int .i64 1) ∧ w2.cell? ⟨wr.heap.size, 1, none⟩ = some (.int .i64 most) ∧ w2.cell? ⟨wr.heap.size, 2, none⟩ = some (.int .i64 each) := by simp [World.cell?, hblk]
          have HCALL := Lib.hid (num_any w0 w2 g l a e (HI.out.keep hbx) hBx HBY.out (by omega))
          have hst := (cuNum_step l HBY.out a e ⟨ha1, ha2⟩)
          obtain ⟨R, hR⟩ : ∃ R, cuNum l a e = R := ⟨_, rfl⟩
          rw [hR] at HCALL hst
          obtain ⟨x, a2, e2⟩ := R
          dsimp only at hst
          have hs1 : a2 ≤ l.length := hst.1
          have hs2 : a ≤ a2 := hst.2.1
          have HX := Lib.hid (And.intro hbx (And.intro hBx hBWx))
          clear hw2 hbx hBx hBWx hblk hR
          have hx1 : 0 ≤ x ∧ x < 18446744073709551616 := ⟨hst.2.2.2.1, hst.2.2.2.2.1⟩
          have hs3 : e ≠ 0 → x = 0 ∧ a2 = a ∧ e2 = e := fun h => by have h5 := hst.2.2.2.2.2.2 h; have := hst.2.2.2.2.2.1 (by rw [h5]; exact h); exact ⟨this.1, this.2, h5⟩
          clear hst
          go_wp2_with fail
          refine HCALL.out.mono ?_
          rintro en w3 ⟨rfl, hI3, hg3, hB3⟩
          have HI3 := Lib.hid hI3
          have HB3 := Lib.hid (And.intro hB3 (HX.out.2.2.grown hg3 HX.out.2.2.size (fun k hk => by cases hk; have := HI1.out.2.2.1.size; obtain ⟨_, _, _, h, _⟩ := HI.out; omega)))
          clear hI3 hg3 hB3
          have HA3 := Lib.hid (at_any w0 w3 g l a2 e2 HI3.out)
          have HE3 := Lib.hid (err_any w0 w3 g l a2 e2 HI3.out)
          have HL3 := Lib.hid (left_any w0 w3 g l a2 e2 HI3.out (by omega) ⟨by omega, hs1⟩)
          by_cases hee : e = 0
          · have ne : (e != 0) = false := by rw [hee]; rfl
            clear hs3
            go_wp2_with fail
            refine HA3.out.mono ?_
            rintro en w4 ⟨rfl, rfl⟩
            have f1 : decide (a2 < a) = false := decide_eq_false (by omega)
            go_wp2_with fail
            refine HA3.out.mono ?_
            rintro en w4 ⟨rfl, rfl⟩
            have f2 : decide ((l.length : Int) < a2) = false := decide_eq_false (by omega)
            go_wp2_with fail
            refine HL3.out.mono ?_
            rintro en w4 ⟨rfl, hb4⟩
            have HI4 := Lib.hid (HI3.out.keep hb4)
            have HA4 := Lib.hid (at_any w0 w4 g l a2 e2 HI4.out)
            have HB4 := Lib.hid (And.intro (HB3.out.1.trans (hb4.mono HB3.out.1.size)) (HB3.out.2.trans (hb4.mono HB3.out.2.size)))
            clear hb4
            go_wp2_with fail
            refine HA4.out.mono ?_
            rintro en w5 ⟨rfl, rfl⟩
            go_wp2_with fail
            refine HA4.out.mono ?_
            rintro en w5 ⟨rfl, rfl⟩
            go_wp2
            go_roundw
            case rel => exact ⟨i + 1, a2, e2, by omega, by go_num, rfl, by omega, hs1, HI4.out, HB4.out.1, HB4.out.2⟩
            case measure => simp [intOf]; omega
          · have ne : (e != 0) = true := by simpa using hee
            obtain ⟨hz1, hz2, hz3⟩ := hs3 hee
            cases hz1
            cases hz2
            cases hz3
            clear hs3
            go_wp2_with fail
            refine HA3.out.mono ?_
            rintro en w4 ⟨rfl, rfl⟩
            go_wp2_with fail
            refine HA3.out.mono ?_
            rintro en w4 ⟨rfl, rfl⟩
            have f2 : decide ((l.length : Int) < a) = false := decide_eq_false (by omega)
            go_wp2_with fail
            refine HL3.out.mono ?_
            rintro en w4 ⟨rfl, hb4⟩
            have HI4 := Lib.hid (HI3.out.keep hb4)
            have HA4 := Lib.hid (at_any w0 w4 g l a e HI4.out)
            have HE4 := Lib.hid (err_any w0 w4 g l a e HI4.out)
            have HB4 := Lib.hid (And.intro (HB3.out.1.trans (hb4.mono HB3.out.1.size)) (HB3.out.2.trans (hb4.mono HB3.out.2.size)))
            clear hb4
            go_wp2_with fail
            refine HA4.out.mono ?_
            rintro en w5 ⟨rfl, rfl⟩
            go_wp2_with fail
            refine HA4.out.mono ?_
            rintro en w5 ⟨rfl, rfl⟩
            go_wp2_with fail
            refine HE4.out.mono ?_
            rintro en w5 ⟨rfl, rfl⟩
            go_wp2_with fail
            refine HA4.out.mono ?_
            rintro en w5 ⟨rfl, rfl⟩
            go_wp2
            go_roundw
            case rel => exact ⟨i + 1, a, e, by omega, by go_num, rfl, by omega, by omega, HI4.out, HB4.out.1, HB4.out.2⟩
            case measure => simp [intOf]; omega
        · have p1 : (kd == 1) = false := by simpa using q1
          clear q1
          by_cases q2 : kd = 2
          · subst q2
            have HE0 := Lib.hid (err_any w0 (wr.alloc (.cells #[.int .i64 2, .int .i64 most, .int .i64 each] 44)) g l a e (HI.out.keep ((Below.refl _ _).alloc (Nat.le_refl _) _)))
            go_wp2_with fail
            refine HE0.out.mono ?_
            rintro en w2 ⟨rfl, hw2⟩
            have hbx : Below wr.heap.size wr w2 := by rw [← hw2]; exact (Below.refl _ _).alloc (Nat.le_refl _) _
            have hBx : Below w0.heap.size w0 w2 := HB.out.trans (hbx.mono HB.out.size)
            have hBWx : Below w.heap.size w w2 := HBW.out.trans (hbx.mono HBW.out.size)
            have hblk : w2.heap[wr.heap.size]? = some (.cells #[.int .i64 2, .int .i64 most, .int .i64 each] 44 (0, 0)) := by rw [← hw2]; exact blk_new _ _
            obtain ⟨k0, k1, k2⟩ : w2.cell? ⟨wr.heap.size, 0, none⟩ = some (.int .i64 2) ∧ w2.cell? ⟨wr.heap.size, 1, none⟩ = some (.int .i64 most) ∧ w2.cell? ⟨wr.heap.size, 2, none⟩ = some (.int .i64 each) := by simp [World.cell?, hblk]
            have HCALL := Lib.hid (text_any w0 w2 g l a e most (HI.out.keep hbx) hBx HBY.out (by omega) HW.out.1)
            have hst := (cuText_step l HBY.out most a e ⟨ha1, ha2⟩)
            obtain ⟨R, hR⟩ : ∃ R, cuText l most a e = R := ⟨_, rfl⟩
            rw [hR] at HCALL hst
            obtain ⟨x, a2, e2⟩ := R
            dsimp only at hst
            have hs1 : a2 ≤ l.length := hst.1
            have hs2 : a ≤ a2 := hst.2.1
            have HX := Lib.hid (And.intro hbx (And.intro hBx hBWx))
            clear hw2 hbx hBx hBWx hblk hR
            have hs3 : e ≠ 0 → x = ⟨#[]⟩ ∧ a2 = a ∧ e2 = e := fun h => by have h5 := hst.2.2.2.2.1 h; have := hst.2.2.2.1 (by rw [h5]; exact h); exact ⟨this.1, this.2, h5⟩
            have hxs : x.size ≤ 500 := by have := hst.2.2.2.2.2; omega
            clear hst
            go_wp2_with fail
            refine HCALL.out.mono ?_
            rintro en w3 ⟨rfl, hI3, hg3, hB3⟩
            have HI3 := Lib.hid hI3
            have HB3 := Lib.hid (And.intro hB3 (HX.out.2.2.grown hg3 HX.out.2.2.size (fun k hk => by cases hk; have := HI1.out.2.2.1.size; obtain ⟨_, _, _, h, _⟩ := HI.out; omega)))
            clear hI3 hg3 hB3
            have HA3 := Lib.hid (at_any w0 w3 g l a2 e2 HI3.out)
            have HE3 := Lib.hid (err_any w0 w3 g l a2 e2 HI3.out)
            have HL3 := Lib.hid (left_any w0 w3 g l a2 e2 HI3.out (by omega) ⟨by omega, hs1⟩)
            by_cases hee : e = 0
            · have ne : (e != 0) = false := by rw [hee]; rfl
              clear hs3
              go_wp2_with fail
              refine HA3.out.mono ?_
              rintro en w4 ⟨rfl, rfl⟩
              have f1 : decide (a2 < a) = false := decide_eq_false (by omega)
              go_wp2_with fail
              refine HA3.out.mono ?_
              rintro en w4 ⟨rfl, rfl⟩
              have f2 : decide ((l.length : Int) < a2) = false := decide_eq_false (by omega)
              go_wp2_with fail
              refine HL3.out.mono ?_
              rintro en w4 ⟨rfl, hb4⟩
              have HI4 := Lib.hid (HI3.out.keep hb4)
              have HA4 := Lib.hid (at_any w0 w4 g l a2 e2 HI4.out)
              have HB4 := Lib.hid (And.intro (HB3.out.1.trans (hb4.mono HB3.out.1.size)) (HB3.out.2.trans (hb4.mono HB3.out.2.size)))
              clear hb4
              go_wp2_with fail
              refine HA4.out.mono ?_
              rintro en w5 ⟨rfl, rfl⟩
              go_wp2_with fail
              refine HA4.out.mono ?_
              rintro en w5 ⟨rfl, rfl⟩
              go_wp2
              go_roundw
              case rel => exact ⟨i + 1, a2, e2, by omega, by go_num, rfl, by omega, hs1, HI4.out, HB4.out.1, HB4.out.2⟩
              case measure => simp [intOf]; omega
            · have ne : (e != 0) = true := by simpa using hee
              obtain ⟨hz1, hz2, hz3⟩ := hs3 hee
              subst hz1
              cases hz2
              cases hz3
              clear hs3
              go_wp2_with fail
              refine HA3.out.mono ?_
              rintro en w4 ⟨rfl, rfl⟩
              go_wp2_with fail
              refine HA3.out.mono ?_
              rintro en w4 ⟨rfl, rfl⟩
              have f2 : decide ((l.length : Int) < a) = false := decide_eq_false (by omega)
              go_wp2_with fail
              refine HL3.out.mono ?_
              rintro en w4 ⟨rfl, hb4⟩
              have HI4 := Lib.hid (HI3.out.keep hb4)
              have HA4 := Lib.hid (at_any w0 w4 g l a e HI4.out)
              have HE4 := Lib.hid (err_any w0 w4 g l a e HI4.out)
              have HB4 := Lib.hid (And.intro (HB3.out.1.trans (hb4.mono HB3.out.1.size)) (HB3.out.2.trans (hb4.mono HB3.out.2.size)))
              clear hb4
              go_wp2_with fail
              refine HA4.out.mono ?_
              rintro en w5 ⟨rfl, rfl⟩
              go_wp2_with fail
              refine HA4.out.mono ?_
              rintro en w5 ⟨rfl, rfl⟩
              go_wp2_with fail
              refine HE4.out.mono ?_
              rintro en w5 ⟨rfl, rfl⟩
              go_wp2_with fail
              refine HA4.out.mono ?_
              rintro en w5 ⟨rfl, rfl⟩
              go_wp2
              go_roundw
              case rel => exact ⟨i + 1, a, e, by omega, by go_num, rfl, by omega, by omega, HI4.out, HB4.out.1, HB4.out.2⟩
              case measure => simp [intOf]; omega
          · have p2 : (kd == 2) = false := by simpa using q2
            clear q2
            by_cases q3 : kd = 3
            · subst q3
              have HE0 := Lib.hid (err_any w0 (wr.alloc (.cells #[.int .i64 3, .int .i64 most, .int .i64 each] 44)) g l a e (HI.out.keep ((Below.refl _ _).alloc (Nat.le_refl _) _)))
              go_wp2_with fail
              refine HE0.out.mono ?_
              rintro en w2 ⟨rfl, hw2⟩
              have hbx : Below wr.heap.size wr w2 := by rw [← hw2]; exact (Below.refl _ _).alloc (Nat.le_refl _) _
              have hBx : Below w0.heap.size w0 w2 := HB.out.trans (hbx.mono HB.out.size)
              have hBWx : Below w.heap.size w w2 := HBW.out.trans (hbx.mono HBW.out.size)
              have hblk : w2.heap[wr.heap.size]? = some (.cells #[.int .i64 3, .int .i64 most, .int .i64 each] 44 (0, 0)) := by rw [← hw2]; exact blk_new _ _
              obtain ⟨k0, k1, k2⟩ : w2.cell? ⟨wr.heap.size, 0, none⟩ = some (.int .i64 3) ∧ w2.cell? ⟨wr.heap.size, 1, none⟩ = some (.int .i64 most) ∧ w2.cell? ⟨wr.heap.size, 2, none⟩ = some (.int .i64 each) := by simp [World.cell?, hblk]
              have HCALL := Lib.hid (numbers_any w0 w2 g l a e most (HI.out.keep hbx) hBx HBY.out (by omega) ⟨ha1, ha2⟩ HW.out.1)
              have hst := (cuNums_step l HBY.out most a e ⟨ha1, ha2⟩)
              obtain ⟨R, hR⟩ : ∃ R, cuNums l most a e = R := ⟨_, rfl⟩
              unfold NumsPost at HCALL
              rw [hR] at HCALL hst
              obtain ⟨x, a2, e2⟩ := R
              dsimp only at hst
              have hs1 : a2 ≤ l.length := hst.1
              have hs2 : a ≤ a2 := hst.2.1
              have HX := Lib.hid (And.intro hbx (And.intro hBx hBWx))
              clear hw2 hbx hBx hBWx hblk hR
              have hs3 : e ≠ 0 → x = [] ∧ a2 = a ∧ e2 = e := fun h => by have := hst.2.2.2 h; injection this with h1 h2; injection h2 with h2 h3; exact ⟨h1, h2, h3⟩
              have hxs : x.length ≤ 500 := by have := hst.2.2.1; omega
              clear hst
              go_wp2_with fail
              refine HCALL.out.mono ?_
              rintro en w3 ⟨v3, rfl, hR3, hI3, hg3, hB3⟩
              obtain ⟨A3, c3, rfl⟩ := Kd.R_slice hR3
              have HI3 := Lib.hid hI3
              have HB3 := Lib.hid (And.intro hB3 (HX.out.2.2.grown hg3 HX.out.2.2.size (fun k hk => by cases hk; have := HI1.out.2.2.1.size; obtain ⟨_, _, _, h, _⟩ := HI.out; omega)))
              clear hR3 hI3 hg3 hB3
              have HA3 := Lib.hid (at_any w0 w3 g l a2 e2 HI3.out)
              have HE3 := Lib.hid (err_any w0 w3 g l a2 e2 HI3.out)
              have HL3 := Lib.hid (left_any w0 w3 g l a2 e2 HI3.out (by omega) ⟨by omega, hs1⟩)
              by_cases hee : e = 0
              · have ne : (e != 0) = false := by rw [hee]; rfl
                clear hs3
                go_wp2_with fail
                refine HA3.out.mono ?_
                rintro en w4 ⟨rfl, rfl⟩
                have f1 : decide (a2 < a) = false := decide_eq_false (by omega)
                go_wp2_with fail
                refine HA3.out.mono ?_
                rintro en w4 ⟨rfl, rfl⟩
                have f2 : decide ((l.length : Int) < a2) = false := decide_eq_false (by omega)
                go_wp2_with fail
                refine HL3.out.mono ?_
                rintro en w4 ⟨rfl, hb4⟩
                have HI4 := Lib.hid (HI3.out.keep hb4)
                have HA4 := Lib.hid (at_any w0 w4 g l a2 e2 HI4.out)
                have HB4 := Lib.hid (And.intro (HB3.out.1.trans (hb4.mono HB3.out.1.size)) (HB3.out.2.trans (hb4.mono HB3.out.2.size)))
                clear hb4
                go_wp2_with fail
                refine HA4.out.mono ?_
                rintro en w5 ⟨rfl, rfl⟩
                go_wp2_with fail
                refine HA4.out.mono ?_
                rintro en w5 ⟨rfl, rfl⟩
                go_wp2
                go_roundw
                case rel => exact ⟨i + 1, a2, e2, by omega, by go_num, rfl, by omega, hs1, HI4.out, HB4.out.1, HB4.out.2⟩
                case measure => simp [intOf]; omega
              · have ne : (e != 0) = true := by simpa using hee
                obtain ⟨hz1, hz2, hz3⟩ := hs3 hee
                subst hz1
                cases hz2
                cases hz3
                clear hs3
                go_wp2_with fail
                refine HA3.out.mono ?_
                rintro en w4 ⟨rfl, rfl⟩
                go_wp2_with fail
                refine HA3.out.mono ?_
                rintro en w4 ⟨rfl, rfl⟩
                have f2 : decide ((l.length : Int) < a) = false := decide_eq_false (by omega)
                go_wp2_with fail
                refine HL3.out.mono ?_
                rintro en w4 ⟨rfl, hb4⟩
                have HI4 := Lib.hid (HI3.out.keep hb4)
                have HA4 := Lib.hid (at_any w0 w4 g l a e HI4.out)
                have HE4 := Lib.hid (err_any w0 w4 g l a e HI4.out)
                have HB4 := Lib.hid (And.intro (HB3.out.1.trans (hb4.mono HB3.out.1.size)) (HB3.out.2.trans (hb4.mono HB3.out.2.size)))
                clear hb4
                go_wp2_with fail
                refine HA4.out.mono ?_
                rintro en w5 ⟨rfl, rfl⟩
                go_wp2_with fail
                refine HA4.out.mono ?_
                rintro en w5 ⟨rfl, rfl⟩
                go_wp2_with fail
                refine HE4.out.mono ?_
                rintro en w5 ⟨rfl, rfl⟩
                go_wp2_with fail
                refine HA4.out.mono ?_
                rintro en w5 ⟨rfl, rfl⟩
                go_wp2
                go_roundw
                case rel => exact ⟨i + 1, a, e, by omega, by go_num, rfl, by omega, by omega, HI4.out, HB4.out.1, HB4.out.2⟩
                case measure => simp [intOf]; omega
            · have p3 : (kd == 3) = false := by simpa using q3
              clear q3
              by_cases q4 : kd = 4
              · subst q4
                have HE0 := Lib.hid (err_any w0 (wr.alloc (.cells #[.int .i64 4, .int .i64 most, .int .i64 each] 44)) g l a e (HI.out.keep ((Below.refl _ _).alloc (Nat.le_refl _) _)))
                go_wp2_with fail
                refine HE0.out.mono ?_
                rintro en w2 ⟨rfl, hw2⟩
                have hbx : Below wr.heap.size wr w2 := by rw [← hw2]; exact (Below.refl _ _).alloc (Nat.le_refl _) _
                have hBx : Below w0.heap.size w0 w2 := HB.out.trans (hbx.mono HB.out.size)
                have hBWx : Below w.heap.size w w2 := HBW.out.trans (hbx.mono HBW.out.size)
                have hblk : w2.heap[wr.heap.size]? = some (.cells #[.int .i64 4, .int .i64 most, .int .i64 each] 44 (0, 0)) := by rw [← hw2]; exact blk_new _ _
                obtain ⟨k0, k1, k2⟩ : w2.cell? ⟨wr.heap.size, 0, none⟩ = some (.int .i64 4) ∧ w2.cell? ⟨wr.heap.size, 1, none⟩ = some (.int .i64 most) ∧ w2.cell? ⟨wr.heap.size, 2, none⟩ = some (.int .i64 each) := by simp [World.cell?, hblk]
                have HCALL := Lib.hid (texts_any w0 w2 g l a e most each (HI.out.keep hbx) hBx HBY.out (by omega) ⟨ha1, ha2⟩ HW.out.1 HW.out.2)
                have hst := (cuTexts_step l HBY.out each most a e ⟨ha1, ha2⟩)
                obtain ⟨R, hR⟩ : ∃ R, cuTexts l each most a e = R := ⟨_, rfl⟩
                unfold TextsPost at HCALL
                rw [hR] at HCALL hst
                obtain ⟨x, a2, e2⟩ := R
                dsimp only at hst
                have hs1 : a2 ≤ l.length := hst.1
                have hs2 : a ≤ a2 := hst.2.1
                have HX := Lib.hid (And.intro hbx (And.intro hBx hBWx))
                clear hw2 hbx hBx hBWx hblk hR
                have hs3 : e ≠ 0 → x = [] ∧ a2 = a ∧ e2 = e := fun h => by have := hst.2.2.2 h; injection this with h1 h2; injection h2 with h2 h3; exact ⟨h1, h2, h3⟩
                have hxs : x.length ≤ 500 := by have := hst.2.2.1; omega
                clear hst
                go_wp2_with fail
                refine HCALL.out.mono ?_
                rintro en w3 ⟨v3, rfl, hR3, hI3, hg3, hB3⟩
                obtain ⟨A3, c3, rfl⟩ := Kd.R_slice hR3
                have HI3 := Lib.hid hI3
                have HB3 := Lib.hid (And.intro hB3 (HX.out.2.2.grown hg3 HX.out.2.2.size (fun k hk => by cases hk; have := HI1.out.2.2.1.size; obtain ⟨_, _, _, h, _⟩ := HI.out; omega)))
                clear hR3 hI3 hg3 hB3
                have HA3 := Lib.hid (at_any w0 w3 g l a2 e2 HI3.out)
                have HE3 := Lib.hid (err_any w0 w3 g l a2 e2 HI3.out)
                have HL3 := Lib.hid (left_any w0 w3 g l a2 e2 HI3.out (by omega) ⟨by omega, hs1⟩)
                by_cases hee : e = 0
                · have ne : (e != 0) = false := by rw [hee]; rfl
                  clear hs3
                  go_wp2_with fail
                  refine HA3.out.mono ?_
                  rintro en w4 ⟨rfl, rfl⟩
                  have f1 : decide (a2 < a) = false := decide_eq_false (by omega)
                  go_wp2_with fail
                  refine HA3.out.mono ?_
                  rintro en w4 ⟨rfl, rfl⟩
                  have f2 : decide ((l.length : Int) < a2) = false := decide_eq_false (by omega)
                  go_wp2_with fail
                  refine HL3.out.mono ?_
                  rintro en w4 ⟨rfl, hb4⟩
                  have HI4 := Lib.hid (HI3.out.keep hb4)
                  have HA4 := Lib.hid (at_any w0 w4 g l a2 e2 HI4.out)
                  have HB4 := Lib.hid (And.intro (HB3.out.1.trans (hb4.mono HB3.out.1.size)) (HB3.out.2.trans (hb4.mono HB3.out.2.size)))
                  clear hb4
                  go_wp2_with fail
                  refine HA4.out.mono ?_
                  rintro en w5 ⟨rfl, rfl⟩
                  go_wp2_with fail
                  refine HA4.out.mono ?_
                  rintro en w5 ⟨rfl, rfl⟩
                  go_wp2
                  go_roundw
                  case rel => exact ⟨i + 1, a2, e2, by omega, by go_num, rfl, by omega, hs1, HI4.out, HB4.out.1, HB4.out.2⟩
                  case measure => simp [intOf]; omega
                · have ne : (e != 0) = true := by simpa using hee
                  obtain ⟨hz1, hz2, hz3⟩ := hs3 hee
                  subst hz1
                  cases hz2
                  cases hz3
                  clear hs3
                  go_wp2_with fail
                  refine HA3.out.mono ?_
                  rintro en w4 ⟨rfl, rfl⟩
                  go_wp2_with fail
                  refine HA3.out.mono ?_
                  rintro en w4 ⟨rfl, rfl⟩
                  have f2 : decide ((l.length : Int) < a) = false := decide_eq_false (by omega)
                  go_wp2_with fail
                  refine HL3.out.mono ?_
                  rintro en w4 ⟨rfl, hb4⟩
                  have HI4 := Lib.hid (HI3.out.keep hb4)
                  have HA4 := Lib.hid (at_any w0 w4 g l a e HI4.out)
                  have HE4 := Lib.hid (err_any w0 w4 g l a e HI4.out)
                  have HB4 := Lib.hid (And.intro (HB3.out.1.trans (hb4.mono HB3.out.1.size)) (HB3.out.2.trans (hb4.mono HB3.out.2.size)))
                  clear hb4
                  go_wp2_with fail
                  refine HA4.out.mono ?_
                  rintro en w5 ⟨rfl, rfl⟩
                  go_wp2_with fail
                  refine HA4.out.mono ?_
                  rintro en w5 ⟨rfl, rfl⟩
                  go_wp2_with fail
                  refine HE4.out.mono ?_
                  rintro en w5 ⟨rfl, rfl⟩
                  go_wp2_with fail
                  refine HA4.out.mono ?_
                  rintro en w5 ⟨rfl, rfl⟩
                  go_wp2
                  go_roundw
                  case rel => exact ⟨i + 1, a, e, by omega, by go_num, rfl, by omega, by omega, HI4.out, HB4.out.1, HB4.out.2⟩
                  case measure => simp [intOf]; omega
              · have p4 : (kd == 4) = false := by simpa using q4
                clear q4
                have HE0 := Lib.hid (err_any w0 (wr.alloc (.cells #[.int .i64 kd, .int .i64 most, .int .i64 each] 44)) g l a e (HI.out.keep ((Below.refl _ _).alloc (Nat.le_refl _) _)))
                go_wp2_with fail
                refine HE0.out.mono ?_
                rintro en w2 ⟨rfl, hw2⟩
                have hbx : Below wr.heap.size wr w2 := by rw [← hw2]; exact (Below.refl _ _).alloc (Nat.le_refl _) _
                have hBx : Below w0.heap.size w0 w2 := HB.out.trans (hbx.mono HB.out.size)
                have hBWx : Below w.heap.size w w2 := HBW.out.trans (hbx.mono HBW.out.size)
                have hblk : w2.heap[wr.heap.size]? = some (.cells #[.int .i64 kd, .int .i64 most, .int .i64 each] 44 (0, 0)) := by rw [← hw2]; exact blk_new _ _
                obtain ⟨k0, k1, k2⟩ : w2.cell? ⟨wr.heap.size, 0, none⟩ = some (.int .i64 kd) ∧ w2.cell? ⟨wr.heap.size, 1, none⟩ = some (.int .i64 most) ∧ w2.cell? ⟨wr.heap.size, 2, none⟩ = some (.int .i64 each) := by simp [World.cell?, hblk]
                have HX := Lib.hid (And.intro hbx (And.intro hBx hBWx))
                clear hw2 hbx hBx hBWx hblk
                obtain ⟨w3, hw3⟩ : ∃ w3, w2 = w3 := ⟨_, rfl⟩
                have HI3 := Lib.hid (HI.out.keep HX.out.1)
                have HB3 := Lib.hid (And.intro HX.out.2.1 HX.out.2.2)
                rw [hw3] at HI3 HB3 k0 k1 k2 ⊢
                clear hw3
                obtain ⟨a2, ha2'⟩ : ∃ a2, a = a2 := ⟨_, rfl⟩
                obtain ⟨e2, he2'⟩ : ∃ e2, e = e2 := ⟨_, rfl⟩
                have hs1 : a2 ≤ l.length := by omega
                have hs2 : a ≤ a2 := by omega
                have hs3 : e ≠ 0 → True ∧ a2 = a ∧ e2 = e := fun _ => ⟨trivial, ha2'.symm, he2'.symm⟩
                rw [ha2', he2'] at HI3
                clear ha2' he2'
                have HA3 := Lib.hid (at_any w0 w3 g l a2 e2 HI3.out)
                have HE3 := Lib.hid (err_any w0 w3 g l a2 e2 HI3.out)
                have HL3 := Lib.hid (left_any w0 w3 g l a2 e2 HI3.out (by omega) ⟨by omega, hs1⟩)
                by_cases hee : e = 0
                · have ne : (e != 0) = false := by rw [hee]; rfl
                  clear hs3
                  go_wp2_with fail
                  refine HA3.out.mono ?_
                  rintro en w4 ⟨rfl, rfl⟩
                  have f1 : decide (a2 < a) = false := decide_eq_false (by omega)
                  go_wp2_with fail
                  refine HA3.out.mono ?_
                  rintro en w4 ⟨rfl, rfl⟩
                  have f2 : decide ((l.length : Int) < a2) = false := decide_eq_false (by omega)
                  go_wp2_with fail
                  refine HL3.out.mono ?_
                  rintro en w4 ⟨rfl, hb4⟩
                  have HI4 := Lib.hid (HI3.out.keep hb4)
                  have HA4 := Lib.hid (at_any w0 w4 g l a2 e2 HI4.out)
                  have HB4 := Lib.hid (And.intro (HB3.out.1.trans (hb4.mono HB3.out.1.size)) (HB3.out.2.trans (hb4.mono HB3.out.2.size)))
                  clear hb4
                  go_wp2_with fail
                  refine HA4.out.mono ?_
                  rintro en w5 ⟨rfl, rfl⟩
                  go_wp2_with fail
                  refine HA4.out.mono ?_
                  rintro en w5 ⟨rfl, rfl⟩
                  go_wp2
                  go_roundw
                  case rel => exact ⟨i + 1, a2, e2, by omega, by go_num, rfl, by omega, hs1, HI4.out, HB4.out.1, HB4.out.2⟩
                  case measure => simp [intOf]; omega
                · have ne : (e != 0) = true := by simpa using hee
                  obtain ⟨hz1, hz2, hz3⟩ := hs3 hee
                  cases hz2
                  cases hz3
                  clear hs3
                  go_wp2_with fail
                  refine HA3.out.mono ?_
                  rintro en w4 ⟨rfl, rfl⟩
                  go_wp2_with fail
                  refine HA3.out.mono ?_
                  rintro en w4 ⟨rfl, rfl⟩
                  have f2 : decide ((l.length : Int) < a) = false := decide_eq_false (by omega)
                  go_wp2_with fail
                  refine HL3.out.mono ?_
                  rintro en w4 ⟨rfl, hb4⟩
                  have HI4 := Lib.hid (HI3.out.keep hb4)
                  have HA4 := Lib.hid (at_any w0 w4 g l a e HI4.out)
                  have HE4 := Lib.hid (err_any w0 w4 g l a e HI4.out)
                  have HB4 := Lib.hid (And.intro (HB3.out.1.trans (hb4.mono HB3.out.1.size)) (HB3.out.2.trans (hb4.mono HB3.out.2.size)))
                  clear hb4
                  go_wp2_with fail
                  refine HA4.out.mono ?_
                  rintro en w5 ⟨rfl, rfl⟩
                  go_wp2_with fail
                  refine HA4.out.mono ?_
                  rintro en w5 ⟨rfl, rfl⟩
                  go_wp2_with fail
                  refine HE4.out.mono ?_
                  rintro en w5 ⟨rfl, rfl⟩
                  go_wp2_with fail
                  refine HA4.out.mono ?_
                  rintro en w5 ⟨rfl, rfl⟩
                  go_wp2
                  go_roundw
                  case rel => exact ⟨i + 1, a, e, by omega, by go_num, rfl, by omega, by omega, HI4.out, HB4.out.1, HB4.out.2⟩
                  case measure => simp [intOf]; omega
    · obtain rfl : i = ts.length := by omega
      go_wp2_with fail
      refine (fixed4_any _).mono ?_
      rintro en w6 ⟨rfl, hb6⟩
      have HB6 := Lib.hid (HBW.out.trans (hb6.mono HBW.out.size))
      clear hb6
      go_wp2_with fail
      go_ret
      exact ⟨rfl, HB6.out⟩
theorem walk (a0 : Option Addr) (len0 cap0 : Nat) (z0 : List Int) (a1 : Int) (v2 : Value) (x2 : Option Addr × Nat × List Take4) (w : World) (w0 : (a0 = none ∧ len0 = 0 ∧ cap0 = 0 ∧ z0 = []) ∨ ∃ x, a0 = some x ∧ len0 ≤ cap0 ∧ cap0 ≤ maxLen ∧ z0.length = cap0 ∧ (∀ i, i < z0.length → w.cell? (x.add i) = some (.int .u8 (z0.getD i 0))) ∧ ∀ n ∈ z0, (Lit.int .u8 n).wf = true) (y0 : len0 * 1 ≤ 140737488351232) (w1 : (Lit.int .i64 a1).wf = true) (w2 : IsRows kdTake okTake w v2 x2) :
    Calls Try.prog 5 #[.slice a0 len0 cap0, .int .i64 a1, v2] w fun e w' => e = .returned (.bool true) ∧ Below w.heap.size w w' := by
  obtain ⟨l, rfl, hr, hm, hb, hc⟩ := ReadsInt.ofRowC w0
  have hr := Kd.C_of_reads (d := (0 : Int)) (h1 := fun _ => rfl) hr
  have hb := bytes_of_wf hb
  obtain ⟨B, d, ts⟩ := x2
  obtain ⟨rfl, hd, hT, hm2, ho⟩ := w2
  by_cases hle : 500 < (l.length : Int) ∨ ¬ 500 < (l.length : Int) ∧ 40 < (ts.length : Int)
  · exact never_great a0 cap0 l a1 B d ts w hle (by have := hr.2.1; omega) (by simp only [maxLen] at hm2; omega)
  · exact never_main a0 cap0 l a1 B d ts w hr hc hb (by omega) hT ho (by omega)
end Go.Proofs.Ythpbkhagjgggjaa.WCursorNever
