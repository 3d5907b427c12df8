/- Texts laid as one by shake.py, cut to what the claim needs: WSchemaNil. (Names that begin with W and the print's groups (G..x, G..z): laid by the kit's print, cut.) -/
import Derived.Test.YtfflenbfapgilaaZNs
import Derived.Test.YtfflenbfapgilaaZNv
set_option linter.unusedVariables false
set_option linter.unusedSimpArgs false
namespace Go.Proofs.Ytfflenbfapgilaa.WSchemaNil
open Go.RowKit Go.Proofs.YtfflenbfapgilaaW.PrintWords Go.Proofs.Ytfflenbfapgilaa.GRR
set_option maxHeartbeats 4000000 in
set_option maxRecDepth 100000 in
theorem walk0 (v : Int) (A : Option Addr) (c : Nat) (x0 : Int) (x1 : ByteArray) (x2 : Int) (x3 : List S113) (x4 x5 : Int) (x6 : ByteArray) (B : Option Addr) (cb : Nat) (ps : List ByteArray) (w : World)  (hrA : Kd.C k113 w A x3.length x3) (hcA : x3.length ≤ c) (hrB : Kd.C Kd.string w B ps.length ps) (hcB : ps.length ≤ cb) : Calls Try.prog 11 #[.int .i64 v, .agg #[.int .i64 x0, .string x1, .int .u64 x2, .slice A x3.length c, .int .u64 x4, .int .u64 x5, .string x6], .slice B ps.length cb] w fun e w' => e = .returned (.bool true) ∧ Below w.heap.size w w' := by
 obtain ⟨w1, hw1⟩ : ∃ w1, w.alloc (.cells #[.int .i64 x0, .string x1, .int .u64 x2, .slice A x3.length c, .int .u64 x4, .int .u64 x5, .string x6] 62) = w1 := ⟨_, rfl⟩
 have hb1 : Below w.heap.size w w1 := by rw [← hw1]; exact (Below.refl _ _).alloc (Nat.le_refl _) _
 have hk1 : w1.heap[w.heap.size]? = some (.cells #[.int .i64 x0, .string x1, .int .u64 x2, .slice A x3.length c, .int .u64 x4, .int .u64 x5, .string x6] 62 (0, 0)) := by rw [← hw1]; exact heap_new _ _
 obtain ⟨b4, hb4⟩ : ∃ b, w.heap.size = b := ⟨_, rfl⟩
 rw [hb4] at hk1
 obtain ⟨g, hgf, hG⟩ := great8_at x0 x1 x2 x3 x4 x5 x6 A c w hrA hcA
 have HG := Lib.hid (hG w1 hb1)
 have HFW := Lib.hid (fun (W : World) (hb : Below w.heap.size w W) => tephralaw09_few.calls (ps.length + 1) B cb ps (fewB ps) W (Kd.C_below hrB hb) hcB (few_is ps hrB.2.1))
 have HBY := Lib.hid (fun (W : World) (hb : Below w.heap.size w W) (hl : ps.length ≤ 1000000) => bytes9_any B cb ps W (Kd.C_below hrB hb) hcB hl)
 have HW1 := Lib.hid hw1
 have HB1 := Lib.hid hb1
 have HK1 := Lib.hid hk1
 have HB4 := Lib.hid hb4
 have hfl : fewB ps = true → ps.length ≤ 40 := fun h => by
  unfold fewB at h
  rw [Bool.and_eq_true, decide_eq_true_eq] at h
  exact h.2
 have HFL := Lib.hid hfl
 clear hrA hrB hw1 hb1 hk1 hb4 hG hgf hfl
 generalize fewB ps = f at *
 have fixed_end : ∀ (W : World), Below w.heap.size w W → Calls Try.prog 30 #[] W fun e w' => e = .returned (.bool true) ∧ Below w.heap.size w w' := fun W hb => (fixed9_any W).mono fun e w' h => ⟨h.1, hb.trans (h.2.mono hb.size)⟩
 have HFX := Lib.hid fixed_end
 clear fixed_end
 go_enter Try.func11, Try.ntmps11
 go_wp2_with fail
 rw [HW1.out, HB4.out]
 refine HG.out.mono ?_
 rintro e w2 ⟨rfl, hb⟩
 have HB2 := Lib.hid (HB1.out.trans (hb.mono HB1.out.size))
 have HK2 := Lib.hid (blk_below HK1.out hb)
 clear hb HG
 cases g with
 | true =>
  go_wp2_with fail
  refine (HFX.out w2 HB2.out).mono ?_
  rintro e w3 ⟨rfl, hb⟩
  have HBE := Lib.hid hb
  clear hb
  go_wp2_with fail
  go_ret
  exact ⟨rfl, HBE.out⟩
 | false =>
  go_wp2_with fail
  refine (HFW.out w2 HB2.out).mono ?_
  rintro e w3 ⟨rfl, hdr⟩
  have hb := hdr.below
  have HB3 := Lib.hid (HB2.out.trans (hb.mono HB2.out.size))
  have HK3 := Lib.hid (blk_below HK2.out hb)
  clear hdr hb HFW
  cases f with
  | false =>
   go_wp2_with fail
   refine (HFX.out w3 HB3.out).mono ?_
   rintro e w4 ⟨rfl, hb⟩
   have HBE := Lib.hid hb
   clear hb
   go_wp2_with fail
   go_ret
   exact ⟨rfl, HBE.out⟩
  | true =>
   by_cases h1 : v < 1
   ·have hd1 : decide (v < 1) = true := decide_eq_true h1
    have hwant : wantE v = 11 := by unfold wantE; rw [if_neg (by omega)]
    obtain ⟨c0, c1, c2, c3, c4, c5, c6⟩ := facts7 HK3.out
    go_wp2_with fail
    clear c0 c1 c2 c3 c4 c5 c6
    refine (sput_nil v _ x0 x1 x2 (.slice A x3.length c) x4 x5 x6 rfl w3).mono ?_
    rintro e w4 ⟨rfl, hb⟩
    rw [hwant]
    have HB4x := Lib.hid (HB3.out.trans (hb.mono HB3.out.size))
    clear hb
    go_wp2_with fail
    refine (HBY.out w4 HB4x.out (by have := HFL.out (by simp); omega)).mono ?_
    rintro e w5 ⟨v5, vs, rfl, _, _, _, hb⟩
    have HB5 := Lib.hid (HB4x.out.trans (hb.mono HB4x.out.size))
    clear hb
    go_wp2_with fail
    refine (sget_nil v v5 w5).mono ?_
    rintro e w6 ⟨rfl, hb⟩
    rw [hwant]
    have HB6 := Lib.hid (HB5.out.trans (hb.mono HB5.out.size))
    clear hb
    go_wp2_with fail
    obtain ⟨w7, hw7⟩ : ∃ w7, w6.alloc (.cells #[.int .i64 0, .string ⟨#[]⟩, .int .u64 0, .slice none 0 0, .int .u64 0, .int .u64 0, .string ⟨#[]⟩] 62) = w7 := ⟨_, rfl⟩
    have hb7 : Below w6.heap.size w6 w7 := by rw [← hw7]; exact (Below.refl _ _).alloc (Nat.le_refl _) _
    have hk7 : w7.heap[w6.heap.size]? = some (.cells #[.int .i64 0, .string ⟨#[]⟩, .int .u64 0, .slice none 0 0, .int .u64 0, .int .u64 0, .string ⟨#[]⟩] 62 (0, 0)) := by rw [← hw7]; exact heap_new _ _
    rw [hw7]
    obtain ⟨b7, hb7e⟩ : ∃ b, w6.heap.size = b := ⟨_, rfl⟩
    rw [hb7e] at hk7 ⊢
    have HB7 := Lib.hid (HB6.out.trans (hb7.mono HB6.out.size))
    have HK7 := Lib.hid hk7
    clear hb7 hk7 hw7 hb7e
    refine (fixed9_any w7).mono ?_
    rintro e w8 ⟨rfl, hb⟩
    have HB8 := Lib.hid (HB7.out.trans (hb.mono HB7.out.size))
    have HK8 := Lib.hid (blk_below HK7.out hb)
    clear hb
    obtain ⟨c0, c1, c2, c3, c4, c5, c6⟩ := facts7 HK8.out
    go_wp2_with fail
    clear c0 c1 c2 c3 c4 c5 c6
    refine (same_self 0 ⟨#[]⟩ 0 [] 0 0 ⟨#[]⟩ none none 0 0 w8 (Kd.C_nil _ _) (Kd.C_nil _ _) (Nat.le_refl _) (Nat.le_refl _) (by simp)).mono ?_
    rintro e w9 ⟨rfl, hb⟩
    have HB9 := Lib.hid (HB8.out.trans (hb.mono HB8.out.size))
    clear hb
    go_wp2_with fail
    go_ret
    exact ⟨rfl, HB9.out⟩
   ·have hd1 : decide (v < 1) = false := decide_eq_false h1
    by_cases h2 : 3 < v
    ·have hd2 : decide (3 < v) = true := decide_eq_true h2
     have hwant : wantE v = 11 := by unfold wantE; rw [if_neg (by omega)]
     obtain ⟨c0, c1, c2, c3, c4, c5, c6⟩ := facts7 HK3.out
     go_wp2_with fail
     clear c0 c1 c2 c3 c4 c5 c6
     refine (sput_nil v _ x0 x1 x2 (.slice A x3.length c) x4 x5 x6 rfl w3).mono ?_
     rintro e w4 ⟨rfl, hb⟩
     rw [hwant]
     have HB4x := Lib.hid (HB3.out.trans (hb.mono HB3.out.size))
     clear hb
     go_wp2_with fail
     refine (HBY.out w4 HB4x.out (by have := HFL.out (by simp); omega)).mono ?_
     rintro e w5 ⟨v5, vs, rfl, _, _, _, hb⟩
     have HB5 := Lib.hid (HB4x.out.trans (hb.mono HB4x.out.size))
     clear hb
     go_wp2_with fail
     refine (sget_nil v v5 w5).mono ?_
     rintro e w6 ⟨rfl, hb⟩
     rw [hwant]
     have HB6 := Lib.hid (HB5.out.trans (hb.mono HB5.out.size))
     clear hb
     go_wp2_with fail
     obtain ⟨w7, hw7⟩ : ∃ w7, w6.alloc (.cells #[.int .i64 0, .string ⟨#[]⟩, .int .u64 0, .slice none 0 0, .int .u64 0, .int .u64 0, .string ⟨#[]⟩] 62) = w7 := ⟨_, rfl⟩
     have hb7 : Below w6.heap.size w6 w7 := by rw [← hw7]; exact (Below.refl _ _).alloc (Nat.le_refl _) _
     have hk7 : w7.heap[w6.heap.size]? = some (.cells #[.int .i64 0, .string ⟨#[]⟩, .int .u64 0, .slice none 0 0, .int .u64 0, .int .u64 0, .string ⟨#[]⟩] 62 (0, 0)) := by rw [← hw7]; exact heap_new _ _
     rw [hw7]
     obtain ⟨b7, hb7e⟩ : ∃ b, w6.heap.size = b := ⟨_, rfl⟩
     rw [hb7e] at hk7 ⊢
     have HB7 := Lib.hid (HB6.out.trans (hb7.mono HB6.out.size))
     have HK7 := Lib.hid hk7
     clear hb7 hk7 hw7 hb7e
     refine (fixed9_any w7).mono ?_
     rintro e w8 ⟨rfl, hb⟩
     have HB8 := Lib.hid (HB7.out.trans (hb.mono HB7.out.size))
     have HK8 := Lib.hid (blk_below HK7.out hb)
     clear hb
     obtain ⟨c0, c1, c2, c3, c4, c5, c6⟩ := facts7 HK8.out
     go_wp2_with fail
     clear c0 c1 c2 c3 c4 c5 c6
     refine (same_self 0 ⟨#[]⟩ 0 [] 0 0 ⟨#[]⟩ none none 0 0 w8 (Kd.C_nil _ _) (Kd.C_nil _ _) (Nat.le_refl _) (Nat.le_refl _) (by simp)).mono ?_
     rintro e w9 ⟨rfl, hb⟩
     have HB9 := Lib.hid (HB8.out.trans (hb.mono HB8.out.size))
     clear hb
     go_wp2_with fail
     go_ret
     exact ⟨rfl, HB9.out⟩
    ·have hd2 : decide (3 < v) = false := decide_eq_false h2
     have hwant : wantE v = 1 := by unfold wantE; rw [if_pos (by omega)]
     obtain ⟨c0, c1, c2, c3, c4, c5, c6⟩ := facts7 HK3.out
     go_wp2_with fail
     clear c0 c1 c2 c3 c4 c5 c6
     refine (sput_nil v _ x0 x1 x2 (.slice A x3.length c) x4 x5 x6 rfl w3).mono ?_
     rintro e w4 ⟨rfl, hb⟩
     rw [hwant]
     have HB4x := Lib.hid (HB3.out.trans (hb.mono HB3.out.size))
     clear hb
     go_wp2_with fail
     refine (HBY.out w4 HB4x.out (by have := HFL.out (by simp); omega)).mono ?_
     rintro e w5 ⟨v5, vs, rfl, _, _, _, hb⟩
     have HB5 := Lib.hid (HB4x.out.trans (hb.mono HB4x.out.size))
     clear hb
     go_wp2_with fail
     refine (sget_nil v v5 w5).mono ?_
     rintro e w6 ⟨rfl, hb⟩
     rw [hwant]
     have HB6 := Lib.hid (HB5.out.trans (hb.mono HB5.out.size))
     clear hb
     go_wp2_with fail
     obtain ⟨w7, hw7⟩ : ∃ w7, w6.alloc (.cells #[.int .i64 0, .string ⟨#[]⟩, .int .u64 0, .slice none 0 0, .int .u64 0, .int .u64 0, .string ⟨#[]⟩] 62) = w7 := ⟨_, rfl⟩
     have hb7 : Below w6.heap.size w6 w7 := by rw [← hw7]; exact (Below.refl _ _).alloc (Nat.le_refl _) _
     have hk7 : w7.heap[w6.heap.size]? = some (.cells #[.int .i64 0, .string ⟨#[]⟩, .int .u64 0, .slice none 0 0, .int .u64 0, .int .u64 0, .string ⟨#[]⟩] 62 (0, 0)) := by rw [← hw7]; exact heap_new _ _
     rw [hw7]
     obtain ⟨b7, hb7e⟩ : ∃ b, w6.heap.size = b := ⟨_, rfl⟩
     rw [hb7e] at hk7 ⊢
     have HB7 := Lib.hid (HB6.out.trans (hb7.mono HB6.out.size))
     have HK7 := Lib.hid hk7
     clear hb7 hk7 hw7 hb7e
     refine (fixed9_any w7).mono ?_
     rintro e w8 ⟨rfl, hb⟩
     have HB8 := Lib.hid (HB7.out.trans (hb.mono HB7.out.size))
     have HK8 := Lib.hid (blk_below HK7.out hb)
     clear hb
     obtain ⟨c0, c1, c2, c3, c4, c5, c6⟩ := facts7 HK8.out
     go_wp2_with fail
     clear c0 c1 c2 c3 c4 c5 c6
     refine (same_self 0 ⟨#[]⟩ 0 [] 0 0 ⟨#[]⟩ none none 0 0 w8 (Kd.C_nil _ _) (Kd.C_nil _ _) (Nat.le_refl _) (Nat.le_refl _) (by simp)).mono ?_
     rintro e w9 ⟨rfl, hb⟩
     have HB9 := Lib.hid (HB8.out.trans (hb.mono HB8.out.size))
     clear hb
     go_wp2_with fail
     go_ret
     exact ⟨rfl, HB9.out⟩
theorem walk (a0 : Int) (v1 : Value) (p1 : RecT9) (v2 : Value) (p2 : Option Addr × Nat × List ByteArray) (w : World) (w0 : (Lit.int .i64 a0).wf = true) (w1 : IsRec w v1 p1) (w2 : IsRows Kd.string (fun s => s.size ≤ maxLen) w v2 p2) :
  Calls Try.prog 11 #[.int .i64 a0, v1, v2] w fun e w' => e = .returned (.bool true) ∧ Below w.heap.size w w' := by
 obtain ⟨⟨x0, x1, x2, x3, x4, x5, x6⟩, A, c⟩ := p1
 obtain ⟨B, cb, ps⟩ := p2
 have hv := w1.v
 have hcA := w1.c
 have hrA := w1.row
 dsimp only at hv hcA hrA
 subst hv
 obtain ⟨rfl, hcB, hrB, _, _⟩ := w2
 exact walk0 a0 A c x0 x1 x2 x3 x4 x5 x6 B cb ps w hrA hcA hrB hcB
end Go.Proofs.Ytfflenbfapgilaa.WSchemaNil
