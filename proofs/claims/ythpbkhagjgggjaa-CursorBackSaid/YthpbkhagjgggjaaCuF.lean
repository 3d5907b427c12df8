/- The chapter's example of the cursor. -/
import Derived.Test.YthpbkhagjgggjaaCuR
set_option linter.unusedVariables false
set_option linter.unusedSimpArgs false
namespace Go.Proofs.Ythpbkhagjgggjaa
open Go.RowKit Go.Proofs.YthpbkhagjgggjaaW.PrintWords Go.Proofs.Ythpbkhagjgggjaa.GVB

theorem get_ex (l : List Int) (a : Nat) (x : Int) (h : l[a]? = some x) (h0 : 0 ≤ x ∧ x < 128) : getS l (a : Int) = (x, ((a + 1 : Nat) : Int), 0) := by
  obtain ⟨hlt, hx⟩ := List.getElem?_eq_some_iff.1 h
  have hd : (nats l).drop a = vb x.toNat ++ (nats l).drop (a + 1) := by
    rw [vb_small _ (by omega)]
    have : (nats l)[a]? = some x.toNat := by unfold nats; rw [List.getElem?_map, h]; rfl
    obtain ⟨h1, h2⟩ := List.getElem?_eq_some_iff.1 this
    rw [List.drop_eq_getElem_cons h1, h2]; rfl
  unfold getS
  rw [if_neg (by omega), Int.toNat_natCast, hd, dec_vb0 _ _ (by omega), vb_small _ (by omega)]
  unfold outS
  rw [if_pos rfl]
  simp only [List.length_cons, List.length_nil, Prod.mk.injEq, and_true]
  omega
theorem get_end (l : List Int) : getS l (l.length : Int) = (0, 0, 2) := by
  unfold getS
  rw [if_neg (by omega), Int.toNat_natCast, List.drop_of_length_le (by simp [nats])]
  rfl
set_option maxRecDepth 100000 in
set_option maxHeartbeats 1000000 in
theorem fixed4_any (w : World) : Calls Try.prog 15 #[] w fun e w' => e = .returned (.bool true) ∧ Below w.heap.size w w' := by
  have hC := C_block .u8 (w.alloc (.cells #[.int .u8 2, .int .u8 97, .int .u8 98, .int .u8 7] 5 (4, 5))) w.heap.size 5 (4, 5) [2, 97, 98, 7] (heap_new _ _) (by simp)
  have hN := new_any (some ⟨w.heap.size, 0, none⟩) 4 [2, 97, 98, 7] 0 _ hC (Nat.le_refl _) (by simp)
  have hb : ∀ x ∈ ([2, 97, 98, 7] : List Int), 0 ≤ x ∧ x < 256 := by decide
  have g0 := get_ex [2, 97, 98, 7] 0 2 rfl (by decide)
  have g3 := get_ex [2, 97, 98, 7] 3 7 rfl (by decide)
  have g4 := get_end [2, 97, 98, 7]
  have t0 : cuText [2, 97, 98, 7] 9 0 0 = (⟨#[97, 98]⟩, 3, 0) := by
    unfold cuText bgetS
    rw [show ((0 : Nat) : Int) = 0 from rfl] at g0
    rw [g0]; rfl
  have n3 : cuNum [2, 97, 98, 7] 3 0 = (7, 4, 0) := by
    unfold cuNum
    rw [show ((3 : Nat) : Int) = 3 from rfl] at g3
    rw [g3]; rfl
  have n4 : cuNum [2, 97, 98, 7] 4 0 = (0, 4, 2) := by
    unfold cuNum
    rw [show ((([2, 97, 98, 7] : List Int).length : Nat) : Int) = 4 from rfl] at g4
    rw [g4]; rfl
  have hT := fun (w0 W : World) (g : Nat) h1 h2 => text_any w0 W g [2, 97, 98, 7] 0 0 9 h1 h2 hb (by simp) (by omega)
  have h3 := fun (w0 W : World) (g : Nat) h1 h2 => num_any w0 W g [2, 97, 98, 7] 3 0 h1 h2 hb (by simp)
  have h4 := fun (w0 W : World) (g : Nat) h1 h2 => num_any w0 W g [2, 97, 98, 7] 4 0 h1 h2 hb (by simp)
  rw [t0] at hT
  rw [n3] at h3
  rw [n4] at h4
  have HN := Lib.hid hN
  have HT := Lib.hid hT
  have H3 := Lib.hid h3
  have H4 := Lib.hid h4
  have HB := Lib.hid ((Below.refl w.heap.size w).alloc (Nat.le_refl _) (.cells #[.int .u8 2, .int .u8 97, .int .u8 98, .int .u8 7] 5 (4, 5)))
  clear hC hN hb g0 g3 g4 t0 n3 n4 hT h3 h4
  have kc := fun (w : World) (C : Array Value) (n c : Nat) => Lib.run_convert_bytes_const (P := Try.prog) w 25 5 C n c Try.underlying25 Try.underlying5
  go_enter Try.func15, Try.ntmps15
  go_wp2_with fail
  refine HN.out.mono ?_
  rintro en w1 ⟨g, w0, rfl, hbw, hI, hB, _⟩
  have hI0 : IsCu w0 w1 g [2, 97, 98, 7] 0 0 := hI
  have HI := Lib.hid hI0
  have HB0 := Lib.hid (HB.out.trans (hbw.mono HB.out.size))
  have HB1 := Lib.hid hB
  have HT1 := Lib.hid (HT.out w0 w1 g HI.out HB1.out)
  clear hI hI0 hbw hB
  go_wp2_with fail
  refine HT1.out.mono ?_
  rintro en w2 ⟨rfl, hI2, _, hB2⟩
  have HT2 := Lib.hid (H3.out w0 w2 g hI2 hB2)
  clear hI2 hB2
  go_wp2_with fail
  refine HT2.out.mono ?_
  rintro en w3 ⟨rfl, hI3, _, hB3⟩
  have HT3 := Lib.hid (H4.out w0 w3 g hI3 hB3)
  clear hI3 hB3
  go_wp2_with fail
  refine HT3.out.mono ?_
  rintro en w4 ⟨rfl, hI4, _, hB4⟩
  have HE := Lib.hid (err_any w0 w4 g _ _ _ hI4)
  have HB4 := Lib.hid hB4
  clear hI4 hB4
  go_wp2_with fail
  refine HE.out.mono ?_
  rintro en w5 ⟨rfl, rfl⟩
  go_wp2_with fail
  go_ret
  exact ⟨rfl, HB0.out.trans (HB4.out.mono HB0.out.size)⟩
end Go.Proofs.Ythpbkhagjgggjaa
