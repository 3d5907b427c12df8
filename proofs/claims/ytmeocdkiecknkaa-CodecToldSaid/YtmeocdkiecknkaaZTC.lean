/- Texts laid as one by shake.py, cut to what the claim needs: FrB. (Names that begin with W and the print's groups (G..x, G..z): laid by the kit's print, cut.) -/
import Derived.Test.YtmeocdkiecknkaaZTB
import Derived.Test.YtmeocdkiecknkaaZTj
import Derived.Test.YtmeocdkiecknkaaZTg
import Derived.Test.YtmeocdkiecknkaaZTd
import Derived.Laws.Concat
set_option linter.unusedVariables false
set_option linter.unusedSimpArgs false
namespace Go.Proofs.Ytmeocdkiecknkaa
open Go.RowKit Go.Proofs.YtmeocdkiecknkaaW.PrintWords Go.Proofs.Ytmeocdkiecknkaa.GVB
def frameL (l : List Int) : List Int := blob (strOfNums l) ++ crcB (Crc.sum (nats (blob (strOfNums l))))
set_option maxRecDepth 100000 in
set_option maxHeartbeats 1000000 in
theorem fput_ok (B : Option Addr) (cb : Nat) (m : List Int) (A : Option Addr) (c : Nat) (l : List Int) (w : World) (hB : Kd.C (Kd.int .u8) w B m.length m) (hcb : m.length ≤ cb) (hm : m.length ≤ 1000000) (hC : Kd.C (Kd.int .u8) w A l.length l) (hc : l.length ≤ c) (hl : 1 ≤ l.length ∧ l.length ≤ 2048) (hbl : (blob (strOfNums l)).length ≤ 3000) (hbb : ∀ x ∈ blob (strOfNums l), 0 ≤ x ∧ x < 256) :
  Calls Try.prog 18 #[.slice B m.length cb, .slice A l.length c] w fun e w' => ∃ (A4 : Option Addr) (c4 : Nat), e = .returned (.tuple #[.slice A4 (m ++ frameL l).length c4, .int .i64 0]) ∧ Kd.R (Kd.int .u8) 5 w' w.heap.size (fun _ => True) (.slice A4 (m ++ frameL l).length c4) (m ++ frameL l) ∧ Below w.heap.size w w' := by
 have d1 : decide ((l.length : Int) < 1) = false := decide_eq_false (by omega)
 have d2 : decide (2048 < (l.length : Int)) = false := decide_eq_false (by omega)
 have hcv := Kd.C_string (P := Try.prog) (A := A) (c := c) Try.underlying22 Try.underlying5 Try.underlying9 hC
 have HBP := Lib.hid (bput_any none 0 [] (strOfNums l) w (Kd.C_nil _ _) (Nat.le_refl _) (by simp; omega))
 have HCB := Lib.hid (fun (W : World) (h : Below w.heap.size w W) => Kd.C_below hB h)
 have HL := Lib.hid (And.intro hcb (And.intro hm (And.intro hbl hbb)))
 clear hB hC hcb hm hbl hbb
 go_enter Try.func18, Try.ntmps18
 go_wp2_with fail
 refine HBP.out.mono ?_
 rintro e w1 ⟨v1, rfl, hR1, hb1⟩
 obtain ⟨A1, c1, rfl⟩ := Kd.R_slice hR1
 rw [List.nil_append] at hR1
 have HS := Lib.hid (sealed_any A1 c1 (blob (strOfNums l)) w1 (Kd.R_reads' hR1).2.2 (Kd.R_reads' hR1).2.1 HL.out.2.2.2 (by have := HL.out.2.2.1; omega))
 have HB1 := Lib.hid hb1
 clear hR1 hb1 hcv
 go_wp2_with fail
 refine HS.out.mono ?_
 rintro e w2 ⟨v2, rfl, hR2, hb2⟩
 obtain ⟨A2, c2, rfl⟩ := Kd.R_slice hR2
 have HR2 := Lib.hid (show Kd.R (Kd.int .u8) 5 w2 w1.heap.size (fun _ => True) (.slice A2 (frameL l).length c2) (frameL l) from hR2)
 have HB2 := Lib.hid (HB1.out.trans (hb2.mono HB1.out.size))
 have hfl : (blob (strOfNums l) ++ crcB (Crc.sum (nats (blob (strOfNums l))))).length = (frameL l).length := rfl
 have hfz : (frameL l).length ≤ 3004 := by
  have := HL.out.2.2.1
  unfold frameL
  rw [List.length_append, show (crcB (Crc.sum (nats (blob (strOfNums l))))).length = 4 from rfl]; omega
 rw [hfl]
 have HFZ := Lib.hid hfz
 clear hR2 hb2 hfl hfz
 go_wp2_with fail
 have hA := HCB.out _ (HB2.out.alloc HB2.out.size (.cells #[.slice B m.length cb, .slice A2 (frameL l).length c2] 22))
 have hBr := Kd.C_below (Kd.R_reads' HR2.out).2.2 ((Below.refl w2.heap.size w2).alloc (Nat.le_refl _) (.cells #[.slice B m.length cb, .slice A2 (frameL l).length c2] 22))
 have hlen : ([m, frameL l] : List (List Int)).flatten = m ++ frameL l := by simp
 have hcat := concat_any (some ⟨w2.heap.size, 0, none⟩) 2 [m, frameL l] _ (rows_two (heap_new w2 _) hA hBr HL.out.1 (Kd.R_reads' HR2.out).2.1) (Nat.le_refl _) (by rw [hlen, List.length_append]; have := HL.out.2.1; have := HFZ.out; omega)
 rw [hlen] at hcat
 have HCT := Lib.hid hcat
 have HB3 := Lib.hid (HB2.out.alloc HB2.out.size (.cells #[.slice B m.length cb, .slice A2 (frameL l).length c2] 22))
 clear hA hBr hlen hcat
 refine HCT.out.mono ?_
 rintro e w4 ⟨v4, rfl, hR4, hb4⟩
 obtain ⟨A4, c4, rfl⟩ := Kd.R_slice hR4
 have HP := Lib.hid (And.intro (Kd.R_lower hR4 HB3.out.size) (HB3.out.trans (hb4.mono HB3.out.size)))
 clear hR4 hb4
 go_wp2_with fail
 go_ret2
 exact ⟨A4, c4, by first | rfl | (rw [List.length_append]; rfl), HP.out.1, HP.out.2⟩
end Go.Proofs.Ytmeocdkiecknkaa
namespace Go.Proofs.Ytmeocdkiecknkaa
open Go.RowKit Go.Proofs.YtmeocdkiecknkaaW.PrintWords Go.Proofs.Ytmeocdkiecknkaa.GVB
end Go.Proofs.Ytmeocdkiecknkaa
namespace Go.Proofs.Ytmeocdkiecknkaa
open Go.RowKit Go.Proofs.YtmeocdkiecknkaaW.PrintWords Go.Proofs.YtmeocdkiecknkaaW.PrintMore
open Go.Proofs.Ytmeocdkiecknkaa.GVB
end Go.Proofs.Ytmeocdkiecknkaa
namespace Go.Proofs.Ytmeocdkiecknkaa
open Go.RowKit Go.Proofs.YtmeocdkiecknkaaW.PrintWords Go.Proofs.Ytmeocdkiecknkaa.GVB
end Go.Proofs.Ytmeocdkiecknkaa
namespace Go.Proofs.Ytmeocdkiecknkaa
open Go.RowKit Go.Proofs.YtmeocdkiecknkaaW.PrintWords Go.Proofs.Ytmeocdkiecknkaa.GVB
end Go.Proofs.Ytmeocdkiecknkaa
namespace Go.Proofs.Ytmeocdkiecknkaa
open Go.RowKit Go.Proofs.YtmeocdkiecknkaaW.PrintWords Go.Proofs.Ytmeocdkiecknkaa.GVB
theorem headL_len (v : Int) : (headL v).length = 8 := rfl
theorem vers_head (v : Int) (hv : 1 ≤ v ∧ v ≤ 3) (l : List Int) : versF (headL v ++ l) = (v, 0) := by
 have hlen : (headL v ++ l).length = 8 + l.length := by rw [List.length_append, headL_len]
 have h3 : rd (headL v ++ l) 3 = v := rfl
 have ht : tphB (headL v ++ l) = true := by
  unfold tphB
  rw [show (headL v ++ l).take 3 = [84, 80, 72] from rfl, Lib.strOfNums_toList]; rfl
 have hlt := Crc.sum_lt (nats [84, 80, 72, v]) (by intro x hx; simp [nats] at hx; omega)
 have hw : wholeB (headL v ++ l) 4 = true := by
  unfold wholeB
  rw [show ((4 : Int).toNat) = 4 from rfl, show (headL v ++ l).take 4 = [84, 80, 72, v] from rfl, decide_eq_true (by rw [hlen]; omega), Bool.true_and, decide_eq_true_eq]
  show (Crc.sum (nats [84, 80, 72, v]) : Int) % 256 + 256 * ((Crc.sum (nats [84, 80, 72, v]) : Int) / 256 % 256) + 65536 * ((Crc.sum (nats [84, 80, 72, v]) : Int) / 65536 % 256) + 16777216 * ((Crc.sum (nats [84, 80, 72, v]) : Int) / 16777216 % 256) = _
  omega
 unfold versF
 rw [if_neg (by omega), ht, hw, h3, decide_eq_true hv]; rfl
end Go.Proofs.Ytmeocdkiecknkaa
