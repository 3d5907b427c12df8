/- What frame.Version answers. -/
import Derived.Test.YtfflenbfapgilaaFrW
set_option linter.unusedVariables false
set_option linter.unusedSimpArgs false
namespace Go.Proofs.Ytfflenbfapgilaa
open Go.RowKit Go.Proofs.YtfflenbfapgilaaW.PrintWords Go.Proofs.Ytfflenbfapgilaa.GVB

theorem byte_at {w : World} {A : Option Addr} {n : Nat} {l : List Int} (h : Kd.C (Kd.int .u8) w A n l) (i : Nat) (hi : i < l.length) :
    ∃ ad : Addr, A = some ad ∧ w.cell? (ad.add i) = some (.int .u8 l[i]) := by
  obtain ⟨ad, he, hc⟩ := h.2.2 (by have := h.1; omega)
  obtain ⟨cs, _, hcs, hcell⟩ := hc i l[i] (List.getElem?_eq_getElem hi)
  have hcs' : cs = [.int .u8 l[i]] := hcs
  have := hcell 0 _ (by rw [hcs']; rfl)
  rw [show (Kd.int IntKind.u8).sz = 1 from rfl, Nat.mul_one, Nat.add_zero] at this
  exact ⟨ad, he, this⟩
def tphB (l : List Int) : Bool := (strOfNums (l.take 3)).toList == [84, 80, 72]
def versF (l : List Int) : Int × Int :=
  if l.length < 8 then (0, 2) else if tphB l = false then (0, 3) else if wholeB l 4 = false then (0, 4) else if decide (1 ≤ rd l 3 ∧ rd l 3 ≤ 3) = false then (0, 11) else (rd l 3, 0)
set_option maxRecDepth 100000 in
set_option maxHeartbeats 1000000 in
theorem vers_any (A : Option Addr) (c : Nat) (l : List Int) (w : World) (hC : Kd.C (Kd.int .u8) w A l.length l) (hc : l.length ≤ c) (hb : ∀ x ∈ l, 0 ≤ x ∧ x < 256) (hl : l.length ≤ 1000000) :
    Calls Try.prog 17 #[.slice A l.length c] w fun e w' => e = .returned (.tuple #[.int .i64 (versF l).1, .int .i64 (versF l).2]) ∧ Below w.heap.size w w' := by
  by_cases h8 : l.length < 8
  · have e : versF l = (0, 2) := by unfold versF; rw [if_pos h8]
    rw [e]
    have d : decide ((l.length : Int) < 8) = true := decide_eq_true (by omega)
    clear hC
    go_enter Try.func17, Try.ntmps17
    go_wp2_with fail
    go_ret2
    exact ⟨rfl, Below.refl _ _⟩
  · have d : decide ((l.length : Int) < 8) = false := decide_eq_false (by omega)
    obtain ⟨t, ht⟩ : ∃ t, tphB l = t := ⟨_, rfl⟩
    obtain ⟨wh, hwh⟩ : ∃ t, wholeB l 4 = t := ⟨_, rfl⟩
    have htk : (l.take 3).length = 3 := by rw [List.length_take]; omega
    have hC3 := Kd.C_take hC (show 3 ≤ l.length by omega)
    have hcv := Kd.C_string (P := Try.prog) (A := A) (c := c) Try.underlying22 Try.underlying5 Try.underlying9 hC3
    rw [htk] at hcv
    obtain ⟨ad, had, hcell⟩ := byte_at hC 3 (by omega)
    have hr3 : rd l 3 = l[3] := by simp [rd, show 3 < l.length by omega]
    have hb3 := hb l[3] (List.getElem_mem _)
    rw [← hr3] at hcell hb3
    have HWH := Lib.hid (whole_any A c l 4 w hC hc hb hl (by omega))
    rw [hwh] at HWH
    have HMY := Lib.hid (fun W => may_ver (rd l 3) W)
    obtain ⟨m, hm⟩ : ∃ m, decide (1 ≤ rd l 3 ∧ rd l 3 ≤ 3) = m := ⟨_, rfl⟩
    rw [hm] at HMY
    have HCB := Lib.hid (fun (W : World) (hB : Below w.heap.size w W) => (show W.cell? (ad.add 3) = some (.int .u8 (rd l 3)) from by
      obtain ⟨ad2, h1, h2⟩ := byte_at (Kd.C_below hC hB) 3 (by omega)
      rw [had] at h1; cases h1; rw [hr3]; exact h2))
    have e : versF l = if t = false then (0, 3) else if wh = false then (0, 4) else if m = false then (0, 11) else (rd l 3, 0) := by
      unfold versF; rw [if_neg h8, ht, hwh, hm]
    rw [e]
    unfold tphB at ht
    have htb : ((strOfNums (l.take 3)).toList == [84, 80, 72]) = t := ht
    clear hC hb hl e hC3 htk hr3 ht hwh hm
    subst had
    generalize rd l 3 = r at *
    cases t
    · go_enter Try.func17, Try.ntmps17
      go_wp2_with fail
      go_ret2
      exact ⟨rfl, Below.refl _ _⟩
    · go_enter Try.func17, Try.ntmps17
      go_wp2_with fail
      refine HWH.out.mono ?_
      rintro e w1 ⟨rfl, hb1⟩
      have hcell1 := HCB.out w1 hb1
      have hcell2 : w1.cell? ⟨ad.block, ad.off + 3, none⟩ = some (.int .u8 r) := by first | exact hcell1 | simpa [Addr.add] using hcell1
      have HB1 := Lib.hid hb1
      clear hb1 hcv
      cases wh
      · go_wp2_with fail
        go_ret2
        exact ⟨rfl, HB1.out⟩
      · go_wp2_with fail
        refine (HMY.out w1).mono ?_
        rintro e w2 ⟨rfl, rfl⟩
        cases m
        · go_wp2_with fail
          go_ret2
          exact ⟨rfl, HB1.out⟩
        · go_wp2_with fail
          go_ret2
          exact ⟨rfl, HB1.out⟩
end Go.Proofs.Ytfflenbfapgilaa
