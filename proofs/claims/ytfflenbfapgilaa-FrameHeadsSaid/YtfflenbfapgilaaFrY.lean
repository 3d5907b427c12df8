/- A head in front of bytes tells its version. -/
import Derived.Test.YtfflenbfapgilaaFrX
set_option linter.unusedVariables false
set_option linter.unusedSimpArgs false
namespace Go.Proofs.Ytfflenbfapgilaa
open Go.RowKit Go.Proofs.YtfflenbfapgilaaW.PrintWords Go.Proofs.Ytfflenbfapgilaa.GVB

theorem headL_len (v : Int) : (headL v).length = 8 := rfl
theorem vers_head (v : Int) (hv : 1 ≤ v ∧ v ≤ 3) (l : List Int) : versF (headL v ++ l) = (v, 0) := by
  have hlen : (headL v ++ l).length = 8 + l.length := by rw [List.length_append, headL_len]
  have h3 : rd (headL v ++ l) 3 = v := rfl
  have ht : tphB (headL v ++ l) = true := by
    unfold tphB
    rw [show (headL v ++ l).take 3 = [84, 80, 72] from rfl, Lib.strOfNums_toList]; rfl
  have hlt := Crc.sum_lt (nats [84, 80, 72, v]) (by intro x hx; simp [nats] at hx; omega)
  have hw : wholeB (headL v ++ l) 4 = true := by
    unfold wholeB
    rw [show ((4 : Int).toNat) = 4 from rfl, show (headL v ++ l).take 4 = [84, 80, 72, v] from rfl, decide_eq_true (by rw [hlen]; omega), Bool.true_and, decide_eq_true_eq]
    show (Crc.sum (nats [84, 80, 72, v]) : Int) % 256 + 256 * ((Crc.sum (nats [84, 80, 72, v]) : Int) / 256 % 256) + 65536 * ((Crc.sum (nats [84, 80, 72, v]) : Int) / 65536 % 256) + 16777216 * ((Crc.sum (nats [84, 80, 72, v]) : Int) / 16777216 % 256) = _
    omega
  unfold versF
  rw [if_neg (by omega), ht, hw, h3, decide_eq_true hv]; rfl
end Go.Proofs.Ytfflenbfapgilaa
