/- The contracts of varint.Put and of the chapter's example in the form that the print's callers take. -/
import Derived.Test.YtfflenbfapgilaaVar
set_option linter.unusedVariables false
namespace Go.Proofs.Ytfflenbfapgilaa
open Go.RowKit Go.Proofs.YtfflenbfapgilaaW.PrintWords
def varint_Put.f (l0 : List Int) (a1 : Int) : Option (List Int) := if l0.length ≤ 140737488355000 then if 0 ≤ a1 ∧ a1 < 18446744073709551616 then some (l0 ++ ints (vb a1.toNat)) else none else none
theorem varint_Put.calls (A0 : Option Addr) (c0 : Nat) (l0 : List Int) (a1 : Int) (r : List Int) (w : World) (hr0 : Kd.C (Kd.int .u8) w A0 l0.length l0) (hc0 : l0.length ≤ c0) (h : varint_Put.f l0 a1 = some r) :
    Calls Try.prog 112 #[.slice A0 l0.length c0, .int .u64 a1] w fun e w' => ∃ v0_ : Value, e = .returned (v0_) ∧ Kd.R (Kd.int .u8) 5 w' w.heap.size (fun _ => True) v0_ r ∧ Below w.heap.size w w' := by
  unfold varint_Put.f at h
  split at h
  case isFalse => cases h
  case isTrue hl =>
  split at h
  case isFalse => cases h
  case isTrue ha =>
  obtain rfl := Option.some.inj h
  have e : a1 = (a1.toNat : Int) := (Int.toNat_of_nonneg ha.1).symm
  have := put_any A0 c0 l0 a1.toNat w hr0 hc0 hl (by omega)
  rw [← e] at this
  exact this
def slices_Clone_byte_byte.f (l0 : List Int) : Option (List Int) := if l0.length ≤ 140737488355328 then some l0 else none
theorem slices_Clone_byte_byte.calls (A0 : Option Addr) (c0 : Nat) (l0 : List Int) (r : List Int) (w : World) (hr0 : Kd.C (Kd.int .u8) w A0 l0.length l0) (hc0 : l0.length ≤ c0) (h : slices_Clone_byte_byte.f l0 = some r) :
    Calls Try.prog 98 #[.slice A0 l0.length c0] w fun e w' => ∃ v0_ : Value, e = .returned (v0_) ∧ Kd.R (Kd.int .u8) 5 w' w.heap.size (fun _ => True) v0_ r ∧ Below w.heap.size w w' := by
  unfold slices_Clone_byte_byte.f at h
  split at h
  case isFalse => cases h
  case isTrue hl =>
  obtain rfl := Option.some.inj h
  exact clone_any A0 c0 l0 w hr0 hc0 hl
end Go.Proofs.Ytfflenbfapgilaa
