/- The law VarintCuts, walked by the print. -/
import Derived.Test.YthojcapdbjmneaaPureVarintCuts
namespace Go.Proofs.Ythojcapdbjmneaa.WVarintCuts
open Go.RowKit
theorem walk (a0 : Option Addr) (len0 cap0 : Nat) (z0 : List Int) (a1 : Int) (w : World) (w0 : (a0 = none ∧ len0 = 0 ∧ cap0 = 0 ∧ z0 = []) ∨ ∃ x, a0 = some x ∧ len0 ≤ cap0 ∧ cap0 ≤ maxLen ∧ z0.length = cap0 ∧ (∀ i, i < z0.length → w.cell? (x.add i) = some (.int .u64 (z0.getD i 0))) ∧ ∀ n ∈ z0, (Lit.int .u64 n).wf = true) (y0 : len0 * 8 ≤ 140737488351232) (w1 : (Lit.int .u16 a1).wf = true) :
    Calls Try.prog 6 #[.slice a0 len0 cap0, .int .u16 a1] w fun e w' => e = .returned (.bool true) ∧ Below w.heap.size w w' :=
  GVB.tephralaw01_VarintCuts.walk Pure.VarintCuts a0 len0 cap0 z0 a1 w w0 y0 w1
end Go.Proofs.Ythojcapdbjmneaa.WVarintCuts
