/-
  No cell of these rows narrows 'for every input' (looked for: loops, veiled, ifaces, maps, wideKeys, modest, calm, conditions, laid).
  DERIVED. THE GIVEN ROWS OF THIS SEAT. 12 by the template 'for every input the law returns true; each argument reads behind the call as it read before'; 0 by the template 'total and deterministic' (their statements: YthojcapdbjmneaaTotals.lean).
  GIVEN WITH THE SEED: the statements are not yours to turn. If you find one false, say at which input.
  Laid BY PROGRAM, IN A SANDBOX (cutbox-rows.mjs): the forced cells as the released guide's own fill.sh prints them over the translation dc5dae9bc0f9a717… (all of the seat's roots in one cut). By AI agents, Wed Nov 11 2026. No macro, syntax, notation, axiom, sorry.
-/
import Derived.Test.YthojcapdbjmneaaChecked
import GoSem.Claim
import GoSem.ClaimJoined
import GoSem.ClaimMapViews
import Derived.JoinedTies
import Derived.KernelRfl
namespace Go.Proofs.Ythojcapdbjmneaa
/- THE CELL 'sum', in the pinned program and in every row, IS THE sha256 OF THE DUMP (.gsa) THAT YthojcapdbjmneaaProg.lean LOADS. Nothing in Lean hashes anything: it is a label: what it is worth is what the hold of that sum in a sandbox is worth. -/
noncomputable def Try.pinned : Pinned := { name := "ythojcapdbjmneaa", sum := "dc5dae9bc0f9a7176bbaea86fccbcf7ca94edaed2065743ad6920070cfe3025c", checked := Try.checked }
namespace Rows
def none {H : Type} : Left H := { results := [], args := [] }

/-- 'tephralaw01.VarintGets': WHATEVER THE INPUT: true; the input reads as it did. -/
def varintGetsSpec : ChangeSpec := { name := "varintGets", fn := fun _ => fun
  | [d1, d2] => { results := [.lit (.bool true)], args := [d1, d2] }
  | _ => none }
def varintGetsRow : OpenClaim := { program := "ythojcapdbjmneaa", sum := "dc5dae9bc0f9a7176bbaea86fccbcf7ca94edaed2065743ad6920070cfe3025c", func := "tephra/tephralaw01.VarintGets", spec := "varintGets", unfollowed := true, recurses := true, apart := false }
def VarintGetsSaid : Prop := varintGetsRow.holds Try.pinned (OpenSpec.ofChange varintGetsSpec)

/-- ITS FALSE NEIGHBOUR: 'it returns false'. Refute it at one input. -/
def varintGetsWrong : ChangeSpec := { name := "varintGets", fn := fun _ => fun
  | [d1, d2] => { results := [.lit (.bool false)], args := [d1, d2] }
  | _ => none }
def VarintGetsWrongFalsely : Prop := varintGetsRow.holds Try.pinned (OpenSpec.ofChange varintGetsWrong)

/-- 'tephralaw01.VarintOrder': WHATEVER THE INPUT: true; the input reads as it did. -/
def varintOrderSpec : ChangeSpec := { name := "varintOrder", fn := fun _ => fun
  | [d1, d2] => { results := [.lit (.bool true)], args := [d1, d2] }
  | _ => none }
def varintOrderRow : OpenClaim := { program := "ythojcapdbjmneaa", sum := "dc5dae9bc0f9a7176bbaea86fccbcf7ca94edaed2065743ad6920070cfe3025c", func := "tephra/tephralaw01.VarintOrder", spec := "varintOrder", unfollowed := true, recurses := true, apart := false }
def VarintOrderSaid : Prop := varintOrderRow.holds Try.pinned (OpenSpec.ofChange varintOrderSpec)

/-- ITS FALSE NEIGHBOUR: 'it returns false'. Refute it at one input. -/
def varintOrderWrong : ChangeSpec := { name := "varintOrder", fn := fun _ => fun
  | [d1, d2] => { results := [.lit (.bool false)], args := [d1, d2] }
  | _ => none }
def VarintOrderWrongFalsely : Prop := varintOrderRow.holds Try.pinned (OpenSpec.ofChange varintOrderWrong)

/-- 'tephralaw01.VarintPuts': WHATEVER THE INPUT: true; the input reads as it did. -/
def varintPutsSpec : ChangeSpec := { name := "varintPuts", fn := fun _ => fun
  | [d1, d2] => { results := [.lit (.bool true)], args := [d1, d2] }
  | _ => none }
def varintPutsRow : OpenClaim := { program := "ythojcapdbjmneaa", sum := "dc5dae9bc0f9a7176bbaea86fccbcf7ca94edaed2065743ad6920070cfe3025c", func := "tephra/tephralaw01.VarintPuts", spec := "varintPuts", unfollowed := true, recurses := true, apart := false }
def VarintPutsSaid : Prop := varintPutsRow.holds Try.pinned (OpenSpec.ofChange varintPutsSpec)

/-- ITS FALSE NEIGHBOUR: 'it returns false'. Refute it at one input. -/
def varintPutsWrong : ChangeSpec := { name := "varintPuts", fn := fun _ => fun
  | [d1, d2] => { results := [.lit (.bool false)], args := [d1, d2] }
  | _ => none }
def VarintPutsWrongFalsely : Prop := varintPutsRow.holds Try.pinned (OpenSpec.ofChange varintPutsWrong)

/-- 'tephralaw01.VarintCuts': WHATEVER THE INPUT: true; the input reads as it did. -/
def varintCutsSpec : ChangeSpec := { name := "varintCuts", fn := fun _ => fun
  | [d1, d2] => { results := [.lit (.bool true)], args := [d1, d2] }
  | _ => none }
def varintCutsRow : OpenClaim := { program := "ythojcapdbjmneaa", sum := "dc5dae9bc0f9a7176bbaea86fccbcf7ca94edaed2065743ad6920070cfe3025c", func := "tephra/tephralaw01.VarintCuts", spec := "varintCuts", unfollowed := true, recurses := true, apart := false }
def VarintCutsSaid : Prop := varintCutsRow.holds Try.pinned (OpenSpec.ofChange varintCutsSpec)

/-- ITS FALSE NEIGHBOUR: 'it returns false'. Refute it at one input. -/
def varintCutsWrong : ChangeSpec := { name := "varintCuts", fn := fun _ => fun
  | [d1, d2] => { results := [.lit (.bool false)], args := [d1, d2] }
  | _ => none }
def VarintCutsWrongFalsely : Prop := varintCutsRow.holds Try.pinned (OpenSpec.ofChange varintCutsWrong)

/-- 'tephralaw02.BlobPuts': WHATEVER THE INPUT: true; the input reads as it did. -/
def blobPutsSpec : ChangeSpec := { name := "blobPuts", fn := fun _ => fun
  | [d1, d2] => { results := [.lit (.bool true)], args := [d1, d2] }
  | _ => none }
def blobPutsRow : OpenClaim := { program := "ythojcapdbjmneaa", sum := "dc5dae9bc0f9a7176bbaea86fccbcf7ca94edaed2065743ad6920070cfe3025c", func := "tephra/tephralaw02.BlobPuts", spec := "blobPuts", unfollowed := true, recurses := true, apart := false }
def BlobPutsSaid : Prop := blobPutsRow.holds Try.pinned (OpenSpec.ofChange blobPutsSpec)

/-- ITS FALSE NEIGHBOUR: 'it returns false'. Refute it at one input. -/
def blobPutsWrong : ChangeSpec := { name := "blobPuts", fn := fun _ => fun
  | [d1, d2] => { results := [.lit (.bool false)], args := [d1, d2] }
  | _ => none }
def BlobPutsWrongFalsely : Prop := blobPutsRow.holds Try.pinned (OpenSpec.ofChange blobPutsWrong)

/-- 'tephralaw02.BlobGets': WHATEVER THE INPUT: true; the input reads as it did. -/
def blobGetsSpec : ChangeSpec := { name := "blobGets", fn := fun _ => fun
  | [d1, d2, d3] => { results := [.lit (.bool true)], args := [d1, d2, d3] }
  | _ => none }
def blobGetsRow : OpenClaim := { program := "ythojcapdbjmneaa", sum := "dc5dae9bc0f9a7176bbaea86fccbcf7ca94edaed2065743ad6920070cfe3025c", func := "tephra/tephralaw02.BlobGets", spec := "blobGets", unfollowed := true, recurses := true, apart := false }
def BlobGetsSaid : Prop := blobGetsRow.holds Try.pinned (OpenSpec.ofChange blobGetsSpec)

/-- ITS FALSE NEIGHBOUR: 'it returns false'. Refute it at one input. -/
def blobGetsWrong : ChangeSpec := { name := "blobGets", fn := fun _ => fun
  | [d1, d2, d3] => { results := [.lit (.bool false)], args := [d1, d2, d3] }
  | _ => none }
def BlobGetsWrongFalsely : Prop := blobGetsRow.holds Try.pinned (OpenSpec.ofChange blobGetsWrong)

/-- 'tephralaw02.BlobLists': WHATEVER THE INPUT: true; the input reads as it did. -/
def blobListsSpec : ChangeSpec := { name := "blobLists", fn := fun _ => fun
  | [d1, d2] => { results := [.lit (.bool true)], args := [d1, d2] }
  | _ => none }
def blobListsRow : OpenClaim := { program := "ythojcapdbjmneaa", sum := "dc5dae9bc0f9a7176bbaea86fccbcf7ca94edaed2065743ad6920070cfe3025c", func := "tephra/tephralaw02.BlobLists", spec := "blobLists", unfollowed := true, recurses := true, apart := false }
def BlobListsSaid : Prop := blobListsRow.holds Try.pinned (OpenSpec.ofChange blobListsSpec)

/-- ITS FALSE NEIGHBOUR: 'it returns false'. Refute it at one input. -/
def blobListsWrong : ChangeSpec := { name := "blobLists", fn := fun _ => fun
  | [d1, d2] => { results := [.lit (.bool false)], args := [d1, d2] }
  | _ => none }
def BlobListsWrongFalsely : Prop := blobListsRow.holds Try.pinned (OpenSpec.ofChange blobListsWrong)

/-- 'tephralaw02.BlobOne': WHATEVER THE INPUT: true; the input reads as it did. -/
def blobOneSpec : ChangeSpec := { name := "blobOne", fn := fun _ => fun
  | [d1, d2] => { results := [.lit (.bool true)], args := [d1, d2] }
  | _ => none }
def blobOneRow : OpenClaim := { program := "ythojcapdbjmneaa", sum := "dc5dae9bc0f9a7176bbaea86fccbcf7ca94edaed2065743ad6920070cfe3025c", func := "tephra/tephralaw02.BlobOne", spec := "blobOne", unfollowed := true, recurses := true, apart := false }
def BlobOneSaid : Prop := blobOneRow.holds Try.pinned (OpenSpec.ofChange blobOneSpec)

/-- ITS FALSE NEIGHBOUR: 'it returns false'. Refute it at one input. -/
def blobOneWrong : ChangeSpec := { name := "blobOne", fn := fun _ => fun
  | [d1, d2] => { results := [.lit (.bool false)], args := [d1, d2] }
  | _ => none }
def BlobOneWrongFalsely : Prop := blobOneRow.holds Try.pinned (OpenSpec.ofChange blobOneWrong)

/-- 'tephralaw03.CrcSums': WHATEVER THE INPUT: true; the input reads as it did. -/
def crcSumsSpec : ChangeSpec := { name := "crcSums", fn := fun _ => fun
  | [d] => { results := [.lit (.bool true)], args := [d] }
  | _ => none }
def crcSumsRow : OpenClaim := { program := "ythojcapdbjmneaa", sum := "dc5dae9bc0f9a7176bbaea86fccbcf7ca94edaed2065743ad6920070cfe3025c", func := "tephra/tephralaw03.CrcSums", spec := "crcSums", apart := false }
def CrcSumsSaid : Prop := crcSumsRow.holds Try.pinned (OpenSpec.ofChange crcSumsSpec)

/-- ITS FALSE NEIGHBOUR: 'it returns false'. Refute it at one input. -/
def crcSumsWrong : ChangeSpec := { name := "crcSums", fn := fun _ => fun
  | [d] => { results := [.lit (.bool false)], args := [d] }
  | _ => none }
def CrcSumsWrongFalsely : Prop := crcSumsRow.holds Try.pinned (OpenSpec.ofChange crcSumsWrong)

/-- 'tephralaw03.CrcLine': WHATEVER THE INPUT: true; the input reads as it did. -/
def crcLineSpec : ChangeSpec := { name := "crcLine", fn := fun _ => fun
  | [d1, d2, d3] => { results := [.lit (.bool true)], args := [d1, d2, d3] }
  | _ => none }
def crcLineRow : OpenClaim := { program := "ythojcapdbjmneaa", sum := "dc5dae9bc0f9a7176bbaea86fccbcf7ca94edaed2065743ad6920070cfe3025c", func := "tephra/tephralaw03.CrcLine", spec := "crcLine", apart := false }
def CrcLineSaid : Prop := crcLineRow.holds Try.pinned (OpenSpec.ofChange crcLineSpec)

/-- ITS FALSE NEIGHBOUR: 'it returns false'. Refute it at one input. -/
def crcLineWrong : ChangeSpec := { name := "crcLine", fn := fun _ => fun
  | [d1, d2, d3] => { results := [.lit (.bool false)], args := [d1, d2, d3] }
  | _ => none }
def CrcLineWrongFalsely : Prop := crcLineRow.holds Try.pinned (OpenSpec.ofChange crcLineWrong)

/-- 'tephralaw03.CrcBytes': WHATEVER THE INPUT: true; the input reads as it did. -/
def crcBytesSpec : ChangeSpec := { name := "crcBytes", fn := fun _ => fun
  | [d1, d2, d3] => { results := [.lit (.bool true)], args := [d1, d2, d3] }
  | _ => none }
def crcBytesRow : OpenClaim := { program := "ythojcapdbjmneaa", sum := "dc5dae9bc0f9a7176bbaea86fccbcf7ca94edaed2065743ad6920070cfe3025c", func := "tephra/tephralaw03.CrcBytes", spec := "crcBytes", apart := false }
def CrcBytesSaid : Prop := crcBytesRow.holds Try.pinned (OpenSpec.ofChange crcBytesSpec)

/-- ITS FALSE NEIGHBOUR: 'it returns false'. Refute it at one input. -/
def crcBytesWrong : ChangeSpec := { name := "crcBytes", fn := fun _ => fun
  | [d1, d2, d3] => { results := [.lit (.bool false)], args := [d1, d2, d3] }
  | _ => none }
def CrcBytesWrongFalsely : Prop := crcBytesRow.holds Try.pinned (OpenSpec.ofChange crcBytesWrong)

/-- 'tephralaw03.CrcTold': WHATEVER THE INPUT: true; the input reads as it did. -/
def crcToldSpec : ChangeSpec := { name := "crcTold", fn := fun _ => fun
  | [d1, d2, d3] => { results := [.lit (.bool true)], args := [d1, d2, d3] }
  | _ => none }
def crcToldRow : OpenClaim := { program := "ythojcapdbjmneaa", sum := "dc5dae9bc0f9a7176bbaea86fccbcf7ca94edaed2065743ad6920070cfe3025c", func := "tephra/tephralaw03.CrcTold", spec := "crcTold", apart := false }
def CrcToldSaid : Prop := crcToldRow.holds Try.pinned (OpenSpec.ofChange crcToldSpec)

/-- ITS FALSE NEIGHBOUR: 'it returns false'. Refute it at one input. -/
def crcToldWrong : ChangeSpec := { name := "crcTold", fn := fun _ => fun
  | [d1, d2, d3] => { results := [.lit (.bool false)], args := [d1, d2, d3] }
  | _ => none }
def CrcToldWrongFalsely : Prop := crcToldRow.holds Try.pinned (OpenSpec.ofChange crcToldWrong)

/- THE SECOND FORM. 'bulk': how many values and letters a reading holds, each counted each time it is reached (what is shared counts as often as it is met; a slice's spare places count too). A statement '..UptoSaid' is the law's where the arguments, and the package variables that the reading takes, are together of bulk at most 1048576: NARROWER than '..Said'. Prove '..Said' where nothing that the law and all that it calls make is longer than what came in: it says more and counts as full. Else prove '..UptoSaid'. A law counts once. -/
mutual
def uptoBulk {H : Type} : DataW H → Nat
  | .lit (.string bytes) => bytes.length + 1
  | .lit _ => 1
  | .nil => 1
  | .ptr d => uptoBulk d + 1
  | .slice elems spare => uptoBulkAll elems + uptoBulkAll spare + 1
  | .agg parts => uptoBulkAll parts + 1
  | .iface _ d => uptoBulk d + 1
  | .map entries => uptoBulkEntries entries + 1
  | .held _ => 1
def uptoBulkAll {H : Type} : List (DataW H) → Nat
  | [] => 0
  | d :: r => uptoBulk d + uptoBulkAll r
def uptoBulkEntries {H : Type} : List (Lit × DataW H) → Nat
  | [] => 0
  | x :: r => uptoBulkEntry x + uptoBulkEntries r
def uptoBulkEntry {H : Type} : Lit × DataW H → Nat
  | (.string bytes, d) => bytes.length + uptoBulk d + 1
  | (_, d) => uptoBulk d + 1
 end
def uptoSmall : (H : Type) → List (DataW H) → Bool := fun _ ds => decide (uptoBulkAll ds ≤ 1048576)
def OpenSpec.upto (s : _root_.Go.ChangeSpec) : _root_.Go.OpenSpec := { _root_.Go.OpenSpec.ofChange s with cond := some uptoSmall }

/-- 'tephralaw01.VarintGets', WHERE WHAT IT READS IS OF BULK AT MOST 1048576: true; the input reads as it did. -/
def varintGetsUptoRow : OpenClaim := { program := "ythojcapdbjmneaa", sum := "dc5dae9bc0f9a7176bbaea86fccbcf7ca94edaed2065743ad6920070cfe3025c", func := "tephra/tephralaw01.VarintGets", spec := "varintGets", unfollowed := true, recurses := true, apart := false, narrowed := true }
def VarintGetsUptoSaid : Prop := varintGetsUptoRow.holds Try.pinned (OpenSpec.upto varintGetsSpec)

/-- 'tephralaw01.VarintOrder', WHERE WHAT IT READS IS OF BULK AT MOST 1048576: true; the input reads as it did. -/
def varintOrderUptoRow : OpenClaim := { program := "ythojcapdbjmneaa", sum := "dc5dae9bc0f9a7176bbaea86fccbcf7ca94edaed2065743ad6920070cfe3025c", func := "tephra/tephralaw01.VarintOrder", spec := "varintOrder", unfollowed := true, recurses := true, apart := false, narrowed := true }
def VarintOrderUptoSaid : Prop := varintOrderUptoRow.holds Try.pinned (OpenSpec.upto varintOrderSpec)

/-- 'tephralaw01.VarintPuts', WHERE WHAT IT READS IS OF BULK AT MOST 1048576: true; the input reads as it did. -/
def varintPutsUptoRow : OpenClaim := { program := "ythojcapdbjmneaa", sum := "dc5dae9bc0f9a7176bbaea86fccbcf7ca94edaed2065743ad6920070cfe3025c", func := "tephra/tephralaw01.VarintPuts", spec := "varintPuts", unfollowed := true, recurses := true, apart := false, narrowed := true }
def VarintPutsUptoSaid : Prop := varintPutsUptoRow.holds Try.pinned (OpenSpec.upto varintPutsSpec)

/-- 'tephralaw01.VarintCuts', WHERE WHAT IT READS IS OF BULK AT MOST 1048576: true; the input reads as it did. -/
def varintCutsUptoRow : OpenClaim := { program := "ythojcapdbjmneaa", sum := "dc5dae9bc0f9a7176bbaea86fccbcf7ca94edaed2065743ad6920070cfe3025c", func := "tephra/tephralaw01.VarintCuts", spec := "varintCuts", unfollowed := true, recurses := true, apart := false, narrowed := true }
def VarintCutsUptoSaid : Prop := varintCutsUptoRow.holds Try.pinned (OpenSpec.upto varintCutsSpec)

/-- 'tephralaw02.BlobPuts', WHERE WHAT IT READS IS OF BULK AT MOST 1048576: true; the input reads as it did. -/
def blobPutsUptoRow : OpenClaim := { program := "ythojcapdbjmneaa", sum := "dc5dae9bc0f9a7176bbaea86fccbcf7ca94edaed2065743ad6920070cfe3025c", func := "tephra/tephralaw02.BlobPuts", spec := "blobPuts", unfollowed := true, recurses := true, apart := false, narrowed := true }
def BlobPutsUptoSaid : Prop := blobPutsUptoRow.holds Try.pinned (OpenSpec.upto blobPutsSpec)

/-- 'tephralaw02.BlobGets', WHERE WHAT IT READS IS OF BULK AT MOST 1048576: true; the input reads as it did. -/
def blobGetsUptoRow : OpenClaim := { program := "ythojcapdbjmneaa", sum := "dc5dae9bc0f9a7176bbaea86fccbcf7ca94edaed2065743ad6920070cfe3025c", func := "tephra/tephralaw02.BlobGets", spec := "blobGets", unfollowed := true, recurses := true, apart := false, narrowed := true }
def BlobGetsUptoSaid : Prop := blobGetsUptoRow.holds Try.pinned (OpenSpec.upto blobGetsSpec)

/-- 'tephralaw02.BlobLists', WHERE WHAT IT READS IS OF BULK AT MOST 1048576: true; the input reads as it did. -/
def blobListsUptoRow : OpenClaim := { program := "ythojcapdbjmneaa", sum := "dc5dae9bc0f9a7176bbaea86fccbcf7ca94edaed2065743ad6920070cfe3025c", func := "tephra/tephralaw02.BlobLists", spec := "blobLists", unfollowed := true, recurses := true, apart := false, narrowed := true }
def BlobListsUptoSaid : Prop := blobListsUptoRow.holds Try.pinned (OpenSpec.upto blobListsSpec)

/-- 'tephralaw02.BlobOne', WHERE WHAT IT READS IS OF BULK AT MOST 1048576: true; the input reads as it did. -/
def blobOneUptoRow : OpenClaim := { program := "ythojcapdbjmneaa", sum := "dc5dae9bc0f9a7176bbaea86fccbcf7ca94edaed2065743ad6920070cfe3025c", func := "tephra/tephralaw02.BlobOne", spec := "blobOne", unfollowed := true, recurses := true, apart := false, narrowed := true }
def BlobOneUptoSaid : Prop := blobOneUptoRow.holds Try.pinned (OpenSpec.upto blobOneSpec)

/-- 'tephralaw03.CrcSums', WHERE WHAT IT READS IS OF BULK AT MOST 1048576: true; the input reads as it did. -/
def crcSumsUptoRow : OpenClaim := { program := "ythojcapdbjmneaa", sum := "dc5dae9bc0f9a7176bbaea86fccbcf7ca94edaed2065743ad6920070cfe3025c", func := "tephra/tephralaw03.CrcSums", spec := "crcSums", apart := false, narrowed := true }
def CrcSumsUptoSaid : Prop := crcSumsUptoRow.holds Try.pinned (OpenSpec.upto crcSumsSpec)

/-- 'tephralaw03.CrcLine', WHERE WHAT IT READS IS OF BULK AT MOST 1048576: true; the input reads as it did. -/
def crcLineUptoRow : OpenClaim := { program := "ythojcapdbjmneaa", sum := "dc5dae9bc0f9a7176bbaea86fccbcf7ca94edaed2065743ad6920070cfe3025c", func := "tephra/tephralaw03.CrcLine", spec := "crcLine", apart := false, narrowed := true }
def CrcLineUptoSaid : Prop := crcLineUptoRow.holds Try.pinned (OpenSpec.upto crcLineSpec)

/-- 'tephralaw03.CrcBytes', WHERE WHAT IT READS IS OF BULK AT MOST 1048576: true; the input reads as it did. -/
def crcBytesUptoRow : OpenClaim := { program := "ythojcapdbjmneaa", sum := "dc5dae9bc0f9a7176bbaea86fccbcf7ca94edaed2065743ad6920070cfe3025c", func := "tephra/tephralaw03.CrcBytes", spec := "crcBytes", apart := false, narrowed := true }
def CrcBytesUptoSaid : Prop := crcBytesUptoRow.holds Try.pinned (OpenSpec.upto crcBytesSpec)

/-- 'tephralaw03.CrcTold', WHERE WHAT IT READS IS OF BULK AT MOST 1048576: true; the input reads as it did. -/
def crcToldUptoRow : OpenClaim := { program := "ythojcapdbjmneaa", sum := "dc5dae9bc0f9a7176bbaea86fccbcf7ca94edaed2065743ad6920070cfe3025c", func := "tephra/tephralaw03.CrcTold", spec := "crcTold", apart := false, narrowed := true }
def CrcToldUptoSaid : Prop := crcToldUptoRow.holds Try.pinned (OpenSpec.upto crcToldSpec)

end Rows
end Go.Proofs.Ythojcapdbjmneaa
