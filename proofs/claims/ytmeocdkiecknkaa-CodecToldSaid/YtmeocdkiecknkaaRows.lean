/-
  No cell of these rows narrows 'for every input' (looked for: loops, veiled, ifaces, maps, wideKeys, modest, calm, conditions, laid).
  DERIVED. THE GIVEN ROWS OF THIS SEAT. 10 by the template 'for every input the law returns true; each argument reads behind the call as it read before'; 0 by the template 'total and deterministic' (their statements: YtmeocdkiecknkaaTotals.lean).
  GIVEN WITH THE SEED: the statements are not yours to turn. If you find one false, say at which input.
  Laid BY PROGRAM, IN A SANDBOX (cutbox-rows.mjs): the forced cells as the released guide's own fill.sh prints them over the translation 69d0d4291bae59a2… (all of the seat's roots in one cut). By AI agents, Wed Nov 11 2026. No macro, syntax, notation, axiom, sorry.
-/
import Derived.Test.YtmeocdkiecknkaaChecked
import GoSem.Claim
import GoSem.ClaimJoined
import GoSem.ClaimMapViews
import Derived.JoinedTies
import Derived.KernelRfl
namespace Go.Proofs.Ytmeocdkiecknkaa
/- THE CELL 'sum', in the pinned program and in every row, IS THE sha256 OF THE DUMP (.gsa) THAT YtmeocdkiecknkaaProg.lean LOADS. Nothing in Lean hashes anything: it is a label: what it is worth is what the hold of that sum in a sandbox is worth. -/
noncomputable def Try.pinned : Pinned := { name := "ytmeocdkiecknkaa", sum := "69d0d4291bae59a2a5ccd4cad3901ef26d81b536768d215fb543a3f4309ab31b", checked := Try.checked }
namespace Rows
def none {H : Type} : Left H := { results := [], args := [] }

/-- 'tephralaw06.FrameHeads': WHATEVER THE INPUT: true; the input reads as it did. -/
def frameHeadsSpec : ChangeSpec := { name := "frameHeads", fn := fun _ => fun
  | [d1, d2] => { results := [.lit (.bool true)], args := [d1, d2] }
  | _ => none }
def frameHeadsRow : OpenClaim := { program := "ytmeocdkiecknkaa", sum := "69d0d4291bae59a2a5ccd4cad3901ef26d81b536768d215fb543a3f4309ab31b", func := "tephra/tephralaw06.FrameHeads", spec := "frameHeads", unfollowed := true, recurses := true, apart := false }
def FrameHeadsSaid : Prop := frameHeadsRow.holds Try.pinned (OpenSpec.ofChange frameHeadsSpec)

/-- ITS FALSE NEIGHBOUR: 'it returns false'. Refute it at one input. -/
def frameHeadsWrong : ChangeSpec := { name := "frameHeads", fn := fun _ => fun
  | [d1, d2] => { results := [.lit (.bool false)], args := [d1, d2] }
  | _ => none }
def FrameHeadsWrongFalsely : Prop := frameHeadsRow.holds Try.pinned (OpenSpec.ofChange frameHeadsWrong)

/-- 'tephralaw06.FramePuts': WHATEVER THE INPUT: true; the input reads as it did. -/
def framePutsSpec : ChangeSpec := { name := "framePuts", fn := fun _ => fun
  | [d1, d2] => { results := [.lit (.bool true)], args := [d1, d2] }
  | _ => none }
def framePutsRow : OpenClaim := { program := "ytmeocdkiecknkaa", sum := "69d0d4291bae59a2a5ccd4cad3901ef26d81b536768d215fb543a3f4309ab31b", func := "tephra/tephralaw06.FramePuts", spec := "framePuts", unfollowed := true, recurses := true, apart := false }
def FramePutsSaid : Prop := framePutsRow.holds Try.pinned (OpenSpec.ofChange framePutsSpec)

/-- ITS FALSE NEIGHBOUR: 'it returns false'. Refute it at one input. -/
def framePutsWrong : ChangeSpec := { name := "framePuts", fn := fun _ => fun
  | [d1, d2] => { results := [.lit (.bool false)], args := [d1, d2] }
  | _ => none }
def FramePutsWrongFalsely : Prop := framePutsRow.holds Try.pinned (OpenSpec.ofChange framePutsWrong)

/-- 'tephralaw06.FrameGets': WHATEVER THE INPUT: true; the input reads as it did. -/
def frameGetsSpec : ChangeSpec := { name := "frameGets", fn := fun _ => fun
  | [d1, d2] => { results := [.lit (.bool true)], args := [d1, d2] }
  | _ => none }
def frameGetsRow : OpenClaim := { program := "ytmeocdkiecknkaa", sum := "69d0d4291bae59a2a5ccd4cad3901ef26d81b536768d215fb543a3f4309ab31b", func := "tephra/tephralaw06.FrameGets", spec := "frameGets", unfollowed := true, recurses := true, apart := false }
def FrameGetsSaid : Prop := frameGetsRow.holds Try.pinned (OpenSpec.ofChange frameGetsSpec)

/-- ITS FALSE NEIGHBOUR: 'it returns false'. Refute it at one input. -/
def frameGetsWrong : ChangeSpec := { name := "frameGets", fn := fun _ => fun
  | [d1, d2] => { results := [.lit (.bool false)], args := [d1, d2] }
  | _ => none }
def FrameGetsWrongFalsely : Prop := frameGetsRow.holds Try.pinned (OpenSpec.ofChange frameGetsWrong)

/-- 'tephralaw06.FrameCuts': WHATEVER THE INPUT: true; the input reads as it did. -/
def frameCutsSpec : ChangeSpec := { name := "frameCuts", fn := fun _ => fun
  | [d1, d2] => { results := [.lit (.bool true)], args := [d1, d2] }
  | _ => none }
def frameCutsRow : OpenClaim := { program := "ytmeocdkiecknkaa", sum := "69d0d4291bae59a2a5ccd4cad3901ef26d81b536768d215fb543a3f4309ab31b", func := "tephra/tephralaw06.FrameCuts", spec := "frameCuts", unfollowed := true, recurses := true, apart := false }
def FrameCutsSaid : Prop := frameCutsRow.holds Try.pinned (OpenSpec.ofChange frameCutsSpec)

/-- ITS FALSE NEIGHBOUR: 'it returns false'. Refute it at one input. -/
def frameCutsWrong : ChangeSpec := { name := "frameCuts", fn := fun _ => fun
  | [d1, d2] => { results := [.lit (.bool false)], args := [d1, d2] }
  | _ => none }
def FrameCutsWrongFalsely : Prop := frameCutsRow.holds Try.pinned (OpenSpec.ofChange frameCutsWrong)

/-- 'tephralaw06.FrameTold': WHATEVER THE INPUT: true; the input reads as it did. -/
def frameToldSpec : ChangeSpec := { name := "frameTold", fn := fun _ => fun
  | [d1, d2, d3] => { results := [.lit (.bool true)], args := [d1, d2, d3] }
  | _ => none }
def frameToldRow : OpenClaim := { program := "ytmeocdkiecknkaa", sum := "69d0d4291bae59a2a5ccd4cad3901ef26d81b536768d215fb543a3f4309ab31b", func := "tephra/tephralaw06.FrameTold", spec := "frameTold", unfollowed := true, recurses := true, apart := false }
def FrameToldSaid : Prop := frameToldRow.holds Try.pinned (OpenSpec.ofChange frameToldSpec)

/-- ITS FALSE NEIGHBOUR: 'it returns false'. Refute it at one input. -/
def frameToldWrong : ChangeSpec := { name := "frameTold", fn := fun _ => fun
  | [d1, d2, d3] => { results := [.lit (.bool false)], args := [d1, d2, d3] }
  | _ => none }
def FrameToldWrongFalsely : Prop := frameToldRow.holds Try.pinned (OpenSpec.ofChange frameToldWrong)

/-- 'tephralaw09.SchemaPuts': WHATEVER THE INPUT: true; the input reads as it did. -/
def schemaPutsSpec : ChangeSpec := { name := "schemaPuts", fn := fun _ => fun
  | [d1, d2, d3] => { results := [.lit (.bool true)], args := [d1, d2, d3] }
  | _ => none }
def schemaPutsRow : OpenClaim := { program := "ytmeocdkiecknkaa", sum := "69d0d4291bae59a2a5ccd4cad3901ef26d81b536768d215fb543a3f4309ab31b", func := "tephra/tephralaw09.SchemaPuts", spec := "schemaPuts", unfollowed := true, recurses := true, apart := false }
def SchemaPutsSaid : Prop := schemaPutsRow.holds Try.pinned (OpenSpec.ofChange schemaPutsSpec)

/-- ITS FALSE NEIGHBOUR: 'it returns false'. Refute it at one input. -/
def schemaPutsWrong : ChangeSpec := { name := "schemaPuts", fn := fun _ => fun
  | [d1, d2, d3] => { results := [.lit (.bool false)], args := [d1, d2, d3] }
  | _ => none }
def SchemaPutsWrongFalsely : Prop := schemaPutsRow.holds Try.pinned (OpenSpec.ofChange schemaPutsWrong)

/-- 'tephralaw09.SchemaGets': WHATEVER THE INPUT: true; the input reads as it did. -/
def schemaGetsSpec : ChangeSpec := { name := "schemaGets", fn := fun _ => fun
  | [d1, d2, d3] => { results := [.lit (.bool true)], args := [d1, d2, d3] }
  | _ => none }
def schemaGetsRow : OpenClaim := { program := "ytmeocdkiecknkaa", sum := "69d0d4291bae59a2a5ccd4cad3901ef26d81b536768d215fb543a3f4309ab31b", func := "tephra/tephralaw09.SchemaGets", spec := "schemaGets", unfollowed := true, recurses := true, apart := false }
def SchemaGetsSaid : Prop := schemaGetsRow.holds Try.pinned (OpenSpec.ofChange schemaGetsSpec)

/-- ITS FALSE NEIGHBOUR: 'it returns false'. Refute it at one input. -/
def schemaGetsWrong : ChangeSpec := { name := "schemaGets", fn := fun _ => fun
  | [d1, d2, d3] => { results := [.lit (.bool false)], args := [d1, d2, d3] }
  | _ => none }
def SchemaGetsWrongFalsely : Prop := schemaGetsRow.holds Try.pinned (OpenSpec.ofChange schemaGetsWrong)

/-- 'tephralaw09.SchemaRows': WHATEVER THE INPUT: true; the input reads as it did. -/
def schemaRowsSpec : ChangeSpec := { name := "schemaRows", fn := fun _ => fun
  | [d1, d2] => { results := [.lit (.bool true)], args := [d1, d2] }
  | _ => none }
def schemaRowsRow : OpenClaim := { program := "ytmeocdkiecknkaa", sum := "69d0d4291bae59a2a5ccd4cad3901ef26d81b536768d215fb543a3f4309ab31b", func := "tephra/tephralaw09.SchemaRows", spec := "schemaRows", unfollowed := true, recurses := true, apart := false }
def SchemaRowsSaid : Prop := schemaRowsRow.holds Try.pinned (OpenSpec.ofChange schemaRowsSpec)

/-- ITS FALSE NEIGHBOUR: 'it returns false'. Refute it at one input. -/
def schemaRowsWrong : ChangeSpec := { name := "schemaRows", fn := fun _ => fun
  | [d1, d2] => { results := [.lit (.bool false)], args := [d1, d2] }
  | _ => none }
def SchemaRowsWrongFalsely : Prop := schemaRowsRow.holds Try.pinned (OpenSpec.ofChange schemaRowsWrong)

/-- 'tephralaw09.SchemaNil': WHATEVER THE INPUT: true; the input reads as it did. -/
def schemaNilSpec : ChangeSpec := { name := "schemaNil", fn := fun _ => fun
  | [d1, d2, d3] => { results := [.lit (.bool true)], args := [d1, d2, d3] }
  | _ => none }
def schemaNilRow : OpenClaim := { program := "ytmeocdkiecknkaa", sum := "69d0d4291bae59a2a5ccd4cad3901ef26d81b536768d215fb543a3f4309ab31b", func := "tephra/tephralaw09.SchemaNil", spec := "schemaNil", unfollowed := true, recurses := true, apart := false }
def SchemaNilSaid : Prop := schemaNilRow.holds Try.pinned (OpenSpec.ofChange schemaNilSpec)

/-- ITS FALSE NEIGHBOUR: 'it returns false'. Refute it at one input. -/
def schemaNilWrong : ChangeSpec := { name := "schemaNil", fn := fun _ => fun
  | [d1, d2, d3] => { results := [.lit (.bool false)], args := [d1, d2, d3] }
  | _ => none }
def SchemaNilWrongFalsely : Prop := schemaNilRow.holds Try.pinned (OpenSpec.ofChange schemaNilWrong)

/-- 'tephralaw10.CodecTold': WHATEVER THE INPUT: true; the input reads as it did. -/
def codecToldSpec : ChangeSpec := { name := "codecTold", fn := fun _ => fun
  | [d1, d2, d3] => { results := [.lit (.bool true)], args := [d1, d2, d3] }
  | _ => none }
def codecToldRow : OpenClaim := { program := "ytmeocdkiecknkaa", sum := "69d0d4291bae59a2a5ccd4cad3901ef26d81b536768d215fb543a3f4309ab31b", func := "tephra/tephralaw10.CodecTold", spec := "codecTold", unfollowed := true, recurses := true, apart := false }
def CodecToldSaid : Prop := codecToldRow.holds Try.pinned (OpenSpec.ofChange codecToldSpec)

/-- ITS FALSE NEIGHBOUR: 'it returns false'. Refute it at one input. -/
def codecToldWrong : ChangeSpec := { name := "codecTold", fn := fun _ => fun
  | [d1, d2, d3] => { results := [.lit (.bool false)], args := [d1, d2, d3] }
  | _ => none }
def CodecToldWrongFalsely : Prop := codecToldRow.holds Try.pinned (OpenSpec.ofChange codecToldWrong)

/- THE SECOND FORM. 'bulk': how many values and letters a reading holds, each counted each time it is reached (what is shared counts as often as it is met; a slice's spare places count too). A statement '..UptoSaid' is the law's where the arguments, and the package variables that the reading takes, are together of bulk at most 1048576: NARROWER than '..Said'. Prove '..Said' where nothing that the law and all that it calls make is longer than what came in: it says more and counts as full. Else prove '..UptoSaid'. A law counts once. -/
mutual
def uptoBulk {H : Type} : DataW H → Nat
  | .lit (.string bytes) => bytes.length + 1
  | .lit _ => 1
  | .nil => 1
  | .ptr d => uptoBulk d + 1
  | .slice elems spare => uptoBulkAll elems + uptoBulkAll spare + 1
  | .agg parts => uptoBulkAll parts + 1
  | .iface _ d => uptoBulk d + 1
  | .map entries => uptoBulkEntries entries + 1
  | .held _ => 1
def uptoBulkAll {H : Type} : List (DataW H) → Nat
  | [] => 0
  | d :: r => uptoBulk d + uptoBulkAll r
def uptoBulkEntries {H : Type} : List (Lit × DataW H) → Nat
  | [] => 0
  | x :: r => uptoBulkEntry x + uptoBulkEntries r
def uptoBulkEntry {H : Type} : Lit × DataW H → Nat
  | (.string bytes, d) => bytes.length + uptoBulk d + 1
  | (_, d) => uptoBulk d + 1
 end
def uptoSmall : (H : Type) → List (DataW H) → Bool := fun _ ds => decide (uptoBulkAll ds ≤ 1048576)
def OpenSpec.upto (s : _root_.Go.ChangeSpec) : _root_.Go.OpenSpec := { _root_.Go.OpenSpec.ofChange s with cond := some uptoSmall }

/-- 'tephralaw06.FrameHeads', WHERE WHAT IT READS IS OF BULK AT MOST 1048576: true; the input reads as it did. -/
def frameHeadsUptoRow : OpenClaim := { program := "ytmeocdkiecknkaa", sum := "69d0d4291bae59a2a5ccd4cad3901ef26d81b536768d215fb543a3f4309ab31b", func := "tephra/tephralaw06.FrameHeads", spec := "frameHeads", unfollowed := true, recurses := true, apart := false, narrowed := true }
def FrameHeadsUptoSaid : Prop := frameHeadsUptoRow.holds Try.pinned (OpenSpec.upto frameHeadsSpec)

/-- 'tephralaw06.FramePuts', WHERE WHAT IT READS IS OF BULK AT MOST 1048576: true; the input reads as it did. -/
def framePutsUptoRow : OpenClaim := { program := "ytmeocdkiecknkaa", sum := "69d0d4291bae59a2a5ccd4cad3901ef26d81b536768d215fb543a3f4309ab31b", func := "tephra/tephralaw06.FramePuts", spec := "framePuts", unfollowed := true, recurses := true, apart := false, narrowed := true }
def FramePutsUptoSaid : Prop := framePutsUptoRow.holds Try.pinned (OpenSpec.upto framePutsSpec)

/-- 'tephralaw06.FrameGets', WHERE WHAT IT READS IS OF BULK AT MOST 1048576: true; the input reads as it did. -/
def frameGetsUptoRow : OpenClaim := { program := "ytmeocdkiecknkaa", sum := "69d0d4291bae59a2a5ccd4cad3901ef26d81b536768d215fb543a3f4309ab31b", func := "tephra/tephralaw06.FrameGets", spec := "frameGets", unfollowed := true, recurses := true, apart := false, narrowed := true }
def FrameGetsUptoSaid : Prop := frameGetsUptoRow.holds Try.pinned (OpenSpec.upto frameGetsSpec)

/-- 'tephralaw06.FrameCuts', WHERE WHAT IT READS IS OF BULK AT MOST 1048576: true; the input reads as it did. -/
def frameCutsUptoRow : OpenClaim := { program := "ytmeocdkiecknkaa", sum := "69d0d4291bae59a2a5ccd4cad3901ef26d81b536768d215fb543a3f4309ab31b", func := "tephra/tephralaw06.FrameCuts", spec := "frameCuts", unfollowed := true, recurses := true, apart := false, narrowed := true }
def FrameCutsUptoSaid : Prop := frameCutsUptoRow.holds Try.pinned (OpenSpec.upto frameCutsSpec)

/-- 'tephralaw06.FrameTold', WHERE WHAT IT READS IS OF BULK AT MOST 1048576: true; the input reads as it did. -/
def frameToldUptoRow : OpenClaim := { program := "ytmeocdkiecknkaa", sum := "69d0d4291bae59a2a5ccd4cad3901ef26d81b536768d215fb543a3f4309ab31b", func := "tephra/tephralaw06.FrameTold", spec := "frameTold", unfollowed := true, recurses := true, apart := false, narrowed := true }
def FrameToldUptoSaid : Prop := frameToldUptoRow.holds Try.pinned (OpenSpec.upto frameToldSpec)

/-- 'tephralaw09.SchemaPuts', WHERE WHAT IT READS IS OF BULK AT MOST 1048576: true; the input reads as it did. -/
def schemaPutsUptoRow : OpenClaim := { program := "ytmeocdkiecknkaa", sum := "69d0d4291bae59a2a5ccd4cad3901ef26d81b536768d215fb543a3f4309ab31b", func := "tephra/tephralaw09.SchemaPuts", spec := "schemaPuts", unfollowed := true, recurses := true, apart := false, narrowed := true }
def SchemaPutsUptoSaid : Prop := schemaPutsUptoRow.holds Try.pinned (OpenSpec.upto schemaPutsSpec)

/-- 'tephralaw09.SchemaGets', WHERE WHAT IT READS IS OF BULK AT MOST 1048576: true; the input reads as it did. -/
def schemaGetsUptoRow : OpenClaim := { program := "ytmeocdkiecknkaa", sum := "69d0d4291bae59a2a5ccd4cad3901ef26d81b536768d215fb543a3f4309ab31b", func := "tephra/tephralaw09.SchemaGets", spec := "schemaGets", unfollowed := true, recurses := true, apart := false, narrowed := true }
def SchemaGetsUptoSaid : Prop := schemaGetsUptoRow.holds Try.pinned (OpenSpec.upto schemaGetsSpec)

/-- 'tephralaw09.SchemaRows', WHERE WHAT IT READS IS OF BULK AT MOST 1048576: true; the input reads as it did. -/
def schemaRowsUptoRow : OpenClaim := { program := "ytmeocdkiecknkaa", sum := "69d0d4291bae59a2a5ccd4cad3901ef26d81b536768d215fb543a3f4309ab31b", func := "tephra/tephralaw09.SchemaRows", spec := "schemaRows", unfollowed := true, recurses := true, apart := false, narrowed := true }
def SchemaRowsUptoSaid : Prop := schemaRowsUptoRow.holds Try.pinned (OpenSpec.upto schemaRowsSpec)

/-- 'tephralaw09.SchemaNil', WHERE WHAT IT READS IS OF BULK AT MOST 1048576: true; the input reads as it did. -/
def schemaNilUptoRow : OpenClaim := { program := "ytmeocdkiecknkaa", sum := "69d0d4291bae59a2a5ccd4cad3901ef26d81b536768d215fb543a3f4309ab31b", func := "tephra/tephralaw09.SchemaNil", spec := "schemaNil", unfollowed := true, recurses := true, apart := false, narrowed := true }
def SchemaNilUptoSaid : Prop := schemaNilUptoRow.holds Try.pinned (OpenSpec.upto schemaNilSpec)

/-- 'tephralaw10.CodecTold', WHERE WHAT IT READS IS OF BULK AT MOST 1048576: true; the input reads as it did. -/
def codecToldUptoRow : OpenClaim := { program := "ytmeocdkiecknkaa", sum := "69d0d4291bae59a2a5ccd4cad3901ef26d81b536768d215fb543a3f4309ab31b", func := "tephra/tephralaw10.CodecTold", spec := "codecTold", unfollowed := true, recurses := true, apart := false, narrowed := true }
def CodecToldUptoSaid : Prop := codecToldUptoRow.holds Try.pinned (OpenSpec.upto codecToldSpec)

end Rows
end Go.Proofs.Ytmeocdkiecknkaa
