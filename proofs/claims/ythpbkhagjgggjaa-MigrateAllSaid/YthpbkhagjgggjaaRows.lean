/-
  No cell of these rows narrows 'for every input' (looked for: loops, veiled, ifaces, maps, wideKeys, modest, calm, conditions, laid).
  DERIVED. THE GIVEN ROWS OF THIS SEAT. 12 by the template 'for every input the law returns true; each argument reads behind the call as it read before'; 0 by the template 'total and deterministic' (their statements: YthpbkhagjgggjaaTotals.lean).
  GIVEN WITH THE SEED: the statements are not yours to turn. If you find one false, say at which input.
  Laid BY PROGRAM, IN A SANDBOX (cutbox-rows.mjs): the forced cells as the released guide's own fill.sh prints them over the translation e09ef46bb8117016… (all of the seat's roots in one cut). By AI agents, Wed Nov 11 2026. No macro, syntax, notation, axiom, sorry.
-/
import Derived.Test.YthpbkhagjgggjaaChecked
import GoSem.Claim
import GoSem.ClaimJoined
import GoSem.ClaimMapViews
import Derived.JoinedTies
import Derived.KernelRfl
namespace Go.Proofs.Ythpbkhagjgggjaa
/- THE CELL 'sum', in the pinned program and in every row, IS THE sha256 OF THE DUMP (.gsa) THAT YthpbkhagjgggjaaProg.lean LOADS. Nothing in Lean hashes anything: it is a label: what it is worth is what the hold of that sum in a sandbox is worth. -/
noncomputable def Try.pinned : Pinned := { name := "ythpbkhagjgggjaa", sum := "e09ef46bb8117016c4d0fe3d21ad8a578af47d98c2042cdefdfbdc1fff5fc5df", checked := Try.checked }
namespace Rows
def none {H : Type} : Left H := { results := [], args := [] }

/-- 'tephralaw04.CursorBack': WHATEVER THE INPUT: true; the input reads as it did. -/
def cursorBackSpec : ChangeSpec := { name := "cursorBack", fn := fun _ => fun
  | [d1, d2] => { results := [.lit (.bool true)], args := [d1, d2] }
  | _ => none }
def cursorBackRow : OpenClaim := { program := "ythpbkhagjgggjaa", sum := "e09ef46bb8117016c4d0fe3d21ad8a578af47d98c2042cdefdfbdc1fff5fc5df", func := "tephra/tephralaw04.CursorBack", spec := "cursorBack", unfollowed := true, recurses := true, apart := false }
def CursorBackSaid : Prop := cursorBackRow.holds Try.pinned (OpenSpec.ofChange cursorBackSpec)

/-- ITS FALSE NEIGHBOUR: 'it returns false'. Refute it at one input. -/
def cursorBackWrong : ChangeSpec := { name := "cursorBack", fn := fun _ => fun
  | [d1, d2] => { results := [.lit (.bool false)], args := [d1, d2] }
  | _ => none }
def CursorBackWrongFalsely : Prop := cursorBackRow.holds Try.pinned (OpenSpec.ofChange cursorBackWrong)

/-- 'tephralaw04.CursorPlays': WHATEVER THE INPUT: true; the input reads as it did. -/
def cursorPlaysSpec : ChangeSpec := { name := "cursorPlays", fn := fun _ => fun
  | [d1, d2, d3] => { results := [.lit (.bool true)], args := [d1, d2, d3] }
  | _ => none }
def cursorPlaysRow : OpenClaim := { program := "ythpbkhagjgggjaa", sum := "e09ef46bb8117016c4d0fe3d21ad8a578af47d98c2042cdefdfbdc1fff5fc5df", func := "tephra/tephralaw04.CursorPlays", spec := "cursorPlays", unfollowed := true, recurses := true, apart := false }
def CursorPlaysSaid : Prop := cursorPlaysRow.holds Try.pinned (OpenSpec.ofChange cursorPlaysSpec)

/-- ITS FALSE NEIGHBOUR: 'it returns false'. Refute it at one input. -/
def cursorPlaysWrong : ChangeSpec := { name := "cursorPlays", fn := fun _ => fun
  | [d1, d2, d3] => { results := [.lit (.bool false)], args := [d1, d2, d3] }
  | _ => none }
def CursorPlaysWrongFalsely : Prop := cursorPlaysRow.holds Try.pinned (OpenSpec.ofChange cursorPlaysWrong)

/-- 'tephralaw04.CursorNever': WHATEVER THE INPUT: true; the input reads as it did. -/
def cursorNeverSpec : ChangeSpec := { name := "cursorNever", fn := fun _ => fun
  | [d1, d2, d3] => { results := [.lit (.bool true)], args := [d1, d2, d3] }
  | _ => none }
def cursorNeverRow : OpenClaim := { program := "ythpbkhagjgggjaa", sum := "e09ef46bb8117016c4d0fe3d21ad8a578af47d98c2042cdefdfbdc1fff5fc5df", func := "tephra/tephralaw04.CursorNever", spec := "cursorNever", unfollowed := true, recurses := true, apart := false }
def CursorNeverSaid : Prop := cursorNeverRow.holds Try.pinned (OpenSpec.ofChange cursorNeverSpec)

/-- ITS FALSE NEIGHBOUR: 'it returns false'. Refute it at one input. -/
def cursorNeverWrong : ChangeSpec := { name := "cursorNever", fn := fun _ => fun
  | [d1, d2, d3] => { results := [.lit (.bool false)], args := [d1, d2, d3] }
  | _ => none }
def CursorNeverWrongFalsely : Prop := cursorNeverRow.holds Try.pinned (OpenSpec.ofChange cursorNeverWrong)

/-- 'tephralaw07.InternOne': WHATEVER THE INPUT: true; the input reads as it did. -/
def internOneSpec : ChangeSpec := { name := "internOne", fn := fun _ => fun
  | [d1, d2] => { results := [.lit (.bool true)], args := [d1, d2] }
  | _ => none }
def internOneRow : OpenClaim := { program := "ythpbkhagjgggjaa", sum := "e09ef46bb8117016c4d0fe3d21ad8a578af47d98c2042cdefdfbdc1fff5fc5df", func := "tephra/tephralaw07.InternOne", spec := "internOne", apart := false }
def InternOneSaid : Prop := internOneRow.holds Try.pinned (OpenSpec.ofChange internOneSpec)

/-- ITS FALSE NEIGHBOUR: 'it returns false'. Refute it at one input. -/
def internOneWrong : ChangeSpec := { name := "internOne", fn := fun _ => fun
  | [d1, d2] => { results := [.lit (.bool false)], args := [d1, d2] }
  | _ => none }
def InternOneWrongFalsely : Prop := internOneRow.holds Try.pinned (OpenSpec.ofChange internOneWrong)

/-- 'tephralaw07.InternPlays': WHATEVER THE INPUT: true; the input reads as it did. -/
def internPlaysSpec : ChangeSpec := { name := "internPlays", fn := fun _ => fun
  | [d1, d2] => { results := [.lit (.bool true)], args := [d1, d2] }
  | _ => none }
def internPlaysRow : OpenClaim := { program := "ythpbkhagjgggjaa", sum := "e09ef46bb8117016c4d0fe3d21ad8a578af47d98c2042cdefdfbdc1fff5fc5df", func := "tephra/tephralaw07.InternPlays", spec := "internPlays", apart := false }
def InternPlaysSaid : Prop := internPlaysRow.holds Try.pinned (OpenSpec.ofChange internPlaysSpec)

/-- ITS FALSE NEIGHBOUR: 'it returns false'. Refute it at one input. -/
def internPlaysWrong : ChangeSpec := { name := "internPlays", fn := fun _ => fun
  | [d1, d2] => { results := [.lit (.bool false)], args := [d1, d2] }
  | _ => none }
def InternPlaysWrongFalsely : Prop := internPlaysRow.holds Try.pinned (OpenSpec.ofChange internPlaysWrong)

/-- 'tephralaw08.RecordOnward': WHATEVER THE INPUT: true; the input reads as it did. -/
def recordOnwardSpec : ChangeSpec := { name := "recordOnward", fn := fun _ => fun
  | [d] => { results := [.lit (.bool true)], args := [d] }
  | _ => none }
def recordOnwardRow : OpenClaim := { program := "ythpbkhagjgggjaa", sum := "e09ef46bb8117016c4d0fe3d21ad8a578af47d98c2042cdefdfbdc1fff5fc5df", func := "tephra/tephralaw08.RecordOnward", spec := "recordOnward", apart := false }
def RecordOnwardSaid : Prop := recordOnwardRow.holds Try.pinned (OpenSpec.ofChange recordOnwardSpec)

/-- ITS FALSE NEIGHBOUR: 'it returns false'. Refute it at one input. -/
def recordOnwardWrong : ChangeSpec := { name := "recordOnward", fn := fun _ => fun
  | [d] => { results := [.lit (.bool false)], args := [d] }
  | _ => none }
def RecordOnwardWrongFalsely : Prop := recordOnwardRow.holds Try.pinned (OpenSpec.ofChange recordOnwardWrong)

/-- 'tephralaw08.RecordSame': WHATEVER THE INPUT: true; the input reads as it did. -/
def recordSameSpec : ChangeSpec := { name := "recordSame", fn := fun _ => fun
  | [d1, d2] => { results := [.lit (.bool true)], args := [d1, d2] }
  | _ => none }
def recordSameRow : OpenClaim := { program := "ythpbkhagjgggjaa", sum := "e09ef46bb8117016c4d0fe3d21ad8a578af47d98c2042cdefdfbdc1fff5fc5df", func := "tephra/tephralaw08.RecordSame", spec := "recordSame", apart := false }
def RecordSameSaid : Prop := recordSameRow.holds Try.pinned (OpenSpec.ofChange recordSameSpec)

/-- ITS FALSE NEIGHBOUR: 'it returns false'. Refute it at one input. -/
def recordSameWrong : ChangeSpec := { name := "recordSame", fn := fun _ => fun
  | [d1, d2] => { results := [.lit (.bool false)], args := [d1, d2] }
  | _ => none }
def RecordSameWrongFalsely : Prop := recordSameRow.holds Try.pinned (OpenSpec.ofChange recordSameWrong)

/-- 'tephralaw08.RecordMay': WHATEVER THE INPUT: true; the input reads as it did. -/
def recordMaySpec : ChangeSpec := { name := "recordMay", fn := fun _ => fun
  | [d1, d2] => { results := [.lit (.bool true)], args := [d1, d2] }
  | _ => none }
def recordMayRow : OpenClaim := { program := "ythpbkhagjgggjaa", sum := "e09ef46bb8117016c4d0fe3d21ad8a578af47d98c2042cdefdfbdc1fff5fc5df", func := "tephra/tephralaw08.RecordMay", spec := "recordMay", apart := false }
def RecordMaySaid : Prop := recordMayRow.holds Try.pinned (OpenSpec.ofChange recordMaySpec)

/-- ITS FALSE NEIGHBOUR: 'it returns false'. Refute it at one input. -/
def recordMayWrong : ChangeSpec := { name := "recordMay", fn := fun _ => fun
  | [d1, d2] => { results := [.lit (.bool false)], args := [d1, d2] }
  | _ => none }
def RecordMayWrongFalsely : Prop := recordMayRow.holds Try.pinned (OpenSpec.ofChange recordMayWrong)

/-- 'tephralaw11.MigrateSteps': WHATEVER THE INPUT: true; the input reads as it did. -/
def migrateStepsSpec : ChangeSpec := { name := "migrateSteps", fn := fun _ => fun
  | [d1, d2] => { results := [.lit (.bool true)], args := [d1, d2] }
  | _ => none }
def migrateStepsRow : OpenClaim := { program := "ythpbkhagjgggjaa", sum := "e09ef46bb8117016c4d0fe3d21ad8a578af47d98c2042cdefdfbdc1fff5fc5df", func := "tephra/tephralaw11.MigrateSteps", spec := "migrateSteps", unfollowed := true, recurses := true, apart := false }
def MigrateStepsSaid : Prop := migrateStepsRow.holds Try.pinned (OpenSpec.ofChange migrateStepsSpec)

/-- ITS FALSE NEIGHBOUR: 'it returns false'. Refute it at one input. -/
def migrateStepsWrong : ChangeSpec := { name := "migrateSteps", fn := fun _ => fun
  | [d1, d2] => { results := [.lit (.bool false)], args := [d1, d2] }
  | _ => none }
def MigrateStepsWrongFalsely : Prop := migrateStepsRow.holds Try.pinned (OpenSpec.ofChange migrateStepsWrong)

/-- 'tephralaw11.MigrateOne': WHATEVER THE INPUT: true; the input reads as it did. -/
def migrateOneSpec : ChangeSpec := { name := "migrateOne", fn := fun _ => fun
  | [d1, d2] => { results := [.lit (.bool true)], args := [d1, d2] }
  | _ => none }
def migrateOneRow : OpenClaim := { program := "ythpbkhagjgggjaa", sum := "e09ef46bb8117016c4d0fe3d21ad8a578af47d98c2042cdefdfbdc1fff5fc5df", func := "tephra/tephralaw11.MigrateOne", spec := "migrateOne", unfollowed := true, recurses := true, apart := false }
def MigrateOneSaid : Prop := migrateOneRow.holds Try.pinned (OpenSpec.ofChange migrateOneSpec)

/-- ITS FALSE NEIGHBOUR: 'it returns false'. Refute it at one input. -/
def migrateOneWrong : ChangeSpec := { name := "migrateOne", fn := fun _ => fun
  | [d1, d2] => { results := [.lit (.bool false)], args := [d1, d2] }
  | _ => none }
def MigrateOneWrongFalsely : Prop := migrateOneRow.holds Try.pinned (OpenSpec.ofChange migrateOneWrong)

/-- 'tephralaw11.MigrateTo': WHATEVER THE INPUT: true; the input reads as it did. -/
def migrateToSpec : ChangeSpec := { name := "migrateTo", fn := fun _ => fun
  | [d1, d2, d3] => { results := [.lit (.bool true)], args := [d1, d2, d3] }
  | _ => none }
def migrateToRow : OpenClaim := { program := "ythpbkhagjgggjaa", sum := "e09ef46bb8117016c4d0fe3d21ad8a578af47d98c2042cdefdfbdc1fff5fc5df", func := "tephra/tephralaw11.MigrateTo", spec := "migrateTo", unfollowed := true, recurses := true, apart := false }
def MigrateToSaid : Prop := migrateToRow.holds Try.pinned (OpenSpec.ofChange migrateToSpec)

/-- ITS FALSE NEIGHBOUR: 'it returns false'. Refute it at one input. -/
def migrateToWrong : ChangeSpec := { name := "migrateTo", fn := fun _ => fun
  | [d1, d2, d3] => { results := [.lit (.bool false)], args := [d1, d2, d3] }
  | _ => none }
def MigrateToWrongFalsely : Prop := migrateToRow.holds Try.pinned (OpenSpec.ofChange migrateToWrong)

/-- 'tephralaw11.MigrateAll': WHATEVER THE INPUT: true; the input reads as it did. -/
def migrateAllSpec : ChangeSpec := { name := "migrateAll", fn := fun _ => fun
  | [d1, d2, d3] => { results := [.lit (.bool true)], args := [d1, d2, d3] }
  | _ => none }
def migrateAllRow : OpenClaim := { program := "ythpbkhagjgggjaa", sum := "e09ef46bb8117016c4d0fe3d21ad8a578af47d98c2042cdefdfbdc1fff5fc5df", func := "tephra/tephralaw11.MigrateAll", spec := "migrateAll", unfollowed := true, recurses := true, apart := false }
def MigrateAllSaid : Prop := migrateAllRow.holds Try.pinned (OpenSpec.ofChange migrateAllSpec)

/-- ITS FALSE NEIGHBOUR: 'it returns false'. Refute it at one input. -/
def migrateAllWrong : ChangeSpec := { name := "migrateAll", fn := fun _ => fun
  | [d1, d2, d3] => { results := [.lit (.bool false)], args := [d1, d2, d3] }
  | _ => none }
def MigrateAllWrongFalsely : Prop := migrateAllRow.holds Try.pinned (OpenSpec.ofChange migrateAllWrong)

/- THE SECOND FORM. 'bulk': how many values and letters a reading holds, each counted each time it is reached (what is shared counts as often as it is met; a slice's spare places count too). A statement '..UptoSaid' is the law's where the arguments, and the package variables that the reading takes, are together of bulk at most 1048576: NARROWER than '..Said'. Prove '..Said' where nothing that the law and all that it calls make is longer than what came in: it says more and counts as full. Else prove '..UptoSaid'. A law counts once. -/
mutual
def uptoBulk {H : Type} : DataW H → Nat
  | .lit (.string bytes) => bytes.length + 1
  | .lit _ => 1
  | .nil => 1
  | .ptr d => uptoBulk d + 1
  | .slice elems spare => uptoBulkAll elems + uptoBulkAll spare + 1
  | .agg parts => uptoBulkAll parts + 1
  | .iface _ d => uptoBulk d + 1
  | .map entries => uptoBulkEntries entries + 1
  | .held _ => 1
def uptoBulkAll {H : Type} : List (DataW H) → Nat
  | [] => 0
  | d :: r => uptoBulk d + uptoBulkAll r
def uptoBulkEntries {H : Type} : List (Lit × DataW H) → Nat
  | [] => 0
  | x :: r => uptoBulkEntry x + uptoBulkEntries r
def uptoBulkEntry {H : Type} : Lit × DataW H → Nat
  | (.string bytes, d) => bytes.length + uptoBulk d + 1
  | (_, d) => uptoBulk d + 1
 end
def uptoSmall : (H : Type) → List (DataW H) → Bool := fun _ ds => decide (uptoBulkAll ds ≤ 1048576)
def OpenSpec.upto (s : _root_.Go.ChangeSpec) : _root_.Go.OpenSpec := { _root_.Go.OpenSpec.ofChange s with cond := some uptoSmall }

/-- 'tephralaw04.CursorBack', WHERE WHAT IT READS IS OF BULK AT MOST 1048576: true; the input reads as it did. -/
def cursorBackUptoRow : OpenClaim := { program := "ythpbkhagjgggjaa", sum := "e09ef46bb8117016c4d0fe3d21ad8a578af47d98c2042cdefdfbdc1fff5fc5df", func := "tephra/tephralaw04.CursorBack", spec := "cursorBack", unfollowed := true, recurses := true, apart := false, narrowed := true }
def CursorBackUptoSaid : Prop := cursorBackUptoRow.holds Try.pinned (OpenSpec.upto cursorBackSpec)

/-- 'tephralaw04.CursorPlays', WHERE WHAT IT READS IS OF BULK AT MOST 1048576: true; the input reads as it did. -/
def cursorPlaysUptoRow : OpenClaim := { program := "ythpbkhagjgggjaa", sum := "e09ef46bb8117016c4d0fe3d21ad8a578af47d98c2042cdefdfbdc1fff5fc5df", func := "tephra/tephralaw04.CursorPlays", spec := "cursorPlays", unfollowed := true, recurses := true, apart := false, narrowed := true }
def CursorPlaysUptoSaid : Prop := cursorPlaysUptoRow.holds Try.pinned (OpenSpec.upto cursorPlaysSpec)

/-- 'tephralaw04.CursorNever', WHERE WHAT IT READS IS OF BULK AT MOST 1048576: true; the input reads as it did. -/
def cursorNeverUptoRow : OpenClaim := { program := "ythpbkhagjgggjaa", sum := "e09ef46bb8117016c4d0fe3d21ad8a578af47d98c2042cdefdfbdc1fff5fc5df", func := "tephra/tephralaw04.CursorNever", spec := "cursorNever", unfollowed := true, recurses := true, apart := false, narrowed := true }
def CursorNeverUptoSaid : Prop := cursorNeverUptoRow.holds Try.pinned (OpenSpec.upto cursorNeverSpec)

/-- 'tephralaw07.InternOne', WHERE WHAT IT READS IS OF BULK AT MOST 1048576: true; the input reads as it did. -/
def internOneUptoRow : OpenClaim := { program := "ythpbkhagjgggjaa", sum := "e09ef46bb8117016c4d0fe3d21ad8a578af47d98c2042cdefdfbdc1fff5fc5df", func := "tephra/tephralaw07.InternOne", spec := "internOne", apart := false, narrowed := true }
def InternOneUptoSaid : Prop := internOneUptoRow.holds Try.pinned (OpenSpec.upto internOneSpec)

/-- 'tephralaw07.InternPlays', WHERE WHAT IT READS IS OF BULK AT MOST 1048576: true; the input reads as it did. -/
def internPlaysUptoRow : OpenClaim := { program := "ythpbkhagjgggjaa", sum := "e09ef46bb8117016c4d0fe3d21ad8a578af47d98c2042cdefdfbdc1fff5fc5df", func := "tephra/tephralaw07.InternPlays", spec := "internPlays", apart := false, narrowed := true }
def InternPlaysUptoSaid : Prop := internPlaysUptoRow.holds Try.pinned (OpenSpec.upto internPlaysSpec)

/-- 'tephralaw08.RecordOnward', WHERE WHAT IT READS IS OF BULK AT MOST 1048576: true; the input reads as it did. -/
def recordOnwardUptoRow : OpenClaim := { program := "ythpbkhagjgggjaa", sum := "e09ef46bb8117016c4d0fe3d21ad8a578af47d98c2042cdefdfbdc1fff5fc5df", func := "tephra/tephralaw08.RecordOnward", spec := "recordOnward", apart := false, narrowed := true }
def RecordOnwardUptoSaid : Prop := recordOnwardUptoRow.holds Try.pinned (OpenSpec.upto recordOnwardSpec)

/-- 'tephralaw08.RecordSame', WHERE WHAT IT READS IS OF BULK AT MOST 1048576: true; the input reads as it did. -/
def recordSameUptoRow : OpenClaim := { program := "ythpbkhagjgggjaa", sum := "e09ef46bb8117016c4d0fe3d21ad8a578af47d98c2042cdefdfbdc1fff5fc5df", func := "tephra/tephralaw08.RecordSame", spec := "recordSame", apart := false, narrowed := true }
def RecordSameUptoSaid : Prop := recordSameUptoRow.holds Try.pinned (OpenSpec.upto recordSameSpec)

/-- 'tephralaw08.RecordMay', WHERE WHAT IT READS IS OF BULK AT MOST 1048576: true; the input reads as it did. -/
def recordMayUptoRow : OpenClaim := { program := "ythpbkhagjgggjaa", sum := "e09ef46bb8117016c4d0fe3d21ad8a578af47d98c2042cdefdfbdc1fff5fc5df", func := "tephra/tephralaw08.RecordMay", spec := "recordMay", apart := false, narrowed := true }
def RecordMayUptoSaid : Prop := recordMayUptoRow.holds Try.pinned (OpenSpec.upto recordMaySpec)

/-- 'tephralaw11.MigrateSteps', WHERE WHAT IT READS IS OF BULK AT MOST 1048576: true; the input reads as it did. -/
def migrateStepsUptoRow : OpenClaim := { program := "ythpbkhagjgggjaa", sum := "e09ef46bb8117016c4d0fe3d21ad8a578af47d98c2042cdefdfbdc1fff5fc5df", func := "tephra/tephralaw11.MigrateSteps", spec := "migrateSteps", unfollowed := true, recurses := true, apart := false, narrowed := true }
def MigrateStepsUptoSaid : Prop := migrateStepsUptoRow.holds Try.pinned (OpenSpec.upto migrateStepsSpec)

/-- 'tephralaw11.MigrateOne', WHERE WHAT IT READS IS OF BULK AT MOST 1048576: true; the input reads as it did. -/
def migrateOneUptoRow : OpenClaim := { program := "ythpbkhagjgggjaa", sum := "e09ef46bb8117016c4d0fe3d21ad8a578af47d98c2042cdefdfbdc1fff5fc5df", func := "tephra/tephralaw11.MigrateOne", spec := "migrateOne", unfollowed := true, recurses := true, apart := false, narrowed := true }
def MigrateOneUptoSaid : Prop := migrateOneUptoRow.holds Try.pinned (OpenSpec.upto migrateOneSpec)

/-- 'tephralaw11.MigrateTo', WHERE WHAT IT READS IS OF BULK AT MOST 1048576: true; the input reads as it did. -/
def migrateToUptoRow : OpenClaim := { program := "ythpbkhagjgggjaa", sum := "e09ef46bb8117016c4d0fe3d21ad8a578af47d98c2042cdefdfbdc1fff5fc5df", func := "tephra/tephralaw11.MigrateTo", spec := "migrateTo", unfollowed := true, recurses := true, apart := false, narrowed := true }
def MigrateToUptoSaid : Prop := migrateToUptoRow.holds Try.pinned (OpenSpec.upto migrateToSpec)

/-- 'tephralaw11.MigrateAll', WHERE WHAT IT READS IS OF BULK AT MOST 1048576: true; the input reads as it did. -/
def migrateAllUptoRow : OpenClaim := { program := "ythpbkhagjgggjaa", sum := "e09ef46bb8117016c4d0fe3d21ad8a578af47d98c2042cdefdfbdc1fff5fc5df", func := "tephra/tephralaw11.MigrateAll", spec := "migrateAll", unfollowed := true, recurses := true, apart := false, narrowed := true }
def MigrateAllUptoSaid : Prop := migrateAllUptoRow.holds Try.pinned (OpenSpec.upto migrateAllSpec)

end Rows
end Go.Proofs.Ythpbkhagjgggjaa
