-- by a program of this session (gprint.py, over the kit's print): the machine's side of a law
import Derived.Test.YthpbkhagjgggjaaProg
import Derived.Below
import Derived.Deep.Draws
import Derived.Deep.AppendLies
import Derived.Maps.AppendAt
import Derived.OwnWalk
import Derived.Laws.BytesArg
import Derived.Laws.MakeOwn
import Derived.Laws.OwnMore
import Derived.Deep.OwnRows
import Derived.Tactics
import Derived.Lib.ConvBytes
import Derived.Laws.Slices
import Derived.WalkKit
import Derived.KernelRfl
import Derived.RowKit3
import Derived.Deep.LoopGhost
import Derived.Deep.QuietTactic
import Derived.BigQuiet
import Derived.WideLaws
import Derived.Deep.DeepCutAuto
import Derived.Deep.CutBlock
import Derived.Deep.RegionHeld3
import Derived.Laws.Rows
import Derived.Lib.AppendStr
import Derived.ArgAppend
import Derived.Laws.IdiomCopy
import Derived.OrdersHeld
import Derived.Laws.BitsLemmas
import Derived.RowKit
import Derived.Test.YthpbkhagjgggjaaWWords
import Derived.Test.YthpbkhagjgggjaaWLast
import Derived.Test.YthpbkhagjgggjaaWTab
import Derived.Test.YthpbkhagjgggjaaWFour
import Derived.Test.YthpbkhagjgggjaaWQPut
import Derived.Test.YthpbkhagjgggjaaWApart
import Derived.Test.YthpbkhagjgggjaaWArr
import Derived.Test.YthpbkhagjgggjaaWZeros
import Derived.Test.YthpbkhagjgggjaaWFoot
import Derived.Test.YthpbkhagjgggjaaWKept
import Derived.Test.YthpbkhagjgggjaaWShare
import Derived.Test.YthpbkhagjgggjaaWN
import Derived.Test.YthpbkhagjgggjaaWFootNe
import Derived.Test.YthpbkhagjgggjaaWAt
import Derived.Test.YthpbkhagjgggjaaWEqStruct
import Derived.Test.YthpbkhagjgggjaaWRepsOne
import Derived.Test.YthpbkhagjgggjaaWInv
import Derived.Test.YthpbkhagjgggjaaWInvWords
import Derived.Test.YthpbkhagjgggjaaWGuard
import Derived.Test.YthpbkhagjgggjaaWNEv
import Derived.Test.YthpbkhagjgggjaaWMore
namespace Go.Proofs.Ythpbkhagjgggjaa.GVB
open Go.RowKit Go.Proofs.YthpbkhagjgggjaaW.PrintWords Go.Proofs.YthpbkhagjgggjaaW.PrintLast Go.Proofs.YthpbkhagjgggjaaW.PrintMore
attribute [local go_sem] max2_int min2_int max_two min_two max_three min_three max_four min_four   -- for this text's walks alone
set_option linter.unusedVariables false
set_option linter.unusedSimpArgs false



def errW : Option Int → Value
  | none => .nilIface
  | some c => .iface 0 (.int .i64 c)
theorem errW_none : errW none = .nilIface := rfl
theorem errW_some (c : Int) : errW (some c) = .iface 0 (.int .i64 c) := rfl

theorem info9 : (Try.prog.info? 9).map (fun i => (i.zero, i.size, i.bytes)) = some (some (.string ⟨#[]⟩), 1, 16) := by kernel_rfl
theorem info48 : (Try.prog.info? 48).map (fun i => (i.zero, i.size, i.bytes)) = some (some (.int .u64 0), 1, 8) := by kernel_rfl
-- the values' own types

end Go.Proofs.Ythpbkhagjgggjaa.GVB
