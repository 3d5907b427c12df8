-- by a program of this session (gprint.py, over the kit's print): the machine's side of a law
import Derived.Test.YthojcapdbjmneaaProg
import Derived.Below
import Derived.Deep.Draws
import Derived.Deep.AppendLies
import Derived.Maps.AppendAt
import Derived.OwnWalk
import Derived.Laws.BytesArg
import Derived.Laws.MakeOwn
import Derived.Laws.OwnMore
import Derived.Deep.OwnRows
import Derived.Tactics
import Derived.Lib.ConvBytes
import Derived.Laws.Slices
import Derived.WalkKit
import Derived.KernelRfl
import Derived.RowKit3
import Derived.Deep.LoopGhost
import Derived.Deep.QuietTactic
import Derived.BigQuiet
import Derived.WideLaws
import Derived.Deep.DeepCutAuto
import Derived.Deep.CutBlock
import Derived.Deep.RegionHeld3
import Derived.Laws.Rows
import Derived.Lib.AppendStr
import Derived.ArgAppend
import Derived.Laws.IdiomCopy
import Derived.OrdersHeld
import Derived.Laws.BitsLemmas
import Derived.RowKit
import Derived.Test.YthojcapdbjmneaaVarG
import Derived.Test.YthojcapdbjmneaaVarL
import Derived.Test.YthojcapdbjmneaaRefP
import Derived.Test.YthojcapdbjmneaaWWords
import Derived.Test.YthojcapdbjmneaaWLast
import Derived.Test.YthojcapdbjmneaaWTab
import Derived.Test.YthojcapdbjmneaaWFour
import Derived.Test.YthojcapdbjmneaaWQPut
import Derived.Test.YthojcapdbjmneaaWApart
import Derived.Test.YthojcapdbjmneaaWArr
import Derived.Test.YthojcapdbjmneaaWZeros
import Derived.Test.YthojcapdbjmneaaWFoot
import Derived.Test.YthojcapdbjmneaaWKept
import Derived.Test.YthojcapdbjmneaaWShare
import Derived.Test.YthojcapdbjmneaaWN
import Derived.Test.YthojcapdbjmneaaWFootNe
import Derived.Test.YthojcapdbjmneaaWAt
import Derived.Test.YthojcapdbjmneaaWEqStruct
import Derived.Test.YthojcapdbjmneaaWRepsOne
import Derived.Test.YthojcapdbjmneaaWInv
import Derived.Test.YthojcapdbjmneaaWInvWords
import Derived.Test.YthojcapdbjmneaaWGuard
import Derived.Test.YthojcapdbjmneaaWNEv
import Derived.Test.YthojcapdbjmneaaWMore
namespace Go.Proofs.Ythojcapdbjmneaa.GVB
open Go.RowKit Go.Proofs.YthojcapdbjmneaaW.PrintWords Go.Proofs.YthojcapdbjmneaaW.PrintLast Go.Proofs.YthojcapdbjmneaaW.PrintMore
attribute [local go_sem] max2_int min2_int max_two min_two max_three min_three max_four min_four   -- for this text's walks alone
set_option linter.unusedVariables false
set_option linter.unusedSimpArgs false



def errW : Option Int → Value
  | none => .nilIface
  | some c => .iface 0 (.int .i64 c)
theorem errW_none : errW none = .nilIface := rfl
theorem errW_some (c : Int) : errW (some c) = .iface 0 (.int .i64 c) := rfl

theorem info5 : (Try.prog.info? 5).map (fun i => (i.zero, i.size, i.bytes)) = some (some (.int .u8 0), 1, 1) := by kernel_rfl
-- the values' own types

end Go.Proofs.Ythojcapdbjmneaa.GVB
