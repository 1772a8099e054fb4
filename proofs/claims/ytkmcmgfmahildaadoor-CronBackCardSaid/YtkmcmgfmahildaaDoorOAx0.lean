/- Walks of functions, written by a program (wip/tools/own.py) over hand contracts; conditions: as each theorem states. -/
import Derived.Test.YtkmcmgfmahildaaDoorProg
import Derived.Below
import Derived.Deep.Draws
import Derived.Deep.AppendLies
import Derived.Maps.AppendAt
import Derived.OwnWalk
import Derived.Laws.BytesArg
import Derived.Laws.MakeOwn
import Derived.Laws.OwnMore
import Derived.Deep.OwnRows
import Derived.Tactics
import Derived.Lib.ConvBytes
import Derived.Laws.Slices
import Derived.WalkKit
import Derived.KernelRfl
import Derived.RowKit3
import Derived.Deep.LoopGhost
import Derived.Deep.QuietTactic
import Derived.BigQuiet
import Derived.WideLaws
import Derived.Deep.DeepCutAuto
import Derived.Deep.CutBlock
import Derived.Deep.RegionHeld3
import Derived.Laws.Rows
import Derived.Lib.AppendStr
import Derived.ArgAppend
import Derived.Laws.IdiomCopy
import Derived.OrdersHeld
import Derived.Laws.BitsLemmas
import Derived.RowKit
import Derived.Test.YtkmcmgfmahildaaDoorCa
import Derived.Test.YtkmcmgfmahildaaDoorWWords
import Derived.Test.YtkmcmgfmahildaaDoorWLast
import Derived.Test.YtkmcmgfmahildaaDoorWTab
import Derived.Test.YtkmcmgfmahildaaDoorWFour
import Derived.Test.YtkmcmgfmahildaaDoorWQPut
import Derived.Test.YtkmcmgfmahildaaDoorWApart
import Derived.Test.YtkmcmgfmahildaaDoorWArr
import Derived.Test.YtkmcmgfmahildaaDoorWZeros
import Derived.Test.YtkmcmgfmahildaaDoorWFoot
import Derived.Test.YtkmcmgfmahildaaDoorWKept
import Derived.Test.YtkmcmgfmahildaaDoorWShare
import Derived.Test.YtkmcmgfmahildaaDoorWN
import Derived.Test.YtkmcmgfmahildaaDoorWFootNe
import Derived.Test.YtkmcmgfmahildaaDoorWAt
import Derived.Test.YtkmcmgfmahildaaDoorWEqStruct
import Derived.Test.YtkmcmgfmahildaaDoorWRepsOne
import Derived.Test.YtkmcmgfmahildaaDoorWInv
import Derived.Test.YtkmcmgfmahildaaDoorWInvWords
import Derived.Test.YtkmcmgfmahildaaDoorWGuard
import Derived.Test.YtkmcmgfmahildaaDoorWNEv
import Derived.Test.YtkmcmgfmahildaaDoorWMore
namespace Go.Proofs.YtkmcmgfmahildaaDoor.OA
open Go.RowKit Go.Proofs.YtkmcmgfmahildaaDoorW.PrintWords Go.Proofs.YtkmcmgfmahildaaDoorW.PrintLast Go.Proofs.YtkmcmgfmahildaaDoorW.PrintMore
attribute [local go_sem] max2_int min2_int max_two min_two max_three min_three max_four min_four   -- for this text's walks alone
set_option linter.unusedVariables false
set_option linter.unusedSimpArgs false



def errW : Option Int → Value
  | none => .nilIface
  | some c => .iface 0 (.int .i64 c)
theorem errW_none : errW none = .nilIface := rfl
theorem errW_some (c : Int) : errW (some c) = .iface 0 (.int .i64 c) := rfl

-- the values' own types

end Go.Proofs.YtkmcmgfmahildaaDoor.OA
