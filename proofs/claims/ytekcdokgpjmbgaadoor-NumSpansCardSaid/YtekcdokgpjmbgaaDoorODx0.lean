/- Walks of functions, written by a program (wip/tools/own.py) over hand contracts; conditions: as each theorem states. -/
import Derived.Test.YtekcdokgpjmbgaaDoorProg
import Derived.Below
import Derived.Deep.Draws
import Derived.Deep.AppendLies
import Derived.Maps.AppendAt
import Derived.OwnWalk
import Derived.Laws.BytesArg
import Derived.Laws.MakeOwn
import Derived.Laws.OwnMore
import Derived.Deep.OwnRows
import Derived.Tactics
import Derived.Lib.ConvBytes
import Derived.Laws.Slices
import Derived.WalkKit
import Derived.KernelRfl
import Derived.RowKit3
import Derived.Deep.LoopGhost
import Derived.Deep.QuietTactic
import Derived.BigQuiet
import Derived.WideLaws
import Derived.Deep.DeepCutAuto
import Derived.Deep.CutBlock
import Derived.Deep.RegionHeld3
import Derived.Laws.Rows
import Derived.Lib.AppendStr
import Derived.ArgAppend
import Derived.Laws.IdiomCopy
import Derived.OrdersHeld
import Derived.Laws.BitsLemmas
import Derived.RowKit
import Derived.Test.YtekcdokgpjmbgaaDoorNs
import Derived.Test.YtekcdokgpjmbgaaDoorNx
import Derived.Test.YtekcdokgpjmbgaaDoorNz
import Derived.Test.YtekcdokgpjmbgaaDoorOBx2
import Derived.Test.YtekcdokgpjmbgaaDoorOAx12
import Derived.Test.YtekcdokgpjmbgaaDoorWWords
import Derived.Test.YtekcdokgpjmbgaaDoorWLast
import Derived.Test.YtekcdokgpjmbgaaDoorWTab
import Derived.Test.YtekcdokgpjmbgaaDoorWFour
import Derived.Test.YtekcdokgpjmbgaaDoorWQPut
import Derived.Test.YtekcdokgpjmbgaaDoorWApart
import Derived.Test.YtekcdokgpjmbgaaDoorWArr
import Derived.Test.YtekcdokgpjmbgaaDoorWZeros
import Derived.Test.YtekcdokgpjmbgaaDoorWFoot
import Derived.Test.YtekcdokgpjmbgaaDoorWKept
import Derived.Test.YtekcdokgpjmbgaaDoorWShare
import Derived.Test.YtekcdokgpjmbgaaDoorWN
import Derived.Test.YtekcdokgpjmbgaaDoorWFootNe
import Derived.Test.YtekcdokgpjmbgaaDoorWAt
import Derived.Test.YtekcdokgpjmbgaaDoorWEqStruct
import Derived.Test.YtekcdokgpjmbgaaDoorWRepsOne
import Derived.Test.YtekcdokgpjmbgaaDoorWInv
import Derived.Test.YtekcdokgpjmbgaaDoorWInvWords
import Derived.Test.YtekcdokgpjmbgaaDoorWGuard
import Derived.Test.YtekcdokgpjmbgaaDoorWNEv
import Derived.Test.YtekcdokgpjmbgaaDoorWMore
namespace Go.Proofs.YtekcdokgpjmbgaaDoor.OD
open Go.RowKit Go.Proofs.YtekcdokgpjmbgaaDoorW.PrintWords Go.Proofs.YtekcdokgpjmbgaaDoorW.PrintLast Go.Proofs.YtekcdokgpjmbgaaDoorW.PrintMore
attribute [local go_sem] max2_int min2_int max_two min_two max_three min_three max_four min_four   -- for this text's walks alone
set_option linter.unusedVariables false
set_option linter.unusedSimpArgs false



def errW : Option Int → Value
  | none => .nilIface
  | some c => .iface 0 (.int .i64 c)
theorem errW_none : errW none = .nilIface := rfl
theorem errW_some (c : Int) : errW (some c) = .iface 0 (.int .i64 c) := rfl

-- the values' own types

end Go.Proofs.YtekcdokgpjmbgaaDoor.OD
