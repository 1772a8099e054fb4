/- What is to be shown of the call of DimReads: it answers true and leaves what was there, whatever the arguments. -/
import Derived.Test.YtdplfphgomckfaaDoorRows
import Derived.Test.YtdplfphgomckfaaDoorLaid
import Derived.Below
namespace Go.Proofs.YtdplfphgomckfaaDoor.ArgDimReads
open Go.RowKit
def Walk : Prop := ∀ (a0 : ByteArray) (w : World), Laid.Laid w → a0.size ≤ 140737488351232 → Calls Tryd.prog 3 #[.string a0] w fun e w' => e = .returned (.bool true) ∧ Below w.heap.size w w'
end Go.Proofs.YtdplfphgomckfaaDoor.ArgDimReads
