/- What is to be shown of the call of DimProducts: it answers true and leaves what was there, whatever the arguments. -/
import Derived.Test.YtdplfphgomckfaaDoorRows
import Derived.Test.YtdplfphgomckfaaDoorLaid
import Derived.Below
namespace Go.Proofs.YtdplfphgomckfaaDoor.ArgDimProducts
open Go.RowKit
def Walk : Prop := ∀ (a0 : ByteArray) (a1 : ByteArray) (w : World), Laid.Laid w → a0.size ≤ 140737488351232 → a1.size ≤ 140737488351232 → Calls Tryd.prog 8 #[.string a0, .string a1] w fun e w' => e = .returned (.bool true) ∧ Below w.heap.size w w'
end Go.Proofs.YtdplfphgomckfaaDoor.ArgDimProducts
