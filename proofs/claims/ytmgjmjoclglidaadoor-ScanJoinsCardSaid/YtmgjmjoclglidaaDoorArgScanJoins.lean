/- What is to be shown of the call of ScanJoins: it answers true and leaves what was there, whatever the arguments. -/
import Derived.Test.YtmgjmjoclglidaaDoorRows
import Derived.Test.YtmgjmjoclglidaaDoorLaid
import Derived.Below
namespace Go.Proofs.YtmgjmjoclglidaaDoor.ArgScanJoins
open Go.RowKit
def Walk : Prop := ∀ (a0 : ByteArray) (a1 : ByteArray) (w : World), Laid.Laid w → a0.size ≤ 140737488351232 → a1.size ≤ 140737488351232 → Calls Tryd.prog 4 #[.string a0, .string a1] w fun e w' => e = .returned (.bool true) ∧ Below w.heap.size w w'
end Go.Proofs.YtmgjmjoclglidaaDoor.ArgScanJoins
