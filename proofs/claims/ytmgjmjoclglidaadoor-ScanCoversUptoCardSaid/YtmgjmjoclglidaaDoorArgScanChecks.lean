/- What is to be shown of the call of ScanChecks: it answers true and leaves what was there, whatever the arguments. -/
import Derived.Test.YtmgjmjoclglidaaDoorRows
import Derived.Test.YtmgjmjoclglidaaDoorLaid
import Derived.Below
namespace Go.Proofs.YtmgjmjoclglidaaDoor.ArgScanChecks
open Go.RowKit
def Walk : Prop := ∀ (a0 : ByteArray) (w : World), Laid.Laid w → a0.size ≤ 1048576 → Calls Tryd.prog 5 #[.string a0] w fun e w' => e = .returned (.bool true) ∧ Below w.heap.size w w'
end Go.Proofs.YtmgjmjoclglidaaDoor.ArgScanChecks
