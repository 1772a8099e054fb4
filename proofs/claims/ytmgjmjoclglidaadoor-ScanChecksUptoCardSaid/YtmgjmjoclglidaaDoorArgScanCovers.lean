/- What is to be shown of the call of ScanCovers: it answers true and leaves what was there, whatever the arguments. -/
import Derived.Test.YtmgjmjoclglidaaDoorRows
import Derived.Test.YtmgjmjoclglidaaDoorLaid
import Derived.Below
namespace Go.Proofs.YtmgjmjoclglidaaDoor.ArgScanCovers
open Go.RowKit
def Walk : Prop := ∀ (a0 : ByteArray) (a1 : Int) (w : World), Laid.Laid w → a0.size ≤ 1048576 → (Lit.int .i64 a1).wf = true → Calls Tryd.prog 8 #[.string a0, .int .i64 a1] w fun e w' => e = .returned (.bool true) ∧ Below w.heap.size w w'
end Go.Proofs.YtmgjmjoclglidaaDoor.ArgScanCovers
