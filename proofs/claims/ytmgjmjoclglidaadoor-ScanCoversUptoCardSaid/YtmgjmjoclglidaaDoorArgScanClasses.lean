/- What is to be shown of the call of ScanClasses: it answers true and leaves what was there, whatever the arguments. -/
import Derived.Test.YtmgjmjoclglidaaDoorRows
import Derived.Test.YtmgjmjoclglidaaDoorLaid
import Derived.Below
namespace Go.Proofs.YtmgjmjoclglidaaDoor.ArgScanClasses
open Go.RowKit
def Walk : Prop := ∀ (a0 : Int) (a1 : Int) (w : World), Laid.Laid w → (Lit.int .i32 a0).wf = true → (Lit.int .i64 a1).wf = true → Calls Tryd.prog 6 #[.int .i32 a0, .int .i64 a1] w fun e w' => e = .returned (.bool true) ∧ Below w.heap.size w w'
end Go.Proofs.YtmgjmjoclglidaaDoor.ArgScanClasses
