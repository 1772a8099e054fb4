/- What is to be shown of the call of ScanRuns: it answers true and leaves what was there, whatever the arguments. -/
import Derived.Test.YtmgjmjoclglidaaDoorRows
import Derived.Test.YtmgjmjoclglidaaDoorLaid
import Derived.Below
namespace Go.Proofs.YtmgjmjoclglidaaDoor.ArgScanRuns
open Go.RowKit
def Walk : Prop := ∀ (a0 : ByteArray) (a1 : Int) (a2 : Int) (w : World), Laid.Laid w → a0.size ≤ 140737488351232 → (Lit.int .i64 a1).wf = true → (Lit.int .i64 a2).wf = true → Calls Tryd.prog 7 #[.string a0, .int .i64 a1, .int .i64 a2] w fun e w' => e = .returned (.bool true) ∧ Below w.heap.size w w'
end Go.Proofs.YtmgjmjoclglidaaDoor.ArgScanRuns
