/- What is to be shown of the call of NumPoint: it answers true and leaves what was there, whatever the arguments. -/
import Derived.Test.YtekcdokgpjmbgaaDoorRows
import Derived.Test.YtekcdokgpjmbgaaDoorLaid
import Derived.Below
namespace Go.Proofs.YtekcdokgpjmbgaaDoor.ArgNumPoint
open Go.RowKit
def Walk : Prop := ∀ (a0 : Int) (a1 : Int) (w : World), Laid.Laid w → (Lit.int .u32 a0).wf = true → (Lit.int .u32 a1).wf = true → Calls Tryd.prog 7 #[.int .u32 a0, .int .u32 a1] w fun e w' => e = .returned (.bool true) ∧ Below w.heap.size w w'
end Go.Proofs.YtekcdokgpjmbgaaDoor.ArgNumPoint
