/- What is to be shown of the call of NumSpans: it answers true and leaves what was there, whatever the arguments. -/
import Derived.Test.YtekcdokgpjmbgaaDoorRows
import Derived.Test.YtekcdokgpjmbgaaDoorLaid
import Derived.Below
namespace Go.Proofs.YtekcdokgpjmbgaaDoor.ArgNumSpans
open Go.RowKit
def Walk : Prop := ∀ (a0 : ByteArray) (a1 : Int) (w : World), Laid.Laid w → a0.size ≤ 140737488351232 → (Lit.int .i64 a1).wf = true → Calls Tryd.prog 3 #[.string a0, .int .i64 a1] w fun e w' => e = .returned (.bool true) ∧ Below w.heap.size w w'
end Go.Proofs.YtekcdokgpjmbgaaDoor.ArgNumSpans
