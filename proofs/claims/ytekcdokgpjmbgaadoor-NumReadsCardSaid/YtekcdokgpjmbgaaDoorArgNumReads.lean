/- What is to be shown of the call of NumReads: it answers true and leaves what was there, whatever the arguments. -/
import Derived.Test.YtekcdokgpjmbgaaDoorRows
import Derived.Test.YtekcdokgpjmbgaaDoorLaid
import Derived.Below
namespace Go.Proofs.YtekcdokgpjmbgaaDoor.ArgNumReads
open Go.RowKit
def Walk : Prop := ∀ (a0 : ByteArray) (w : World), Laid.Laid w → a0.size ≤ 140737488351232 → Calls Tryd.prog 5 #[.string a0] w fun e w' => e = .returned (.bool true) ∧ Below w.heap.size w w'
end Go.Proofs.YtekcdokgpjmbgaaDoor.ArgNumReads
