/- What is to be shown of the call of NumSpanBack: it answers true and leaves what was there, whatever the arguments. -/
import Derived.Test.YtekcdokgpjmbgaaDoorRows
import Derived.Test.YtekcdokgpjmbgaaDoorLaid
import Derived.Below
namespace Go.Proofs.YtekcdokgpjmbgaaDoor.ArgNumSpanBack
open Go.RowKit
def Walk : Prop := ∀ (a0 : Int) (a1 : ByteArray) (w : World), Laid.Laid w → (Lit.int .i64 a0).wf = true → a1.size ≤ 140737488351232 → Calls Tryd.prog 4 #[.int .i64 a0, .string a1] w fun e w' => e = .returned (.bool true) ∧ Below w.heap.size w w'
end Go.Proofs.YtekcdokgpjmbgaaDoor.ArgNumSpanBack
