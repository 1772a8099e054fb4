/- What is to be shown of the call of NumTexts: it answers true and leaves what was there, whatever the arguments. -/
import Derived.Test.YtekcdokgpjmbgaaDoorRows
import Derived.Test.YtekcdokgpjmbgaaDoorLaid
import Derived.Below
namespace Go.Proofs.YtekcdokgpjmbgaaDoor.ArgNumTexts
open Go.RowKit
def Walk : Prop := ∀ (a0 : Int) (w : World), Laid.Laid w → (Lit.int .i64 a0).wf = true → Calls Tryd.prog 8 #[.int .i64 a0] w fun e w' => e = .returned (.bool true) ∧ Below w.heap.size w w'
end Go.Proofs.YtekcdokgpjmbgaaDoor.ArgNumTexts
