/- What is to be shown of the call of CivilNext: it answers true and leaves what was there, whatever the arguments. -/
import Derived.Test.YtdeohkldlpknnaaDoorRows
import Derived.Test.YtdeohkldlpknnaaDoorLaid
import Derived.Below
namespace Go.Proofs.YtdeohkldlpknnaaDoor.ArgCivilNext
open Go.RowKit
def Walk : Prop := ∀ (a0 : Int) (w : World), Laid.Laid w → (Lit.int .i64 a0).wf = true → Calls Tryd.prog 7 #[.int .i64 a0] w fun e w' => e = .returned (.bool true) ∧ Below w.heap.size w w'
end Go.Proofs.YtdeohkldlpknnaaDoor.ArgCivilNext
