/- What is to be shown of the call of CivilDays: it answers true and leaves what was there, whatever the arguments. -/
import Derived.Test.YtdeohkldlpknnaaDoorRows
import Derived.Test.YtdeohkldlpknnaaDoorLaid
import Derived.Below
namespace Go.Proofs.YtdeohkldlpknnaaDoor.ArgCivilDays
open Go.RowKit
def Walk : Prop := ∀ (a0 : Int) (a1 : Int) (w : World), Laid.Laid w → (Lit.int .i64 a0).wf = true → (Lit.int .i64 a1).wf = true → Calls Tryd.prog 5 #[.int .i64 a0, .int .i64 a1] w fun e w' => e = .returned (.bool true) ∧ Below w.heap.size w w'
end Go.Proofs.YtdeohkldlpknnaaDoor.ArgCivilDays
