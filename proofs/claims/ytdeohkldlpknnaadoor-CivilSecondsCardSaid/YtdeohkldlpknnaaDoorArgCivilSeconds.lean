/- What is to be shown of the call of CivilSeconds: it answers true and leaves what was there, whatever the arguments. -/
import Derived.Test.YtdeohkldlpknnaaDoorRows
import Derived.Test.YtdeohkldlpknnaaDoorLaid
import Derived.Below
namespace Go.Proofs.YtdeohkldlpknnaaDoor.ArgCivilSeconds
open Go.RowKit
def Walk : Prop := ∀ (a0_0 : Int) (a0_1 : Int) (a0_2 : Int) (a0_3 : Int) (a0_4 : Int) (a0_5 : Int) (a0_6 : Int) (w : World), Laid.Laid w → (Lit.int .i64 a0_0).wf = true → (Lit.int .i64 a0_1).wf = true → (Lit.int .i64 a0_2).wf = true → (Lit.int .i64 a0_3).wf = true → (Lit.int .i64 a0_4).wf = true → (Lit.int .i64 a0_5).wf = true → (Lit.int .i64 a0_6).wf = true → Calls Tryd.prog 4 #[.agg #[.int .i64 a0_0, .int .i64 a0_1, .int .i64 a0_2, .int .i64 a0_3, .int .i64 a0_4, .int .i64 a0_5, .int .i64 a0_6]] w fun e w' => e = .returned (.bool true) ∧ Below w.heap.size w w'
end Go.Proofs.YtdeohkldlpknnaaDoor.ArgCivilSeconds
