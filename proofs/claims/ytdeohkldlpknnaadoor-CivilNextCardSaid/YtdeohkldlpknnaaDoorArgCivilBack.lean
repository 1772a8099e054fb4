/- What is to be shown of the call of CivilBack: it answers true and leaves what was there, whatever the arguments. -/
import Derived.Test.YtdeohkldlpknnaaDoorRows
import Derived.Test.YtdeohkldlpknnaaDoorLaid
import Derived.Below
namespace Go.Proofs.YtdeohkldlpknnaaDoor.ArgCivilBack
open Go.RowKit
def Walk : Prop := ∀ (a0 : Int) (a1_0 : Int) (a1_1 : Int) (a1_2 : Int) (a1_3 : Int) (a1_4 : Int) (a1_5 : Int) (a1_6 : Int) (w : World), Laid.Laid w → (Lit.int .i64 a0).wf = true → (Lit.int .i64 a1_0).wf = true → (Lit.int .i64 a1_1).wf = true → (Lit.int .i64 a1_2).wf = true → (Lit.int .i64 a1_3).wf = true → (Lit.int .i64 a1_4).wf = true → (Lit.int .i64 a1_5).wf = true → (Lit.int .i64 a1_6).wf = true → Calls Tryd.prog 6 #[.int .i64 a0, .agg #[.int .i64 a1_0, .int .i64 a1_1, .int .i64 a1_2, .int .i64 a1_3, .int .i64 a1_4, .int .i64 a1_5, .int .i64 a1_6]] w fun e w' => e = .returned (.bool true) ∧ Below w.heap.size w w'
end Go.Proofs.YtdeohkldlpknnaaDoor.ArgCivilBack
