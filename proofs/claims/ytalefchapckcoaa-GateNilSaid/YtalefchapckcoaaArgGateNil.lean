/- What is to be shown of the call of GateNil: it answers true and leaves what was there, whatever the arguments. -/
import Derived.Test.YtalefchapckcoaaRows
import Derived.Below
namespace Go.Proofs.Ytalefchapckcoaa.ArgGateNil
open Go.RowKit
def Walk : Prop := ∀ (a0_0 : Bool) (a0_1 : Int) (a0_2 : Int) (a0_3 : Int) (w : World), (Lit.int .i64 a0_1).wf = true → (Lit.int .i64 a0_2).wf = true → (Lit.int .i64 a0_3).wf = true → Calls Try.prog 7 #[.agg #[.bool a0_0, .int .i64 a0_1, .int .i64 a0_2, .int .i64 a0_3]] w fun e w' => e = .returned (.bool true) ∧ Below w.heap.size w w'
end Go.Proofs.Ytalefchapckcoaa.ArgGateNil
