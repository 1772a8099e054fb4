/- What is to be shown of the call of GateReaches: it answers true and leaves what was there, whatever the arguments. -/
import Derived.Test.YtalefchapckcoaaRows
import Derived.Below
namespace Go.Proofs.Ytalefchapckcoaa.ArgGateReaches
open Go.RowKit
def Walk : Prop := ∀ (a0_0 : Int) (a0_1 : Int) (a0_2 : Int) (a0_3 : Int) (a0_4 : Int) (a1_0 : Int) (a1_1 : Int) (a2 : Int) (w : World), (Lit.int .i64 a0_0).wf = true → (Lit.int .i64 a0_1).wf = true → (Lit.int .i64 a0_2).wf = true → (Lit.int .i64 a0_3).wf = true → (Lit.int .i64 a0_4).wf = true → (Lit.int .i64 a1_0).wf = true → (Lit.int .i64 a1_1).wf = true → (Lit.int .u8 a2).wf = true → Calls Try.prog 4 #[.agg #[.int .i64 a0_0, .int .i64 a0_1, .int .i64 a0_2, .int .i64 a0_3, .int .i64 a0_4], .agg #[.int .i64 a1_0, .int .i64 a1_1], .int .u8 a2] w fun e w' => e = .returned (.bool true) ∧ Below w.heap.size w w'
end Go.Proofs.Ytalefchapckcoaa.ArgGateReaches
