/- What is to be shown of the call of CronBack: it answers true and leaves what was there, whatever the arguments. -/
import Derived.Test.YtkmcmgfmahildaaDoorRows
import Derived.Test.YtkmcmgfmahildaaDoorLaid
import Derived.Below
namespace Go.Proofs.YtkmcmgfmahildaaDoor.ArgCronBack
open Go.RowKit
def Walk : Prop := ∀ (a0_0 : Int) (a0_1 : Int) (a0_2 : Int) (a0_3 : Int) (a0_4 : Int) (a1 : ByteArray) (w : World), Laid.Laid w → (Lit.int .u64 a0_0).wf = true → (Lit.int .u64 a0_1).wf = true → (Lit.int .u64 a0_2).wf = true → (Lit.int .u64 a0_3).wf = true → (Lit.int .u64 a0_4).wf = true → a1.size ≤ 140737488351232 → Calls Tryd.prog 5 #[.agg #[.int .u64 a0_0, .int .u64 a0_1, .int .u64 a0_2, .int .u64 a0_3, .int .u64 a0_4], .string a1] w fun e w' => e = .returned (.bool true) ∧ Below w.heap.size w w'
end Go.Proofs.YtkmcmgfmahildaaDoor.ArgCronBack
