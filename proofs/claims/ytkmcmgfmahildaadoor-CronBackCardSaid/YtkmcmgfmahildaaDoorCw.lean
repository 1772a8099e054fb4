/- Formed, of Go and of the reference, in the form of the printed functions. -/
import Derived.Test.YtkmcmgfmahildaaDoorCf
import Derived.Test.YtkmcmgfmahildaaDoorCv
namespace Go.Proofs.YtkmcmgfmahildaaDoor.Cw
set_option linter.unusedVariables false
open Go.RowKit Go.Proofs.YtkmcmgfmahildaaDoorW.PrintWords Go.Proofs.YtkmcmgfmahildaaDoor.Laid Go.Proofs.YtkmcmgfmahildaaDoor.Ca Go.Proofs.YtkmcmgfmahildaaDoor.Cf Go.Proofs.YtkmcmgfmahildaaDoor.Cv Go.Proofs.YtkmcmgfmahildaaDoor.Blk2
open Go.Proofs.YtkmcmgfmahildaaDoor.Blk (below_then)

def rformed.f (a b c d e : Int) : Option Bool := some (rformedB a b c d e)
theorem rformed.calls (a b c d e : Int) (r : Bool) (w : World) (h : rformed.f a b c d e = some r) :
    Calls Tryd.prog 16 #[.agg #[.int .u64 a, .int .u64 b, .int .u64 c, .int .u64 d, .int .u64 e]] w fun x w' => x = .returned (.bool r) ∧ Below w.heap.size w w' := by
  injection h with h
  subst h
  exact rformed_any a b c d e w
def formed.f (a b c d e : Int) : Option Bool := some (formedB a b c d e)
theorem formed.calls (a b c d e : Int) (r : Bool) (w : World) (h : formed.f a b c d e = some r) (hL_ : Laid w) :
    Calls Tryd.prog 15 #[.agg #[.int .u64 a, .int .u64 b, .int .u64 c, .int .u64 d, .int .u64 e]] w fun x w' => x = .returned (.bool r) ∧ Below w.heap.size w w' := by
  injection h with h
  subst h
  exact formed_any a b c d e w hL_
end Go.Proofs.YtkmcmgfmahildaaDoor.Cw
