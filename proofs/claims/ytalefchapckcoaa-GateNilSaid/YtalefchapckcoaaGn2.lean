/- GateNil: what is to be shown of the call, out of its walk. -/
import Derived.Test.YtalefchapckcoaaGn
namespace Go.Proofs.Ytalefchapckcoaa.Gn2
open Go.RowKit
theorem walk : ArgGateNil.Walk := fun h why want t w _ _ _ => Gn.walk h why want t w
end Go.Proofs.Ytalefchapckcoaa.Gn2
