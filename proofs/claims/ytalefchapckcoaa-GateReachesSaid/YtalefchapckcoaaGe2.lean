/- GateReaches: what is to be shown of the call, out of its walk. -/
import Derived.Test.YtalefchapckcoaaArgGateReaches
import Derived.Test.YtalefchapckcoaaGe
import Derived.OpenShut
namespace Go.Proofs.Ytalefchapckcoaa.Ge2
open Go.RowKit
theorem walk : ArgGateReaches.Walk := fun a0 a1 a2 a3 a4 b0 b1 n w _ _ _ _ _ _ _ hn => by
  have hn' := bounds_u8 hn
  exact Ge.walk ⟨a0, a1, a2, a3, a4⟩ b0 b1 n w hn'.1 hn'.2
end Go.Proofs.Ytalefchapckcoaa.Ge2
