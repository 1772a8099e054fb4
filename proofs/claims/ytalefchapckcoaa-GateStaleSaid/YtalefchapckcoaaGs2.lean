/- GateStale: what is to be shown of the call, out of its walk. -/
import Derived.Test.YtalefchapckcoaaGs
namespace Go.Proofs.Ytalefchapckcoaa.Gs2
open Go.RowKit
theorem walk : ArgGateStale.Walk := fun a0 a1 a2 a3 a4 b a len cap w _ _ _ _ _ _ hel _ => Gs.walk ⟨a0, a1, a2, a3, a4⟩ b a len cap w hel
end Go.Proofs.Ytalefchapckcoaa.Gs2
