/- GateBinds: what is to be shown of the call, out of its walk. -/
import Derived.Test.YtalefchapckcoaaRd
namespace Go.Proofs.Ytalefchapckcoaa.Rd2
open Go.RowKit
theorem walk : ArgGateBinds.Walk := fun a0 a1 a2 a3 a4 b a len cap w _ _ _ _ _ _ hel _ => Rd.walk ⟨a0, a1, a2, a3, a4⟩ b a len cap w hel
end Go.Proofs.Ytalefchapckcoaa.Rd2
