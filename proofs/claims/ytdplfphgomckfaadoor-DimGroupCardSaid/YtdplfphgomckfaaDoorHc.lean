/- DimGroup: what is to be shown of the call. -/
import Derived.Test.YtdplfphgomckfaaDoorHb
import Derived.Test.YtdplfphgomckfaaDoorArgDimGroup
import Derived.OpenShut
namespace Go.Proofs.YtdplfphgomckfaaDoor.Hc
set_option linter.unusedVariables false
open Go.RowKit Go.Proofs.YtdplfphgomckfaaDoor.Ha Go.Proofs.YtdplfphgomckfaaDoor.Bx
theorem walk : ArgDimGroup.Walk := by
  intro a0 a1 a2 a3 a4 b0 b1 b2 b3 b4 w hL h0 h1 h2 h3 h4 g0 g1 g2 g3 g4
  exact Hb.group_any a0 a1 a2 a3 a4 b0 b1 b2 b3 b4 ⟨bounds_i64 h0, bounds_i64 h1, bounds_i64 h2, bounds_i64 h3, bounds_i64 h4⟩ ⟨bounds_i64 g0, bounds_i64 g1, bounds_i64 g2, bounds_i64 g3, bounds_i64 g4⟩ w hL
end Go.Proofs.YtdplfphgomckfaaDoor.Hc
