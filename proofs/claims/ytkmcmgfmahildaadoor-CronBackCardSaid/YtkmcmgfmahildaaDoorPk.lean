/- The laws' first question (awake). -/
import Derived.Test.YtkmcmgfmahildaaDoorOBx1
namespace Go.Proofs.YtkmcmgfmahildaaDoor.Pk
open Go.Proofs.YtkmcmgfmahildaaDoor.OB
set_option maxRecDepth 1000000 in
theorem awake_is : capstanlaw04_awake.f 100 = some true := by kernel_rfl
end Go.Proofs.YtkmcmgfmahildaaDoor.Pk
