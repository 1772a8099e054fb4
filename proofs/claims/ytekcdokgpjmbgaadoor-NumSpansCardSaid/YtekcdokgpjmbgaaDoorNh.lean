/- num's laws' first question. -/
import Derived.Test.YtekcdokgpjmbgaaDoorOBx2
import Derived.KernelRfl
namespace Go.Proofs.YtekcdokgpjmbgaaDoor.Nh
open Go.Proofs.YtekcdokgpjmbgaaDoor.OB
set_option maxRecDepth 1000000 in
theorem awake_is : capstanlaw10_awake.f 100 = some true := by kernel_rfl
end Go.Proofs.YtekcdokgpjmbgaaDoor.Nh
