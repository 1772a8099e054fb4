/- DimTexts: what is to be shown of the call. -/
import Derived.Test.YtdplfphgomckfaaDoorDw
import Derived.Test.YtdplfphgomckfaaDoorArgDimTexts
import Derived.OpenShut
namespace Go.Proofs.YtdplfphgomckfaaDoor.Dx
set_option linter.unusedVariables false
open Go.RowKit Go.Proofs.YtdplfphgomckfaaDoor.Dv Go.Proofs.YtdplfphgomckfaaDoor.Dw
theorem walk : ArgDimTexts.Walk := by
  intro a0 a1 a2 a3 a4 w hL h0 h1 h2 h3 h4
  refine OT.capstanlaw02_DimTexts.calls 8 a0 a1 a2 a3 a4 true w (texts_f a0 a1 a2 a3 a4 ?_) hL
  have b0 := bounds_i64 h0; have b1 := bounds_i64 h1; have b2 := bounds_i64 h2; have b3 := bounds_i64 h3; have b4 := bounds_i64 h4
  simp [okB, b0, b1, b2, b3, b4]
end Go.Proofs.YtdplfphgomckfaaDoor.Dx
