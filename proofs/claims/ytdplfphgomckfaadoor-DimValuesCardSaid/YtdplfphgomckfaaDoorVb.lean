/- DimValues: what is to be shown of the call. -/
import Derived.Test.YtdplfphgomckfaaDoorVa
import Derived.Test.YtdplfphgomckfaaDoorArgDimValues
import Derived.OpenShut
namespace Go.Proofs.YtdplfphgomckfaaDoor.Vb
set_option linter.unusedVariables false
open Go.RowKit Go.Proofs.YtdplfphgomckfaaDoor.Va Go.Proofs.YtdplfphgomckfaaDoor.Bx
theorem walk : ArgDimValues.Walk := by
  intro a0 a1 a2 a3 a4 a5 a6 v w hL h0 h1 h2 h3 h4 h5 h6 h7
  obtain ⟨K, hK⟩ := values_f a0 a1 a2 a3 a4 a5 a6 v (bounds_i64 h0) (bounds_i64 h1) (bounds_i64 h7)
  exact OV.capstanlaw02_DimValues.calls K a0 a1 a2 a3 a4 a5 a6 v true w (hK K (Nat.le_refl _)) hL
end Go.Proofs.YtdplfphgomckfaaDoor.Vb
