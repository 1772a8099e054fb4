/- DimTexts, in plain Lean: awake answers true; both texts are one. -/
import Derived.Test.YtdplfphgomckfaaDoorOTx5
namespace Go.Proofs.YtdplfphgomckfaaDoor.Dw
set_option linter.unusedVariables false
open Go.RowKit Go.Proofs.YtdplfphgomckfaaDoorW.PrintWords Go.Proofs.YtdplfphgomckfaaDoor.Dv
theorem read_awake : De.Read.f 8 (⟨#[107, 114, 101, 113, 47, 109, 105, 110]⟩ : ByteArray) = some (50, 3, -1, 1, 0, 0, 0, 0, 0) := by kernel_rfl
theorem awake_f : OT.capstanlaw02_awake.f 8 = some true := by
  unfold OT.capstanlaw02_awake.f Dv.Read.f
  rw [read_awake]
  rfl
theorem texts_f (a0 a1 a2 a3 a4 : Int) (h : okB [a0, a1, a2, a3, a4] = true) : OT.capstanlaw02_DimTexts.f 8 a0 a1 a2 a3 a4 = some true := by
  unfold OT.capstanlaw02_DimTexts.f
  rw [awake_f, Option.bind_some, if_pos rfl]
  unfold RText.f Text.f
  rw [if_pos h, Option.bind_some, Option.bind_some, beq_self_eq_true]
end Go.Proofs.YtdplfphgomckfaaDoor.Dw
