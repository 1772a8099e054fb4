/- CodecDecodes: what is to be shown of the call. -/
import Derived.Test.YtkdboaaganmagaaTh
import Derived.Test.YtkdboaaganmagaaTg6
import Derived.Test.YtkdboaaganmagaaArgCodecDecodes
namespace Go.Proofs.Ytkdboaaganmagaa.Wd
set_option linter.unusedVariables false
open Go.RowKit Go.Proofs.YtkdboaaganmagaaW.PrintWords Go.Proofs.Ytkdboaaganmagaa.OP Go.Proofs.Ytkdboaaganmagaa.Ce Go.Proofs.Ytkdboaaganmagaa.Tc Go.Proofs.Ytkdboaaganmagaa.Te Go.Proofs.Ytkdboaaganmagaa.Th
theorem walk : ArgCodecDecodes.Walk := by
  intro B1 nb cb w eb sb
  obtain ⟨lb, rfl, kb, ib, mb, rb⟩ := rows31 w B1 _ _ eb
  exact OL.capstanlaw22_CodecDecodes.calls 50000 B1 cb lb true w kb ib (Tg6.decodes_f lb rb 50000 (Nat.le_refl _))
end Go.Proofs.Ytkdboaaganmagaa.Wd
