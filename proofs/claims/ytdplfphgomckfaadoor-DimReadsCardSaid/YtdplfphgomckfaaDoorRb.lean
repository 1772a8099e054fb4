/- DimReads: what is to be shown of the call. -/
import Derived.Test.YtdplfphgomckfaaDoorRa
import Derived.Test.YtdplfphgomckfaaDoorORx5
import Derived.Test.YtdplfphgomckfaaDoorArgDimReads
import Derived.OpenShut
namespace Go.Proofs.YtdplfphgomckfaaDoor.Rb
set_option linter.unusedVariables false
open Go.RowKit Go.Proofs.YtdplfphgomckfaaDoorW.PrintWords Go.Proofs.YtdplfphgomckfaaDoor.Ra
theorem awake_f : OR.capstanlaw02_awake.f 8 = some true := by
  unfold OR.capstanlaw02_awake.f
  rw [read_awake]
  rfl
theorem reads_f (s : ByteArray) : Ev (fun k => OR.capstanlaw02_DimReads.f k s) true := by
  obtain ⟨⟨⟨N, D, ds⟩, p, e⟩, ht⟩ := read_tot s
  have ha := ev_mono 8 awake_f OR.capstanlaw02_awake.mono
  obtain ⟨K1, h1⟩ := ha
  obtain ⟨K2, h2⟩ := ht
  refine ⟨K1 + K2, fun k hk => ?_⟩
  have g1 := h1 k (by omega)
  have g2 := h2 k (by omega)
  dsimp only at g1 g2
  show OR.capstanlaw02_DimReads.f k s = some true
  unfold OR.capstanlaw02_DimReads.f Df.RRead.f
  rw [g1, g2]
  simp [Option.bind_some]
theorem walk : ArgDimReads.Walk := by
  intro s w hL hs
  obtain ⟨K, hK⟩ := reads_f s
  exact OR.capstanlaw02_DimReads.calls K s true w (hK K (Nat.le_refl _)) hL
end Go.Proofs.YtdplfphgomckfaaDoor.Rb
