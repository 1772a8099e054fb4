/- CodecDecodes, in plain Lean. -/
import Derived.Test.YtkdboaaganmagaaTf
import Derived.Test.YtkdboaaganmagaaOLx9
namespace Go.Proofs.Ytkdboaaganmagaa.Tg6
set_option linter.unusedVariables false
set_option linter.unusedSimpArgs false
open Go.RowKit Go.Proofs.YtkdboaaganmagaaW.PrintWords Go.Proofs.Ytkdboaaganmagaa.OP Go.Proofs.Ytkdboaaganmagaa.Cd Go.Proofs.Ytkdboaaganmagaa.Ce Go.Proofs.Ytkdboaaganmagaa.Cf Go.Proofs.Ytkdboaaganmagaa.Tc Go.Proofs.Ytkdboaaganmagaa.Te Go.Proofs.Ytkdboaaganmagaa.Tf
theorem decodes_f (l : List Int) (hin : InB l) (K : Nat) (hK : 50000 ≤ K) : OL.capstanlaw22_CodecDecodes.f K l = some true := by
  unfold OL.capstanlaw22_CodecDecodes.f
  rw [awake_is K (by omega), Option.bind_some, if_pos rfl]
  have key : ∃ p e, decF l = some (p, e) ∧ Fits p K := by
    rcases dec_cases l hin with ⟨e, hd, he⟩ | ⟨p, hd, hp, hl⟩
    · exact ⟨Zg, e, hd, by unfold Fits Zg; simp; omega⟩
    · exact ⟨p, 0, hd, ok_fits p hp K (by omega)⟩
  obtain ⟨p, e, hd, hf⟩ := key
  have hr : Ck.RDec.f K l = some (ofPg p e) := dec_f K l p e hd
  rw [dec_f K l p e hd, Option.bind_some, hr, Option.bind_some, if_pos rfl]
  show (sameF K p p).bind _ = _
  rw [same_self p K hf]
  rfl
end Go.Proofs.Ytkdboaaganmagaa.Tg6
