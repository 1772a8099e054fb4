/- CodecEncodes, in plain Lean. -/
import Derived.Test.YtkdboaaganmagaaTf
import Derived.Test.YtkdboaaganmagaaOLx4
namespace Go.Proofs.Ytkdboaaganmagaa.Tg1
set_option linter.unusedVariables false
set_option linter.unusedSimpArgs false
open Go.RowKit Go.Proofs.YtkdboaaganmagaaW.PrintWords Go.Proofs.Ytkdboaaganmagaa.OP Go.Proofs.Ytkdboaaganmagaa.Cd Go.Proofs.Ytkdboaaganmagaa.Ce Go.Proofs.Ytkdboaaganmagaa.Cf Go.Proofs.Ytkdboaaganmagaa.Tc Go.Proofs.Ytkdboaaganmagaa.Te Go.Proofs.Ytkdboaaganmagaa.Tf
theorem encodes_f (p : Pg) (K : Nat) (h : Fits p K) (hK : 400 ≤ K) : OL.capstanlaw22_CodecEncodes.f K p.a0 p.a1 p.a2 p.a3 p.a4 p.a5 p.l6 p.l7 p.l8 p.a9 p.a10 p.l11 = some true := by
  unfold OL.capstanlaw22_CodecEncodes.f
  rw [awake_is K hK, Option.bind_some, if_pos rfl]
  show (encF K p).bind (fun a => (rencF K p).bind _) = _
  rw [renc_enc p K h]
  cases ht : toldP p with
  | false =>
    rw [enc_no p K h ht, Option.bind_some, Option.bind_some, if_pos rfl, bytes_self [] (fun _ h => by cases h)]
    rfl
  | true =>
    rw [enc_yes p K h ht, Option.bind_some, Option.bind_some, if_pos rfl, bytes_self _ (enc_in p)]
    rfl
end Go.Proofs.Ytkdboaaganmagaa.Tg1
