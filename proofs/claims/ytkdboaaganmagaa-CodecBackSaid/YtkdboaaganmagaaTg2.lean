/- CodecBack, in plain Lean. -/
import Derived.Test.YtkdboaaganmagaaTf
import Derived.Test.YtkdboaaganmagaaOLx5
namespace Go.Proofs.Ytkdboaaganmagaa.Tg2
set_option linter.unusedVariables false
set_option linter.unusedSimpArgs false
open Go.RowKit Go.Proofs.YtkdboaaganmagaaW.PrintWords Go.Proofs.Ytkdboaaganmagaa.OP Go.Proofs.Ytkdboaaganmagaa.Cd Go.Proofs.Ytkdboaaganmagaa.Ce Go.Proofs.Ytkdboaaganmagaa.Cf Go.Proofs.Ytkdboaaganmagaa.Tc Go.Proofs.Ytkdboaaganmagaa.Te Go.Proofs.Ytkdboaaganmagaa.Tf
theorem rest_f (l : List Int) (hin : InB l) (K : Nat) (h1 : 50000 ≤ K) : OL.capstanlaw22_CodecBack.j0 K l = some true := by
  obtain ⟨K, rfl⟩ : ∃ m, K = m + 1 := ⟨K - 1, by omega⟩
  rw [OL.capstanlaw22_CodecBack.j0]
  rcases dec_cases l hin with ⟨e, hd, he⟩ | ⟨p, hd, hp, hl⟩
  · rw [dec_f K l Zg e hd, Option.bind_some, if_neg (by show ¬ e = 0; omega)]
    show (sameF K Zg Zg).bind _ = _
    rw [same_self Zg K (by unfold Fits Zg; simp; omega)]
    rfl
  · have hf := ok_fits p hp K (by omega)
    rw [dec_f K l p 0 hd, Option.bind_some, if_pos (by rfl)]
    show (encF K p).bind _ = _
    rw [enc_yes p K hf (ok_told p hp), Option.bind_some, if_pos (by rfl), ← hl, bytes_self l hin]
    rfl
theorem back_f (p : Pg) (hr : Rng p) (l : List Int) (hin : InB l) (K : Nat) (h : Fits p K) (hK : 50000 ≤ K) : OL.capstanlaw22_CodecBack.f K p.a0 p.a1 p.a2 p.a3 p.a4 p.a5 p.l6 p.l7 p.l8 p.a9 p.a10 p.l11 l = some true := by
  unfold OL.capstanlaw22_CodecBack.f
  rw [awake_is K (by omega), Option.bind_some, if_pos rfl]
  show (encF K p).bind _ = _
  cases ht : toldP p with
  | false =>
    rw [enc_no p K h ht, Option.bind_some, if_neg (by decide), if_pos (by rfl), if_pos (by rfl)]
    exact rest_f l hin K hK
  | true =>
    have ok := told_ok p hr ht
    rw [enc_yes p K h ht, Option.bind_some, if_pos (by rfl)]
    by_cases hl : (encP p).length ≤ 1048576
    · show (Dec.f K (encP p)).bind _ = _
      rw [dec_f K _ p 0 (dec_enc p ok hl), Option.bind_some, if_pos (by rfl)]
      show (sameF K p p).bind _ = _
      rw [same_self p K h, Option.bind_some, if_pos rfl]
      exact rest_f l hin K hK
    · show (Dec.f K (encP p)).bind _ = _
      rw [dec_f K _ Zg 2 (dec_big _ (by omega)), Option.bind_some, if_neg (by show ¬ (2 : Int) = 0; decide), if_neg (by show ¬ ((encP p).length : Int) ≤ 1048576; omega)]
      exact rest_f l hin K hK
end Go.Proofs.Ytkdboaaganmagaa.Tg2
