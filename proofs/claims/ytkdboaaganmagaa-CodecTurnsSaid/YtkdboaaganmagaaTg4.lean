/- CodecTurns, in plain Lean. -/
import Derived.Test.YtkdboaaganmagaaTf
import Derived.Test.YtkdboaaganmagaaOLx7
namespace Go.Proofs.Ytkdboaaganmagaa.Tg4
set_option linter.unusedVariables false
set_option linter.unusedSimpArgs false
open Go.RowKit Go.Proofs.YtkdboaaganmagaaW.PrintWords Go.Proofs.Ytkdboaaganmagaa.OP Go.Proofs.Ytkdboaaganmagaa.Cd Go.Proofs.Ytkdboaaganmagaa.Ce Go.Proofs.Ytkdboaaganmagaa.Cf Go.Proofs.Ytkdboaaganmagaa.Tc Go.Proofs.Ytkdboaaganmagaa.Te Go.Proofs.Ytkdboaaganmagaa.Tf
theorem turns_f (p q : Pg) (hp : Rng p) (hq : Rng q) (K : Nat) (h : Fits p (K - 1)) (h2 : Fits q (K - 1)) (hK : 50000 ≤ K) : OL.capstanlaw22_CodecTurns.f K p.a0 p.a1 p.a2 p.a3 p.a4 p.a5 p.l6 p.l7 p.l8 p.a9 p.a10 p.l11 q.a0 q.a1 q.a2 q.a3 q.a4 q.a5 q.l6 q.l7 q.l8 q.a9 q.a10 q.l11 = some true := by
  obtain ⟨k, rfl⟩ : ∃ m, K = m + 1 := ⟨K - 1, by omega⟩
  rw [Nat.add_sub_cancel] at h h2
  have enc_any : ∀ r : Pg, Fits r k → encF (k + 1) r = if toldP r = true then some (encP r, 0) else some ([], 1) := by
    intro r hr
    unfold Fits at hr
    cases ht : toldP r with
    | true => rw [if_pos rfl]; exact enc_told r ht (by omega) (by omega) _ (by omega)
    | false => rw [if_neg (by decide)]; exact enc_not r ht (by omega) (by omega) _ (by omega)
  have aw := awake_is (k + 1) (by omega)
  unfold OL.capstanlaw22_CodecTurns.f
  rw [aw, Option.bind_some, if_pos rfl]
  show (encF (k + 1) p).bind (fun a => (encF (k + 1) q).bind _) = _
  rw [enc_any p h, enc_any q h2]
  have no : ∀ x y, OL.capstanlaw22_CodecTurns.j0 (k + 1) x y true p.a0 p.a1 p.a2 p.a3 p.a4 p.a5 p.l6 p.l7 p.l8 p.a9 p.a10 p.l11 q.a0 q.a1 q.a2 q.a3 q.a4 q.a5 q.l6 q.l7 q.l8 q.a9 q.a10 q.l11 = some true := by
    intro x y
    rw [OL.capstanlaw22_CodecTurns.j0, if_pos rfl]
  cases ht : toldP p with
  | false =>
    rw [if_neg (by decide), Option.bind_some]
    cases hu : toldP q with
    | false => rw [if_neg (by decide), Option.bind_some, if_neg (by decide)]; exact no _ _
    | true => rw [if_pos rfl, Option.bind_some, if_neg (by decide)]; exact no _ _
  | true =>
    rw [if_pos rfl, Option.bind_some]
    cases hu : toldP q with
    | false => rw [if_neg (by decide), Option.bind_some, if_pos rfl]; exact no _ _
    | true =>
      rw [if_pos rfl, Option.bind_some, if_pos rfl]
      have okp := told_ok p hp ht
      have okq := told_ok q hq hu
      show OL.capstanlaw22_CodecTurns.j0 (k + 1) (encP p) (encP q) false _ _ _ _ _ _ _ _ _ _ _ _ _ _ _ _ _ _ _ _ _ _ _ _ = _
      rw [OL.capstanlaw22_CodecTurns.j0, if_neg (by decide)]
      obtain ⟨t, e1, e2⟩ := bytes_f (encP p) (encP q) (enc_in p) (enc_in q)
      rw [e1, Option.bind_some]
      show (sameF k p q).bind _ = _
      obtain ⟨s, e3, e4⟩ := same_f p q k h
      rw [e3, Option.bind_some]
      congr 1
      have key : t = true ↔ s = true := by
        rw [e2, e4]
        constructor
        · intro e
          have := prog_enc p okp
          rw [e, prog_enc q okq] at this
          injection this with this
          exact this.symm
        · rintro rfl; rfl
      cases t <;> cases s <;> simp_all
end Go.Proofs.Ytkdboaaganmagaa.Tg4
