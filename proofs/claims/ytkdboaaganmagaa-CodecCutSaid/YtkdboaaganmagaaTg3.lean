/- CodecCut, in plain Lean. -/
import Derived.Test.YtkdboaaganmagaaTf
import Derived.Test.YtkdboaaganmagaaOLx6
namespace Go.Proofs.Ytkdboaaganmagaa.Tg3
set_option linter.unusedVariables false
set_option linter.unusedSimpArgs false
open Go.RowKit Go.Proofs.YtkdboaaganmagaaW.PrintWords Go.Proofs.Ytkdboaaganmagaa.OP Go.Proofs.Ytkdboaaganmagaa.Cd Go.Proofs.Ytkdboaaganmagaa.Ce Go.Proofs.Ytkdboaaganmagaa.Cf Go.Proofs.Ytkdboaaganmagaa.Tc Go.Proofs.Ytkdboaaganmagaa.Te Go.Proofs.Ytkdboaaganmagaa.Tf
theorem enc_pos (p : Pg) : (encP p).length ≠ 0 := by
  rw [encP_is]; simp
theorem cut_f (p : Pg) (hr : Rng p) (n b : Int) (hn : 0 ≤ n ∧ n ≤ 65535) (hb : 0 ≤ b ∧ b ≤ 255) (K : Nat) (h : Fits p K) (hK : 50000 ≤ K) : OL.capstanlaw22_CodecCut.f K p.a0 p.a1 p.a2 p.a3 p.a4 p.a5 p.l6 p.l7 p.l8 p.a9 p.a10 p.l11 n b = some true := by
  unfold OL.capstanlaw22_CodecCut.f
  rw [awake_is K (by omega), Option.bind_some, if_pos rfl]
  show (encF K p).bind _ = _
  obtain ⟨k, rfl⟩ : ∃ m, K = m + 1 := ⟨K - 1, by omega⟩
  cases ht : toldP p with
  | false =>
    rw [enc_no p _ h ht, Option.bind_some, if_neg (by decide), OL.capstanlaw22_CodecCut.j0, if_pos rfl, if_neg (by decide)]
  | true =>
    have ok := told_ok p hr ht
    rw [enc_yes p _ h ht, Option.bind_some, if_pos rfl]
    have hz := enc_pos p
    have hin := enc_in p
    have hp := prog_enc p ok
    rw [if_neg (by show ¬ ((encP p).length : Int) = 0; omega)]
    show OL.capstanlaw22_CodecCut.j0 (k + 1) n b (encP p) 0 (decide (((encP p).length : Int) > 100000)) = _
    generalize encP p = l at hz hin hp
    by_cases hl : l.length > 100000
    · rw [decide_eq_true (by omega), OL.capstanlaw22_CodecCut.j0, if_pos rfl, if_pos rfl, decide_eq_true (by omega)]
    · rw [decide_eq_false (by omega), OL.capstanlaw22_CodecCut.j0, if_neg (by decide), if_neg (by omega)]
      have hw : wrap64 n = n := by unfold wrap64; omega
      rw [hw]
      have hm : Int.tmod n l.length = n % l.length := Int.tmod_eq_emod_of_nonneg hn.1
      rw [hm]
      have m0 : 0 ≤ n % (l.length : Int) := Int.emod_nonneg _ (by omega)
      have m1 : n % (l.length : Int) < l.length := Int.emod_lt_of_pos _ (by omega)
      generalize n % (l.length : Int) = m at m0 m1
      obtain ⟨q, rfl⟩ : ∃ q : Nat, m = q := ⟨m.toNat, by omega⟩
      rw [if_pos m0, if_pos (by omega), Int.toNat_natCast, dec_f k _ Zg 40 (dec_less l p q hin hp (by omega) (by omega)), Option.bind_some, if_pos (by simp; omega), List.nil_append, Option.bind_some, if_pos (by omega),
        dec_f k _ Zg 40 (dec_more l [b] p hin (fun x hx => by simp at hx; subst hx; exact hb) hp (by simp) (by simp; omega)), Option.bind_some, if_pos (by rfl)]
      rfl
end Go.Proofs.Ytkdboaaganmagaa.Tg3
