/- CodecKeeps, in plain Lean. -/
import Derived.Test.YtkdboaaganmagaaTf
import Derived.Test.YtkdboaaganmagaaOLx8
namespace Go.Proofs.Ytkdboaaganmagaa.Tg5
set_option linter.unusedVariables false
set_option linter.unusedSimpArgs false
open Go.RowKit Go.Proofs.YtkdboaaganmagaaW.PrintWords Go.Proofs.Ytkdboaaganmagaa.OP Go.Proofs.Ytkdboaaganmagaa.Cd Go.Proofs.Ytkdboaaganmagaa.Ce Go.Proofs.Ytkdboaaganmagaa.Cf Go.Proofs.Ytkdboaaganmagaa.Tc Go.Proofs.Ytkdboaaganmagaa.Te Go.Proofs.Ytkdboaaganmagaa.Tf
theorem wnat (i : Nat) (h : i ≤ 1000000) : wrap64 ((i : Int) + 1) = ((i + 1 : Nat) : Int) := by unfold wrap64; omega
section
variable (w : List Int) (p : Pg) (hin : InB w) (hw : w.length ≤ 200000) (hok : PgOk p)
include hin hw hok
theorem l3_f (x5 : List Int) (h5 : x5.length = w.length + 1) (b0 b1 b2 b3 b4 b5 : Int) (m7 : List S51) (m8 : List S54) (b9 b10 : Int) (m11 : List S45) (h11 : m11.length ≤ 16384) : ∀ (d : Nat) (m6 : List Int) (i K : Nat), m6.length ≤ 16384 → i + d = m6.length → d + 50000 < K →
    OL.Kp.l3 K w x5 w 0 0 i p.a0 p.a1 p.a2 p.a3 p.a4 p.a5 p.l6 p.l7 p.l8 p.a9 p.a10 p.l11 b0 b1 b2 b3 b4 b5 m6 m7 m8 b9 b10 m11 p.a0 p.a1 p.a2 p.a3 p.a4 p.a5 p.l6 p.l7 p.l8 p.a9 p.a10 p.l11 = some true := by
  intro d
  induction d with
  | zero =>
    intro m6 i K hm hi hK
    obtain ⟨K, rfl⟩ : ∃ q, K = q + 1 := ⟨K - 1, by omega⟩
    rw [OL.Kp.l3, if_neg (by omega), if_pos (by omega), if_pos (by omega), if_pos rfl, if_pos rfl, bytes_self w hin, Option.bind_some, if_pos rfl]
    show (sameF K p p).bind _ = _
    rw [same_self p K (ok_fits p hok K (by omega)), Option.bind_some, if_pos rfl, wnat _ (by omega), h5, beq_self_eq_true]
  | succ d ih =>
    intro m6 i K hm hi hK
    obtain ⟨K, rfl⟩ : ∃ q, K = q + 1 := ⟨K - 1, by omega⟩
    rw [OL.Kp.l3, if_pos (by omega), if_pos (by omega), wnat _ (by omega)]
    exact ih _ (i + 1) K (by rw [List.length_set]; exact hm) (by rw [List.length_set]; omega) (by omega)
theorem l2_f (x5 : List Int) (h5 : x5.length = w.length + 1) (b0 b1 b2 b3 b4 b5 : Int) (m6 : List Int) (h6 : m6.length ≤ 16384) (m7 : List S51) (m8 : List S54) (b9 b10 : Int) : ∀ (d : Nat) (m11 : List S45) (i K : Nat), m11.length ≤ 16384 → i + d = m11.length → d + 70000 < K →
    OL.Kp.l2 K w x5 w 0 0 i p.a0 p.a1 p.a2 p.a3 p.a4 p.a5 p.l6 p.l7 p.l8 p.a9 p.a10 p.l11 b0 b1 b2 b3 b4 b5 m6 m7 m8 b9 b10 m11 p.a0 p.a1 p.a2 p.a3 p.a4 p.a5 p.l6 p.l7 p.l8 p.a9 p.a10 p.l11 = some true := by
  intro d
  induction d with
  | zero =>
    intro m11 i K hm hi hK
    obtain ⟨K, rfl⟩ : ∃ q, K = q + 1 := ⟨K - 1, by omega⟩
    rw [OL.Kp.l2, if_neg (by omega)]
    exact l3_f w p hin hw hok x5 h5 b0 b1 b2 b3 b4 b5 m7 m8 b9 b10 m11 hm m6.length m6 0 K h6 (by omega) (by omega)
  | succ d ih =>
    intro m11 i K hm hi hK
    obtain ⟨K, rfl⟩ : ∃ q, K = q + 1 := ⟨K - 1, by omega⟩
    rw [OL.Kp.l2, if_pos (by omega), if_pos (by omega), wnat _ (by omega)]
    exact ih _ (i + 1) K (by rw [List.length_set]; exact hm) (by rw [List.length_set]; omega) (by omega)
theorem l1_f (q : Pg) (hq : PgOk q) : ∀ (d : Nat) (x5 : List Int) (i K : Nat), x5.length = w.length → i + d = x5.length → d + 100000 < K →
    OL.Kp.l1 K w x5 w 0 0 i p.a0 p.a1 p.a2 p.a3 p.a4 p.a5 p.l6 p.l7 p.l8 p.a9 p.a10 p.l11 q.a0 q.a1 q.a2 q.a3 q.a4 q.a5 q.l6 q.l7 q.l8 q.a9 q.a10 q.l11 p.a0 p.a1 p.a2 p.a3 p.a4 p.a5 p.l6 p.l7 p.l8 p.a9 p.a10 p.l11 = some true := by
  have q6 : q.l6.length ≤ 16384 := by unfold PgOk at hq; exact hq.2.2.2.2.2.2.2.2.1.1
  have q11 : q.l11.length ≤ 16384 := by unfold PgOk at hq; exact hq.2.2.2.2.2.2.2.2.2.2.2.1
  intro d
  induction d with
  | zero =>
    intro x5 i K hm hi hK
    obtain ⟨K, rfl⟩ : ∃ q, K = q + 1 := ⟨K - 1, by omega⟩
    rw [OL.Kp.l1, if_neg (by omega), if_pos (by omega)]
    exact l2_f w p hin hw hok (x5 ++ [97]) (by rw [List.length_append, List.length_singleton, hm]) q.a0 q.a1 q.a2 q.a3 q.a4 q.a5 q.l6 q6 q.l7 q.l8 q.a9 q.a10 q.l11.length q.l11 0 K q11 (by omega) (by omega)
  | succ d ih =>
    intro x5 i K hm hi hK
    obtain ⟨K, rfl⟩ : ∃ q, K = q + 1 := ⟨K - 1, by omega⟩
    rw [OL.Kp.l1, if_pos (by omega), if_pos (by omega), wnat _ (by omega)]
    exact ih _ (i + 1) K (by rw [List.length_set]; exact hm) (by rw [List.length_set]; omega) (by omega)
theorem l0_f : ∀ (d : Nat) (x9 : List Int) (i K : Nat), x9.length = w.length → i + d = x9.length → d + 400000 < K →
    OL.Kp.l0 K w w w x9 0 0 i p.a0 p.a1 p.a2 p.a3 p.a4 p.a5 p.l6 p.l7 p.l8 p.a9 p.a10 p.l11 p.a0 p.a1 p.a2 p.a3 p.a4 p.a5 p.l6 p.l7 p.l8 p.a9 p.a10 p.l11 p.a0 p.a1 p.a2 p.a3 p.a4 p.a5 p.l6 p.l7 p.l8 p.a9 p.a10 p.l11 = some true := by
  intro d
  induction d with
  | zero =>
    intro x9 i K hm hi hK
    obtain ⟨K, rfl⟩ : ∃ q, K = q + 1 := ⟨K - 1, by omega⟩
    rw [OL.Kp.l0, if_neg (by omega)]
    exact l1_f w p hin hw hok p hok w.length w 0 K rfl (by omega) (by omega)
  | succ d ih =>
    intro x9 i K hm hi hK
    obtain ⟨K, rfl⟩ : ∃ q, K = q + 1 := ⟨K - 1, by omega⟩
    rw [OL.Kp.l0, if_pos (by omega), if_pos (by omega), wnat _ (by omega)]
    exact ih _ (i + 1) K (by rw [List.length_set]; exact hm) (by rw [List.length_set]; omega) (by omega)
end
theorem keeps_f (p : Pg) (hr : Rng p) (K : Nat) (h : Fits p K) (hK : 1000000 ≤ K) : OL.Kp.f K p.a0 p.a1 p.a2 p.a3 p.a4 p.a5 p.l6 p.l7 p.l8 p.a9 p.a10 p.l11 = some true := by
  obtain ⟨k, rfl⟩ : ∃ m, K = m + 2 := ⟨K - 2, by omega⟩
  unfold OL.Kp.f
  rw [awake_is _ (by omega), Option.bind_some, if_pos rfl]
  show (rencF (k + 2) p).bind (fun a => (encF (k + 2) p).bind _) = _
  rw [renc_enc p _ h]
  cases ht : toldP p with
  | false =>
    rw [enc_no p _ h ht, Option.bind_some, Option.bind_some, if_pos rfl, bytes_self [] (fun _ h => by cases h), Option.bind_some]
    show OL.Kp.j0 (k + 1 + 1) [] [] 1 false _ _ _ _ _ _ _ _ _ _ _ _ = _
    rw [OL.Kp.j0, if_neg (by decide), if_neg (by decide), OL.Kp.j1, if_pos rfl]
  | true =>
    have ok := told_ok p hr ht
    have hin := enc_in p
    rw [enc_yes p _ h ht, Option.bind_some, Option.bind_some, if_pos rfl, bytes_self _ hin, Option.bind_some]
    show OL.Kp.j0 (k + 1 + 1) (encP p) (encP p) 0 false _ _ _ _ _ _ _ _ _ _ _ _ = _
    rw [OL.Kp.j0, if_neg (by decide), if_pos rfl, OL.Kp.j1]
    by_cases hl : (encP p).length > 200000
    · rw [decide_eq_true (by omega), if_pos rfl]
    · rw [decide_eq_false (by omega), if_neg (by decide)]
      show (encF k p).bind _ = _
      have hd := dec_enc p ok (by omega)
      rw [enc_yes p k (ok_fits p ok k (by omega)) ht, Option.bind_some, if_pos (by simp; omega), List.nil_append, Option.bind_some, dec_f k _ p 0 hd, Option.bind_some, Option.bind_some]
      exact l0_f (encP p) p hin (by omega) ok (encP p).length (encP p) 0 k rfl (by omega) (by omega)
end Go.Proofs.Ytkdboaaganmagaa.Tg5
