/- Each law of codec that asks no reference's Decode answers true, in plain Lean. -/
import Derived.Test.YtkdboaaganmagaaTe
import Derived.Test.YtkdboaaganmagaaOLx2
namespace Go.Proofs.Ytkdboaaganmagaa.Tf
set_option linter.unusedVariables false
set_option linter.unusedSimpArgs false
open Go.RowKit Go.Proofs.YtkdboaaganmagaaW.PrintWords Go.Proofs.Ytkdboaaganmagaa.OP Go.Proofs.Ytkdboaaganmagaa.Ca Go.Proofs.Ytkdboaaganmagaa.Cb Go.Proofs.Ytkdboaaganmagaa.Cd Go.Proofs.Ytkdboaaganmagaa.Ce Go.Proofs.Ytkdboaaganmagaa.Cf Go.Proofs.Ytkdboaaganmagaa.Ta Go.Proofs.Ytkdboaaganmagaa.Tb Go.Proofs.Ytkdboaaganmagaa.Tc Go.Proofs.Ytkdboaaganmagaa.Td Go.Proofs.Ytkdboaaganmagaa.Te
theorem dec_f (k : Nat) (l : List Int) (p : Pg) (e : Int) (h : decF l = some (p, e)) : Dec.f k l = some (ofPg p e) := by
  unfold Dec.f
  rw [h]
  rfl
def rencF (k : Nat) (p : Pg) : Option (List Int × Int) := Cc.REnc.f k p.a0 p.a1 p.a2 p.a3 p.a4 p.a5 p.l6 p.l7 p.l8 p.a9 p.a10 p.l11
theorem renc_enc (p : Pg) (k : Nat) (h : Fits p k) : rencF k p = encF k p := by
  unfold Fits at h
  unfold rencF encF
  rw [renc_f _ _ _ _ _ _ _ _ _ _ _ _ (by omega) (by omega) k (by omega), enc_f _ _ _ _ _ _ _ _ _ _ _ _ (by omega) (by omega) k (by omega)]
theorem enc_yes (p : Pg) (k : Nat) (h : Fits p k) (ht : toldP p = true) : encF k p = some (encP p, 0) := by
  unfold Fits at h
  exact enc_told p ht (by omega) (by omega) k (by omega)
theorem enc_no (p : Pg) (k : Nat) (h : Fits p k) (ht : toldP p = false) : encF k p = some ([], 1) := by
  unfold Fits at h
  exact enc_not p ht (by omega) (by omega) k (by omega)
theorem awake_is (K : Nat) (h : 400 ≤ K) : OL.capstanlaw22_awake.f K = some true := by
  have hf : Fits least K := by unfold Fits least; simp; omega
  unfold OL.capstanlaw22_awake.f OP.capstanlaw22_least.f
  rw [Option.bind_some]
  show (encF K least).bind _ = _
  rw [enc_yes least K hf (ok_told least least_ok), Option.bind_some]
  show (Dec.f K (encP least)).bind _ = _
  rw [dec_f K (encP least) least 0 (dec_enc least least_ok (by rw [least_len]; omega)), Option.bind_some, if_pos (by show ((encP least).length : Int) = 81; rw [least_len]; rfl), if_pos (by rfl), if_pos (by rfl), Option.bind_some]
  show (sameF K least least).bind _ = _
  rw [same_self least K hf]
  rfl
theorem bytes_self (a : List Int) (ha : InB a) : OP.capstanref22_SameBytes.f a a = some true := by
  obtain ⟨t, e, ht⟩ := bytes_f a a ha ha
  rw [e, ht.2 rfl]
end Go.Proofs.Ytkdboaaganmagaa.Tf
namespace Go.Proofs.Ytkdboaaganmagaa.OL
open Go.RowKit Go.Proofs.YtkdboaaganmagaaW.PrintWords Go.Proofs.Ytkdboaaganmagaa.OP
theorem capstanlaw22_awake.callsA (k : Nat) (r : Bool) (w : World) (h : capstanlaw22_awake.f k = some r) :
    Calls Try.prog 9 #[] w fun e w' => e = .returned (.bool r) ∧ Below w.heap.size w w' := by
  refine capstanlaw22_awake.calls k r w h ?_
  have h1 := at_rounds (g := fun k => capstanlaw22_awake.f k) (fun k => capstanlaw22_awake.mono k) (Nat.le_max_left k 400) h
  have h2 := at_rounds (g := fun k => capstanlaw22_awake.f k) (fun k => capstanlaw22_awake.mono k) (Nat.le_max_right k 400) (Tf.awake_is 400 (Nat.le_refl _))
  exact Option.some.inj (h1.symm.trans h2)
end Go.Proofs.Ytkdboaaganmagaa.OL
