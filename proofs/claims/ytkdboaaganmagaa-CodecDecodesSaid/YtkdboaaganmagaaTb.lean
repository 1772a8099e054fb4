/- What Encode and the reference's Encode compute. -/
import Derived.Test.YtkdboaaganmagaaTa
import Derived.Test.YtkdboaaganmagaaCb
import Derived.Test.YtkdboaaganmagaaCc
namespace Go.Proofs.Ytkdboaaganmagaa.Tb
set_option linter.unusedVariables false
set_option linter.unusedSimpArgs false
open Go.RowKit Go.Proofs.YtkdboaaganmagaaW.PrintWords Go.Proofs.Ytkdboaaganmagaa.OP Go.Proofs.Ytkdboaaganmagaa.Cb Go.Proofs.Ytkdboaaganmagaa.Ta
section
variable (a0 a1 a2 a3 a4 a5 : Int) (l6 : List Int) (l7 : List S51) (l8 : List S54) (a9 a10 : Int) (l11 : List S45)
/-- What both answer. -/
def enc : List Int × Int := if toldB a0 l6 l7 l8 a9 a10 l11 = true then (encB a0 a1 a2 a3 a4 a5 l6 l7 l8 a9 a10 l11, 0) else ([], 1)
theorem told_len (h : toldB a0 l6 l7 l8 a9 a10 l11 = true) : l6.length ≤ 16384 ∧ l7.length ≤ 256 ∧ l8.length ≤ 256 ∧ l11.length ≤ 16384 := by
  unfold toldB at h
  simp only [Bool.and_eq_true, decide_eq_true_eq] at h
  exact h.1.1.2
theorem enc_f (h7 : l7.length ≤ 9223372036854775807) (h11 : l11.length ≤ 9223372036854775807) (k : Nat) (hk : l7.length + l11.length + 2 < k) : Enc.f k a0 a1 a2 a3 a4 a5 l6 l7 l8 a9 a10 l11 = some (enc a0 a1 a2 a3 a4 a5 l6 l7 l8 a9 a10 l11) := by
  unfold Enc.f enc
  rw [c_f a0 a1 a2 a3 a4 a5 l6 l7 l8 a9 a10 l11 h7 h11 k hk, Option.bind_some]
  by_cases h : toldB a0 l6 l7 l8 a9 a10 l11 = true
  · rw [if_pos h, if_pos h, if_pos (told_len a0 l6 l7 l8 a9 a10 l11 h)]
  · rw [if_neg h, if_neg h]
theorem renc_f (h7 : l7.length ≤ 9223372036854775807) (h11 : l11.length ≤ 9223372036854775807) (k : Nat) (hk : l7.length + l11.length + 2 < k) : Cc.REnc.f k a0 a1 a2 a3 a4 a5 l6 l7 l8 a9 a10 l11 = some (enc a0 a1 a2 a3 a4 a5 l6 l7 l8 a9 a10 l11) := by
  unfold Cc.REnc.f enc
  rw [r_f a0 a1 a2 a3 a4 a5 l6 l7 l8 a9 a10 l11 h7 h11 k hk, Option.bind_some]
  by_cases h : toldB a0 l6 l7 l8 a9 a10 l11 = true
  · rw [if_pos h, if_pos h, if_pos (told_len a0 l6 l7 l8 a9 a10 l11 h)]
  · rw [if_neg h, if_neg h]
end
end Go.Proofs.Ytkdboaaganmagaa.Tb
