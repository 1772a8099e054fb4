/- dim's greatest common divisor, its product within the limit. Conditions: as each theorem states. -/
import Derived.Test.YtdplfphgomckfaaDoorDa
namespace Go.Proofs.YtdplfphgomckfaaDoor.Dc
set_option linter.unusedVariables false
set_option linter.unusedSimpArgs false
open Go.RowKit Go.Proofs.YtdplfphgomckfaaDoorW.PrintWords Go.Proofs.YtdplfphgomckfaaDoor.Laid Go.Proofs.YtdplfphgomckfaaDoor.Da
theorem gcd_l : ∀ (b a k : Nat), b < k → OB.dim_gcd.l0 k (a : Int) (b : Int) = some ((Nat.gcd a b : Nat) : Int) := by
  intro b
  induction b using Nat.strongRecOn with
  | _ b ih =>
    intro a k hk
    obtain ⟨k, rfl⟩ : ∃ q, k = q + 1 := ⟨k - 1, by omega⟩
    rw [OB.dim_gcd.l0]
    by_cases hb : b = 0
    · subst hb
      rw [if_pos (by simp), Nat.gcd_zero_right]
    · have hlt := Nat.mod_lt a (Nat.pos_of_ne_zero hb)
      rw [if_neg (by omega), show Int.tmod (a : Int) (b : Int) = ((a % b : Nat) : Int) from (Int.ofNat_tmod a b).symm, ih (a % b) hlt b k (by omega)]
      congr 2
      rw [Nat.gcd_comm a b, Nat.gcd_rec b a, Nat.gcd_comm]
theorem gcd_any (a b : Nat) (w : World) : Calls Tryd.prog 37 #[.int .i64 (a : Int), .int .i64 (b : Int)] w fun e w' => e = .returned (.int .i64 ((Nat.gcd a b : Nat) : Int)) ∧ Drawn0 w w' :=
  OB.dim_gcd.calls (b + 1) a b _ w (gcd_l b a (b + 1) (by omega))
def M : Nat := 1000000000000000
def prodF (a b : Nat) : Nat × Bool := if a > M / b then (0, false) else (a * b, true)
set_option maxHeartbeats 1000000 in
theorem product_any (a b : Nat) (ha : a ≤ 1000000000000000) (hb : 1 ≤ b) (hb2 : b ≤ 1000000000000000) (w : World) : Calls Tryd.prog 38 #[.int .i64 (a : Int), .int .i64 (b : Int)] w fun e w' => e = .returned (.tuple #[.int .i64 ((prodF a b).1 : Int), .bool (prodF a b).2]) ∧ w' = w := by
  have hq : (1000000000000000 : Int) / (b : Int) = ((M / b : Nat) : Int) := by unfold M; rw [Int.natCast_ediv]; rfl
  have hM : M / b ≤ 1000000000000000 := Nat.div_le_self _ _
  by_cases h : a > M / b
  · have e : prodF a b = (0, false) := if_pos h
    rw [e]
    obtain ⟨q, hq2⟩ : ∃ q, M / b = q := ⟨_, rfl⟩
    rw [hq2] at hq hM h
    clear hq2 e
    go_enter Tryd.func38, Tryd.ntmps38
    go_wp2
    go_ret2
    exact ⟨rfl, rfl⟩
  · have e : prodF a b = (a * b, true) := if_neg h
    rw [e]
    have hab : a * b ≤ 1000000000000000 := Nat.le_trans (Nat.mul_le_mul_right b (Nat.le_of_not_lt h)) (Nat.div_mul_le_self M b)
    have habI : (a : Int) * (b : Int) = ((a * b : Nat) : Int) := (Int.natCast_mul a b).symm
    obtain ⟨p, hp⟩ : ∃ p, a * b = p := ⟨_, rfl⟩
    obtain ⟨q, hq2⟩ : ∃ q, M / b = q := ⟨_, rfl⟩
    rw [hq2] at hq hM h
    rw [hp] at habI hab ⊢
    clear hq2 e hp
    go_enter Tryd.func38, Tryd.ntmps38
    go_wp2
    go_ret2
    exact ⟨rfl, rfl⟩
end Go.Proofs.YtdplfphgomckfaaDoor.Dc
