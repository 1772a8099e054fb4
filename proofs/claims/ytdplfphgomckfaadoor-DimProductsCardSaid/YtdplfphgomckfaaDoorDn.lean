/- math/bits: Add64 and Sub64 (which the model stands in for), Mul64. Conditions: as each theorem states. -/
import Derived.Test.YtdplfphgomckfaaDoorShelf
import Derived.Test.YtdplfphgomckfaaDoorDa
import Derived.Shelf.Spec.BitsCarry
import Derived.Laws.Externs
namespace Go.Proofs.YtdplfphgomckfaaDoor.Dn
set_option linter.unusedVariables false
open Go.RowKit Go.Proofs.YtdplfphgomckfaaDoorW.PrintWords
def Add.f (a b c : Int) : Option (Int × Int) := if 0 ≤ a ∧ 0 ≤ b ∧ 0 ≤ c ∧ c ≤ 1 then some ((a + b + c) % 18446744073709551616, (a + b + c) / 18446744073709551616) else none
def Sub.f (a b c : Int) : Option (Int × Int) := if 0 ≤ a ∧ 0 ≤ b ∧ b < 18446744073709551616 ∧ 0 ≤ c ∧ c ≤ 1 then some ((a - b - c) % 18446744073709551616, if a < b + c then 1 else 0) else none
def Mul.f (a b : Int) : Option (Int × Int) := if 0 ≤ a ∧ a < 18446744073709551616 ∧ 0 ≤ b ∧ b < 18446744073709551616 then some (a * b / 18446744073709551616, a * b % 18446744073709551616) else none
set_option maxRecDepth 100000 in
theorem Add.run (a b c r1 r2 : Int) (h : Add.f a b c = some (r1, r2)) (w : World) : (callFunc 76 #[.int .u64 a, .int .u64 b, .int .u64 c]).run Tryd.prog w = .ok (.value (.tuple #[.int .u64 r1, .int .u64 r2])) w := by
  unfold Add.f at h
  split at h
  · next hc =>
    obtain ⟨h1, h2, h3, h4⟩ := hc
    injection h with h
    injection h with e1 e2
    subst e1 e2
    rw [run_callFunc_extern Tryd.func76 (by kernel_rfl) (by kernel_rfl) (by kernel_rfl) (e := add64Entry) (by kernel_rfl), run_add64 a b c h1 h2 h3 h4]
    rfl
  · cases h
set_option maxRecDepth 100000 in
theorem Sub.run (a b c r1 r2 : Int) (h : Sub.f a b c = some (r1, r2)) (w : World) : (callFunc 77 #[.int .u64 a, .int .u64 b, .int .u64 c]).run Tryd.prog w = .ok (.value (.tuple #[.int .u64 r1, .int .u64 r2])) w := by
  unfold Sub.f at h
  split at h
  · next hc =>
    obtain ⟨h1, h2, h3, h4, h5⟩ := hc
    injection h with h
    injection h with e1 e2
    subst e1 e2
    obtain ⟨x, rfl⟩ := Int.eq_ofNat_of_zero_le h1
    obtain ⟨y, rfl⟩ := Int.eq_ofNat_of_zero_le h2
    obtain ⟨b, rfl⟩ := Int.eq_ofNat_of_zero_le h4
    have e1 : (((x + 18446744073709551616 - y - b) % 18446744073709551616 : Nat) : Int) = ((x : Int) - y - b) % 18446744073709551616 := by omega
    have e2 : ((if x < y + b then 1 else 0 : Nat) : Int) = if (x : Int) < y + b then 1 else 0 := by split <;> split <;> omega
    rw [← e1, ← e2]
    rw [run_callFunc_extern Tryd.func77 (by kernel_rfl) (by kernel_rfl) (by kernel_rfl) (e := sub64Entry) (by kernel_rfl), run_sub64 x y b (by omega)]
    rfl
  · cases h
theorem Mul.calls (a b r1 r2 : Int) (w : World) (h : Mul.f a b = some (r1, r2)) : Calls Tryd.prog 66 #[.int .u64 a, .int .u64 b] w fun e w' => e = .returned (.tuple #[.int .u64 r1, .int .u64 r2]) ∧ Drawn0 w w' := by
  unfold Mul.f at h
  split at h
  · next hc =>
    obtain ⟨h1, h2, h3, h4⟩ := hc
    injection h with h
    injection h with e1 e2
    subst e1 e2
    obtain ⟨x, rfl⟩ := Int.eq_ofNat_of_zero_le h1
    obtain ⟨y, rfl⟩ := Int.eq_ofNat_of_zero_le h3
    refine (Tryd.bits_Mul64 x y (by omega) (by omega) w).mono ?_
    rintro e w' ⟨rfl, rfl⟩
    exact ⟨rfl, 0, rfl⟩
  · cases h
end Go.Proofs.YtdplfphgomckfaaDoor.Dn
