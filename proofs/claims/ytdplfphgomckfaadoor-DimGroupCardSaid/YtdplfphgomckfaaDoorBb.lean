/- Small facts on whole numbers within a word, the nearest int64, powers of two, quotients below zero. Conditions: as each theorem states. -/
import Derived.Test.YtdplfphgomckfaaDoorWMore
import Derived.IntWalk
import Derived.Laws.Bits64b
namespace Go.Proofs.YtdplfphgomckfaaDoor.Bn
set_option linter.unusedVariables false
open Go.RowKit Go.Proofs.YtdplfphgomckfaaDoorW.PrintWords
theorem w64 {a : Int} (h0 : -9223372036854775808 ≤ a) (h1 : a ≤ 9223372036854775807) : wrap64 a = a := by unfold wrap64; omega
theorem u64_in {a : Int} (h0 : 0 ≤ a) (h1 : a < 18446744073709551616) : IntKind.u64.wrap a = a := IntWalk.u64_in _ (by omega)
theorem u64_eq (a : Int) : IntKind.u64.wrap a = a % 18446744073709551616 := by rw [IntKind.wrap_u64]
/-- The nearest int64. -/
def hold (v : Int) : Int := if v < -9223372036854775808 then -9223372036854775808 else if 9223372036854775807 < v then 9223372036854775807 else v
def p2 : Nat → Int
  | 0 => 1
  | n + 1 => 2 * p2 n
theorem p2_pos : ∀ n, 0 < p2 n
  | 0 => by decide
  | n + 1 => by have := p2_pos n; rw [p2]; omega
theorem p2_eq : ∀ n : Nat, p2 n = (2 : Int) ^ n
  | 0 => rfl
  | n + 1 => by rw [p2, p2_eq n, Int.pow_succ]; omega
theorem p2_le : ∀ {m n : Nat}, m ≤ n → p2 m ≤ p2 n := by
  intro m n h
  induction h with
  | refl => exact Int.le_refl _
  | @step q _ ih => have := p2_pos q; rw [p2]; omega
theorem neg_div (m den : Int) (hd : 1 ≤ den) : (-m) / den = if m % den ≠ 0 then -(m / den + 1) else -(m / den) := by
  have h1 := Int.emod_add_mul_ediv m den
  have h2 := Int.emod_nonneg m (show den ≠ 0 by omega)
  have h3 := Int.emod_lt_of_pos m (show 0 < den by omega)
  by_cases h : m % den ≠ 0
  · rw [if_pos h]
    exact ((Int.ediv_emod_unique (a := -m) (b := den) (r := den - m % den) (q := -(m / den + 1)) (by omega)).2 ⟨by grind, by omega, by omega⟩).1
  · rw [if_neg h]
    exact ((Int.ediv_emod_unique (a := -m) (b := den) (r := 0) (q := -(m / den)) (by omega)).2 ⟨by grind, by omega, by omega⟩).1
def scl (a n d : Int) : Int := if n < 0 ∨ d < 1 then 0 else hold (a * n / d)
end Go.Proofs.YtdplfphgomckfaaDoor.Bn
