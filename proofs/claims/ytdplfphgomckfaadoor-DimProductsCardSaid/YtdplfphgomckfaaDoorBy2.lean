/- Small facts on whole numbers within a word, the nearest int64, powers of two, quotients below zero. Conditions: as each theorem states. -/
import Derived.Test.YtdplfphgomckfaaDoorWMore
import Derived.IntWalk
import Derived.Laws.Bits64b
import Derived.Test.YtdplfphgomckfaaDoorOWx1
namespace Go.Proofs.YtdplfphgomckfaaDoor.Bn
set_option linter.unusedVariables false
open Go.RowKit Go.Proofs.YtdplfphgomckfaaDoorW.PrintWords
theorem w64 {a : Int} (h0 : -9223372036854775808 ≤ a) (h1 : a ≤ 9223372036854775807) : wrap64 a = a := by unfold wrap64; omega
theorem u64_in {a : Int} (h0 : 0 ≤ a) (h1 : a < 18446744073709551616) : IntKind.u64.wrap a = a := IntWalk.u64_in _ (by omega)
theorem u64_eq (a : Int) : IntKind.u64.wrap a = a % 18446744073709551616 := by rw [IntKind.wrap_u64]
/-- The nearest int64. -/
def hold (v : Int) : Int := if v < -9223372036854775808 then -9223372036854775808 else if 9223372036854775807 < v then 9223372036854775807 else v
def p2 : Nat → Int
  | 0 => 1
  | n + 1 => 2 * p2 n
theorem p2_pos : ∀ n, 0 < p2 n
  | 0 => by decide
  | n + 1 => by have := p2_pos n; rw [p2]; omega
theorem p2_eq : ∀ n : Nat, p2 n = (2 : Int) ^ n
  | 0 => rfl
  | n + 1 => by rw [p2, p2_eq n, Int.pow_succ]; omega
theorem p2_le : ∀ {m n : Nat}, m ≤ n → p2 m ≤ p2 n := by
  intro m n h
  induction h with
  | refl => exact Int.le_refl _
  | @step q _ ih => have := p2_pos q; rw [p2]; omega
theorem neg_div (m den : Int) (hd : 1 ≤ den) : (-m) / den = if m % den ≠ 0 then -(m / den + 1) else -(m / den) := by
  have h1 := Int.emod_add_mul_ediv m den
  have h2 := Int.emod_nonneg m (show den ≠ 0 by omega)
  have h3 := Int.emod_lt_of_pos m (show 0 < den by omega)
  by_cases h : m % den ≠ 0
  · rw [if_pos h]
    exact ((Int.ediv_emod_unique (a := -m) (b := den) (r := den - m % den) (q := -(m / den + 1)) (by omega)).2 ⟨by grind, by omega, by omega⟩).1
  · rw [if_neg h]
    exact ((Int.ediv_emod_unique (a := -m) (b := den) (r := 0) (q := -(m / den)) (by omega)).2 ⟨by grind, by omega, by omega⟩).1
def scl (a n d : Int) : Int := if n < 0 ∨ d < 1 then 0 else hold (a * n / d)
end Go.Proofs.YtdplfphgomckfaaDoor.Bn
/- fix's Add and Sub, as numbers. Conditions: as each theorem states. -/
namespace Go.Proofs.YtdplfphgomckfaaDoor.Bx
set_option linter.unusedVariables false
set_option linter.unusedSimpArgs false
open Go.RowKit Go.Proofs.YtdplfphgomckfaaDoorW.PrintWords Go.Proofs.YtdplfphgomckfaaDoorW.PrintMore Go.Proofs.YtdplfphgomckfaaDoor.OW Go.Proofs.YtdplfphgomckfaaDoor.Bn
def U (x : Int) : Prop := 0 ≤ x ∧ x < 18446744073709551616
/-- Two words and the number that they mean, of 128 bits, below zero by the complement. -/
def Ws (lo hi x : Int) : Prop := U lo ∧ U hi ∧ lo + 18446744073709551616 * hi = x % 340282366920938463463374607431768211456
def I64 (x : Int) : Prop := -9223372036854775808 ≤ x ∧ x ≤ 9223372036854775807
def Sm (x : Int) : Prop := -85070591730234615865843651857942052864 ≤ x ∧ x ≤ 85070591730234615865843651857942052864
theorem add_ok (a b c : Int) (h : 0 ≤ a ∧ 0 ≤ b ∧ 0 ≤ c ∧ c ≤ 1) : Dn.Add.f a b c = some ((a + b + c) % 18446744073709551616, (a + b + c) / 18446744073709551616) := if_pos h
theorem sub_ok (a b c : Int) (h : 0 ≤ a ∧ 0 ≤ b ∧ b < 18446744073709551616 ∧ 0 ≤ c ∧ c ≤ 1) : Dn.Sub.f a b c = some ((a - b - c) % 18446744073709551616, if a < b + c then 1 else 0) := if_pos h
theorem plus_w {a b c d x y : Int} (h : Ws a b x) (h' : Ws c d y) : ∃ lo hi, fix_words_plus.f a b c d = some (lo, hi) ∧ Ws lo hi (x + y) := by
  obtain ⟨⟨a0, a1⟩, ⟨b0, b1⟩, e⟩ := h
  obtain ⟨⟨c0, c1⟩, ⟨d0, d1⟩, e'⟩ := h'
  refine ⟨(a + c + 0) % 18446744073709551616, (b + d + (a + c + 0) / 18446744073709551616) % 18446744073709551616, ?_, ⟨by omega, by omega⟩, ⟨by omega, by omega⟩, by omega⟩
  unfold fix_words_plus.f
  rw [add_ok a c 0 ⟨a0, c0, by omega, by omega⟩, Option.bind_some]
  dsimp only
  rw [add_ok b d _ ⟨b0, d0, by omega, by omega⟩, Option.bind_some]
theorem minus_w {a b x : Int} (h : Ws a b x) : ∃ lo hi, fix_words_minus.f a b = some (lo, hi) ∧ Ws lo hi (-x) := by
  obtain ⟨⟨a0, a1⟩, ⟨b0, b1⟩, e⟩ := h
  have hs1 := sub_ok 0 a 0 ⟨by omega, a0, a1, by omega, by omega⟩
  obtain ⟨c, hc⟩ : ∃ c : Int, (if (0 : Int) < a + 0 then (1 : Int) else 0) = c := ⟨_, rfl⟩
  rw [hc] at hs1
  have hc2 : (a = 0 ∧ c = 0) ∨ (0 < a ∧ c = 1) := by split at hc <;> omega
  have hs2 := sub_ok 0 b c ⟨by omega, b0, b1, by omega, by omega⟩
  refine ⟨(0 - a - 0) % 18446744073709551616, (0 - b - c) % 18446744073709551616, ?_, ⟨by omega, by omega⟩, ⟨by omega, by omega⟩, by omega⟩
  unfold fix_words_minus.f
  rw [hs1, Option.bind_some]
  dsimp only
  rw [hs2, Option.bind_some]
theorem of_w (a : Int) (h : I64 a) : ∃ lo hi, fix_of.f a = some (lo, hi) ∧ Ws lo hi a := by
  obtain ⟨h0, h1⟩ := h
  refine ⟨_, _, rfl, ?_⟩
  rw [u64_eq, u64_eq]
  exact ⟨⟨by omega, by omega⟩, ⟨by omega, by omega⟩, by omega⟩
theorem below_w {a b x : Int} (h : Ws a b x) (hx : Sm x) : fix_words_below.f a b = some (decide (x < 0)) := by
  obtain ⟨⟨a0, a1⟩, ⟨b0, b1⟩, e⟩ := h
  obtain ⟨x0, x1⟩ := hx
  unfold fix_words_below.f
  have : wrap64 b < 0 ↔ x < 0 := by unfold wrap64; omega
  simp only [this]
theorem held_w {a b x : Int} (h : Ws a b x) (hx : Sm x) : fix_words_held.f a b = some (hold x) := by
  have hb := below_w h hx
  obtain ⟨⟨a0, a1⟩, ⟨b0, b1⟩, e⟩ := h
  obtain ⟨x0, x1⟩ := hx
  unfold fix_words_held.f fix_words_fit.f
  rw [Option.bind_some]
  dsimp only
  have hfit : (b == IntKind.u64.wrap (wrap64 a / 9223372036854775808)) = decide (-9223372036854775808 ≤ x ∧ x ≤ 9223372036854775807) := by
    rw [u64_eq]
    have hv : (a < 9223372036854775808 ∧ wrap64 a / 9223372036854775808 % 18446744073709551616 = 0) ∨ (9223372036854775808 ≤ a ∧ wrap64 a / 9223372036854775808 % 18446744073709551616 = 18446744073709551615) := by
      clear e hb
      unfold wrap64; omega
    have : b = wrap64 a / 9223372036854775808 % 18446744073709551616 ↔ (-9223372036854775808 ≤ x ∧ x ≤ 9223372036854775807) := by
      generalize wrap64 a / 9223372036854775808 % 18446744073709551616 = V at *
      omega
    rw [Bool.eq_iff_iff, beq_iff_eq, decide_eq_true_eq]
    exact this
  rw [hfit, hb, Option.bind_some]
  unfold hold
  by_cases h1 : -9223372036854775808 ≤ x ∧ x ≤ 9223372036854775807
  · rw [decide_eq_true h1, if_pos rfl, if_neg (by omega), if_neg (by omega)]
    congr 1; unfold wrap64; omega
  · rw [decide_eq_false h1, if_neg (by decide)]
    by_cases h2 : x < 0
    · rw [decide_eq_true h2, if_pos rfl, if_pos (by omega)]
    · rw [decide_eq_false h2, if_neg (by decide), if_neg (by omega), if_pos (by omega)]
theorem add_is (a b : Int) (ha : I64 a) (hb : I64 b) : fix_Add.f a b = some (hold (a + b)) := by
  obtain ⟨l1, h1, e1, w1⟩ := of_w a ha
  obtain ⟨l2, h2, e2, w2⟩ := of_w b hb
  obtain ⟨l3, h3, e3, w3⟩ := plus_w w1 w2
  have e4 := held_w w3 (by unfold Sm I64 at *; omega)
  unfold fix_Add.f
  rw [e1, Option.bind_some, e2, Option.bind_some]
  dsimp only
  rw [e3, Option.bind_some]
  dsimp only
  rw [e4, Option.bind_some]
theorem sub_is (a b : Int) (ha : I64 a) (hb : I64 b) : fix_Sub.f a b = some (hold (a - b)) := by
  obtain ⟨l1, h1, e1, w1⟩ := of_w a ha
  obtain ⟨l2, h2, e2, w2⟩ := of_w b hb
  obtain ⟨l4, h4, e4, w4⟩ := minus_w w2
  obtain ⟨l3, h3, e3, w3⟩ := plus_w w1 w4
  have e5 := held_w w3 (by unfold Sm I64 at *; omega)
  unfold fix_Sub.f
  rw [e1, Option.bind_some, e2, Option.bind_some]
  dsimp only
  rw [e4, Option.bind_some]
  dsimp only
  rw [e3, Option.bind_some]
  dsimp only
  rw [e5, Option.bind_some, Int.sub_eq_add_neg]
end Go.Proofs.YtdplfphgomckfaaDoor.Bx
