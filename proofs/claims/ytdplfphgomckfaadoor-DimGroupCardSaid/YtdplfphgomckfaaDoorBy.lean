/- fix's Add and Sub, as numbers. Conditions: as each theorem states. -/
import Derived.Test.YtdplfphgomckfaaDoorOWx1
import Derived.Test.YtdplfphgomckfaaDoorBb
namespace Go.Proofs.YtdplfphgomckfaaDoor.Bx
set_option linter.unusedVariables false
set_option linter.unusedSimpArgs false
open Go.RowKit Go.Proofs.YtdplfphgomckfaaDoorW.PrintWords Go.Proofs.YtdplfphgomckfaaDoorW.PrintMore Go.Proofs.YtdplfphgomckfaaDoor.OW Go.Proofs.YtdplfphgomckfaaDoor.Bn
def U (x : Int) : Prop := 0 ≤ x ∧ x < 18446744073709551616
/-- Two words and the number that they mean, of 128 bits, below zero by the complement. -/
def Ws (lo hi x : Int) : Prop := U lo ∧ U hi ∧ lo + 18446744073709551616 * hi = x % 340282366920938463463374607431768211456
def I64 (x : Int) : Prop := -9223372036854775808 ≤ x ∧ x ≤ 9223372036854775807
def Sm (x : Int) : Prop := -85070591730234615865843651857942052864 ≤ x ∧ x ≤ 85070591730234615865843651857942052864
theorem add_ok (a b c : Int) (h : 0 ≤ a ∧ 0 ≤ b ∧ 0 ≤ c ∧ c ≤ 1) : Dn.Add.f a b c = some ((a + b + c) % 18446744073709551616, (a + b + c) / 18446744073709551616) := if_pos h
theorem sub_ok (a b c : Int) (h : 0 ≤ a ∧ 0 ≤ b ∧ b < 18446744073709551616 ∧ 0 ≤ c ∧ c ≤ 1) : Dn.Sub.f a b c = some ((a - b - c) % 18446744073709551616, if a < b + c then 1 else 0) := if_pos h
theorem plus_w {a b c d x y : Int} (h : Ws a b x) (h' : Ws c d y) : ∃ lo hi, fix_words_plus.f a b c d = some (lo, hi) ∧ Ws lo hi (x + y) := by
  obtain ⟨⟨a0, a1⟩, ⟨b0, b1⟩, e⟩ := h
  obtain ⟨⟨c0, c1⟩, ⟨d0, d1⟩, e'⟩ := h'
  refine ⟨(a + c + 0) % 18446744073709551616, (b + d + (a + c + 0) / 18446744073709551616) % 18446744073709551616, ?_, ⟨by omega, by omega⟩, ⟨by omega, by omega⟩, by omega⟩
  unfold fix_words_plus.f
  rw [add_ok a c 0 ⟨a0, c0, by omega, by omega⟩, Option.bind_some]
  dsimp only
  rw [add_ok b d _ ⟨b0, d0, by omega, by omega⟩, Option.bind_some]
theorem minus_w {a b x : Int} (h : Ws a b x) : ∃ lo hi, fix_words_minus.f a b = some (lo, hi) ∧ Ws lo hi (-x) := by
  obtain ⟨⟨a0, a1⟩, ⟨b0, b1⟩, e⟩ := h
  have hs1 := sub_ok 0 a 0 ⟨by omega, a0, a1, by omega, by omega⟩
  obtain ⟨c, hc⟩ : ∃ c : Int, (if (0 : Int) < a + 0 then (1 : Int) else 0) = c := ⟨_, rfl⟩
  rw [hc] at hs1
  have hc2 : (a = 0 ∧ c = 0) ∨ (0 < a ∧ c = 1) := by split at hc <;> omega
  have hs2 := sub_ok 0 b c ⟨by omega, b0, b1, by omega, by omega⟩
  refine ⟨(0 - a - 0) % 18446744073709551616, (0 - b - c) % 18446744073709551616, ?_, ⟨by omega, by omega⟩, ⟨by omega, by omega⟩, by omega⟩
  unfold fix_words_minus.f
  rw [hs1, Option.bind_some]
  dsimp only
  rw [hs2, Option.bind_some]
theorem of_w (a : Int) (h : I64 a) : ∃ lo hi, fix_of.f a = some (lo, hi) ∧ Ws lo hi a := by
  obtain ⟨h0, h1⟩ := h
  refine ⟨_, _, rfl, ?_⟩
  rw [u64_eq, u64_eq]
  exact ⟨⟨by omega, by omega⟩, ⟨by omega, by omega⟩, by omega⟩
theorem below_w {a b x : Int} (h : Ws a b x) (hx : Sm x) : fix_words_below.f a b = some (decide (x < 0)) := by
  obtain ⟨⟨a0, a1⟩, ⟨b0, b1⟩, e⟩ := h
  obtain ⟨x0, x1⟩ := hx
  unfold fix_words_below.f
  have : wrap64 b < 0 ↔ x < 0 := by unfold wrap64; omega
  simp only [this]
theorem held_w {a b x : Int} (h : Ws a b x) (hx : Sm x) : fix_words_held.f a b = some (hold x) := by
  have hb := below_w h hx
  obtain ⟨⟨a0, a1⟩, ⟨b0, b1⟩, e⟩ := h
  obtain ⟨x0, x1⟩ := hx
  unfold fix_words_held.f fix_words_fit.f
  rw [Option.bind_some]
  dsimp only
  have hfit : (b == IntKind.u64.wrap (wrap64 a / 9223372036854775808)) = decide (-9223372036854775808 ≤ x ∧ x ≤ 9223372036854775807) := by
    rw [u64_eq]
    have hv : (a < 9223372036854775808 ∧ wrap64 a / 9223372036854775808 % 18446744073709551616 = 0) ∨ (9223372036854775808 ≤ a ∧ wrap64 a / 9223372036854775808 % 18446744073709551616 = 18446744073709551615) := by
      clear e hb
      unfold wrap64; omega
    have : b = wrap64 a / 9223372036854775808 % 18446744073709551616 ↔ (-9223372036854775808 ≤ x ∧ x ≤ 9223372036854775807) := by
      generalize wrap64 a / 9223372036854775808 % 18446744073709551616 = V at *
      omega
    rw [Bool.eq_iff_iff, beq_iff_eq, decide_eq_true_eq]
    exact this
  rw [hfit, hb, Option.bind_some]
  unfold hold
  by_cases h1 : -9223372036854775808 ≤ x ∧ x ≤ 9223372036854775807
  · rw [decide_eq_true h1, if_pos rfl, if_neg (by omega), if_neg (by omega)]
    congr 1; unfold wrap64; omega
  · rw [decide_eq_false h1, if_neg (by decide)]
    by_cases h2 : x < 0
    · rw [decide_eq_true h2, if_pos rfl, if_pos (by omega)]
    · rw [decide_eq_false h2, if_neg (by decide), if_neg (by omega), if_pos (by omega)]
theorem add_is (a b : Int) (ha : I64 a) (hb : I64 b) : fix_Add.f a b = some (hold (a + b)) := by
  obtain ⟨l1, h1, e1, w1⟩ := of_w a ha
  obtain ⟨l2, h2, e2, w2⟩ := of_w b hb
  obtain ⟨l3, h3, e3, w3⟩ := plus_w w1 w2
  have e4 := held_w w3 (by unfold Sm I64 at *; omega)
  unfold fix_Add.f
  rw [e1, Option.bind_some, e2, Option.bind_some]
  dsimp only
  rw [e3, Option.bind_some]
  dsimp only
  rw [e4, Option.bind_some]
theorem sub_is (a b : Int) (ha : I64 a) (hb : I64 b) : fix_Sub.f a b = some (hold (a - b)) := by
  obtain ⟨l1, h1, e1, w1⟩ := of_w a ha
  obtain ⟨l2, h2, e2, w2⟩ := of_w b hb
  obtain ⟨l4, h4, e4, w4⟩ := minus_w w2
  obtain ⟨l3, h3, e3, w3⟩ := plus_w w1 w4
  have e5 := held_w w3 (by unfold Sm I64 at *; omega)
  unfold fix_Sub.f
  rw [e1, Option.bind_some, e2, Option.bind_some]
  dsimp only
  rw [e4, Option.bind_some]
  dsimp only
  rw [e3, Option.bind_some]
  dsimp only
  rw [e5, Option.bind_some, Int.sub_eq_add_neg]
end Go.Proofs.YtdplfphgomckfaaDoor.Bx
