/- What dim.both answers, at once. Conditions: as each theorem states. -/
import Derived.Test.YtdplfphgomckfaaDoorDp
namespace Go.Proofs.YtdplfphgomckfaaDoor.Dj
set_option linter.unusedVariables false
set_option linter.unusedSimpArgs false
open Go.RowKit Go.Proofs.YtdplfphgomckfaaDoorW.PrintWords Go.Proofs.YtdplfphgomckfaaDoor.Bn Go.Proofs.YtdplfphgomckfaaDoor.Bx
def vs (A B : List Int) (neg : Bool) : List Int := [jv A B neg 0, jv A B neg 1, jv A B neg 2, jv A B neg 3, jv A B neg 4]
def good (l : List Int) : Prop := ∀ x ∈ l, -8 ≤ x ∧ x ≤ 8
theorem jF_yes (A B : List Int) (neg : Bool) (h : good (vs A B neg)) : jF A B neg 5 0 Z5 = (vs A B neg, true) := by
  have g : ∀ k, k < 5 → ¬ (jv A B neg k > 8 ∨ jv A B neg k < -8) := fun k hk => by
    have : jv A B neg k ∈ vs A B neg := by
      have : k = 0 ∨ k = 1 ∨ k = 2 ∨ k = 3 ∨ k = 4 := by omega
      rcases this with rfl | rfl | rfl | rfl | rfl <;> simp [vs]
    have := h _ this
    omega
  rw [jF, if_neg (g 0 (by omega)), jF, if_neg (g (0 + 1) (by omega)), jF, if_neg (g (0 + 1 + 1) (by omega)), jF, if_neg (g (0 + 1 + 1 + 1) (by omega)), jF, if_neg (g (0 + 1 + 1 + 1 + 1) (by omega)), jF]
  rfl
theorem jF_no (A B : List Int) (neg : Bool) (h : ¬ good (vs A B neg)) : jF A B neg 5 0 Z5 = (Z5, false) := by
  by_cases h0 : jv A B neg 0 > 8 ∨ jv A B neg 0 < -8
  · rw [jF, if_pos h0]
  by_cases h1 : jv A B neg (0 + 1) > 8 ∨ jv A B neg (0 + 1) < -8
  · rw [jF, if_neg h0, jF, if_pos h1]
  by_cases h2 : jv A B neg (0 + 1 + 1) > 8 ∨ jv A B neg (0 + 1 + 1) < -8
  · rw [jF, if_neg h0, jF, if_neg h1, jF, if_pos h2]
  by_cases h3 : jv A B neg (0 + 1 + 1 + 1) > 8 ∨ jv A B neg (0 + 1 + 1 + 1) < -8
  · rw [jF, if_neg h0, jF, if_neg h1, jF, if_neg h2, jF, if_pos h3]
  by_cases h4 : jv A B neg (0 + 1 + 1 + 1 + 1) > 8 ∨ jv A B neg (0 + 1 + 1 + 1 + 1) < -8
  · rw [jF, if_neg h0, jF, if_neg h1, jF, if_neg h2, jF, if_neg h3, jF, if_pos h4]
  exact absurd (fun x hx => by
    simp only [vs, List.mem_cons, List.not_mem_nil, or_false] at hx
    simp only [Nat.zero_add, Nat.reduceAdd] at h1 h2 h3 h4
    rcases hx with rfl | rfl | rfl | rfl | rfl <;> omega) h
theorem both_yes (a0 a1 a2 a3 a4 b0 b1 b2 b3 b4 sg : Int) (ha : ∀ x ∈ [a0, a1, a2, a3, a4], I64 x) (hb : ∀ x ∈ [b0, b1, b2, b3, b4], I64 x) (h : good (vs [a0, a1, a2, a3, a4] [b0, b1, b2, b3, b4] (decide (sg < 0)))) :
    both.f a0 a1 a2 a3 a4 b0 b1 b2 b3 b4 sg = some (flatJ (vs [a0, a1, a2, a3, a4] [b0, b1, b2, b3, b4] (decide (sg < 0)), true)) := by
  unfold both.f
  rw [if_pos ⟨ok5_iff.2 ha, ok5_iff.2 hb⟩, jF_yes _ _ _ h]
theorem both_no (a0 a1 a2 a3 a4 b0 b1 b2 b3 b4 sg : Int) (ha : ∀ x ∈ [a0, a1, a2, a3, a4], I64 x) (hb : ∀ x ∈ [b0, b1, b2, b3, b4], I64 x) (h : ¬ good (vs [a0, a1, a2, a3, a4] [b0, b1, b2, b3, b4] (decide (sg < 0)))) :
    both.f a0 a1 a2 a3 a4 b0 b1 b2 b3 b4 sg = some (0, 0, 0, 0, 0, false) := by
  unfold both.f
  rw [if_pos ⟨ok5_iff.2 ha, ok5_iff.2 hb⟩, jF_no _ _ _ h]
  rfl
theorem hold_in {v : Int} (h : -100 ≤ v ∧ v ≤ 100) : hold v = v := by unfold hold; rw [if_neg (by omega), if_neg (by omega)]
end Go.Proofs.YtdplfphgomckfaaDoor.Dj
