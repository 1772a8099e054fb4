/- dim.both in the printer's form. Conditions: as each theorem states. -/
import Derived.Test.YtdplfphgomckfaaDoorDj2
namespace Go.Proofs.YtdplfphgomckfaaDoor.Dj
set_option linter.unusedVariables false
set_option linter.unusedSimpArgs false
open Go.RowKit Go.Proofs.YtdplfphgomckfaaDoorW.PrintWords Go.Proofs.YtdplfphgomckfaaDoor.Dt Go.Proofs.YtdplfphgomckfaaDoor.Bn Go.Proofs.YtdplfphgomckfaaDoor.Bx
def ok5 (l : List Int) : Bool := l.all fun x => decide (-9223372036854775808 ≤ x) && decide (x ≤ 9223372036854775807)
theorem ok5_iff {l : List Int} : ok5 l = true ↔ ∀ x ∈ l, I64 x := by
  unfold ok5 I64
  rw [List.all_eq_true]
  simp
def flatJ (t : List Int × Bool) : Int × Int × Int × Int × Int × Bool := (t.1.getD 0 0, t.1.getD 1 0, t.1.getD 2 0, t.1.getD 3 0, t.1.getD 4 0, t.2)
def both.f (a0 a1 a2 a3 a4 b0 b1 b2 b3 b4 sg : Int) : Option (Int × Int × Int × Int × Int × Bool) :=
  if ok5 [a0, a1, a2, a3, a4] = true ∧ ok5 [b0, b1, b2, b3, b4] = true then some (flatJ (jF [a0, a1, a2, a3, a4] [b0, b1, b2, b3, b4] (decide (sg < 0)) 5 0 Z5)) else none
theorem both.calls (a0 a1 a2 a3 a4 b0 b1 b2 b3 b4 sg : Int) (r1 r2 r3 r4 r5 : Int) (r6 : Bool) (w : World) (h : both.f a0 a1 a2 a3 a4 b0 b1 b2 b3 b4 sg = some (r1, r2, r3, r4, r5, r6)) :
    Calls Tryd.prog 24 #[.agg #[.int .i64 a0, .int .i64 a1, .int .i64 a2, .int .i64 a3, .int .i64 a4], .agg #[.int .i64 b0, .int .i64 b1, .int .i64 b2, .int .i64 b3, .int .i64 b4], .int .i64 sg] w fun e w' => e = .returned (.tuple #[.agg #[.int .i64 r1, .int .i64 r2, .int .i64 r3, .int .i64 r4, .int .i64 r5], .bool r6]) ∧ Below w.heap.size w w' := by
  unfold both.f at h
  split at h
  · next hc =>
    have hl := jF_len [a0, a1, a2, a3, a4] [b0, b1, b2, b3, b4] (decide (sg < 0)) 5 0 Z5 rfl
    have hw := both_any [a0, a1, a2, a3, a4] [b0, b1, b2, b3, b4] sg a0 a1 a2 a3 a4 b0 b1 b2 b3 b4 rfl rfl (ok5_iff.1 hc.1) (ok5_iff.1 hc.2) w
    generalize jF [a0, a1, a2, a3, a4] [b0, b1, b2, b3, b4] (decide (sg < 0)) 5 0 Z5 = R at h hl hw
    obtain ⟨D, o⟩ := R
    obtain ⟨d0, d1, d2, d3, d4, rfl⟩ := len5d hl
    injection h with h
    simp only [flatJ, Prod.mk.injEq] at h
    obtain ⟨rfl, rfl, rfl, rfl, rfl, rfl⟩ := h
    exact hw
  · cases h
end Go.Proofs.YtdplfphgomckfaaDoor.Dj
/- What dim.both answers, at once. Conditions: as each theorem states. -/
namespace Go.Proofs.YtdplfphgomckfaaDoor.Dj
set_option linter.unusedVariables false
set_option linter.unusedSimpArgs false
open Go.RowKit Go.Proofs.YtdplfphgomckfaaDoorW.PrintWords Go.Proofs.YtdplfphgomckfaaDoor.Bn Go.Proofs.YtdplfphgomckfaaDoor.Bx
def vs (A B : List Int) (neg : Bool) : List Int := [jv A B neg 0, jv A B neg 1, jv A B neg 2, jv A B neg 3, jv A B neg 4]
def good (l : List Int) : Prop := ∀ x ∈ l, -8 ≤ x ∧ x ≤ 8
theorem jF_yes (A B : List Int) (neg : Bool) (h : good (vs A B neg)) : jF A B neg 5 0 Z5 = (vs A B neg, true) := by
  have g : ∀ k, k < 5 → ¬ (jv A B neg k > 8 ∨ jv A B neg k < -8) := fun k hk => by
    have : jv A B neg k ∈ vs A B neg := by
      have : k = 0 ∨ k = 1 ∨ k = 2 ∨ k = 3 ∨ k = 4 := by omega
      rcases this with rfl | rfl | rfl | rfl | rfl <;> simp [vs]
    have := h _ this
    omega
  rw [jF, if_neg (g 0 (by omega)), jF, if_neg (g (0 + 1) (by omega)), jF, if_neg (g (0 + 1 + 1) (by omega)), jF, if_neg (g (0 + 1 + 1 + 1) (by omega)), jF, if_neg (g (0 + 1 + 1 + 1 + 1) (by omega)), jF]
  rfl
theorem jF_no (A B : List Int) (neg : Bool) (h : ¬ good (vs A B neg)) : jF A B neg 5 0 Z5 = (Z5, false) := by
  by_cases h0 : jv A B neg 0 > 8 ∨ jv A B neg 0 < -8
  · rw [jF, if_pos h0]
  by_cases h1 : jv A B neg (0 + 1) > 8 ∨ jv A B neg (0 + 1) < -8
  · rw [jF, if_neg h0, jF, if_pos h1]
  by_cases h2 : jv A B neg (0 + 1 + 1) > 8 ∨ jv A B neg (0 + 1 + 1) < -8
  · rw [jF, if_neg h0, jF, if_neg h1, jF, if_pos h2]
  by_cases h3 : jv A B neg (0 + 1 + 1 + 1) > 8 ∨ jv A B neg (0 + 1 + 1 + 1) < -8
  · rw [jF, if_neg h0, jF, if_neg h1, jF, if_neg h2, jF, if_pos h3]
  by_cases h4 : jv A B neg (0 + 1 + 1 + 1 + 1) > 8 ∨ jv A B neg (0 + 1 + 1 + 1 + 1) < -8
  · rw [jF, if_neg h0, jF, if_neg h1, jF, if_neg h2, jF, if_neg h3, jF, if_pos h4]
  exact absurd (fun x hx => by
    simp only [vs, List.mem_cons, List.not_mem_nil, or_false] at hx
    simp only [Nat.zero_add, Nat.reduceAdd] at h1 h2 h3 h4
    rcases hx with rfl | rfl | rfl | rfl | rfl <;> omega) h
theorem both_yes (a0 a1 a2 a3 a4 b0 b1 b2 b3 b4 sg : Int) (ha : ∀ x ∈ [a0, a1, a2, a3, a4], I64 x) (hb : ∀ x ∈ [b0, b1, b2, b3, b4], I64 x) (h : good (vs [a0, a1, a2, a3, a4] [b0, b1, b2, b3, b4] (decide (sg < 0)))) :
    both.f a0 a1 a2 a3 a4 b0 b1 b2 b3 b4 sg = some (flatJ (vs [a0, a1, a2, a3, a4] [b0, b1, b2, b3, b4] (decide (sg < 0)), true)) := by
  unfold both.f
  rw [if_pos ⟨ok5_iff.2 ha, ok5_iff.2 hb⟩, jF_yes _ _ _ h]
theorem both_no (a0 a1 a2 a3 a4 b0 b1 b2 b3 b4 sg : Int) (ha : ∀ x ∈ [a0, a1, a2, a3, a4], I64 x) (hb : ∀ x ∈ [b0, b1, b2, b3, b4], I64 x) (h : ¬ good (vs [a0, a1, a2, a3, a4] [b0, b1, b2, b3, b4] (decide (sg < 0)))) :
    both.f a0 a1 a2 a3 a4 b0 b1 b2 b3 b4 sg = some (0, 0, 0, 0, 0, false) := by
  unfold both.f
  rw [if_pos ⟨ok5_iff.2 ha, ok5_iff.2 hb⟩, jF_no _ _ _ h]
  rfl
theorem hold_in {v : Int} (h : -100 ≤ v ∧ v ≤ 100) : hold v = v := by unfold hold; rw [if_neg (by omega), if_neg (by omega)]
end Go.Proofs.YtdplfphgomckfaaDoor.Dj
