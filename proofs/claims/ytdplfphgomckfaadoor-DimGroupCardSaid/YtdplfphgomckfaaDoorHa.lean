/- DimGroup, in plain Lean: what Mul and Div answer there. Conditions: as each theorem states. -/
import Derived.Test.YtdplfphgomckfaaDoorOHx1
import Derived.Test.YtdplfphgomckfaaDoorPj
import Derived.Test.YtdplfphgomckfaaDoorDv
namespace Go.Proofs.YtdplfphgomckfaaDoor.Ha
set_option linter.unusedVariables false
set_option linter.unusedSimpArgs false
open Go.RowKit Go.Proofs.YtdplfphgomckfaaDoorW.PrintWords Go.Proofs.YtdplfphgomckfaaDoor.Bn Go.Proofs.YtdplfphgomckfaaDoor.Bx Go.Proofs.YtdplfphgomckfaaDoor.Dj Go.Proofs.YtdplfphgomckfaaDoor.OH
theorem read_awake : De.Read.f 8 (⟨#[107, 114, 101, 113, 47, 109, 105, 110]⟩ : ByteArray) = some (50, 3, -1, 1, 0, 0, 0, 0, 0) := by kernel_rfl
theorem awake_f : OH.capstanlaw02_awake.f 8 = some true := by
  unfold OH.capstanlaw02_awake.f Dv.Read.f
  rw [read_awake]
  rfl
def A5 (a0 a1 a2 a3 a4 : Int) : Prop := I64 a0 ∧ I64 a1 ∧ I64 a2 ∧ I64 a3 ∧ I64 a4
def S5 (a0 a1 a2 a3 a4 : Int) : Prop := (-8 ≤ a0 ∧ a0 ≤ 8) ∧ (-8 ≤ a1 ∧ a1 ≤ 8) ∧ (-8 ≤ a2 ∧ a2 ≤ 8) ∧ (-8 ≤ a3 ∧ a3 ≤ 8) ∧ (-8 ≤ a4 ∧ a4 ≤ 8)
theorem A5.mem {a0 a1 a2 a3 a4 : Int} (h : A5 a0 a1 a2 a3 a4) : ∀ x ∈ [a0, a1, a2, a3, a4], I64 x := by
  obtain ⟨h0, h1, h2, h3, h4⟩ := h
  intro x hx
  simp only [List.mem_cons, List.not_mem_nil, or_false] at hx
  rcases hx with rfl | rfl | rfl | rfl | rfl <;> assumption
theorem S5.a5 {a0 a1 a2 a3 a4 : Int} (h : S5 a0 a1 a2 a3 a4) : A5 a0 a1 a2 a3 a4 := by
  obtain ⟨h0, h1, h2, h3, h4⟩ := h
  refine ⟨?_, ?_, ?_, ?_, ?_⟩ <;> (unfold I64; omega)
theorem S5.good {a0 a1 a2 a3 a4 : Int} (h : S5 a0 a1 a2 a3 a4) : good [a0, a1, a2, a3, a4] := by
  obtain ⟨h0, h1, h2, h3, h4⟩ := h
  intro x hx
  simp only [List.mem_cons, List.not_mem_nil, or_false] at hx
  rcases hx with rfl | rfl | rfl | rfl | rfl <;> assumption
theorem hold_small {v : Int} (h : -8 ≤ hold v ∧ hold v ≤ 8) : hold v = v := by
  unfold hold at h ⊢
  by_cases h1 : v < -9223372036854775808
  · rw [if_pos h1] at h; omega
  · rw [if_neg h1] at h ⊢
    by_cases h2 : 9223372036854775807 < v
    · rw [if_pos h2] at h; omega
    · rw [if_neg h2]
theorem vs_add (a0 a1 a2 a3 a4 b0 b1 b2 b3 b4 : Int) : vs [a0, a1, a2, a3, a4] [b0, b1, b2, b3, b4] (decide ((1 : Int) < 0)) = [hold (a0 + b0), hold (a1 + b1), hold (a2 + b2), hold (a3 + b3), hold (a4 + b4)] := rfl
theorem vs_sub (a0 a1 a2 a3 a4 b0 b1 b2 b3 b4 : Int) : vs [a0, a1, a2, a3, a4] [b0, b1, b2, b3, b4] (decide ((-1 : Int) < 0)) = [hold (a0 - b0), hold (a1 - b1), hold (a2 - b2), hold (a3 - b3), hold (a4 - b4)] := rfl
theorem mul_two (a0 a1 a2 a3 a4 b0 b1 b2 b3 b4 : Int) (ha : A5 a0 a1 a2 a3 a4) (hb : A5 b0 b1 b2 b3 b4) : ∃ (c0 c1 c2 c3 c4 : Int) (ok : Bool), dim_Mul.f a0 a1 a2 a3 a4 b0 b1 b2 b3 b4 = some (c0, c1, c2, c3, c4, ok) ∧ dim_Mul.f b0 b1 b2 b3 b4 a0 a1 a2 a3 a4 = some (c0, c1, c2, c3, c4, ok) ∧ (ok = true → S5 c0 c1 c2 c3 c4 ∧ c0 = a0 + b0 ∧ c1 = a1 + b1 ∧ c2 = a2 + b2 ∧ c3 = a3 + b3 ∧ c4 = a4 + b4) := by
  have sw : vs [b0, b1, b2, b3, b4] [a0, a1, a2, a3, a4] (decide ((1 : Int) < 0)) = vs [a0, a1, a2, a3, a4] [b0, b1, b2, b3, b4] (decide ((1 : Int) < 0)) := by
    rw [vs_add, vs_add, Int.add_comm b0, Int.add_comm b1, Int.add_comm b2, Int.add_comm b3, Int.add_comm b4]
  by_cases h : good (vs [a0, a1, a2, a3, a4] [b0, b1, b2, b3, b4] (decide ((1 : Int) < 0)))
  · have h1 := both_yes a0 a1 a2 a3 a4 b0 b1 b2 b3 b4 1 ha.mem hb.mem h
    have h2 := both_yes b0 b1 b2 b3 b4 a0 a1 a2 a3 a4 1 hb.mem ha.mem (by rw [sw]; exact h)
    rw [sw] at h2
    rw [vs_add] at h h1 h2
    have g0 := h (hold (a0 + b0)) (by simp)
    have g1 := h (hold (a1 + b1)) (by simp)
    have g2 := h (hold (a2 + b2)) (by simp)
    have g3 := h (hold (a3 + b3)) (by simp)
    have g4 := h (hold (a4 + b4)) (by simp)
    refine ⟨_, _, _, _, _, true, by unfold dim_Mul.f; rw [h1]; rfl, by unfold dim_Mul.f; rw [h2]; rfl, fun _ => ⟨⟨g0, g1, g2, g3, g4⟩, hold_small g0, hold_small g1, hold_small g2, hold_small g3, hold_small g4⟩⟩
  · have h1 := both_no a0 a1 a2 a3 a4 b0 b1 b2 b3 b4 1 ha.mem hb.mem h
    have h2 := both_no b0 b1 b2 b3 b4 a0 a1 a2 a3 a4 1 hb.mem ha.mem (by rw [sw]; exact h)
    exact ⟨_, _, _, _, _, false, by unfold dim_Mul.f; rw [h1]; rfl, by unfold dim_Mul.f; rw [h2]; rfl, fun h => by cases h⟩
theorem div_back (a0 a1 a2 a3 a4 b0 b1 b2 b3 b4 c0 c1 c2 c3 c4 : Int) (hs : S5 a0 a1 a2 a3 a4) (hb : A5 b0 b1 b2 b3 b4) (hc : S5 c0 c1 c2 c3 c4) (e0 : c0 = a0 + b0) (e1 : c1 = a1 + b1) (e2 : c2 = a2 + b2) (e3 : c3 = a3 + b3) (e4 : c4 = a4 + b4) : dim_Div.f c0 c1 c2 c3 c4 b0 b1 b2 b3 b4 = some (a0, a1, a2, a3, a4, true) := by
  have hv : vs [c0, c1, c2, c3, c4] [b0, b1, b2, b3, b4] (decide ((-1 : Int) < 0)) = [a0, a1, a2, a3, a4] := by
    obtain ⟨h0, h1, h2, h3, h4⟩ := hs
    rw [vs_sub, show c0 - b0 = a0 by omega, show c1 - b1 = a1 by omega, show c2 - b2 = a2 by omega, show c3 - b3 = a3 by omega, show c4 - b4 = a4 by omega, hold_in (v := a0) (by omega), hold_in (v := a1) (by omega), hold_in (v := a2) (by omega), hold_in (v := a3) (by omega), hold_in (v := a4) (by omega)]
  have h1 := both_yes c0 c1 c2 c3 c4 b0 b1 b2 b3 b4 (-1) hc.a5.mem hb.mem (by rw [hv]; exact hs.good)
  rw [hv] at h1
  unfold dim_Div.f
  rw [h1]
  rfl
theorem div_self (a0 a1 a2 a3 a4 : Int) (ha : A5 a0 a1 a2 a3 a4) : dim_Div.f a0 a1 a2 a3 a4 a0 a1 a2 a3 a4 = some (0, 0, 0, 0, 0, true) := by
  have hv : vs [a0, a1, a2, a3, a4] [a0, a1, a2, a3, a4] (decide ((-1 : Int) < 0)) = [0, 0, 0, 0, 0] := by
    rw [vs_sub, Int.sub_self, Int.sub_self, Int.sub_self, Int.sub_self, Int.sub_self, hold_in (v := 0) (by omega)]
  have h1 := both_yes a0 a1 a2 a3 a4 a0 a1 a2 a3 a4 (-1) ha.mem ha.mem (by rw [hv]; intro x hx; simp at hx; omega)
  rw [hv] at h1
  unfold dim_Div.f
  rw [h1]
  rfl
theorem mul_zero (a0 a1 a2 a3 a4 : Int) (hs : S5 a0 a1 a2 a3 a4) : dim_Mul.f a0 a1 a2 a3 a4 0 0 0 0 0 = some (a0, a1, a2, a3, a4, true) := by
  have hv : vs [a0, a1, a2, a3, a4] [0, 0, 0, 0, 0] (decide ((1 : Int) < 0)) = [a0, a1, a2, a3, a4] := by
    obtain ⟨h0, h1, h2, h3, h4⟩ := hs
    rw [vs_add, Int.add_zero, Int.add_zero, Int.add_zero, Int.add_zero, Int.add_zero, hold_in (v := a0) (by omega), hold_in (v := a1) (by omega), hold_in (v := a2) (by omega), hold_in (v := a3) (by omega), hold_in (v := a4) (by omega)]
  have h1 := both_yes a0 a1 a2 a3 a4 0 0 0 0 0 1 hs.a5.mem (by intro x hx; simp at hx; subst hx; unfold I64; omega) (by rw [hv]; exact hs.good)
  rw [hv] at h1
  unfold dim_Mul.f
  rw [h1]
  rfl
theorem text_zero : Dv.Text.f 0 0 0 0 0 = some (Db.bs [49]) := by rfl
end Go.Proofs.YtdplfphgomckfaaDoor.Ha
