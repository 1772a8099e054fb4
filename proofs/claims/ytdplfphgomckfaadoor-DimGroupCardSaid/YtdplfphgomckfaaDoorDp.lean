/- dim.both in the printer's form. Conditions: as each theorem states. -/
import Derived.Test.YtdplfphgomckfaaDoorDj
namespace Go.Proofs.YtdplfphgomckfaaDoor.Dj
set_option linter.unusedVariables false
set_option linter.unusedSimpArgs false
open Go.RowKit Go.Proofs.YtdplfphgomckfaaDoorW.PrintWords Go.Proofs.YtdplfphgomckfaaDoor.Dt Go.Proofs.YtdplfphgomckfaaDoor.Bn Go.Proofs.YtdplfphgomckfaaDoor.Bx
def ok5 (l : List Int) : Bool := l.all fun x => decide (-9223372036854775808 ≤ x) && decide (x ≤ 9223372036854775807)
theorem ok5_iff {l : List Int} : ok5 l = true ↔ ∀ x ∈ l, I64 x := by
  unfold ok5 I64
  rw [List.all_eq_true]
  simp
def flatJ (t : List Int × Bool) : Int × Int × Int × Int × Int × Bool := (t.1.getD 0 0, t.1.getD 1 0, t.1.getD 2 0, t.1.getD 3 0, t.1.getD 4 0, t.2)
def both.f (a0 a1 a2 a3 a4 b0 b1 b2 b3 b4 sg : Int) : Option (Int × Int × Int × Int × Int × Bool) :=
  if ok5 [a0, a1, a2, a3, a4] = true ∧ ok5 [b0, b1, b2, b3, b4] = true then some (flatJ (jF [a0, a1, a2, a3, a4] [b0, b1, b2, b3, b4] (decide (sg < 0)) 5 0 Z5)) else none
theorem both.calls (a0 a1 a2 a3 a4 b0 b1 b2 b3 b4 sg : Int) (r1 r2 r3 r4 r5 : Int) (r6 : Bool) (w : World) (h : both.f a0 a1 a2 a3 a4 b0 b1 b2 b3 b4 sg = some (r1, r2, r3, r4, r5, r6)) :
    Calls Tryd.prog 24 #[.agg #[.int .i64 a0, .int .i64 a1, .int .i64 a2, .int .i64 a3, .int .i64 a4], .agg #[.int .i64 b0, .int .i64 b1, .int .i64 b2, .int .i64 b3, .int .i64 b4], .int .i64 sg] w fun e w' => e = .returned (.tuple #[.agg #[.int .i64 r1, .int .i64 r2, .int .i64 r3, .int .i64 r4, .int .i64 r5], .bool r6]) ∧ Below w.heap.size w w' := by
  unfold both.f at h
  split at h
  · next hc =>
    have hl := jF_len [a0, a1, a2, a3, a4] [b0, b1, b2, b3, b4] (decide (sg < 0)) 5 0 Z5 rfl
    have hw := both_any [a0, a1, a2, a3, a4] [b0, b1, b2, b3, b4] sg a0 a1 a2 a3 a4 b0 b1 b2 b3 b4 rfl rfl (ok5_iff.1 hc.1) (ok5_iff.1 hc.2) w
    generalize jF [a0, a1, a2, a3, a4] [b0, b1, b2, b3, b4] (decide (sg < 0)) 5 0 Z5 = R at h hl hw
    obtain ⟨D, o⟩ := R
    obtain ⟨d0, d1, d2, d3, d4, rfl⟩ := len5d hl
    injection h with h
    simp only [flatJ, Prod.mk.injEq] at h
    obtain ⟨rfl, rfl, rfl, rfl, rfl, rfl⟩ := h
    exact hw
  · cases h
end Go.Proofs.YtdplfphgomckfaaDoor.Dj
