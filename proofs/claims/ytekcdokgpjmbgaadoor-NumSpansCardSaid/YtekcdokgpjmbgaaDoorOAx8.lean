/- Walks of functions, written by a program (wip/tools/own.py) over hand contracts; conditions: as each theorem states. -/
import Derived.Test.YtekcdokgpjmbgaaDoorOAx0
namespace Go.Proofs.YtekcdokgpjmbgaaDoor.OA
open Go.RowKit Go.Proofs.YtekcdokgpjmbgaaDoorW.PrintWords Go.Proofs.YtekcdokgpjmbgaaDoorW.PrintLast Go.Proofs.YtekcdokgpjmbgaaDoorW.PrintMore
attribute [local go_sem] max2_int min2_int max_two min_two max_three min_three max_four min_four   -- for this text's walks alone
set_option linter.unusedVariables false
set_option linter.unusedSimpArgs false

/-! ### capstanref10_more: function 27 -/
def capstanref10_more.f (a0 : Int) (a1 : Int) : Option (Int × Bool) := if a0 > ((9223372036854775807 - ((a1 - 48) % 256)) / 10) then (some (0, false)) else (some (wrap64 ((wrap64 (10 * a0)) + ((a1 - 48) % 256)), true))
set_option maxHeartbeats 8000000 in
set_option maxRecDepth 100000 in
theorem capstanref10_more.calls (a0 : Int) (a1 : Int) (r1 : Int) (r2 : Bool) (w : World) (h : capstanref10_more.f a0 a1 = some (r1, r2)) :
    Calls Tryd.prog 27 #[.int .i64 a0, .int .u8 a1] w fun e w' => e = .returned (.tuple #[.int .i64 r1, .bool r2]) ∧ Drawn0 w w' := by
  have H : (if a0 > ((9223372036854775807 - ((a1 - 48) % 256)) / 10) then (some (0, false)) else (some (wrap64 ((wrap64 (10 * a0)) + ((a1 - 48) % 256)), true))) = some (r1, r2) := h
  clear h
  by_cases c3 : a0 > ((9223372036854775807 - ((a1 - 48) % 256)) / 10)
  · rw [if_pos c3] at H
    have c3b0 : decide (((9223372036854775807 - ((a1 - 48) % 256)) / 10) < a0) = true := decide_eq_true c3
    clear c3
    simp only [Option.some.injEq, Prod.mk.injEq] at H
    obtain ⟨rfl, rfl⟩ := H
    go_enter Tryd.func27, Tryd.ntmps27
    go_wp2
    go_ret2
    exact ⟨by first | rfl | (simp; done) | (simp [*]; done), by repeat (first | exact Drawn0.refl _ | apply Drawn0.step)⟩
  · rw [if_neg c3] at H
    have c3b0 : decide (((9223372036854775807 - ((a1 - 48) % 256)) / 10) < a0) = false := decide_eq_false c3
    clear c3
    simp only [Option.some.injEq, Prod.mk.injEq] at H
    obtain ⟨rfl, rfl⟩ := H
    go_enter Tryd.func27, Tryd.ntmps27
    go_wp2
    go_ret2
    exact ⟨by first | rfl | (simp; done) | (simp [*]; done), by repeat (first | exact Drawn0.refl _ | apply Drawn0.step)⟩

end Go.Proofs.YtekcdokgpjmbgaaDoor.OA
