/- Contracts of the calendar's small functions: leap years, the days of a month, division rounded down. -/
import Derived.Test.YtdeohkldlpknnaaDoorLaid
import Derived.Test.YtdeohkldlpknnaaDoorCivP
import Derived.Test.YtdeohkldlpknnaaDoorBlk2
import Derived.Test.YtdeohkldlpknnaaDoorPCivilOfx1
import Derived.Test.YtdeohkldlpknnaaDoorPCivilOfx3
import Derived.Test.YtdeohkldlpknnaaDoorPCivilOfx4
import Derived.Test.YtdeohkldlpknnaaDoorPCivilOfx5
import Derived.Test.YtdeohkldlpknnaaDoorPCivilOfx6
import Derived.Test.YtdeohkldlpknnaaDoorPCivilOfx7
import Derived.Test.YtdeohkldlpknnaaDoorPCivilOfx8
import Derived.Laws.Externs
import Derived.WalkKit
import Derived.WalkSpells
import Derived.WalkLawsBesides
import Derived.Handy
namespace Go.Proofs.YtdeohkldlpknnaaDoor.Cw
open Go.RowKit Go.Proofs.YtdeohkldlpknnaaDoor.Blk Go.Proofs.YtdeohkldlpknnaaDoor.Blk2 Go.Proofs.YtdeohkldlpknnaaDoor.CivP Go.Proofs.YtdeohkldlpknnaaDoor.Laid
open Go.Proofs.YtdeohkldlpknnaaDoorW.PrintWords (Drawn0)

theorem tmod_zero (a k : Int) : Int.tmod a k = 0 ↔ a % k = 0 := by
  rw [← Int.dvd_iff_tmod_eq_zero, ← Int.dvd_iff_emod_eq_zero]
theorem leap_f (y : Int) : PCivilOf.civil_Leap.f y = some (lp y) := by
  unfold PCivilOf.civil_Leap.f lp
  simp only [tmod_zero]
  by_cases h4 : y % 4 = 0
  · by_cases h100 : y % 100 = 0
    · have e : Int.tmod y 400 = 0 ↔ y % 400 = 0 := tmod_zero y 400
      by_cases h400 : y % 400 = 0
      · simp [h4, h100, h400, e.2 h400]
      · have : ¬ Int.tmod y 400 = 0 := fun h => h400 (e.1 h)
        simp [h4, h100, h400, this]
    · simp [h4, h100]
  · simp [h4]
theorem leap_any (y : Int) (w : World) : Calls Tryd.prog 14 #[.int .i64 y] w fun e w' => e = .returned (.bool (lp y)) ∧ ∃ n, w' = w.drewN n :=
  (PCivilOf.civil_Leap.calls y (lp y) w (leap_f y)).mono fun _ _ ⟨h1, h2⟩ => ⟨h1, h2.out⟩

/-- What the table holds of a month. -/
theorem months_at (y : Int) (m : Int) (h1 : 1 ≤ m) (h2 : m ≤ 12) (h : ¬ (m = 2 ∧ lp y = true)) : months.getD (m - 1).toNat 0 = dim y m := by
  have : m = 1 ∨ m = 2 ∨ m = 3 ∨ m = 4 ∨ m = 5 ∨ m = 6 ∨ m = 7 ∨ m = 8 ∨ m = 9 ∨ m = 10 ∨ m = 11 ∨ m = 12 := by omega
  rcases this with rfl | rfl | rfl | rfl | rfl | rfl | rfl | rfl | rfl | rfl | rfl | rfl
  · rfl
  · have hl : lp y = false := by simpa using h
    simp [dim, hl, months]
  all_goals rfl
set_option maxHeartbeats 1000000 in
theorem days_any (y m : Int) (w : World) (hL : Laid w) : Calls Tryd.prog 16 #[.int .i64 y, .int .i64 m] w fun e w' => e = .returned (.int .i64 (dim y m)) ∧ ∃ n, w' = w.drewN n := by
  by_cases h1 : m < 1
  · have e : Hid (dim y m = 0) := dim_zero y m (.inl h1)
    clear hL
    go_enter Tryd.func16, Tryd.ntmps16
    go_wp2
    go_ret
    exact ⟨by rw [e.out]; rfl, 0, rfl⟩
  · by_cases h2 : 12 < m
    · have e : Hid (dim y m = 0) := dim_zero y m (.inr h2)
      clear hL
      go_enter Tryd.func16, Tryd.ntmps16
      go_wp2
      go_ret
      exact ⟨by rw [e.out]; rfl, 0, rfl⟩
    · by_cases h3 : m = 2
      · subst h3
        cases hl : lp y with
        | true =>
          have e : Hid (dim y 2 = 29) := by show dim y 2 = 29; simp [dim, hl]
          have HL : Hid (lp y = true) := hl
          clear hL hl
          go_enter Tryd.func16, Tryd.ntmps16
          go_wp2_with fail
          refine (leap_any y _).mono ?_
          rintro e1 w1 ⟨rfl, n, rfl⟩
          rw [HL.out]
          go_wp2
          go_ret
          exact ⟨by rw [e.out]; rfl, n, rfl⟩
        | false =>
          have e : Hid (dim y 2 = 28) := by show dim y 2 = 28; simp [dim, hl]
          have HL : Hid (lp y = false) := hl
          have hc : w.cell? ⟨0, 1, none⟩ = some (.int .i64 28) := hL 1 (by decide)
          clear hL hl
          go_enter Tryd.func16, Tryd.ntmps16
          go_wp2_with fail
          refine (leap_any y _).mono ?_
          rintro e1 w1 ⟨rfl, n, rfl⟩
          rw [HL.out]
          go_wp2
          go_ret
          exact ⟨by rw [e.out]; rfl, n, rfl⟩
      · have hm := months_at y m (by omega) (by omega) (fun h => h3 h.1)
        have hc := hL (m - 1).toNat (by omega)
        rw [hm, show (m - 1).toNat = m.toNat - 1 from by omega] at hc
        have h4 : (m == 2) = false := by simpa using h3
        have h5 : 1 ≤ m := by omega
        have h6 : m ≤ 12 := by omega
        clear hL hm h1 h2 h3
        go_enter Tryd.func16, Tryd.ntmps16
        go_wp2
        go_ret
        exact ⟨rfl, 0, rfl⟩

/-! ### Division rounded down -/
theorem over_pair (a b : Int) (hb : 0 < b) : (a.tmod b < 0 → a.tdiv b - 1 = a / b ∧ a.tmod b + b = a % b) ∧ (¬ a.tmod b < 0 → a.tdiv b = a / b ∧ a.tmod b = a % b) := by
  have h1 := Int.tmod_add_mul_tdiv a b
  have h2 := Int.emod_add_mul_ediv a b
  have h3 := Int.emod_nonneg a (by omega : b ≠ 0)
  have h4 := Int.emod_lt_of_pos a hb
  have h5 : a.tmod b < b := Int.tmod_lt_of_pos a hb
  have h6 : -b < a.tmod b := by
    have := Int.tmod_lt_of_pos (-a) hb
    rw [Int.neg_tmod] at this; omega
  constructor
  · intro h
    have e : b * (a.tdiv b - a / b) = a % b - a.tmod b := by rw [Int.mul_sub]; omega
    have g1 : a.tdiv b - a / b = 1 := by
      have u1 : b * (a.tdiv b - a / b) < b * 2 := by omega
      have u2 : b * 0 < b * (a.tdiv b - a / b) := by omega
      have := Int.lt_of_mul_lt_mul_left u1 (by omega)
      have := Int.lt_of_mul_lt_mul_left u2 (by omega)
      omega
    rw [g1] at e
    omega
  · intro h
    have e : b * (a.tdiv b - a / b) = a % b - a.tmod b := by rw [Int.mul_sub]; omega
    have g1 : a.tdiv b - a / b = 0 := by
      have u1 : b * (a.tdiv b - a / b) < b * 1 := by omega
      have u2 : b * (-1) < b * (a.tdiv b - a / b) := by omega
      have := Int.lt_of_mul_lt_mul_left u1 (by omega)
      have := Int.lt_of_mul_lt_mul_left u2 (by omega)
      omega
    rw [g1] at e
    omega
theorem over_f (a b : Int) (ha : -9223372036854775808 ≤ a ∧ a ≤ 9223372036854775807) (hb : 2 ≤ b ∧ b ≤ 1000000) : PCivilOf.civil_over.f a b = some (a / b, a % b) := by
  obtain ⟨h1, h2⟩ := over_pair a b (by omega)
  have q1 : -4611686018427387905 ≤ a / b := Int.le_ediv_of_mul_le (by omega) (by omega)
  have q2 : a / b ≤ 4611686018427387904 := by
    have := Int.ediv_lt_of_lt_mul (a := a) (b := 4611686018427387905) (c := b) (by omega) (by omega)
    omega
  have q3 := Int.emod_nonneg a (by omega : b ≠ 0)
  have q4 := Int.emod_lt_of_pos a (by omega : 0 < b)
  unfold PCivilOf.civil_over.f
  rw [if_neg (by omega)]
  by_cases h : a.tmod b < 0
  · obtain ⟨e1, e2⟩ := h1 h
    rw [if_pos h]
    have w1 : wrap64 (a.tdiv b) = a.tdiv b := by unfold wrap64; omega
    have w2 : wrap64 (a.tdiv b - 1) = a / b := by rw [e1]; unfold wrap64; omega
    have w3 : wrap64 (a.tmod b + b) = a % b := by rw [e2]; unfold wrap64; omega
    rw [w1, w2, w3]
  · obtain ⟨e1, e2⟩ := h2 h
    rw [if_neg h]
    have w1 : wrap64 (a.tdiv b) = a / b := by rw [e1]; unfold wrap64; omega
    rw [w1, e2]
theorem over_any (a b : Int) (w : World) (ha : -9223372036854775808 ≤ a ∧ a ≤ 9223372036854775807) (hb : 2 ≤ b ∧ b ≤ 1000000) :
    Calls Tryd.prog 19 #[.int .i64 a, .int .i64 b] w fun e w' => e = .returned (.tuple #[.int .i64 (a / b), .int .i64 (a % b)]) ∧ ∃ n, w' = w.drewN n :=
  (PCivilOf.civil_over.calls a b _ _ w (over_f a b ha hb)).mono fun _ _ ⟨h1, h2⟩ => ⟨h1, h2.out⟩
end Go.Proofs.YtdeohkldlpknnaaDoor.Cw
