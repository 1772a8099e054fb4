/- Numbers under civil.Seconds: the day of a date in the program's own formula, a product of two words whose product fits in one, a sum with carry. -/
import Derived.Test.YtdeohkldlpknnaaDoorCr
import Derived.Laws.Bits64b
namespace Go.Proofs.YtdeohkldlpknnaaDoor.Cs0
open Go.RowKit Go.Proofs.YtdeohkldlpknnaaDoor.CivP Go.Proofs.YtdeohkldlpknnaaDoor.Cw Go.Proofs.YtdeohkldlpknnaaDoor.Cr

theorem and32 (a : Int) (h0 : 0 ≤ a) (h1 : a < 18446744073709551616) : Go.bits .and .u64 a 4294967295 = a % 4294967296 := by
  obtain ⟨n, rfl⟩ := Int.eq_ofNat_of_zero_le h0
  have := bits_and_u64_nat n 4294967295 (by omega) (by decide)
  rw [show ((4294967295 : Nat) : Int) = 4294967295 from rfl] at this
  rw [this]
  have e : n &&& 4294967295 = n % 4294967296 := Nat.and_two_pow_sub_one_eq_mod n 32
  rw [e]; omega
theorem u64e {a : Int} (h1 : 0 ≤ a) (h2 : a < 18446744073709551616) : IntKind.u64.wrap a = a := by rw [IntKind.wrap_u64]; omega
theorem mul_f (a : Int) (h0 : 0 ≤ a) (h1 : a ≤ 200000000000000) : PCivilOf.bits_Mul64.f a 86400 = some (0, a * 86400) := by
  unfold PCivilOf.bits_Mul64.f
  rw [and32 a h0 (by omega), and32 86400 (by omega) (by omega), show (86400 : Int) / 4294967296 = 0 from rfl, show (86400 : Int) % 4294967296 = 86400 from rfl]
  have hA0 : 0 ≤ a / 4294967296 := by omega
  have hA1 : a / 4294967296 ≤ 46566 := by omega
  have hL0 : 0 ≤ a % 4294967296 := by omega
  have hL1 : a % 4294967296 < 4294967296 := by omega
  have hr : IntKind.u64.wrap (a * 86400) = a * 86400 := u64e (by omega) (by omega)
  rw [hr]
  generalize a / 4294967296 = A at hA0 hA1 ⊢
  generalize a % 4294967296 = L at hL0 hL1 ⊢
  rw [Int.mul_zero, Int.mul_zero, u64e (a := 0) (by omega) (by omega), u64e (a := A * 86400) (by omega) (by omega), u64e (a := L * 86400) (by omega) (by omega)]
  have hM0 : 0 ≤ L * 86400 / 4294967296 := by omega
  have hM1 : L * 86400 / 4294967296 < 86400 := by omega
  generalize L * 86400 / 4294967296 = M at hM0 hM1 ⊢
  rw [u64e (a := A * 86400 + M) (by omega) (by omega), and32 _ (by omega) (by omega)]
  have hz1 : (A * 86400 + M) / 4294967296 = 0 := by omega
  have hz2 : (A * 86400 + M) % 4294967296 = A * 86400 + M := by omega
  rw [hz1, hz2, Int.add_zero, Int.add_zero, u64e (a := A * 86400 + M) (by omega) (by omega), hz1, u64e (a := 0) (by omega) (by omega), u64e (a := 0 + 0) (by omega) (by omega)]
  rfl
theorem add_run (x y : Int) (w : World) (h1 : 0 ≤ x) (h2 : 0 ≤ y) :
    (callFunc 24 #[.int .u64 x, .int .u64 y, .int .u64 0]).run Tryd.prog w = .ok (.value (.tuple #[.int .u64 ((x + y) % 18446744073709551616), .int .u64 ((x + y) / 18446744073709551616)])) w := by
  rw [run_callFunc_extern Tryd.func24 (by kernel_rfl) (by kernel_rfl) (by kernel_rfl) (e := add64Entry) (by kernel_rfl), run_add64 x y 0 h1 h2 (by omega) (by omega)]
  simp only [Result.andThen, Int.add_zero]
theorem cut4 (E K : Int) (h0 : 0 ≤ K) (h1 : K < 400) : (400 * E + K) / 4 - (400 * E + K) / 100 + (400 * E + K) / 400 = 97 * E + K / 4 - K / 100 := by
  have e1 : (400 * E + K) / 4 = 100 * E + K / 4 := by omega
  have e2 : (400 * E + K) / 100 = 4 * E + K / 100 := by omega
  have e3 : (400 * E + K) / 400 = E := by omega
  omega
theorem cut400 (a : Int) : a / 4 - a / 100 + a / 400 = 97 * (a / 400) + a % 400 / 4 - a % 400 / 100 := by
  have := cut4 (a / 400) (a % 400) (by omega) (by omega)
  rwa [show 400 * (a / 400) + a % 400 = a from by omega] at this
theorem dated_f (y m d h mi s wk : Int) (hy : -300000000000 ≤ y ∧ y ≤ 300000000000) (hv : Vd y m d) : PCivilOf.civil_dated.f y m d h mi s wk = some (dn y m d) := by
  obtain ⟨h1, h2, h3, h4⟩ := hv
  have hdm := dim_pos y m h1 h2
  unfold PCivilOf.civil_dated.f
  by_cases hm : m ≤ 2
  · rw [if_pos hm]
    have w1 : wrap64 (y - 1) = y - 1 := w64 (by omega) (by omega)
    rw [w1, over_f (y - 1) 400 (by omega) (by omega)]
    simp only [Option.bind_some, Option.some.injEq]
    have g1 : -750000001 ≤ (y - 1) / 400 := by omega
    have g2 : (y - 1) / 400 ≤ 750000000 := by omega
    have g3 : 0 ≤ (y - 1) % 400 := by omega
    have g4 : (y - 1) % 400 < 400 := by omega
    have hl : dy y = 365 * (y - 1970) + ((y - 1) / 4 - (y - 1) / 100 + (y - 1) / 400) - 477 := rfl
    have hk : (y - 1) / 4 - (y - 1) / 100 + (y - 1) / 400 = 97 * ((y - 1) / 400) + (y - 1) % 400 / 4 - (y - 1) % 400 / 100 := cut400 _
    have hy1 : y - 1 = 400 * ((y - 1) / 400) + (y - 1) % 400 := by omega
    rw [hk] at hl
    generalize (y - 1) / 400 = E at g1 g2 hl hy1 ⊢
    generalize (y - 1) % 400 = K at g3 g4 hl hy1 ⊢
    have hm2 : m = 1 ∨ m = 2 := by omega
    unfold dn
    rw [hl]
    rcases hm2 with rfl | rfl
    · rw [dm_one]
      have e1 : wrap64 (wrap64 (153 * wrap64 (wrap64 (1 + 12) - 3)) + 2) = 1532 := by unfold wrap64; rfl
      rw [e1, Int.tdiv_eq_ediv_of_nonneg (a := K) (by omega), Int.tdiv_eq_ediv_of_nonneg (a := K) (by omega), Int.tdiv_eq_ediv_of_nonneg (a := 1532) (by omega)]
      simp (disch := omega) only [w64]
      omega
    · have e2 : dm y 2 = 31 := by simp [dm]
      rw [e2]
      have e1 : wrap64 (wrap64 (153 * wrap64 (wrap64 (2 + 12) - 3)) + 2) = 1685 := by unfold wrap64; rfl
      rw [e1, Int.tdiv_eq_ediv_of_nonneg (a := K) (by omega), Int.tdiv_eq_ediv_of_nonneg (a := K) (by omega), Int.tdiv_eq_ediv_of_nonneg (a := 1685) (by omega)]
      simp (disch := omega) only [w64]
      omega
  · rw [if_neg hm, over_f y 400 (by omega) (by omega)]
    simp only [Option.bind_some, Option.some.injEq]
    have g1 : -750000001 ≤ y / 400 := by omega
    have g2 : y / 400 ≤ 750000000 := by omega
    have g3 : 0 ≤ y % 400 := by omega
    have g4 : y % 400 < 400 := by omega
    have hl := dy_alt y
    have hk : y / 4 - y / 100 + y / 400 = 97 * (y / 400) + y % 400 / 4 - y % 400 / 100 := cut400 _
    have hy1 : y = 400 * (y / 400) + y % 400 := by omega
    rw [hk] at hl
    have hdm2 : dm y m = dm3 m + (if lp y then 1 else 0) := by
      have : m = 3 ∨ m = 4 ∨ m = 5 ∨ m = 6 ∨ m = 7 ∨ m = 8 ∨ m = 9 ∨ m = 10 ∨ m = 11 ∨ m = 12 := by omega
      rcases this with rfl | rfl | rfl | rfl | rfl | rfl | rfl | rfl | rfl | rfl <;> simp [dm, dm3]
    have hs : (153 * (m - 3) + 2) / 5 + 59 = dm3 m := by
      have : m = 3 ∨ m = 4 ∨ m = 5 ∨ m = 6 ∨ m = 7 ∨ m = 8 ∨ m = 9 ∨ m = 10 ∨ m = 11 ∨ m = 12 := by omega
      rcases this with rfl | rfl | rfl | rfl | rfl | rfl | rfl | rfl | rfl | rfl <;> rfl
    have e1 : wrap64 (wrap64 (153 * wrap64 (m - 3)) + 2) = 153 * (m - 3) + 2 := by
      simp (disch := omega) only [w64]
    unfold dn
    rw [hdm2, e1, Int.tdiv_eq_ediv_of_nonneg (a := y % 400) (by omega), Int.tdiv_eq_ediv_of_nonneg (a := y % 400) (by omega), Int.tdiv_eq_ediv_of_nonneg (a := 153 * (m - 3) + 2) (by omega)]
    have hs0 : 0 ≤ (153 * (m - 3) + 2) / 5 := by omega
    have hs1 : (153 * (m - 3) + 2) / 5 ≤ 400 := by omega
    generalize (153 * (m - 3) + 2) / 5 = S at hs hs0 hs1 ⊢
    generalize y / 400 = E at g1 g2 hl hy1 ⊢
    generalize y % 400 = K at g3 g4 hl hy1 ⊢
    generalize (if lp y = true then (1 : Int) else 0) = q at hl ⊢
    generalize dy y = D at hl ⊢
    generalize dm3 m = Z at hs ⊢
    simp (disch := omega) only [w64]
    omega
end Go.Proofs.YtdeohkldlpknnaaDoor.Cs0
