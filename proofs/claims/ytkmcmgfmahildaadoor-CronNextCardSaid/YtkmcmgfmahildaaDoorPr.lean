/- The reference's date of a second, and its Has: as the plain calendar and Go's own say. -/
import Derived.Test.YtkmcmgfmahildaaDoorPa
import Derived.Test.YtkmcmgfmahildaaDoorOBx7
namespace Go.Proofs.YtkmcmgfmahildaaDoor.Pr
set_option linter.unusedVariables false
open Go.RowKit Go.Proofs.YtkmcmgfmahildaaDoor.CivP Go.Proofs.YtkmcmgfmahildaaDoor.Cd Go.Proofs.YtkmcmgfmahildaaDoor.Pa
open Go.Proofs.YtkmcmgfmahildaaDoorW.PrintWords (Drawn0 shr)

theorem tmod_zero (a k : Int) : Int.tmod a k = 0 ↔ a % k = 0 := by
  rw [← Int.dvd_iff_tmod_eq_zero, ← Int.dvd_iff_emod_eq_zero]
theorem ref_leap (y : Int) : OB.capstanref03_Leap.f y = some (lp y) := by
  unfold OB.capstanref03_Leap.f lp
  have e400 : Int.tmod y 400 = 0 ↔ y % 400 = 0 := tmod_zero y 400
  have e4 : Int.tmod y 4 = 0 ↔ y % 4 = 0 := tmod_zero y 4
  have e100 : Int.tmod y 100 = 0 ↔ y % 100 = 0 := tmod_zero y 100
  by_cases h400 : y % 400 = 0
  · have h4 : y % 4 = 0 := by omega
    rw [if_pos (e400.2 h400), decide_eq_true ⟨h4, .inr h400⟩]
  · rw [if_neg (fun h => h400 (e400.1 h))]
    by_cases h4 : y % 4 = 0
    · rw [if_pos (e4.2 h4)]
      by_cases h100 : y % 100 = 0
      · rw [decide_eq_false (fun h => by rcases h.2 with h | h; exact h h100; exact h400 h), e100.2 h100]; rfl
      · have hn : ¬ Int.tmod y 100 = 0 := fun h => h100 (e100.1 h)
        rw [decide_eq_true ⟨h4, .inl h100⟩]; simp [hn]
    · rw [if_neg (fun h => h4 (e4.1 h)), decide_eq_false (fun h => h4 h.1)]
theorem ref_days (k : Nat) (y m : Int) : OB.capstanref03_Days.f (k + 2) y m = some (dim y m) := by
  unfold OB.capstanref03_Days.f
  by_cases hm : 1 ≤ m ∧ m ≤ 12
  · have : m = 1 ∨ m = 2 ∨ m = 3 ∨ m = 4 ∨ m = 5 ∨ m = 6 ∨ m = 7 ∨ m = 8 ∨ m = 9 ∨ m = 10 ∨ m = 11 ∨ m = 12 := by omega
    rcases this with rfl | rfl | rfl | rfl | rfl | rfl | rfl | rfl | rfl | rfl | rfl | rfl <;> simp [OB.capstanref03_Days.j0, OB.capstanref03_Days.j1, dim, ref_leap]
    cases lp y <;> simp
  · have e : dim y m = 0 := dim_zero y m (by omega)
    have n1 : ¬ m = 1 := by omega
    have n2 : ¬ m = 2 := by omega
    have n3 : ¬ m = 3 := by omega
    have n4 : ¬ m = 4 := by omega
    have n5 : ¬ m = 5 := by omega
    have n6 : ¬ m = 6 := by omega
    have n7 : ¬ m = 7 := by omega
    have n8 : ¬ m = 8 := by omega
    have n9 : ¬ m = 9 := by omega
    have n10 : ¬ m = 10 := by omega
    have n11 : ¬ m = 11 := by omega
    have n12 : ¬ m = 12 := by omega
    simp [OB.capstanref03_Days.j0, OB.capstanref03_Days.j1, e, n1, n2, n3, n4, n5, n6, n7, n8, n9, n10, n11, n12]
theorem ref_long (y : Int) : OB.capstanref03_long.f y = some (long y) := by
  unfold OB.capstanref03_long.f long
  rw [ref_leap]; simp only [Option.bind_some]; split <;> rfl
theorem ref_over (a b : Int) (ha : -9223372036854775808 ≤ a ∧ a ≤ 9223372036854775807) (hb : 2 ≤ b ∧ b ≤ 1000000) : OB.capstanref03_Over.f a b = some (a / b, a % b) := over_f a b ha hb
theorem w64 {a : Int} (h1 : -9223372036854775808 ≤ a) (h2 : a ≤ 9223372036854775807) : wrap64 a = a := by unfold wrap64; omega

theorem dm_nonneg (y m : Int) (h1 : 1 ≤ m) (h2 : m ≤ 12) : 0 ≤ dm y m := by
  by_cases e : m = 1
  · rw [e, dm_one]; omega
  · have := dm_lt (y := y) (a := 1) (b := m) (by omega) (by omega) (by omega)
    have := dim_pos y 1 (by omega) (by omega)
    rw [dm_one] at *; omega
theorem l1_tells (x4 x6 y : Int) (hx : 0 ≤ x4 ∧ x4 < 86400) : ∀ (n k : Nat) (left m : Int), 1 ≤ m → m ≤ 12 → 13 - m ≤ n → 0 ≤ left → left < long y - dm y m → n + 2 ≤ k →
    ∃ m' d' : Int, OB.capstanref03_Of.l1 k x4 x6 left y m = some (y, m', d', x4 / 3600, x4 / 60 % 60, x4 % 60, x6) ∧ Vd y m' d' ∧ dm y m' + d' - 1 = dm y m + left := by
  intro n
  induction n with
  | zero => intro k left m h1 h2 h3; omega
  | succ n ih =>
    intro k left m h1 h2 h3 h4 h5 hk
    obtain ⟨k, rfl⟩ : ∃ j, k = j + 3 := ⟨k - 3, by omega⟩
    have hd := dim_pos y m h1 h2
    have hs := dm_step y m h1 h2
    have hl := long_pos y
    simp only [OB.capstanref03_Of.l1, ref_days, Option.bind_some]
    by_cases hc : left ≥ dim y m
    · rw [if_pos hc]
      have hm : m < 12 := by
        by_cases e : m = 12
        · subst e; have := dm_end y; have e13 : dm y (12 + 1) = dm y 13 := rfl; omega
        · omega
      have hdm : dm y m ≤ 366 := by have := dm_lt (y := y) (a := m) (b := 13) (by omega) h1 (by omega); have := dm_end y; omega
      have hd0 := dm_nonneg y m h1 h2
      rw [w64 (by omega) (by omega), w64 (by omega) (by omega)]
      obtain ⟨m', d', e, hv, hn⟩ := ih (k + 2) (left - dim y m) (m + 1) (by omega) (by omega) (by omega) (by omega) (by omega) (by omega)
      exact ⟨m', d', e, hv, by omega⟩
    · rw [if_neg hc, ref_over x4 3600 (by omega) (by omega)]
      simp only [Option.bind_some]
      rw [ref_over (x4 % 3600) 60 (by omega) (by omega), w64 (by omega) (by omega)]
      simp only [Option.bind_some]
      refine ⟨m, left + 1, ?_, ⟨h1, h2, by omega, by omega⟩, by omega⟩
      rw [show x4 % 3600 / 60 = x4 / 60 % 60 from by omega, show x4 % 3600 % 60 = x4 % 60 from by omega]
theorem l0_tells (x4 x6 : Int) (hx : 0 ≤ x4 ∧ x4 < 86400) : ∀ (n k : Nat) (left y : Int), 0 ≤ left → left < 365 * n → left ≤ 146097 → -1000000000000 ≤ y → y + n ≤ 1000000000000 → n + 20 ≤ k →
    ∃ y' m' d' : Int, OB.capstanref03_Of.l0 k x4 x6 left y = some (y', m', d', x4 / 3600, x4 / 60 % 60, x4 % 60, x6) ∧ Vd y' m' d' ∧ dn y' m' d' = dy y + left := by
  intro n
  induction n with
  | zero => intro k left y h1 h2; omega
  | succ n ih =>
    intro k left y h1 h2 h3 h4 h5 hk
    obtain ⟨k, rfl⟩ : ∃ j, k = j + 1 := ⟨k - 1, by omega⟩
    have hl := long_pos y
    have hs := lp_step y
    simp only [OB.capstanref03_Of.l0, ref_long, Option.bind_some]
    by_cases hc : left ≥ long y
    · rw [if_pos hc, w64 (by omega) (by omega), w64 (by omega) (by omega)]
      obtain ⟨y', m', d', e, hv, hn⟩ := ih k (left - long y) (y + 1) (by omega) (by omega) (by omega) (by omega) (by omega) (by omega)
      exact ⟨y', m', d', e, hv, by omega⟩
    · rw [if_neg hc]
      obtain ⟨m', d', e, hv, hn⟩ := l1_tells x4 x6 y hx 12 k left 1 (by omega) (by omega) (by omega) h1 (by rw [dm_one]; omega) (by omega)
      exact ⟨y, m', d', e, hv, by rw [dm_one] at hn; unfold dn; omega⟩
theorem ref_of (t : Int) (ht : -9223372036854775808 ≤ t ∧ t ≤ 9223372036854775807) : ∃ (y m d : Int), OB.capstanref03_Of.f 421 t = some (y, m, d, t % 86400 / 3600, t % 86400 / 60 % 60, t % 86400 % 60, (t / 86400 + 4) % 7) ∧ Vd y m d ∧ dn y m d = t / 86400 := by
  unfold OB.capstanref03_Of.f
  rw [ref_over t 86400 ht (by omega)]
  simp only [Option.bind_some]
  rw [w64 (by omega) (by omega), ref_over (t / 86400 + 4) 7 (by omega) (by omega)]
  simp only [Option.bind_some]
  rw [ref_over (t / 86400) 146097 (by omega) (by omega)]
  simp only [Option.bind_some]
  rw [w64 (a := 400 * (t / 86400 / 146097)) (by omega) (by omega), w64 (by omega) (by omega)]
  obtain ⟨y', m', d', e, hv, hn⟩ := l0_tells (t % 86400) ((t / 86400 + 4) % 7) (by omega) 401 421 (t / 86400 % 146097) (1970 + 400 * (t / 86400 / 146097)) (by omega) (by omega) (by omega) (by omega) (by omega) (by omega)
  refine ⟨y', m', d', e, hv, ?_⟩
  rw [hn]; unfold dy; omega
/-- The reference's Of is Go's. -/
theorem ref_of_f (t : Int) (ht : -9223372036854775808 ≤ t ∧ t ≤ 9223372036854775807) : OB.capstanref03_Of.f 421 t = some ((ymd (t / 86400)).1, (ymd (t / 86400)).2.1, (ymd (t / 86400)).2.2, t % 86400 / 3600, t % 86400 / 60 % 60, t % 86400 % 60, (t / 86400 + 4) % 7) := by
  obtain ⟨y, m, d, e, hv, hn⟩ := ref_of t ht
  obtain ⟨i1, i2⟩ := ymd_is (t / 86400)
  obtain ⟨rfl, rfl, rfl⟩ := uniq hv i1 (hn.trans i2.symm)
  exact e
theorem ymd_small (z : Int) : 1 ≤ (ymd z).2.1 ∧ (ymd z).2.1 ≤ 12 ∧ 1 ≤ (ymd z).2.2 ∧ (ymd z).2.2 ≤ 31 := by
  obtain ⟨hv, _⟩ := ymd_is z
  have h31 : ∀ y m, dim y m ≤ 31 := by
    intro y m
    unfold dim
    repeat' split
    all_goals omega
  have := h31 (ymd z).1 (ymd z).2.1
  obtain ⟨h1, h2, h3, h4⟩ := hv
  exact ⟨h1, h2, h3, by omega⟩
/-- In a set's bits, both ask the same. -/
theorem has_ref (a n : Int) (ha : 0 ≤ a ∧ a ≤ 18446744073709551615) (h0 : 0 ≤ n) (h1 : n < 64) : OB.capstanref04_Has.f a n = some (hasv a n) := by
  unfold OB.capstanref04_Has.f hasv
  rw [if_pos h0, if_pos h1, if_pos (wrap_nonneg n)]
  have hs : 0 ≤ shr .u64 a (IntKind.u64.wrap n) ∧ shr .u64 a (IntKind.u64.wrap n) ≤ 18446744073709551615 := by
    have h2 : (0 : Int) ≤ 2 ^ min (IntKind.u64.wrap n).toNat IntKind.u64.bits := Int.pow_nonneg (by decide)
    unfold shr
    exact ⟨Int.ediv_nonneg ha.1 h2, Int.le_trans (Int.ediv_le_self _ ha.1) ha.2⟩
  rw [and_one_u64 _ hs.1 hs.2, Int.tmod_eq_emod_of_nonneg hs.1]
end Go.Proofs.YtkmcmgfmahildaaDoor.Pr
