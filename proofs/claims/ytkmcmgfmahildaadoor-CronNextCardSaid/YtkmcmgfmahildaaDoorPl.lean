/- What cron.Next computes: the first named minute from the second on. -/
import Derived.Test.YtkmcmgfmahildaaDoorPa
import Derived.Test.YtkmcmgfmahildaaDoorOBx19
namespace Go.Proofs.YtkmcmgfmahildaaDoor.Pl
set_option linter.unusedVariables false
open Go.RowKit Go.Proofs.YtkmcmgfmahildaaDoorW.PrintWords Go.Proofs.YtkmcmgfmahildaaDoor.OB Go.Proofs.YtkmcmgfmahildaaDoor.Cd Go.Proofs.YtkmcmgfmahildaaDoor.Pa

theorem td (a : Int) (h : 0 ≤ a) (b : Int) : Int.tdiv a b = a / b := Int.tdiv_eq_ediv_of_nonneg h
theorem tm (a : Int) (h : 0 ≤ a) (b : Int) : Int.tmod a b = a % b := Int.tmod_eq_emod_of_nonneg h
theorem w64 {a : Int} (h1 : -9223372036854775808 ≤ a) (h2 : a ≤ 9223372036854775807) : wrap64 a = a := by unfold wrap64; omega
theorem later_f (a n : Int) (ha : -9223372036854775808 ≤ a ∧ a ≤ 9223372036854775807) (hn : 0 ≤ n ∧ n ≤ 1000000000000) : cron_later.f a n = some (if a + n ≤ 9223372036854775807 then (a + n, true) else (0, false)) := by
  unfold cron_later.f
  rw [w64 (a := 9223372036854775807 - n) (by omega) (by omega)]
  by_cases h : a + n ≤ 9223372036854775807
  · rw [if_neg (by omega), if_pos h, w64 (by omega) h]
  · rw [if_pos (by omega), if_neg h]
theorem rest_is (t : Int) : Int.tmod (wrap64 ((Int.tmod t 86400) + 86400)) 86400 = t % 86400 := by
  by_cases h : 0 ≤ t
  · rw [tm t h, w64 (by omega) (by omega), tm _ (by omega)]; omega
  · have e : Int.tmod t 86400 = -((-t) % 86400) := by rw [← tm (-t) (by omega), Int.neg_tmod, Int.neg_neg]
    rw [e, w64 (by omega) (by omega), tm _ (by omega)]; omega
/-- A minute of a day is named. -/
def minv (a b m : Int) : Bool := hasv b (m / 60) && hasv a (m % 60)
/-- The first named minute of a day from m on. -/
theorem inDay_f (a b c d e : Int) : ∀ (n k : Nat) (m : Int), 0 ≤ m → m ≤ 1440 → 1440 - m ≤ n → n + 1 ≤ k →
    ((∃ j, m ≤ j ∧ j < 1440 ∧ minv a b j = true ∧ (∀ i, m ≤ i → i < j → minv a b i = false) ∧ cron_inDay.l0 k m a b c d e = some (j, true)) ∨
      ((∀ i, m ≤ i → i < 1440 → minv a b i = false) ∧ cron_inDay.l0 k m a b c d e = some (0, false))) := by
  intro n
  induction n with
  | zero =>
    intro k m h0 h1 h2 hk
    obtain ⟨k, rfl⟩ : ∃ k', k = k' + 1 := ⟨k - 1, by omega⟩
    refine .inr ⟨fun i _ _ => by omega, ?_⟩
    unfold cron_inDay.l0
    rw [if_neg (by omega)]
  | succ n ih =>
    intro k m h0 h1 h2 hk
    obtain ⟨k, rfl⟩ : ∃ k', k = k' + 1 := ⟨k - 1, by omega⟩
    unfold cron_inDay.l0
    by_cases hm : m < 1440
    · rw [if_pos hm, td m h0, tm m h0, w64 (a := m / 60) (by omega) (by omega), w64 (a := m + 1) (by omega) (by omega), has_f, has_f]
      simp only [Option.bind_some]
      have hnext : minv a b m = false → _ := fun hf => (show ((∃ j, m ≤ j ∧ j < 1440 ∧ minv a b j = true ∧ (∀ i, m ≤ i → i < j → minv a b i = false) ∧ cron_inDay.l0 k (m + 1) a b c d e = some (j, true)) ∨
        ((∀ i, m ≤ i → i < 1440 → minv a b i = false) ∧ cron_inDay.l0 k (m + 1) a b c d e = some (0, false))) from by
          have hcov : ∀ i, m ≤ i → i = m ∨ m + 1 ≤ i := fun i hi => by omega
          rcases ih k (m + 1) (by omega) (by omega) (by omega) (by omega) with ⟨j, j1, j2, j3, j4, j5⟩ | ⟨j4, j5⟩
          · refine .inl ⟨j, by omega, j2, j3, fun i i1 i2 => ?_, j5⟩
            rcases hcov i i1 with rfl | h
            · exact hf
            · exact j4 i h i2
          · refine .inr ⟨fun i i1 i2 => ?_, j5⟩
            rcases hcov i i1 with rfl | h
            · exact hf
            · exact j4 i h i2)
      by_cases hb : hasv b (m / 60) = true
      · rw [if_pos hb]
        by_cases hA : hasv a (m % 60) = true
        · rw [if_pos hA]
          exact .inl ⟨m, by omega, hm, by unfold minv; rw [hb, hA]; rfl, fun i _ _ => by omega, rfl⟩
        · rw [if_neg hA]
          exact hnext (by unfold minv; simp [hA])
      · rw [if_neg hb]
        exact hnext (by unfold minv; simp [hb])
    · rw [if_neg hm]
      exact .inr ⟨fun i _ _ => by omega, rfl⟩
/-- A day is named. -/
def dayv (c d e z : Int) : Bool := hasv c (ymd z).2.2 && (hasv d (ymd z).2.1 && hasv e ((z + 4) % 7))
theorem dated_f (a b c d e z y h mi s : Int) : cron_dated.f a b c d e y (ymd z).2.1 (ymd z).2.2 h mi s ((z + 4) % 7) = some (dayv c d e z) := by
  unfold cron_dated.f dayv
  simp only [has_f, Option.bind_some]
  cases hasv c (ymd z).2.2 <;> cases hasv d (ymd z).2.1 <;> cases hasv e ((z + 4) % 7) <;> rfl
theorem names_day (a b c d e t : Int) : namesv a b c d e t = (dayv c d e (t / 86400) && minv a b (t % 86400 / 60)) := by
  unfold namesv dayv minv
  rw [show t % 86400 / 60 / 60 = t % 86400 / 3600 from by omega]
  cases hasv c (ymd (t / 86400)).2.2 <;> cases hasv d (ymd (t / 86400)).2.1 <;> cases hasv e ((t / 86400 + 4) % 7) <;> cases hasv b (t % 86400 / 3600) <;> cases hasv a (t % 86400 / 60 % 60) <;> rfl
/-- What Next answers from a day on: the first named minute of the days ahead, or none that fits. -/
def Ans (a b c d e t fr x : Int) (r : Int × Bool) : Prop :=
  (r.2 = false ∧ r.1 = 0) ∨ (r.2 = true ∧ ∃ k m : Int, x ≤ k ∧ k < 10228 ∧ 0 ≤ m ∧ m < 1440 ∧ (k = x → fr ≤ m) ∧ r.1 = (t / 86400 + k) * 86400 + m * 60 ∧ r.1 ≤ 9223372036854775807 ∧
    dayv c d e (t / 86400 + k) = true ∧ minv a b m = true ∧ (∀ i, 0 ≤ i → i < m → (k = x → fr ≤ i) → minv a b i = false) ∧
    ∀ j, x ≤ j → j < k → dayv c d e (t / 86400 + j) = false ∨ ∀ i, 0 ≤ i → i < 1440 → (j = x → fr ≤ i) → minv a b i = false)
theorem next_l0 (a b c d e t : Int) (ht : -9223372036854775808 ≤ t ∧ t ≤ 9223372036854775807) : ∀ (n k : Nat) (x fr : Int), 0 ≤ x → x ≤ 10228 → 10228 - x ≤ n → 0 ≤ fr → fr ≤ 1440 → (x = 0 → t % 86400 ≤ fr * 60) → 2 * n + 1500 ≤ k →
    ∃ r, cron_Next.l0 k t (t % 86400) fr x a b c d e = some r ∧ Ans a b c d e t fr x r := by
  intro n
  induction n with
  | zero =>
    intro k x fr h0 h1 h2 h3 h4 h5 hk
    obtain ⟨k, rfl⟩ : ∃ k', k = k' + 1 := ⟨k - 1, by omega⟩
    unfold cron_Next.l0
    rw [if_neg (by omega)]
    exact ⟨_, rfl, .inl ⟨rfl, rfl⟩⟩
  | succ n ih =>
    intro k x fr h0 h1 h2 h3 h4 h5 hk
    obtain ⟨k, rfl⟩ : ∃ k', k = k' + 1 + 1 := ⟨k - 2, by omega⟩
    unfold cron_Next.l0
    by_cases hx : x < 10228
    · rw [if_pos hx, w64 (a := x * 86400) (by omega) (by omega), later_f t (x * 86400) ht (by omega)]
      simp only [Option.bind_some]
      have hj : ∀ s : Int, -9223372036854775808 ≤ s → s ≤ 9223372036854775807 → s / 86400 = t / 86400 + x → ∃ r, cron_Next.j1 (k + 1) t (t % 86400) fr x s true x a b c d e = some r ∧ Ans a b c d e t fr x r := by
        intro s s1 s2 s3
        have hgo : (dayv c d e (t / 86400 + x) = false ∨ ∀ i, 0 ≤ i → i < 1440 → fr ≤ i → minv a b i = false) → ∃ r, cron_Next.l0 k t (t % 86400) 0 (x + 1) a b c d e = some r ∧ Ans a b c d e t fr x r := by
          intro hno
          obtain ⟨r, hr, hA⟩ := ih k (x + 1) 0 (by omega) (by omega) (by omega) (by omega) (by omega) (by omega) (by omega)
          refine ⟨r, hr, ?_⟩
          rcases hA with hA | ⟨hA, q, m, q1, q2, q3, q4, q5, q6, q7, q8, q9, q10, q11⟩
          · exact .inl hA
          · refine .inr ⟨hA, q, m, by omega, q2, q3, q4, by omega, q6, q7, q8, q9, fun i i1 i2 _ => q10 i i1 i2 (by omega), fun j j1 j2 => ?_⟩
            by_cases hjx : j = x
            · subst hjx
              rcases hno with hno | hno
              · exact .inl hno
              · exact .inr fun i i1 i2 i3 => hno i i1 i2 (i3 rfl)
            · rcases q11 j (by omega) j2 with h | h
              · exact .inl h
              · exact .inr fun i i1 i2 i3 => h i i1 i2 (by omega)
        unfold cron_Next.j1
        rw [if_pos rfl]
        unfold Of.f
        rw [if_pos ⟨s1, s2⟩]
        simp only [Option.bind_some, s3]
        rw [dated_f]
        simp only [Option.bind_some]
        rw [w64 (a := x + 1) (by omega) (by omega)]
        by_cases hd : dayv c d e (t / 86400 + x) = true
        · rw [if_pos hd]
          unfold cron_inDay.f
          rcases inDay_f a b c d e 1440 k fr h3 h4 (by omega) (by omega) with ⟨m, m1, m2, m3, m4, m5⟩ | ⟨m4, m5⟩
          · rw [m5]
            simp only [Option.bind_some, if_true]
            rw [w64 (a := x * 86400) (by omega) (by omega), w64 (a := m * 60) (by omega) (by omega), w64 (a := x * 86400 + m * 60) (by omega) (by omega)]
            have hge : 0 ≤ x * 86400 + m * 60 - t % 86400 := by
              by_cases hx0 : x = 0
              · have := h5 hx0; omega
              · omega
            rw [w64 (by omega) (by omega), later_f t _ ht (by omega)]
            simp only [Option.bind_some]
            by_cases hfit : t + (x * 86400 + m * 60 - t % 86400) ≤ 9223372036854775807
            · rw [if_pos hfit]
              refine ⟨_, rfl, .inr ⟨rfl, x, m, by omega, hx, by omega, m2, fun _ => m1, ?_, hfit, hd, m3, fun i i1 i2 i3 => m4 i (i3 rfl) i2, fun j j1 j2 => by omega⟩⟩
              show t + (x * 86400 + m * 60 - t % 86400) = _
              omega
            · rw [if_neg hfit]
              exact ⟨_, rfl, .inl ⟨rfl, rfl⟩⟩
          · rw [m5]
            simp only [Option.bind_some, Bool.false_eq_true, if_false]
            exact hgo (.inr fun i i1 i2 i3 => m4 i i3 i2)
        · rw [if_neg hd]
          exact hgo (.inl (by simpa using hd))
      by_cases hfit : t + x * 86400 ≤ 9223372036854775807
      · rw [if_pos hfit]
        simp only [if_true]
        exact hj _ (by omega) hfit (by omega)
      · rw [if_neg hfit]
        simp only [Bool.false_eq_true, if_false]
        rw [w64 (a := t - t % 86400) (by omega) (by omega), later_f (t - t % 86400) (x * 86400) (by omega) (by omega)]
        simp only [Option.bind_some]
        by_cases hfit2 : t - t % 86400 + x * 86400 ≤ 9223372036854775807
        · rw [if_pos hfit2]
          exact hj _ (by omega) hfit2 (by omega)
        · rw [if_neg hfit2]
          unfold cron_Next.j1
          simp only [Bool.false_eq_true, if_false]
          exact ⟨_, rfl, .inl ⟨rfl, rfl⟩⟩
    · rw [if_neg hx]
      exact ⟨_, rfl, .inl ⟨rfl, rfl⟩⟩
end Go.Proofs.YtkmcmgfmahildaaDoor.Pl
