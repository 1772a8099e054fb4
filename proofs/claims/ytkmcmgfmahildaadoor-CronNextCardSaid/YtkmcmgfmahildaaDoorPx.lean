/- CronNext: both find the first named minute. -/
import Derived.Test.YtkmcmgfmahildaaDoorPf
import Derived.Test.YtkmcmgfmahildaaDoorPr
import Derived.Test.YtkmcmgfmahildaaDoorPl
import Derived.Test.YtkmcmgfmahildaaDoorOBx22
namespace Go.Proofs.YtkmcmgfmahildaaDoor.Px
set_option linter.unusedVariables false
open Go.RowKit Go.Proofs.YtkmcmgfmahildaaDoorW.PrintWords Go.Proofs.YtkmcmgfmahildaaDoor.OB Go.Proofs.YtkmcmgfmahildaaDoor.CivP Go.Proofs.YtkmcmgfmahildaaDoor.Cd Go.Proofs.YtkmcmgfmahildaaDoor.Pa Go.Proofs.YtkmcmgfmahildaaDoor.Pr
open Go.Proofs.YtkmcmgfmahildaaDoor.Pl (td tm minv dayv later_f dated_f)

/-- The first named minute of a day from 1440 - g on. -/
def fm (a b : Int) : Nat → Option Int
  | 0 => none
  | g + 1 => if minv a b (1440 - ((g + 1 : Nat) : Int)) = true then some (1440 - ((g + 1 : Nat) : Int)) else fm a b g
theorem fm_ge (a b : Int) : ∀ g j, g ≤ 1440 → fm a b g = some j → 1440 - (g : Int) ≤ j ∧ j < 1440
  | 0, j, _, h => by simp [fm] at h
  | g + 1, j, hg, h => by
    unfold fm at h
    split at h
    · injection h with h; omega
    · have := fm_ge a b g j (by omega) h; omega
def fit (z j : Int) : Int × Bool := if z * 86400 + j * 60 ≤ 9223372036854775807 then (z * 86400 + j * 60, true) else (0, false)
/-- The first named minute of the days from x on, n days. -/
def spec (a b c d e D : Int) : Nat → Int → Nat → Int × Bool
  | 0, _, _ => (0, false)
  | n + 1, x, g => if dayv c d e (D + x) = true then (match fm a b g with | some j => fit (D + x) j | none => spec a b c d e D n (x + 1) 1440) else spec a b c d e D n (x + 1) 1440
theorem spec_over (a b c d e D : Int) : ∀ n x g, g ≤ 1440 → 9223372036854775807 < (D + x) * 86400 → spec a b c d e D n x g = (0, false)
  | 0, x, g, _, _ => rfl
  | n + 1, x, g, hg, h => by
    have ih := spec_over a b c d e D n (x + 1) 1440 (Nat.le_refl _) (by omega)
    unfold spec
    split
    · split
      · rename_i j hj
        have := fm_ge a b g j hg hj
        unfold fit
        rw [if_neg (by omega)]
      · exact ih
    · exact ih
theorem inDay_fm (a b c d e : Int) : ∀ (g k : Nat), g ≤ 1440 → g + 1 ≤ k → cron_inDay.l0 k (1440 - (g : Int)) a b c d e = some (match fm a b g with | some j => (j, true) | none => (0, false))
  | 0, k, _, hk => by
    obtain ⟨k, rfl⟩ : ∃ k', k = k' + 1 := ⟨k - 1, by omega⟩
    unfold cron_inDay.l0
    rw [if_neg (by omega)]
    rfl
  | g + 1, k, hg, hk => by
    obtain ⟨k, rfl⟩ : ∃ k', k = k' + 1 := ⟨k - 1, by omega⟩
    have ih := inDay_fm a b c d e g k (by omega) (by omega)
    unfold cron_inDay.l0 fm
    rw [if_pos (by omega), td _ (by omega), tm _ (by omega), w64 (by omega) (by omega), w64 (a := 1440 - ((g + 1 : Nat) : Int) + 1) (by omega) (by omega), has_f, has_f, show 1440 - ((g + 1 : Nat) : Int) + 1 = 1440 - (g : Int) from by omega, ih]
    simp only [Option.bind_some]
    unfold minv
    cases hasv b ((1440 - ((g + 1 : Nat) : Int)) / 60) <;> cases hasv a ((1440 - ((g + 1 : Nat) : Int)) % 60) <;> rfl
theorem go_l0 (a b c d e t : Int) (ht : -9223372036854775808 ≤ t ∧ t ≤ 9223372036854775807) : ∀ (n k g : Nat), n ≤ 10228 → g ≤ 1440 → (n = 10228 → t % 86400 ≤ (1440 - (g : Int)) * 60) → 2 * n + 1500 ≤ k →
    cron_Next.l0 k t (t % 86400) (1440 - (g : Int)) (10228 - (n : Int)) a b c d e = some (spec a b c d e (t / 86400) n (10228 - (n : Int)) g) := by
  intro n
  induction n with
  | zero =>
    intro k g _ _ _ hk
    obtain ⟨k, rfl⟩ : ∃ k', k = k' + 1 := ⟨k - 1, by omega⟩
    unfold cron_Next.l0
    rw [if_neg (by omega)]
    rfl
  | succ n ih =>
    intro k g hn hg h5 hk
    obtain ⟨k, rfl⟩ : ∃ k', k = k' + 1 + 1 := ⟨k - 2, by omega⟩
    have ih := ih k 1440 (by omega) (by omega) (by omega) (by omega)
    rw [show 1440 - ((1440 : Nat) : Int) = 0 from by omega] at ih
    obtain ⟨x, hx⟩ : ∃ x : Int, 10228 - ((n + 1 : Nat) : Int) = x := ⟨_, rfl⟩
    rw [show 10228 - (n : Int) = x + 1 from by omega] at ih
    rw [hx]
    have x0 : 0 ≤ x := by omega
    have x1 : x < 10228 := by omega
    have h5 : x = 0 → t % 86400 ≤ (1440 - (g : Int)) * 60 := fun h => h5 (by omega)
    clear hn hx
    unfold cron_Next.l0
    rw [if_pos x1, w64 (a := x * 86400) (by omega) (by omega), later_f t (x * 86400) ht (by omega)]
    simp only [Option.bind_some]
    have hj : ∀ s : Int, -9223372036854775808 ≤ s → s ≤ 9223372036854775807 → s / 86400 = t / 86400 + x → cron_Next.j1 (k + 1) t (t % 86400) (1440 - (g : Int)) x s true x a b c d e = some (spec a b c d e (t / 86400) (n + 1) x g) := by
      intro s s1 s2 s3
      unfold cron_Next.j1 spec
      rw [if_pos rfl]
      unfold Of.f
      rw [if_pos ⟨s1, s2⟩]
      simp only [Option.bind_some, s3]
      rw [dated_f]
      simp only [Option.bind_some]
      rw [w64 (a := x + 1) (by omega) (by omega)]
      by_cases hd : dayv c d e (t / 86400 + x) = true
      · rw [if_pos hd, if_pos hd]
        unfold cron_inDay.f
        rw [inDay_fm a b c d e g k hg (by omega)]
        simp only [Option.bind_some]
        cases hfm : fm a b g with
        | none =>
          simp only [Bool.false_eq_true, if_false]
          exact ih
        | some m =>
          obtain ⟨m1, m2⟩ := fm_ge a b g m hg hfm
          simp only [if_true]
          rw [w64 (a := x * 86400) (by omega) (by omega), w64 (a := m * 60) (by omega) (by omega), w64 (a := x * 86400 + m * 60) (by omega) (by omega)]
          have hge : 0 ≤ x * 86400 + m * 60 - t % 86400 := by
            by_cases hx0 : x = 0
            · have := h5 hx0; omega
            · omega
          rw [w64 (by omega) (by omega), later_f t _ ht (by omega)]
          simp only [Option.bind_some]
          unfold fit
          rw [show t + (x * 86400 + m * 60 - t % 86400) = (t / 86400 + x) * 86400 + m * 60 from by omega]
      · rw [if_neg hd, if_neg hd]
        exact ih
    by_cases hfit : t + x * 86400 ≤ 9223372036854775807
    · rw [if_pos hfit]
      simp only [if_true]
      exact hj _ (by omega) hfit (by omega)
    · rw [if_neg hfit]
      simp only [Bool.false_eq_true, if_false]
      rw [w64 (a := t - t % 86400) (by omega) (by omega), later_f (t - t % 86400) (x * 86400) (by omega) (by omega)]
      simp only [Option.bind_some]
      by_cases hfit2 : t - t % 86400 + x * 86400 ≤ 9223372036854775807
      · rw [if_pos hfit2]
        exact hj _ (by omega) hfit2 (by omega)
      · rw [if_neg hfit2]
        unfold cron_Next.j1
        simp only [Bool.false_eq_true, if_false]
        rw [spec_over a b c d e (t / 86400) (n + 1) x g hg (by omega)]
/-- The date of the next day. -/
theorem succ_day (z y m d : Int) (h : ymd z = (y, m, d)) : ymd (z + 1) = (if d + 1 > dim y m then (if m + 1 > 12 then (y + 1, 1, 1) else (y, m + 1, 1)) else (y, m, d + 1)) := by
  obtain ⟨hv, hn⟩ := ymd_is z
  rw [h] at hv hn
  simp only at hv hn
  obtain ⟨hv', hn'⟩ := ymd_is (z + 1)
  obtain ⟨h1, h2, h3, h4⟩ := hv
  have fin : ∀ y2 m2 d2, Vd y2 m2 d2 → dn y2 m2 d2 = z + 1 → ymd (z + 1) = (y2, m2, d2) := by
    intro y2 m2 d2 w1 w2
    obtain ⟨e1, e2, e3⟩ := uniq hv' w1 (hn'.trans w2.symm)
    exact Prod.ext e1 (Prod.ext e2 e3)
  unfold dn at hn fin
  by_cases hd : d + 1 > dim y m
  · rw [if_pos hd]
    by_cases hm : m + 1 > 12
    · rw [if_pos hm]
      have e12 : m = 12 := by omega
      subst e12
      refine fin (y + 1) 1 1 ⟨by omega, by omega, by omega, by have := dim_pos (y + 1) 1 (by omega) (by omega); omega⟩ ?_
      have s1 := dm_step y 12 (by omega) (by omega)
      have s2 := dm_end y
      have s3 := lp_step y
      rw [dm_one]
      rw [show (12 : Int) + 1 = 13 from by omega] at s1
      omega
    · rw [if_neg hm]
      refine fin y (m + 1) 1 ⟨by omega, by omega, by omega, by have := dim_pos y (m + 1) (by omega) (by omega); omega⟩ ?_
      have s1 := dm_step y m h1 h2
      omega
  · rw [if_neg hd]
    exact fin y m (d + 1) ⟨h1, h2, by omega, by omega⟩ (by omega)
theorem ymd_year (z : Int) (h1 : -200000000000000 ≤ z) (h2 : z ≤ 200000000000000) : -1000000000000 ≤ (ymd z).1 ∧ (ymd z).1 ≤ 1000000000000 := by
  unfold ymd yoe pre
  simp only
  split <;> omega
section
variable (a b c d e t : Int) (y mo da h mi s wk : Int)
theorem ref_l1 (ha : 0 ≤ a ∧ a ≤ 18446744073709551615) (hb : 0 ≤ b ∧ b ≤ 18446744073709551615) (ht : -9223372036854775808 ≤ t ∧ t ≤ 9223372036854775807) (x : Int) (hx0 : 0 ≤ x) (hx1 : x < 10228) (g0 : Nat) (hg0 : g0 ≤ 1440)
    (hsk : x = 0 → ∀ m : Int, 60 * m < t % 86400 ↔ m < 1440 - (g0 : Int)) (hsk2 : x ≠ 0 → g0 = 1440) : ∀ (g k : Nat), g ≤ 1440 → 2 * g + 2 ≤ k →
    (∃ j, fm a b (min g g0) = some j ∧ capstanref04_Next.l1 k t (t / 86400) (t % 86400) x (1440 - (g : Int)) a b c d e y mo da h mi s wk = some (fit (t / 86400 + x) j)) ∨
      (fm a b (min g g0) = none ∧ ∃ k', k ≤ k' + 2 * g + 1 ∧ capstanref04_Next.l1 k t (t / 86400) (t % 86400) x (1440 - (g : Int)) a b c d e y mo da h mi s wk = capstanref04_Next.j4 k' t (t / 86400) (t % 86400) x a b c d e y mo da h mi s wk)
  | 0, k, _, hk => by
    obtain ⟨k, rfl⟩ : ∃ k', k = k' + 1 := ⟨k - 1, by omega⟩
    refine .inr ⟨by simp [fm], k, by omega, ?_⟩
    rw [capstanref04_Next.l1, if_neg (by omega)]
  | g + 1, k, hg, hk => by
    obtain ⟨k, rfl⟩ : ∃ k', k = k' + 1 + 1 := ⟨k - 2, by omega⟩
    have ih := ref_l1 ha hb ht x hx0 hx1 g0 hg0 hsk hsk2 g k (by omega) (by omega)
    obtain ⟨m, hm⟩ : ∃ m : Int, 1440 - ((g + 1 : Nat) : Int) = m := ⟨_, rfl⟩
    rw [show 1440 - (g : Int) = m + 1 from by omega] at ih
    rw [hm]
    have m0 : 0 ≤ m := by omega
    have m1 : m < 1440 := by omega
    have skip : capstanref04_Next.j3 (k + 1) t (t / 86400) (t % 86400) x m true a b c d e y mo da h mi s wk = capstanref04_Next.l1 k t (t / 86400) (t % 86400) x (m + 1) a b c d e y mo da h mi s wk := by
      rw [capstanref04_Next.j3, if_pos rfl, w64 (by omega) (by omega)]
    have take : (x = 0 → t % 86400 ≤ 60 * m) → capstanref04_Next.j3 (k + 1) t (t / 86400) (t % 86400) x m false a b c d e y mo da h mi s wk = some (fit (t / 86400 + x) m) := by
      intro hlow
      have hlow2 : -9223372036854775808 ≤ (t / 86400 + x) * 86400 + m * 60 := by
        by_cases hx : x = 0
        · have := hlow hx; omega
        · omega
      rw [capstanref04_Next.j3, if_neg (by simp), ref_over 9223372036854775807 86400 (by omega) (by omega)]
      simp only [Option.bind_some]
      rw [w64 (a := t / 86400 + x) (by omega) (by omega), w64 (a := 60 * m) (by omega) (by omega), w64 (a := x * 86400) (by omega) (by omega), w64 (a := x * 86400 + 60 * m) (by omega) (by omega), w64 (a := x * 86400 + 60 * m - t % 86400) (by omega) (by omega)]
      unfold fit
      by_cases h1 : t / 86400 + x > 9223372036854775807 / 86400
      · rw [if_pos h1, if_neg (by omega)]
      · rw [if_neg h1]
        by_cases h2 : t / 86400 + x = 9223372036854775807 / 86400
        · rw [if_pos h2]
          by_cases h3 : 60 * m > 9223372036854775807 % 86400
          · rw [if_pos h3, if_neg (by omega)]
          · rw [if_neg h3, if_pos (by omega), w64 (by omega) (by omega), show t + (x * 86400 + 60 * m - t % 86400) = (t / 86400 + x) * 86400 + m * 60 from by omega]
        · rw [if_neg h2, if_pos (by omega), w64 (by omega) (by omega), show t + (x * 86400 + 60 * m - t % 86400) = (t / 86400 + x) * 86400 + m * 60 from by omega]
    have asked : g + 1 ≤ g0 → ((capstanref04_Has.f b (wrap64 (Int.tdiv m 60))).bind fun t242 => (if t242 = true then ((capstanref04_Has.f a (Int.tmod m 60)).bind fun t243 => (capstanref04_Next.j3 (k + 1) t (t / 86400) (t % 86400) x m (!t243) a b c d e y mo da h mi s wk)) else (capstanref04_Next.j3 (k + 1) t (t / 86400) (t % 86400) x m true a b c d e y mo da h mi s wk))) = (if minv a b m = true then some (fit (t / 86400 + x) m) else capstanref04_Next.l1 k t (t / 86400) (t % 86400) x (m + 1) a b c d e y mo da h mi s wk) := by
      intro hgg
      have take := take (fun hx => by
        have := hsk hx m
        by_cases h : 60 * m < t % 86400
        · have := this.1 h; omega
        · omega)
      rw [td m m0, tm m m0, w64 (by omega) (by omega), has_ref b _ hb (by omega) (by omega), has_ref a _ ha (by omega) (by omega)]
      simp only [Option.bind_some]
      unfold minv
      cases hasv b (m / 60) <;> cases hasv a (m % 60) <;> simp [skip, take]
    have fin : g + 1 ≤ g0 → ∀ X, X = (if minv a b m = true then some (fit (t / 86400 + x) m) else capstanref04_Next.l1 k t (t / 86400) (t % 86400) x (m + 1) a b c d e y mo da h mi s wk) →
        (∃ j, fm a b (min (g + 1) g0) = some j ∧ X = some (fit (t / 86400 + x) j)) ∨ (fm a b (min (g + 1) g0) = none ∧ ∃ k', k + 1 + 1 ≤ k' + 2 * (g + 1) + 1 ∧ X = capstanref04_Next.j4 k' t (t / 86400) (t % 86400) x a b c d e y mo da h mi s wk) := by
      intro hgg X hX
      rw [Nat.min_eq_left hgg]
      rw [Nat.min_eq_left (by omega)] at ih
      unfold fm
      rw [hm]
      by_cases hv : minv a b m = true
      · rw [if_pos hv] at hX ⊢
        exact .inl ⟨m, rfl, hX⟩
      · rw [if_neg hv] at hX ⊢
        rcases ih with ⟨j, i1, i2⟩ | ⟨i1, k', i2, i3⟩
        · exact .inl ⟨j, i1, hX.trans i2⟩
        · exact .inr ⟨i1, k', by omega, hX.trans i3⟩
    rw [capstanref04_Next.l1, if_pos m1]
    by_cases hx : x = 0
    · rw [if_pos hx, w64 (a := 60 * m) (by omega) (by omega)]
      by_cases hs : 60 * m < t % 86400
      · rw [if_pos hs, skip]
        have := (hsk hx m).1 hs
        rw [Nat.min_eq_right (by omega)] at ih ⊢
        rcases ih with ⟨j, i1, i2⟩ | ⟨i1, k', i2, i3⟩
        · exact .inl ⟨j, i1, i2⟩
        · exact .inr ⟨i1, k', by omega, i3⟩
      · rw [if_neg hs]
        have : ¬ m < 1440 - (g0 : Int) := fun h => hs ((hsk hx m).2 h)
        exact fin (by omega) _ (asked (by omega))
    · rw [if_neg hx]
      have := hsk2 hx
      exact fin (by omega) _ (asked (by omega))
end
theorem lift {α : Type} {f : Nat → Option α} (hm : ∀ k, LeO (f k) (f (k + 1))) {r : α} : ∀ (n k : Nat), f k = some r → f (k + n) = some r
  | 0, k, h => h
  | n + 1, k, h => hm (k + n) _ (lift hm n k h)
section
variable (a b c d e t : Int)
theorem ref_l0 (ha : 0 ≤ a ∧ a ≤ 18446744073709551615) (hb : 0 ≤ b ∧ b ≤ 18446744073709551615) (hc : 0 ≤ c ∧ c ≤ 18446744073709551615) (hd : 0 ≤ d ∧ d ≤ 18446744073709551615) (he : 0 ≤ e ∧ e ≤ 18446744073709551615)
    (ht : -9223372036854775808 ≤ t ∧ t ≤ 9223372036854775807) (h mi s : Int) : ∀ (n k g0 : Nat), n ≤ 10228 → g0 ≤ 1440 → (n = 10228 → ∀ m : Int, 60 * m < t % 86400 ↔ m < 1440 - (g0 : Int)) → (n ≠ 10228 → g0 = 1440) → 2900 * n + 10 ≤ k →
    ∀ y mo da, ymd (t / 86400 + (10228 - (n : Int))) = (y, mo, da) →
    capstanref04_Next.l0 k t (t / 86400) (t % 86400) (10228 - (n : Int)) a b c d e y mo da h mi s ((t / 86400 + (10228 - (n : Int)) + 4) % 7) = some (spec a b c d e (t / 86400) n (10228 - (n : Int)) g0) := by
  intro n
  induction n with
  | zero =>
    intro k g0 _ _ _ _ hk y mo da hy
    obtain ⟨k, rfl⟩ : ∃ k', k = k' + 1 := ⟨k - 1, by omega⟩
    rw [capstanref04_Next.l0, if_neg (by omega)]
    rfl
  | succ n ih =>
    intro k g0 hn hg0 hsk hsk2 hk y mo da hy
    obtain ⟨k, rfl⟩ : ∃ k', k = k' + 1 + 1 := ⟨k - 2, by omega⟩
    obtain ⟨x, hx⟩ : ∃ x : Int, 10228 - ((n + 1 : Nat) : Int) = x := ⟨_, rfl⟩
    have hnx : 10228 - (n : Int) = x + 1 := by omega
    simp only [hnx] at ih
    rw [hx] at hy ⊢
    have x0 : 0 ≤ x := by omega
    have x1 : x < 10228 := by omega
    have hsk : x = 0 → ∀ m : Int, 60 * m < t % 86400 ↔ m < 1440 - (g0 : Int) := fun h => hsk (by omega)
    have hsk2 : x ≠ 0 → g0 = 1440 := fun h => hsk2 (by omega)
    obtain ⟨s1, s2, s3, s4⟩ := ymd_small (t / 86400 + x)
    obtain ⟨yb1, yb2⟩ := ymd_year (t / 86400 + x) (by omega) (by omega)
    have hs := succ_day _ y mo da hy
    obtain ⟨i1, i2⟩ := ymd_is (t / 86400 + x)
    have hday : dayv c d e (t / 86400 + x) = (hasv c da && (hasv d mo && hasv e ((t / 86400 + x + 4) % 7))) := by unfold dayv; rw [hy]
    rw [hy] at s1 s2 s3 s4 yb1 yb2
    simp only at s1 s2 s3 s4 yb1 yb2
    have next : ∀ k', 2900 * n + 10 ≤ k' → capstanref04_Next.j4 (k' + 1 + 2) t (t / 86400) (t % 86400) x a b c d e y mo da h mi s ((t / 86400 + x + 4) % 7) = some (spec a b c d e (t / 86400) n (x + 1) 1440) := by
      intro k' hk'
      have hw : Int.tmod (wrap64 ((t / 86400 + x + 4) % 7 + 1)) 7 = (t / 86400 + (x + 1) + 4) % 7 := by
        rw [w64 (by omega) (by omega), tm _ (by omega)]; omega
      rw [capstanref04_Next.j4, ref_days k' y mo]
      simp only [Option.bind_some]
      rw [hw, w64 (a := da + 1) (by omega) (by omega), w64 (a := mo + 1) (by omega) (by omega), w64 (a := x + 1) (by omega) (by omega), w64 (a := y + 1) (by omega) (by omega)]
      have go := ih (k' + 2) 1440 (by omega) (Nat.le_refl _) (by omega) (fun _ => rfl) (by omega)
      rw [show t / 86400 + (x + 1) = t / 86400 + x + 1 from by omega] at go ⊢
      by_cases q1 : da + 1 > dim y mo
      · rw [if_pos q1] at hs ⊢
        by_cases q2 : mo + 1 > 12
        · rw [if_pos q2] at hs ⊢
          exact go _ _ _ hs
        · rw [if_neg q2] at hs ⊢
          exact go _ _ _ hs
      · rw [if_neg q1] at hs ⊢
        rw [if_neg (by omega)]
        exact go _ _ _ hs
    have hj1 : ∀ v, v = dayv c d e (t / 86400 + x) → capstanref04_Next.j1 (k + 1) t (t / 86400) (t % 86400) x v a b c d e y mo da h mi s ((t / 86400 + x + 4) % 7) = some (spec a b c d e (t / 86400) (n + 1) x g0) := by
      intro v hv
      rw [capstanref04_Next.j1]
      unfold spec
      by_cases hdv : v = true
      · rw [if_pos hdv, if_pos (hv ▸ hdv)]
        have hl := ref_l1 a b c d e t y mo da h mi s ((t / 86400 + x + 4) % 7) ha hb ht x x0 x1 g0 hg0 hsk hsk2 1440 k (by omega) (by omega)
        rw [show (1440 : Int) - ((1440 : Nat) : Int) = 0 from by omega, Nat.min_eq_right hg0] at hl
        rcases hl with ⟨j, l1, l2⟩ | ⟨l1, k', l2, l3⟩
        · rw [l1, l2]
        · rw [l1, l3]
          obtain ⟨k2, rfl⟩ : ∃ k2, k' = k2 + 1 + 2 := ⟨k' - 3, by omega⟩
          exact next k2 (by omega)
      · rw [if_neg hdv, if_neg (hv ▸ hdv)]
        obtain ⟨k2, rfl⟩ : ∃ k2, k = k2 + 1 + 2 := ⟨k - 3, by omega⟩
        exact next k2 (by omega)
    rw [capstanref04_Next.l0, if_pos x1, has_ref c da hc (by omega) (by omega), has_ref d mo hd (by omega) (by omega), has_ref e _ he (by omega) (by omega)]
    simp only [Option.bind_some]
    cases h1 : hasv c da
    · simp only [Bool.false_eq_true, if_false]
      exact hj1 false (by rw [hday, h1]; rfl)
    · simp only [if_true]
      cases h2 : hasv d mo
      · simp only [Bool.false_eq_true, if_false]
        exact hj1 false (by rw [hday, h1, h2]; rfl)
      · simp only [if_true]
        exact hj1 _ (by rw [hday, h1, h2]; rfl)
end
end Go.Proofs.YtkmcmgfmahildaaDoor.Px
