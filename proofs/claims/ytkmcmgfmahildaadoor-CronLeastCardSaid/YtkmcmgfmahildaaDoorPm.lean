/- CronLeast: what is to be shown of the call. -/
import Derived.Test.YtkmcmgfmahildaaDoorPl
import Derived.Test.YtkmcmgfmahildaaDoorOBx24
import Derived.Test.YtkmcmgfmahildaaDoorArgCronLeast
import Derived.OpenShut
namespace Go.Proofs.YtkmcmgfmahildaaDoor.Pm
set_option linter.unusedVariables false
open Go.RowKit Go.Proofs.YtkmcmgfmahildaaDoorW.PrintWords Go.Proofs.YtkmcmgfmahildaaDoor.OB Go.Proofs.YtkmcmgfmahildaaDoor.Cd Go.Proofs.YtkmcmgfmahildaaDoor.Pa Go.Proofs.YtkmcmgfmahildaaDoor.Pl
set_option maxRecDepth 1000000 in
theorem awake_l : capstanlaw04_awake.f 22000 = some true := by kernel_rfl
theorem tmod_zero (a k : Int) : Int.tmod a k = 0 ↔ a % k = 0 := by
  rw [← Int.dvd_iff_tmod_eq_zero, ← Int.dvd_iff_emod_eq_zero]
theorem next_f (K : Nat) (hK : 21956 ≤ K) (a b c d e t : Int) (ht : -9223372036854775808 ≤ t ∧ t ≤ 9223372036854775807) :
    ∃ r, cron_Next.f K a b c d e t = some r ∧ Ans a b c d e t ((t % 86400 + 59) / 60) 0 r := by
  unfold cron_Next.f Cw.formed.f
  simp only [Option.bind_some]
  by_cases hf : Cf.formedB a b c d e = true
  · rw [if_pos hf, rest_is, w64 (a := t % 86400 + 59) (by omega) (by omega), td _ (by omega), w64 (by omega) (by omega)]
    exact next_l0 a b c d e t ht 10228 K 0 _ (by omega) (by omega) (by omega) (by omega) (by omega) (by omega) (by omega)
  · rw [if_neg hf]
    exact ⟨_, rfl, .inl ⟨rfl, rfl⟩⟩
theorem least_l0 (a b c d e t n : Int) (hn : t ≤ n) (hn2 : n ≤ t + 1000000000) (ht : -9223372036854775808 ≤ t) (hn3 : n ≤ 9223372036854775807)
    (H : ∀ q, 1 ≤ q → q ≤ 60 → 60 * q ≤ n - t → namesv a b c d e (n - 60 * q) = false) : ∀ (g k : Nat) (q : Int), 1 ≤ q → q ≤ 61 → 61 - q ≤ g → g + 1 ≤ k →
    capstanlaw04_CronLeast.l0 k t n q a b c d e = some true := by
  intro g
  induction g with
  | zero =>
    intro k q h1 h2 h3 hk
    obtain ⟨k, rfl⟩ : ∃ k', k = k' + 1 := ⟨k - 1, by omega⟩
    unfold capstanlaw04_CronLeast.l0
    rw [if_neg (by omega)]
  | succ g ih =>
    intro k q h1 h2 h3 hk
    obtain ⟨k, rfl⟩ : ∃ k', k = k' + 1 := ⟨k - 1, by omega⟩
    unfold capstanlaw04_CronLeast.l0
    by_cases hq : q ≤ 60
    · rw [if_pos hq, w64 (a := n - t) (by omega) (by omega), w64 (a := 60 * q) (by omega) (by omega), w64 (a := q + 1) (by omega) (by omega)]
      by_cases hs : n - t ≥ 60 * q
      · rw [if_pos hs, w64 (a := n - 60 * q) (by omega) (by omega), names_f _ _ _ _ _ _ (by omega) (by omega), H q h1 hq hs]
        simp only [Option.bind_some, Bool.false_eq_true, if_false]
        exact ih k (q + 1) (by omega) (by omega) (by omega) (by omega)
      · rw [if_neg hs]
        exact ih k (q + 1) (by omega) (by omega) (by omega) (by omega)
    · rw [if_neg hq]
theorem least_f (a b c d e t : Int) (ht : -9223372036854775808 ≤ t ∧ t ≤ 9223372036854775807) : capstanlaw04_CronLeast.f 22000 a b c d e t = some true := by
  unfold capstanlaw04_CronLeast.f
  rw [awake_l]
  simp only [Option.bind_some, if_true]
  obtain ⟨⟨n, ok⟩, hr, hA⟩ := next_f 22000 (by omega) a b c d e t ht
  rw [hr]
  simp only [Option.bind_some]
  rcases hA with ⟨h1, h2⟩ | ⟨h1, k, m, q1, q2, q3, q4, q5, q6, q7, q8, q9, q10, q11⟩
  · simp only at h1 h2
    subst h1 h2
    simp
  · simp only at h1 q6 q7
    subst h1
    rw [if_pos rfl]
    have hge : t ≤ n := by
      by_cases hk : k = 0
      · have := q5 hk; subst hk; omega
      · omega
    rw [if_neg (by omega), if_pos ((tmod_zero n 60).2 (by omega)), names_f _ _ _ _ _ _ (by omega) q7, names_day, show n / 86400 = t / 86400 + k from by omega, show n % 86400 / 60 = m from by omega, q8, q9]
    simp only [Option.bind_some, Bool.and_self, Bool.not_true]
    unfold capstanlaw04_CronLeast.j0
    simp only [Bool.false_eq_true, if_false]
    refine least_l0 a b c d e t n hge (by omega) ht.1 q7 (fun q p1 p2 p3 => ?_) 60 21999 1 (by omega) (by omega) (by omega) (by omega)
    rw [names_day]
    by_cases hsame : 60 * q ≤ m * 60
    · rw [show (n - 60 * q) / 86400 = t / 86400 + k from by omega, show (n - 60 * q) % 86400 / 60 = m - q from by omega, q10 (m - q) (by omega) (by omega) (fun hk => by subst hk; omega)]
      simp
    · have hk1 : 0 ≤ k - 1 := by omega
      rw [show (n - 60 * q) / 86400 = t / 86400 + (k - 1) from by omega, show (n - 60 * q) % 86400 / 60 = m - q + 1440 from by omega]
      rcases q11 (k - 1) hk1 (by omega) with h | h
      · rw [h]; rfl
      · rw [h (m - q + 1440) (by omega) (by omega) (fun hk => by omega)]
        simp
theorem walk : ArgCronLeast.Walk := fun a b c d e t w hL ha hb hc hd he ht =>
  capstanlaw04_CronLeast.calls 22000 a b c d e t true w (least_f a b c d e t (bounds_i64 ht)) hL
end Go.Proofs.YtkmcmgfmahildaaDoor.Pm
