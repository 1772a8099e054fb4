/- CronNext: what is to be shown of the call. -/
import Derived.Test.YtkmcmgfmahildaaDoorPx
import Derived.Test.YtkmcmgfmahildaaDoorArgCronNext
namespace Go.Proofs.YtkmcmgfmahildaaDoor.Py
set_option linter.unusedVariables false
open Go.RowKit Go.Proofs.YtkmcmgfmahildaaDoorW.PrintWords Go.Proofs.YtkmcmgfmahildaaDoor.OB Go.Proofs.YtkmcmgfmahildaaDoor.CivP Go.Proofs.YtkmcmgfmahildaaDoor.Cd Go.Proofs.YtkmcmgfmahildaaDoor.Pa Go.Proofs.YtkmcmgfmahildaaDoor.Pr Go.Proofs.YtkmcmgfmahildaaDoor.Px
theorem next_f (a b c d e t : Int) (ha : 0 ≤ a ∧ a ≤ 18446744073709551615) (hb : 0 ≤ b ∧ b ≤ 18446744073709551615) (hc : 0 ≤ c ∧ c ≤ 18446744073709551615) (hd : 0 ≤ d ∧ d ≤ 18446744073709551615) (he : 0 ≤ e ∧ e ≤ 18446744073709551615)
    (ht : -9223372036854775808 ≤ t ∧ t ≤ 9223372036854775807) : capstanlaw04_CronNext.f 30000000 a b c d e t = some true := by
  have hK : ∃ K : Nat, K = 30000000 := ⟨_, rfl⟩
  have aw : capstanlaw04_awake.f 30000000 = some true := lift (f := fun k => capstanlaw04_awake.f k) (fun k => capstanlaw04_awake.mono k) 29999900 100 awake_is
  have of := lift (f := fun k => capstanref03_Of.f k t) (fun k => capstanref03_Of.mono t k) 29999579 421 (ref_of_f t ht)
  simp only [show 421 + 29999579 = 30000000 from rfl] at of
  obtain ⟨K, hK⟩ : ∃ K : Nat, K = 30000000 := ⟨_, rfl⟩
  rw [← hK] at aw of ⊢
  unfold capstanlaw04_CronNext.f cron_Next.f capstanref04_Next.f Cw.formed.f Cw.rformed.f
  rw [aw, Pf.formed_eq a b c d e ha hb hc hd he]
  simp only [Option.bind_some, if_true]
  by_cases hf : Cv.rformedB a b c d e = true
  · rw [if_pos hf, if_pos hf, Pl.rest_is, w64 (a := t % 86400 + 59) (by omega) (by omega), Pl.td _ (by omega), w64 (by omega) (by omega)]
    obtain ⟨g, hg, hg2⟩ : ∃ g : Nat, (t % 86400 + 59) / 60 = 1440 - (g : Int) ∧ g ≤ 1440 := ⟨(1440 - (t % 86400 + 59) / 60).toNat, by omega, by omega⟩
    have h1 := go_l0 a b c d e t ht 10228 K g (by omega) hg2 (by omega) (by omega)
    have h2 := ref_l0 a b c d e t ha hb hc hd he ht (t % 86400 / 3600) (t % 86400 / 60 % 60) (t % 86400 % 60) 10228 K g (by omega) hg2 (fun _ m => by omega) (by omega) (by omega) (ymd (t / 86400)).1 (ymd (t / 86400)).2.1 (ymd (t / 86400)).2.2 (by rw [show t / 86400 + (10228 - ((10228 : Nat) : Int)) = t / 86400 from by omega])
    rw [show (10228 : Int) - ((10228 : Nat) : Int) = 0 from by omega] at h1 h2
    rw [show t / 86400 + 0 + 4 = t / 86400 + 4 from by omega] at h2
    rw [hg, h1, ref_over t 86400 ht (by omega)]
    simp only [Option.bind_some]
    rw [of]
    simp only [Option.bind_some]
    rw [h2]
    simp
  · rw [if_neg hf, if_neg hf]
    simp
theorem walk : ArgCronNext.Walk := fun a b c d e t w hL ha hb hc hd he ht =>
  capstanlaw04_CronNext.calls 30000000 a b c d e t true w (next_f a b c d e t (bounds_u64 ha) (bounds_u64 hb) (bounds_u64 hc) (bounds_u64 hd) (bounds_u64 he) (bounds_i64 ht)) hL
end Go.Proofs.YtkmcmgfmahildaaDoor.Py
