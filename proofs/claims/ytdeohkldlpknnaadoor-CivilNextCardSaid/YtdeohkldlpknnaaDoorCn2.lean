/- capstanlaw03.next: the second after. -/
import Derived.Test.YtdeohkldlpknnaaDoorCn
import Derived.Test.YtdeohkldlpknnaaDoorCn6
namespace Go.Proofs.YtdeohkldlpknnaaDoor.Cn2
set_option linter.unusedVariables false
open Go.RowKit Go.Proofs.YtdeohkldlpknnaaDoor.Blk Go.Proofs.YtdeohkldlpknnaaDoor.Blk2 Go.Proofs.YtdeohkldlpknnaaDoor.CivP Go.Proofs.YtdeohkldlpknnaaDoor.Cw Go.Proofs.YtdeohkldlpknnaaDoor.Co Go.Proofs.YtdeohkldlpknnaaDoor.Cl Go.Proofs.YtdeohkldlpknnaaDoor.Cs Go.Proofs.YtdeohkldlpknnaaDoor.Laid

def NextPost (t : Int) (w : World) (e : Ending) (w' : World) : Prop :=
  ∃ y m d : Int, e = .returned (.agg #[.int .i64 y, .int .i64 m, .int .i64 d, .int .i64 ((t + 1) % 86400 / 3600), .int .i64 ((t + 1) % 86400 / 60 % 60), .int .i64 ((t + 1) % 60), .int .i64 (((t + 1) / 86400 + 4) % 7)]) ∧
    Vd y m d ∧ dn y m d = (t + 1) / 86400 ∧ Below w.heap.size w w'
theorem next_any (t y m d : Int) (w : World) (hL : Laid w) (ht : -9223372036854775808 ≤ t ∧ t ≤ 9223372036854775807) (hv : Vd y m d) (hn : dn y m d = t / 86400) :
    Calls Tryd.prog 18 #[.agg #[.int .i64 y, .int .i64 m, .int .i64 d, .int .i64 (t % 86400 / 3600), .int .i64 (t % 86400 / 60 % 60), .int .i64 (t % 60), .int .i64 ((t / 86400 + 4) % 7)]] w (NextPost t w) := by
  obtain ⟨r1, r2⟩ := near_by2 hv hn ht
  have hv' := hv
  obtain ⟨v1, v2, v3, v4⟩ := hv
  have hd := (dim_pos y m v1 v2).2
  have hd' := (dim_pos y m v1 v2).1
  by_cases q1 : t % 60 + 1 < 60
  · refine (Cn.n1 y m d _ _ _ _ w hL (by omega) (by omega) v1 v2 v3 (by omega) (by omega) (by omega) (by omega) (by omega) (by omega) (by omega) (by omega) (by omega) q1).mono ?_
    rintro e w' ⟨rfl, hb⟩
    refine ⟨y, m, d, ?_, hv', by omega, hb⟩
    rw [show (t + 1) % 86400 / 3600 = t % 86400 / 3600 from by omega, show (t + 1) % 86400 / 60 % 60 = t % 86400 / 60 % 60 from by omega, show (t + 1) % 60 = t % 60 + 1 from by omega, show (t + 1) / 86400 = t / 86400 from by omega]
  by_cases q2 : t % 86400 / 60 % 60 + 1 < 60
  · refine (Cn.n2 y m d _ _ _ _ w hL (by omega) (by omega) v1 v2 v3 (by omega) (by omega) (by omega) (by omega) (by omega) (by omega) (by omega) (by omega) (by omega) q1 q2).mono ?_
    rintro e w' ⟨rfl, hb⟩
    refine ⟨y, m, d, ?_, hv', by omega, hb⟩
    rw [show (t + 1) % 86400 / 3600 = t % 86400 / 3600 from by omega, show (t + 1) % 86400 / 60 % 60 = t % 86400 / 60 % 60 + 1 from by omega, show (t + 1) % 60 = 0 from by omega, show (t + 1) / 86400 = t / 86400 from by omega]
  by_cases q3 : t % 86400 / 3600 + 1 < 24
  · refine (Cn.n3 y m d _ _ _ _ w hL (by omega) (by omega) v1 v2 v3 (by omega) (by omega) (by omega) (by omega) (by omega) (by omega) (by omega) (by omega) (by omega) q1 q2 q3).mono ?_
    rintro e w' ⟨rfl, hb⟩
    refine ⟨y, m, d, ?_, hv', by omega, hb⟩
    rw [show (t + 1) % 86400 / 3600 = t % 86400 / 3600 + 1 from by omega, show (t + 1) % 86400 / 60 % 60 = 0 from by omega, show (t + 1) % 60 = 0 from by omega, show (t + 1) / 86400 = t / 86400 from by omega]
  have e1 : (t + 1) % 86400 / 3600 = 0 := by omega
  have e2 : (t + 1) % 86400 / 60 % 60 = 0 := by omega
  have e3 : (t + 1) % 60 = 0 := by omega
  have e4 : ((t + 1) / 86400 + 4) % 7 = ((t / 86400 + 4) % 7 + 1) % 7 := by omega
  have e5 : (t + 1) / 86400 = t / 86400 + 1 := by omega
  by_cases q4 : d + 1 ≤ dim y m
  · refine (Cn.n4 y m d _ _ _ _ w hL (by omega) (by omega) v1 v2 v3 (by omega) (by omega) (by omega) (by omega) (by omega) (by omega) (by omega) (by omega) (by omega) q1 q2 q3 q4).mono ?_
    rintro e w' ⟨rfl, hb⟩
    refine ⟨y, m, d + 1, ?_, ⟨v1, v2, by omega, q4⟩, ?_, hb⟩
    · rw [e1, e2, e3, e4]
    · rw [e5, ← hn]; unfold dn; omega
  have hde : d = dim y m := by omega
  by_cases q5 : m + 1 ≤ 12
  · refine (Cn.n5 y m d _ _ _ _ w hL (by omega) (by omega) v1 v2 v3 (by omega) (by omega) (by omega) (by omega) (by omega) (by omega) (by omega) (by omega) (by omega) q1 q2 q3 q4 q5).mono ?_
    rintro e w' ⟨rfl, hb⟩
    have := dim_pos y (m + 1) (by omega) q5
    refine ⟨y, m + 1, 1, ?_, ⟨by omega, q5, by omega, by omega⟩, ?_, hb⟩
    · rw [e1, e2, e3, e4]
    · rw [e5, ← hn]; unfold dn; rw [dm_step y m v1 v2]; omega
  · have hm : m = 12 := by omega
    subst hm
    refine (Cn6.n6 y d _ _ _ _ w hL (by omega) (by omega) v3 (by omega) (by omega) (by omega) (by omega) (by omega) (by omega) (by omega) (by omega) (by omega) q1 q2 q3 q4).mono ?_
    rintro e w' ⟨rfl, hb⟩
    have := dim_pos (y + 1) 1 (by omega) (by omega)
    have h13 := dm_step y 12 (by omega) (by omega)
    rw [show (12 : Int) + 1 = 13 from rfl, dm_end] at h13
    refine ⟨y + 1, 1, 1, ?_, ⟨by omega, by omega, by omega, by omega⟩, ?_, hb⟩
    · rw [e1, e2, e3, e4]
    · rw [e5, ← hn]; unfold dn; rw [lp_step, dm_one]; omega
end Go.Proofs.YtdeohkldlpknnaaDoor.Cn2
