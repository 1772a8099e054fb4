/- The contract of civil.Of: the date and time of a second. -/
import Derived.Test.YtdeohkldlpknnaaDoorCw
import Derived.Deep.DeepCutAuto
namespace Go.Proofs.YtdeohkldlpknnaaDoor.Co
open Go.RowKit Go.Proofs.YtdeohkldlpknnaaDoor.Blk Go.Proofs.YtdeohkldlpknnaaDoor.Blk2 Go.Proofs.YtdeohkldlpknnaaDoor.CivP Go.Proofs.YtdeohkldlpknnaaDoor.Cw

/-- What civil.Of answers: the date of the second's day, its time, its weekday. -/
def OfPost (t : Int) (w : World) (e : Ending) (w' : World) : Prop :=
  ∃ y m d : Int, e = .returned (.agg #[.int .i64 y, .int .i64 m, .int .i64 d, .int .i64 (t % 86400 / 3600), .int .i64 (t % 86400 / 60 % 60), .int .i64 (t % 60), .int .i64 ((t / 86400 + 4) % 7)]) ∧
    Vd y m d ∧ dn y m d = t / 86400 ∧ Below w.heap.size w w'
set_option maxHeartbeats 4000000 in
set_option maxRecDepth 100000 in
theorem of_any (t : Int) (w : World) (ht : -9223372036854775808 ≤ t ∧ t ≤ 9223372036854775807) : Calls Tryd.prog 10 #[.int .i64 t] w (OfPost t w) := by
  have q1 : -106751991167301 ≤ t / 86400 := by omega
  have q2 : t / 86400 ≤ 106751991167300 := by omega
  have q3 : 0 ≤ t % 86400 := by omega
  have q4 : t % 86400 < 86400 := by omega
  have HT := Lib.hid ht; clear ht
  have fin : ∀ (y m d : Int) (e : Ending) (w' : World), e = .returned (.agg #[.int .i64 y, .int .i64 m, .int .i64 d, .int .i64 (t % 86400 / 3600), .int .i64 (t % 86400 / 60 % 60), .int .i64 (t % 60), .int .i64 ((t / 86400 + 4) % 7)]) → Vd y m d → dn y m d = t / 86400 → Below w.heap.size w w' → OfPost t w e w' :=
    fun y m d e w' h1 h2 h3 h4 => ⟨y, m, d, h1, h2, h3, h4⟩
  have FIN := Lib.hid fin; clear fin
  go_enter Tryd.func10, Tryd.ntmps10
  go_wp2_with fail
  refine (over_any t 86400 _ HT.out (by omega)).mono ?_
  rintro e1 w1 ⟨rfl, n1, rfl⟩
  go_wp2_with fail
  refine (over_any (t / 86400 + 4) 7 _ (by omega) (by omega)).mono ?_
  rintro e1 w1 ⟨rfl, n2, rfl⟩
  go_wp2_with fail
  refine (over_any (t / 86400 + 719468) 146097 _ (by omega) (by omega)).mono ?_
  rintro e1 w1 ⟨rfl, n3, rfl⟩
  have q5 : -730692605 ≤ (t / 86400 + 719468) / 146097 := by omega
  have q6 : (t / 86400 + 719468) / 146097 ≤ 730692605 := by omega
  have q7 : 0 ≤ (t / 86400 + 719468) % 146097 := by omega
  have q8 : (t / 86400 + 719468) % 146097 < 146097 := by omega
  have q9 : 0 ≤ (t / 86400 + 4) % 7 := by omega
  obtain ⟨era, hera⟩ : ∃ x, x = (t / 86400 + 719468) / 146097 := ⟨_, rfl⟩
  obtain ⟨doe, hdoe⟩ : ∃ x, x = (t / 86400 + 719468) % 146097 := ⟨_, rfl⟩
  rw [← hera, ← hdoe]
  rw [← hera] at q5 q6
  rw [← hdoe] at q7 q8
  obtain ⟨yo, hyo⟩ : ∃ x, x = yoe doe := ⟨_, rfl⟩
  obtain ⟨doy, hdoy⟩ : ∃ x, x = doe - (365 * yo + yo / 4 - yo / 100) := ⟨_, rfl⟩
  obtain ⟨mp, hmp⟩ : ∃ x, x = (5 * doy + 2) / 153 := ⟨_, rfl⟩
  obtain ⟨a1, a2, a3, a4, a5, a6, hv, hn⟩ := date_of (t / 86400) era doe yo doy mp hera hdoe hyo hdoy hmp
  have HV := Lib.hid hv; have HN := Lib.hid hn
  have HYO : Hid ((doe - doe / 1460 + doe / 36524 - doe / 146096) / 365 = yo) := by rw [hyo]; rfl
  have HDOY := Lib.hid hdoy; have HMP := Lib.hid hmp
  clear hera hdoe hyo hdoy hmp hv hn HT
  go_upto_region 4 with (fail)
  go_cut [9] (fun s9 wx => s9 = .int .i64 yo ∧ wx = (w.alloc (.cells #[.int .i64 0, .int .i64 0, .int .i64 0, .int .i64 0, .int .i64 0, .int .i64 0, .int .i64 0] 24)).drewN (n1 + n2 + n3))
  case first =>
    go_wp2_with fail
    go_meet
    exact ⟨by rw [HYO.out], rfl⟩
  case rest =>
    obtain ⟨rfl, rfl⟩ := hcut
    go_upto_region 5 with (fail)
    go_cut [10] (fun s10 wx => s10 = .int .i64 doy ∧ wx = (w.alloc (.cells #[.int .i64 0, .int .i64 0, .int .i64 0, .int .i64 0, .int .i64 0, .int .i64 0, .int .i64 0] 24)).drewN (n1 + n2 + n3))
    case first =>
      go_wp2_with fail
      go_meet
      exact ⟨by rw [HDOY.out], rfl⟩
    case rest =>
      obtain ⟨rfl, rfl⟩ := hcut
      go_upto_region 6 with (fail)
      go_cut [11] (fun s11 wx => s11 = .int .i64 mp ∧ wx = (w.alloc (.cells #[.int .i64 0, .int .i64 0, .int .i64 0, .int .i64 0, .int .i64 0, .int .i64 0, .int .i64 0] 24)).drewN (n1 + n2 + n3))
      case first =>
        go_wp2_with fail
        go_meet
        exact ⟨by rw [HMP.out], rfl⟩
      case rest =>
        obtain ⟨rfl, rfl⟩ := hcut
        clear HYO HDOY HMP q7 q8
        by_cases hc : 12 < mp + 3
        · have hc2 : mp + 3 - 12 ≤ 2 := by omega
          have hc3 : 0 ≤ mp + 3 - 12 := by omega
          have hv := HV.out; have hn := HN.out
          rw [if_pos hc, if_pos hc] at hv hn
          have HV2 := Lib.hid hv; have HN2 := Lib.hid hn
          clear HV HN hv hn
          go_wp2
          go_returns
          refine FIN.out _ _ _ _ _ rfl HV2.out HN2.out ?_
          repeat' (first | (with_reducible exact Below.refl _ _) | (with_reducible refine Below.alloc ?_ ?_ _) | (with_reducible refine Below.setCell ?_ ?_ _) | (with_reducible refine below_drewN ?_ _) | (simp; done) | (simp; omega))
        · have hc2 : ¬ mp + 3 ≤ 2 := by omega
          have hv := HV.out; have hn := HN.out
          rw [if_neg hc, if_neg hc, Int.add_zero] at hv hn
          have HV2 := Lib.hid hv; have HN2 := Lib.hid hn
          clear HV HN hv hn
          go_wp2
          go_returns
          refine FIN.out _ _ _ _ _ rfl HV2.out HN2.out ?_
          repeat' (first | (with_reducible exact Below.refl _ _) | (with_reducible refine Below.alloc ?_ ?_ _) | (with_reducible refine Below.setCell ?_ ?_ _) | (with_reducible refine below_drewN ?_ _) | (simp; done) | (simp; omega))
end Go.Proofs.YtdeohkldlpknnaaDoor.Co
