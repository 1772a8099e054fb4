/- The contract of civil.Of at this dump: the date and time of a second; in the form of the printed functions. -/
import Derived.Test.YtkmcmgfmahildaaDoorOAx1
import Derived.Test.YtkmcmgfmahildaaDoorCivP
import Derived.Test.YtkmcmgfmahildaaDoorBlk2
import Derived.Test.YtkmcmgfmahildaaDoorLaid
import Derived.WalkSpells
import Derived.WalkLawsBesides
import Derived.Handy
import Derived.Deep.DeepCutAuto
namespace Go.Proofs.YtkmcmgfmahildaaDoor.Cd
set_option linter.unusedVariables false
open Go.RowKit Go.Proofs.YtkmcmgfmahildaaDoor.Blk Go.Proofs.YtkmcmgfmahildaaDoor.Blk2 Go.Proofs.YtkmcmgfmahildaaDoor.CivP
open Go.Proofs.YtkmcmgfmahildaaDoorW.PrintWords (Drawn0)

theorem over_pair (a b : Int) (hb : 0 < b) : (a.tmod b < 0 → a.tdiv b - 1 = a / b ∧ a.tmod b + b = a % b) ∧ (¬ a.tmod b < 0 → a.tdiv b = a / b ∧ a.tmod b = a % b) := by
  have h1 := Int.tmod_add_mul_tdiv a b
  have h2 := Int.emod_add_mul_ediv a b
  have h3 := Int.emod_nonneg a (by omega : b ≠ 0)
  have h4 := Int.emod_lt_of_pos a hb
  have h5 : a.tmod b < b := Int.tmod_lt_of_pos a hb
  have h6 : -b < a.tmod b := by
    have := Int.tmod_lt_of_pos (-a) hb
    rw [Int.neg_tmod] at this; omega
  constructor
  · intro h
    have e : b * (a.tdiv b - a / b) = a % b - a.tmod b := by rw [Int.mul_sub]; omega
    have g1 : a.tdiv b - a / b = 1 := by
      have u1 : b * (a.tdiv b - a / b) < b * 2 := by omega
      have u2 : b * 0 < b * (a.tdiv b - a / b) := by omega
      have := Int.lt_of_mul_lt_mul_left u1 (by omega)
      have := Int.lt_of_mul_lt_mul_left u2 (by omega)
      omega
    rw [g1] at e
    omega
  · intro h
    have e : b * (a.tdiv b - a / b) = a % b - a.tmod b := by rw [Int.mul_sub]; omega
    have g1 : a.tdiv b - a / b = 0 := by
      have u1 : b * (a.tdiv b - a / b) < b * 1 := by omega
      have u2 : b * (-1) < b * (a.tdiv b - a / b) := by omega
      have := Int.lt_of_mul_lt_mul_left u1 (by omega)
      have := Int.lt_of_mul_lt_mul_left u2 (by omega)
      omega
    rw [g1] at e
    omega
theorem over_f (a b : Int) (ha : -9223372036854775808 ≤ a ∧ a ≤ 9223372036854775807) (hb : 2 ≤ b ∧ b ≤ 1000000) : OA.civil_over.f a b = some (a / b, a % b) := by
  obtain ⟨h1, h2⟩ := over_pair a b (by omega)
  have q1 : -4611686018427387905 ≤ a / b := Int.le_ediv_of_mul_le (by omega) (by omega)
  have q2 : a / b ≤ 4611686018427387904 := by
    have := Int.ediv_lt_of_lt_mul (a := a) (b := 4611686018427387905) (c := b) (by omega) (by omega)
    omega
  have q3 := Int.emod_nonneg a (by omega : b ≠ 0)
  have q4 := Int.emod_lt_of_pos a (by omega : 0 < b)
  unfold OA.civil_over.f
  rw [if_neg (by omega)]
  by_cases h : a.tmod b < 0
  · obtain ⟨e1, e2⟩ := h1 h
    rw [if_pos h]
    have w1 : wrap64 (a.tdiv b) = a.tdiv b := by unfold wrap64; omega
    have w2 : wrap64 (a.tdiv b - 1) = a / b := by rw [e1]; unfold wrap64; omega
    have w3 : wrap64 (a.tmod b + b) = a % b := by rw [e2]; unfold wrap64; omega
    rw [w1, w2, w3]
  · obtain ⟨e1, e2⟩ := h2 h
    rw [if_neg h]
    have w1 : wrap64 (a.tdiv b) = a / b := by rw [e1]; unfold wrap64; omega
    rw [w1, e2]
theorem over_any (a b : Int) (w : World) (ha : -9223372036854775808 ≤ a ∧ a ≤ 9223372036854775807) (hb : 2 ≤ b ∧ b ≤ 1000000) :
    Calls Tryd.prog 45 #[.int .i64 a, .int .i64 b] w fun e w' => e = .returned (.tuple #[.int .i64 (a / b), .int .i64 (a % b)]) ∧ ∃ n, w' = w.drewN n :=
  (OA.civil_over.calls a b _ _ w (over_f a b ha hb)).mono fun _ _ ⟨h1, h2⟩ => ⟨h1, h2.out⟩
/-- What civil.Of answers: the date of the second's day, its time, its weekday. -/
def OfPost (t : Int) (w : World) (e : Ending) (w' : World) : Prop :=
  ∃ y m d : Int, e = .returned (.agg #[.int .i64 y, .int .i64 m, .int .i64 d, .int .i64 (t % 86400 / 3600), .int .i64 (t % 86400 / 60 % 60), .int .i64 (t % 60), .int .i64 ((t / 86400 + 4) % 7)]) ∧
    Vd y m d ∧ dn y m d = t / 86400 ∧ Below w.heap.size w w'
set_option maxHeartbeats 4000000 in
set_option maxRecDepth 100000 in
theorem of_any (t : Int) (w : World) (ht : -9223372036854775808 ≤ t ∧ t ≤ 9223372036854775807) : Calls Tryd.prog 33 #[.int .i64 t] w (OfPost t w) := by
  have q1 : -106751991167301 ≤ t / 86400 := by omega
  have q2 : t / 86400 ≤ 106751991167300 := by omega
  have q3 : 0 ≤ t % 86400 := by omega
  have q4 : t % 86400 < 86400 := by omega
  have HT := Lib.hid ht; clear ht
  have fin : ∀ (y m d : Int) (e : Ending) (w' : World), e = .returned (.agg #[.int .i64 y, .int .i64 m, .int .i64 d, .int .i64 (t % 86400 / 3600), .int .i64 (t % 86400 / 60 % 60), .int .i64 (t % 60), .int .i64 ((t / 86400 + 4) % 7)]) → Vd y m d → dn y m d = t / 86400 → Below w.heap.size w w' → OfPost t w e w' :=
    fun y m d e w' h1 h2 h3 h4 => ⟨y, m, d, h1, h2, h3, h4⟩
  have FIN := Lib.hid fin; clear fin
  go_enter Tryd.func33, Tryd.ntmps33
  go_wp2_with fail
  refine (over_any t 86400 _ HT.out (by omega)).mono ?_
  rintro e1 w1 ⟨rfl, n1, rfl⟩
  go_wp2_with fail
  refine (over_any (t / 86400 + 4) 7 _ (by omega) (by omega)).mono ?_
  rintro e1 w1 ⟨rfl, n2, rfl⟩
  go_wp2_with fail
  refine (over_any (t / 86400 + 719468) 146097 _ (by omega) (by omega)).mono ?_
  rintro e1 w1 ⟨rfl, n3, rfl⟩
  have q5 : -730692605 ≤ (t / 86400 + 719468) / 146097 := by omega
  have q6 : (t / 86400 + 719468) / 146097 ≤ 730692605 := by omega
  have q7 : 0 ≤ (t / 86400 + 719468) % 146097 := by omega
  have q8 : (t / 86400 + 719468) % 146097 < 146097 := by omega
  have q9 : 0 ≤ (t / 86400 + 4) % 7 := by omega
  obtain ⟨era, hera⟩ : ∃ x, x = (t / 86400 + 719468) / 146097 := ⟨_, rfl⟩
  obtain ⟨doe, hdoe⟩ : ∃ x, x = (t / 86400 + 719468) % 146097 := ⟨_, rfl⟩
  rw [← hera, ← hdoe]
  rw [← hera] at q5 q6
  rw [← hdoe] at q7 q8
  obtain ⟨yo, hyo⟩ : ∃ x, x = yoe doe := ⟨_, rfl⟩
  obtain ⟨doy, hdoy⟩ : ∃ x, x = doe - (365 * yo + yo / 4 - yo / 100) := ⟨_, rfl⟩
  obtain ⟨mp, hmp⟩ : ∃ x, x = (5 * doy + 2) / 153 := ⟨_, rfl⟩
  obtain ⟨a1, a2, a3, a4, a5, a6, hv, hn⟩ := date_of (t / 86400) era doe yo doy mp hera hdoe hyo hdoy hmp
  have HV := Lib.hid hv; have HN := Lib.hid hn
  have HYO : Hid ((doe - doe / 1460 + doe / 36524 - doe / 146096) / 365 = yo) := by rw [hyo]; rfl
  have HDOY := Lib.hid hdoy; have HMP := Lib.hid hmp
  clear hera hdoe hyo hdoy hmp hv hn HT
  go_upto_region 4 with (fail)
  go_cut [9] (fun s9 wx => s9 = .int .i64 yo ∧ wx = (w.alloc (.cells #[.int .i64 0, .int .i64 0, .int .i64 0, .int .i64 0, .int .i64 0, .int .i64 0, .int .i64 0] 58)).drewN (n1 + n2 + n3))
  case first =>
    go_wp2_with fail
    go_meet
    exact ⟨by rw [HYO.out], rfl⟩
  case rest =>
    obtain ⟨rfl, rfl⟩ := hcut
    go_upto_region 5 with (fail)
    go_cut [10] (fun s10 wx => s10 = .int .i64 doy ∧ wx = (w.alloc (.cells #[.int .i64 0, .int .i64 0, .int .i64 0, .int .i64 0, .int .i64 0, .int .i64 0, .int .i64 0] 58)).drewN (n1 + n2 + n3))
    case first =>
      go_wp2_with fail
      go_meet
      exact ⟨by rw [HDOY.out], rfl⟩
    case rest =>
      obtain ⟨rfl, rfl⟩ := hcut
      go_upto_region 6 with (fail)
      go_cut [11] (fun s11 wx => s11 = .int .i64 mp ∧ wx = (w.alloc (.cells #[.int .i64 0, .int .i64 0, .int .i64 0, .int .i64 0, .int .i64 0, .int .i64 0, .int .i64 0] 58)).drewN (n1 + n2 + n3))
      case first =>
        go_wp2_with fail
        go_meet
        exact ⟨by rw [HMP.out], rfl⟩
      case rest =>
        obtain ⟨rfl, rfl⟩ := hcut
        clear HYO HDOY HMP q7 q8
        by_cases hc : 12 < mp + 3
        · have hc2 : mp + 3 - 12 ≤ 2 := by omega
          have hc3 : 0 ≤ mp + 3 - 12 := by omega
          have hv := HV.out; have hn := HN.out
          rw [if_pos hc, if_pos hc] at hv hn
          have HV2 := Lib.hid hv; have HN2 := Lib.hid hn
          clear HV HN hv hn
          go_wp2
          go_returns
          refine FIN.out _ _ _ _ _ rfl HV2.out HN2.out ?_
          repeat' (first | (with_reducible exact Below.refl _ _) | (with_reducible refine Below.alloc ?_ ?_ _) | (with_reducible refine Below.setCell ?_ ?_ _) | (with_reducible refine Blk.below_drewN ?_ _) | (simp; done) | (simp; omega))
        · have hc2 : ¬ mp + 3 ≤ 2 := by omega
          have hv := HV.out; have hn := HN.out
          rw [if_neg hc, if_neg hc, Int.add_zero] at hv hn
          have HV2 := Lib.hid hv; have HN2 := Lib.hid hn
          clear HV HN hv hn
          go_wp2
          go_returns
          refine FIN.out _ _ _ _ _ rfl HV2.out HN2.out ?_
          repeat' (first | (with_reducible exact Below.refl _ _) | (with_reducible refine Below.alloc ?_ ?_ _) | (with_reducible refine Below.setCell ?_ ?_ _) | (with_reducible refine Blk.below_drewN ?_ _) | (simp; done) | (simp; omega))
/-- The date of a day's number. -/
def ymd (z : Int) : Int × Int × Int :=
  let era := (z + 719468) / 146097
  let doe := (z + 719468) % 146097
  let yo := yoe doe
  let doy := doe - (365 * yo + yo / 4 - yo / 100)
  let mp := (5 * doy + 2) / 153
  (yo + era * 400 + (if mp + 3 > 12 then 1 else 0), if mp + 3 > 12 then mp + 3 - 12 else mp + 3, doy - (153 * mp + 2) / 5 + 1)
theorem ymd_is (z : Int) : Vd (ymd z).1 (ymd z).2.1 (ymd z).2.2 ∧ dn (ymd z).1 (ymd z).2.1 (ymd z).2.2 = z := by
  obtain ⟨_, _, _, _, _, _, h1, h2⟩ := date_of z _ _ _ _ _ rfl rfl rfl rfl rfl
  exact ⟨h1, h2⟩
def Of.f (a0 : Int) : Option (Int × Int × Int × Int × Int × Int × Int) :=
  if -9223372036854775808 ≤ a0 ∧ a0 ≤ 9223372036854775807 then some ((ymd (a0 / 86400)).1, (ymd (a0 / 86400)).2.1, (ymd (a0 / 86400)).2.2, a0 % 86400 / 3600, a0 % 86400 / 60 % 60, a0 % 60, (a0 / 86400 + 4) % 7) else none
theorem Of.calls (a0 r1 r2 r3 r4 r5 r6 r7 : Int) (w : World) (h : Of.f a0 = some (r1, r2, r3, r4, r5, r6, r7)) :
    Calls Tryd.prog 33 #[.int .i64 a0] w fun e w' => e = .returned (.agg #[.int .i64 r1, .int .i64 r2, .int .i64 r3, .int .i64 r4, .int .i64 r5, .int .i64 r6, .int .i64 r7]) ∧ Below w.heap.size w w' := by
  unfold Of.f at h
  split at h
  · rename_i hb
    injection h with h
    simp only [Prod.mk.injEq] at h
    obtain ⟨rfl, rfl, rfl, rfl, rfl, rfl, rfl⟩ := h
    refine (of_any a0 w hb).mono ?_
    rintro e w' ⟨y, m, d, rfl, hv, hd, hbel⟩
    obtain ⟨i1, i2⟩ := ymd_is (a0 / 86400)
    obtain ⟨rfl, rfl, rfl⟩ := uniq hv i1 (hd.trans i2.symm)
    exact ⟨rfl, hbel⟩
  · cases h
end Go.Proofs.YtkmcmgfmahildaaDoor.Cd
