/- civil.Seconds at a date that is. -/
import Derived.Test.YtdeohkldlpknnaaDoorCs
namespace Go.Proofs.YtdeohkldlpknnaaDoor.Cs1
set_option linter.unusedVariables false
open Go.RowKit Go.Proofs.YtdeohkldlpknnaaDoor.Blk Go.Proofs.YtdeohkldlpknnaaDoor.Blk2 Go.Proofs.YtdeohkldlpknnaaDoor.CivP Go.Proofs.YtdeohkldlpknnaaDoor.Cw Go.Proofs.YtdeohkldlpknnaaDoor.Cr Go.Proofs.YtdeohkldlpknnaaDoor.Cs0 Go.Proofs.YtdeohkldlpknnaaDoor.Cs Go.Proofs.YtdeohkldlpknnaaDoor.Laid
set_option maxHeartbeats 4000000 in
theorem far (y m d h mi s wk : Int) (w : World) (hL : Laid w) (hv : Vd y m d) (ht : Vt h mi s) (hy : y < -300000000000 ∨ 300000000000 < y) : Calls Tryd.prog 12 #[cv y m d h mi s wk] w (SecPost (0, false) w) := by
  obtain ⟨v1, v2, v3, v4⟩ := hv
  obtain ⟨t1, t2, t3, t4, t5, t6⟩ := ht
  have b0 : decide (d < 1) = false := by simp; omega
  have b1 : decide (dim y m < d) = false := by simp; omega
  have b2 : decide (h < 0) = false := by simp; omega
  have b3 : decide (23 < h) = false := by simp; omega
  have b4 : decide (mi < 0) = false := by simp; omega
  have b5 : decide (59 < mi) = false := by simp; omega
  have b6 : decide (s < 0) = false := by simp; omega
  have b7 : decide (59 < s) = false := by simp; omega
  have HL : Hid (∀ o n, Laid ((w.alloc o).drewN n)) := fun o n => Laid.below hL (below_drewN ((Below.refl _ _).alloc (Nat.le_refl _) _) n)
  clear hL v1 v2 v3 v4 t1 t2 t3 t4 t5 t6
  unfold cv
  by_cases hy1 : 300000000000 < y
  · go_enter Tryd.func12, Tryd.ntmps12
    go_wp2_with fail
    go_quiet ((go_at_call 16; exact Calls.quiet_of (days_any y m _ (HL.out _ _))))
    go_wp2
    go_ret2
    exact ⟨rfl, below_drewN ((Below.refl _ _).alloc (Nat.le_refl _) _) _⟩
  · have hy2 : y < -300000000000 := by omega
    clear hy
    go_enter Tryd.func12, Tryd.ntmps12
    go_wp2_with fail
    go_quiet ((go_at_call 16; exact Calls.quiet_of (days_any y m _ (HL.out _ _))))
    go_wp2
    go_ret2
    exact ⟨rfl, below_drewN ((Below.refl _ _).alloc (Nat.le_refl _) _) _⟩
theorem ww (T : Int) (h1 : -9223372036854775808 ≤ T) (h2 : T ≤ 9223372036854775807) : wrap64 (-wrap64 (-T)) = T := by unfold wrap64; omega
/-- A number, where it is an int64. -/
def secI (n : Int) : Int × Bool := if I64 n then (n, true) else (0, false)
set_option maxHeartbeats 4000000 in
theorem near (y m d h mi s wk : Int) (w : World) (hL : Laid w) (hv : Vd y m d) (ht : Vt h mi s) (hy : -300000000000 ≤ y ∧ y ≤ 300000000000) : Calls Tryd.prog 12 #[cv y m d h mi s wk] w (SecPost (secI (tot y m d h mi s)) w) := by
  have hdf := dated_f y m d h mi s wk hy hv
  have hnb := near_by hv hy
  obtain ⟨v1, v2, v3, v4⟩ := hv
  obtain ⟨t1, t2, t3, t4, t5, t6⟩ := ht
  obtain ⟨hy1, hy2⟩ := hy
  have b0 : decide (d < 1) = false := by simp; omega
  have b1 : decide (dim y m < d) = false := by simp; omega
  have b2 : decide (h < 0) = false := by simp; omega
  have b3 : decide (23 < h) = false := by simp; omega
  have b4 : decide (mi < 0) = false := by simp; omega
  have b5 : decide (59 < mi) = false := by simp; omega
  have b6 : decide (s < 0) = false := by simp; omega
  have b7 : decide (59 < s) = false := by simp; omega
  have HL : Hid (∀ o n, Laid ((w.alloc o).drewN n)) := fun o n => Laid.below hL (below_drewN ((Below.refl _ _).alloc (Nat.le_refl _) _) n)
  have HDF := Lib.hid hdf
  have htot : tot y m d h mi s = dn y m d * 86400 + (h * 3600 + mi * 60 + s) := rfl
  rw [htot]
  clear hL v1 v2 v3 v4 hdf htot
  unfold cv
  obtain ⟨D, hD⟩ : ∃ D, D = dn y m d := ⟨_, rfl⟩
  rw [← hD] at hnb ⊢
  have HD := Lib.hid hD; clear hD
  obtain ⟨n1, n2⟩ := hnb
  go_enter Tryd.func12, Tryd.ntmps12
  go_wp2_with fail
  go_quiet ((go_at_call 16; exact Calls.quiet_of (days_any y m _ (HL.out _ _))))
  go_wp2_with fail
  refine (PCivilOf.civil_dated.calls y m d h mi s wk _ _ HDF.out).mono ?_
  rintro e w1 ⟨rfl, hb⟩
  rw [← HD.out]
  have hbox := blk_call (blk_drewN (blk_new w (.cells #[.int .i64 y, .int .i64 m, .int .i64 d, .int .i64 h, .int .i64 mi, .int .i64 s, .int .i64 wk] 24)) _) hb
  have HB := Lib.hid (below_then (below_drewN ((Below.refl _ _).alloc (Nat.le_refl _) _) _) hb (by show _ ≤ ((w.alloc _).drewN _).heap.size; simp))
  clear hb HL HDF HD
  have c3 := blk_cell hbox 3
  have c4 := blk_cell hbox 4
  have c5 := blk_cell hbox 5
  simp at c3 c4 c5
  clear hbox
  obtain ⟨R, hR⟩ : ∃ R, R = h * 3600 + mi * 60 + s := ⟨_, rfl⟩
  have r1 : 0 ≤ R := by omega
  have r2 : R < 86400 := by omega
  obtain ⟨T, hT⟩ : ∃ T, T = D * 86400 + R := ⟨_, rfl⟩
  have HT : Hid (D * 86400 + R = T) := hT.symm
  have HR : Hid (h * 3600 + mi * 60 + s = R) := hR.symm
  have k1 : -9504000000086400 * 1000 < T := by omega
  have pos1 : I64 T → secI (D * 86400 + (h * 3600 + mi * 60 + s)) = (T, true) := fun hh => by rw [HR.out, HT.out]; unfold secI; rw [if_pos hh]
  have pos2 : ¬ I64 T → secI (D * 86400 + (h * 3600 + mi * 60 + s)) = (0, false) := fun hh => by rw [HR.out, HT.out]; unfold secI; rw [if_neg hh]
  have P1 := Lib.hid pos1; have P2 := Lib.hid pos2
  clear pos1 pos2
  by_cases hneg : D < 0
  · have ha : ∀ W, (callFunc 24 #[.int .u64 (-(D + 1) * 86400), .int .u64 (86400 - R), .int .u64 0]).run Tryd.prog W = .ok (.value (.tuple #[.int .u64 (-T), .int .u64 0])) W := fun W => by
      rw [add_run _ _ _ (by omega) (by omega), show -(D + 1) * 86400 + (86400 - R) = -T from by omega, show (-T) % 18446744073709551616 = -T from by omega, show (-T) / 18446744073709551616 = 0 from by omega]
    have k2 : T < 0 := by omega
    have k3 : -18446744073709551616 < T := by omega
    have HA := Lib.hid ha
    clear hT hR ha
    go_wp2_with fail
    refine (PCivilOf.bits_Mul64.calls (-(D + 1)) 86400 _ _ _ (mul_f _ (by omega) (by omega))).mono ?_
    rintro e w2 ⟨rfl, hd⟩
    obtain ⟨n2, rfl⟩ := hd.out
    rw [HR.out]
    have ha := HA.out
    clear hd c3 c4 c5
    by_cases z1 : T < -9223372036854775808
    · have hr : Hid (secI (D * 86400 + (h * 3600 + mi * 60 + s)) = (0, false)) := P2.out (by unfold I64; omega)
      go_wp2_with fail
      go_ret2
      exact ⟨by rw [hr.out]; rfl, below_drewN HB.out _⟩
    · by_cases z2 : T = -9223372036854775808
      · have hr : Hid (secI (D * 86400 + (h * 3600 + mi * 60 + s)) = (T, true)) := P1.out (by unfold I64; omega)
        have HZ := Lib.hid z2
        have z3 : ((-T : Int) == 9223372036854775808) = true := by rw [z2]; rfl
        have z4 : T ≤ -9223372036854775808 := by omega
        clear z2
        go_wp2_with fail
        go_ret2
        exact ⟨by rw [hr.out]; exact congrArg (fun n => Ending.returned (.tuple #[.int .i64 n, .bool true])) (ww T (by omega) (by omega)), below_drewN HB.out _⟩
      · have hr : Hid (secI (D * 86400 + (h * 3600 + mi * 60 + s)) = (T, true)) := P1.out (by unfold I64; omega)
        have z3 : ((-T : Int) == 9223372036854775808) = false := by simp; omega
        have z4 : -9223372036854775808 < T := by omega
        clear z1 z2
        go_wp2_with fail
        go_ret2
        exact ⟨by rw [hr.out]; rfl, below_drewN HB.out _⟩
  · have ha : ∀ W, (callFunc 24 #[.int .u64 (D * 86400), .int .u64 R, .int .u64 0]).run Tryd.prog W = .ok (.value (.tuple #[.int .u64 T, .int .u64 0])) W := fun W => by
      rw [add_run _ _ _ (by omega) (by omega), show D * 86400 + R = T from by omega, show T % 18446744073709551616 = T from by omega, show T / 18446744073709551616 = 0 from by omega]
    have k2 : 0 ≤ T := by omega
    have k3 : T < 18446744073709551616 := by omega
    have hn : 0 ≤ D := by omega
    have hneg' : decide (D < 0) = false := by simp; omega
    have HA := Lib.hid ha
    clear hT hR ha hneg
    go_wp2_with fail
    refine (PCivilOf.bits_Mul64.calls D 86400 _ _ _ (mul_f _ (by omega) (by omega))).mono ?_
    rintro e w2 ⟨rfl, hd⟩
    obtain ⟨n2, rfl⟩ := hd.out
    rw [HR.out]
    have ha := HA.out
    clear hd c3 c4 c5
    by_cases z1 : 9223372036854775808 < T
    · have hr : Hid (secI (D * 86400 + (h * 3600 + mi * 60 + s)) = (0, false)) := P2.out (by unfold I64; omega)
      go_wp2_with fail
      go_ret2
      exact ⟨by rw [hr.out]; rfl, below_drewN HB.out _⟩
    · by_cases z2 : T = 9223372036854775808
      · have hr : Hid (secI (D * 86400 + (h * 3600 + mi * 60 + s)) = (0, false)) := P2.out (by unfold I64; omega)
        have z3 : ((T : Int) == 9223372036854775808) = true := by rw [z2]; rfl
        clear z2
        go_wp2_with fail
        go_ret2
        exact ⟨by rw [hr.out]; rfl, below_drewN HB.out _⟩
      · have hr : Hid (secI (D * 86400 + (h * 3600 + mi * 60 + s)) = (T, true)) := P1.out (by unfold I64; omega)
        have z3 : ((T : Int) == 9223372036854775808) = false := by simp; omega
        have z4 : T < 9223372036854775808 := by omega
        clear z1 z2
        go_wp2_with fail
        go_ret2
        exact ⟨by rw [hr.out]; rfl, below_drewN HB.out _⟩

theorem seconds_any (y m d h mi s wk : Int) (w : World) (hL : Laid w) : Calls Tryd.prog 12 #[cv y m d h mi s wk] w (SecPost (secR y m d h mi s) w) := by
  have bad : ¬ (Vd y m d ∧ Vt h mi s) → secR y m d h mi s = (0, false) := fun hh => by unfold secR; rw [if_neg (fun hx => hh ⟨hx.1, hx.2.1⟩)]
  have hd0 : ¬ (1 ≤ m ∧ m ≤ 12) → dim y m = 0 := fun hh => dim_zero y m (by omega)
  by_cases c0 : d < 1
  · rw [bad (fun hh => by have := hh.1.2.2.1; omega)]; exact bad0 y m d h mi s wk w hL c0
  by_cases c1 : dim y m < d
  · rw [bad (fun hh => by have := hh.1.2.2.2; omega)]; exact bad1 y m d h mi s wk w hL c0 c1
  by_cases c2 : h < 0
  · rw [bad (fun hh => by have := hh.2.1; omega)]; exact bad2 y m d h mi s wk w hL c0 c1 c2
  by_cases c3 : 23 < h
  · rw [bad (fun hh => by have := hh.2.2.1; omega)]; exact bad3 y m d h mi s wk w hL c0 c1 c2 c3
  by_cases c4 : mi < 0
  · rw [bad (fun hh => by have := hh.2.2.2.1; omega)]; exact bad4 y m d h mi s wk w hL c0 c1 c2 c3 c4
  by_cases c5 : 59 < mi
  · rw [bad (fun hh => by have := hh.2.2.2.2.1; omega)]; exact bad5 y m d h mi s wk w hL c0 c1 c2 c3 c4 c5
  by_cases c6 : s < 0
  · rw [bad (fun hh => by have := hh.2.2.2.2.2.1; omega)]; exact bad6 y m d h mi s wk w hL c0 c1 c2 c3 c4 c5 c6
  by_cases c7 : 59 < s
  · rw [bad (fun hh => by have := hh.2.2.2.2.2.2; omega)]; exact bad7 y m d h mi s wk w hL c0 c1 c2 c3 c4 c5 c6 c7
  have hm : 1 ≤ m ∧ m ≤ 12 := by
    by_cases hm : 1 ≤ m ∧ m ≤ 12
    · exact hm
    · have := hd0 hm; omega
  have hv : Vd y m d := ⟨hm.1, hm.2, by omega, by omega⟩
  have ht : Vt h mi s := ⟨by omega, by omega, by omega, by omega, by omega, by omega⟩
  by_cases hy : y < -300000000000 ∨ 300000000000 < y
  · have e : secR y m d h mi s = (0, false) := by unfold secR; rw [if_neg (fun hx => far_off hv ht hy hx.2.2)]
    rw [e]; exact far y m d h mi s wk w hL hv ht hy
  · have e : secR y m d h mi s = secI (tot y m d h mi s) := by
      unfold secR secI
      by_cases hi : I64 (tot y m d h mi s)
      · rw [if_pos ⟨hv, ht, hi⟩, if_pos hi]
      · rw [if_neg (fun hx => hi hx.2.2), if_neg hi]
    rw [e]; exact near y m d h mi s wk w hL hv ht (by omega)
end Go.Proofs.YtdeohkldlpknnaaDoor.Cs1
