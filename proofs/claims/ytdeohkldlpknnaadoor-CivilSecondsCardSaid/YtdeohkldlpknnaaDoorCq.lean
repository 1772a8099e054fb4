/- The contract of capstanref03.Seconds: as civil.Seconds'. -/
import Derived.Test.YtdeohkldlpknnaaDoorCl
import Derived.Test.YtdeohkldlpknnaaDoorArgCivilSeconds
namespace Go.Proofs.YtdeohkldlpknnaaDoor.Cq
set_option linter.unusedVariables false
open Go.RowKit Go.Proofs.YtdeohkldlpknnaaDoor.Blk Go.Proofs.YtdeohkldlpknnaaDoor.Blk2 Go.Proofs.YtdeohkldlpknnaaDoor.CivP Go.Proofs.YtdeohkldlpknnaaDoor.Cw Go.Proofs.YtdeohkldlpknnaaDoor.Co Go.Proofs.YtdeohkldlpknnaaDoor.Cr Go.Proofs.YtdeohkldlpknnaaDoor.Cs0 Go.Proofs.YtdeohkldlpknnaaDoor.Cs Go.Proofs.YtdeohkldlpknnaaDoor.Cs1 Go.Proofs.YtdeohkldlpknnaaDoor.Laid Go.Proofs.YtdeohkldlpknnaaDoor.Cl

theorem dy_le {a b : Int} (h : a ≤ b) : dy a ≤ dy b := by
  by_cases e : a = b
  · rw [e]; omega
  · have := dy_lt (a := a) (b := b) (by omega)
    have := long_pos a
    omega
theorem beyond {y m d h mi s : Int} (hv : Vd y m d) (ht : Vt h mi s) (hy : 292277026596 < y ∨ y < -292277022657) : ¬ I64 (tot y m d h mi s) := by
  have a := in_year hv
  rw [← lp_step] at a
  obtain ⟨t1, t2, t3, t4, t5, t6⟩ := ht
  unfold I64 tot
  rcases hy with hy | hy
  · have h1 := dy_le (a := 292277026597) (b := y) (by omega)
    have h2 : dy 292277026597 = 106751991167328 := by decide +kernel
    omega
  · have h1 := dy_le (a := y + 1) (b := -292277022657) (by omega)
    have h2 : dy (-292277022657) = -106751991167327 := by decide +kernel
    omega
theorem days_q (y m : Int) (w : World) : Calls Tryd.prog 17 #[.int .i64 y, .int .i64 m] w fun e w' => e = .returned (.int .i64 (dim y m)) ∧ ∃ n, w' = w.drewN n :=
  (PCivilOf.capstanref03_Days.calls 2 y m _ w (ref_days 0 y m)).mono fun _ _ ⟨h1, h2⟩ => ⟨h1, h2.out⟩
theorem long_q (y : Int) (w : World) : Calls Tryd.prog 21 #[.int .i64 y] w fun e w' => e = .returned (.int .i64 (long y)) ∧ ∃ n, w' = w.drewN n :=
  (PCivilOf.capstanref03_long.calls y _ w (ref_long y)).mono fun _ _ ⟨h1, h2⟩ => ⟨h1, h2.out⟩
theorem over_q (a b : Int) (w : World) (ha : -9223372036854775808 ≤ a ∧ a ≤ 9223372036854775807) (hb : 2 ≤ b ∧ b ≤ 1000000) :
    Calls Tryd.prog 20 #[.int .i64 a, .int .i64 b] w fun e w' => e = .returned (.tuple #[.int .i64 (a / b), .int .i64 (a % b)]) ∧ ∃ n, w' = w.drewN n :=
  (PCivilOf.capstanref03_Over.calls a b _ _ w (ref_over a b ha hb)).mono fun _ _ ⟨h1, h2⟩ => ⟨h1, h2.out⟩
set_option maxHeartbeats 2000000 in
theorem bad0 (y m d h mi s wk : Int) (w : World)  (c0 : d < 1) : Calls Tryd.prog 13 #[cv y m d h mi s wk] w (SecPost (0, false) w) := by
  have b0 : decide (d < 1) = true := by simp; omega
  clear c0
  unfold cv
  go_enter Tryd.func13, Tryd.ntmps13
  go_wp2_with fail
  go_quiet ((go_at_call 17; exact Calls.quiet_of (days_q y m _)))
  go_wp2
  go_ret2
  exact ⟨rfl, below_drewN ((Below.refl _ _).alloc (Nat.le_refl _) _) _⟩
set_option maxHeartbeats 2000000 in
theorem bad1 (y m d h mi s wk : Int) (w : World) (c0 : ¬ d < 1) (c1 : dim y m < d) : Calls Tryd.prog 13 #[cv y m d h mi s wk] w (SecPost (0, false) w) := by
  have b0 : decide (d < 1) = false := by simp; omega
  have b1 : decide (dim y m < d) = true := by simp; omega
  clear c0 c1
  unfold cv
  go_enter Tryd.func13, Tryd.ntmps13
  go_wp2_with fail
  go_quiet ((go_at_call 17; exact Calls.quiet_of (days_q y m _)))
  go_wp2
  go_ret2
  exact ⟨rfl, below_drewN ((Below.refl _ _).alloc (Nat.le_refl _) _) _⟩
set_option maxHeartbeats 2000000 in
theorem bad2 (y m d h mi s wk : Int) (w : World) (c0 : ¬ d < 1) (c1 : ¬ dim y m < d) (c2 : h < 0) : Calls Tryd.prog 13 #[cv y m d h mi s wk] w (SecPost (0, false) w) := by
  have b0 : decide (d < 1) = false := by simp; omega
  have b1 : decide (dim y m < d) = false := by simp; omega
  have b2 : decide (h < 0) = true := by simp; omega
  clear c0 c1 c2
  unfold cv
  go_enter Tryd.func13, Tryd.ntmps13
  go_wp2_with fail
  go_quiet ((go_at_call 17; exact Calls.quiet_of (days_q y m _)))
  go_wp2
  go_ret2
  exact ⟨rfl, below_drewN ((Below.refl _ _).alloc (Nat.le_refl _) _) _⟩
set_option maxHeartbeats 2000000 in
theorem bad3 (y m d h mi s wk : Int) (w : World) (c0 : ¬ d < 1) (c1 : ¬ dim y m < d) (c2 : ¬ h < 0) (c3 : 23 < h) : Calls Tryd.prog 13 #[cv y m d h mi s wk] w (SecPost (0, false) w) := by
  have b0 : decide (d < 1) = false := by simp; omega
  have b1 : decide (dim y m < d) = false := by simp; omega
  have b2 : decide (h < 0) = false := by simp; omega
  have b3 : decide (23 < h) = true := by simp; omega
  clear c0 c1 c2 c3
  unfold cv
  go_enter Tryd.func13, Tryd.ntmps13
  go_wp2_with fail
  go_quiet ((go_at_call 17; exact Calls.quiet_of (days_q y m _)))
  go_wp2
  go_ret2
  exact ⟨rfl, below_drewN ((Below.refl _ _).alloc (Nat.le_refl _) _) _⟩
set_option maxHeartbeats 2000000 in
theorem bad4 (y m d h mi s wk : Int) (w : World) (c0 : ¬ d < 1) (c1 : ¬ dim y m < d) (c2 : ¬ h < 0) (c3 : ¬ 23 < h) (c4 : mi < 0) : Calls Tryd.prog 13 #[cv y m d h mi s wk] w (SecPost (0, false) w) := by
  have b0 : decide (d < 1) = false := by simp; omega
  have b1 : decide (dim y m < d) = false := by simp; omega
  have b2 : decide (h < 0) = false := by simp; omega
  have b3 : decide (23 < h) = false := by simp; omega
  have b4 : decide (mi < 0) = true := by simp; omega
  clear c0 c1 c2 c3 c4
  unfold cv
  go_enter Tryd.func13, Tryd.ntmps13
  go_wp2_with fail
  go_quiet ((go_at_call 17; exact Calls.quiet_of (days_q y m _)))
  go_wp2
  go_ret2
  exact ⟨rfl, below_drewN ((Below.refl _ _).alloc (Nat.le_refl _) _) _⟩
set_option maxHeartbeats 2000000 in
theorem bad5 (y m d h mi s wk : Int) (w : World) (c0 : ¬ d < 1) (c1 : ¬ dim y m < d) (c2 : ¬ h < 0) (c3 : ¬ 23 < h) (c4 : ¬ mi < 0) (c5 : 59 < mi) : Calls Tryd.prog 13 #[cv y m d h mi s wk] w (SecPost (0, false) w) := by
  have b0 : decide (d < 1) = false := by simp; omega
  have b1 : decide (dim y m < d) = false := by simp; omega
  have b2 : decide (h < 0) = false := by simp; omega
  have b3 : decide (23 < h) = false := by simp; omega
  have b4 : decide (mi < 0) = false := by simp; omega
  have b5 : decide (59 < mi) = true := by simp; omega
  clear c0 c1 c2 c3 c4 c5
  unfold cv
  go_enter Tryd.func13, Tryd.ntmps13
  go_wp2_with fail
  go_quiet ((go_at_call 17; exact Calls.quiet_of (days_q y m _)))
  go_wp2
  go_ret2
  exact ⟨rfl, below_drewN ((Below.refl _ _).alloc (Nat.le_refl _) _) _⟩
set_option maxHeartbeats 2000000 in
theorem bad6 (y m d h mi s wk : Int) (w : World) (c0 : ¬ d < 1) (c1 : ¬ dim y m < d) (c2 : ¬ h < 0) (c3 : ¬ 23 < h) (c4 : ¬ mi < 0) (c5 : ¬ 59 < mi) (c6 : s < 0) : Calls Tryd.prog 13 #[cv y m d h mi s wk] w (SecPost (0, false) w) := by
  have b0 : decide (d < 1) = false := by simp; omega
  have b1 : decide (dim y m < d) = false := by simp; omega
  have b2 : decide (h < 0) = false := by simp; omega
  have b3 : decide (23 < h) = false := by simp; omega
  have b4 : decide (mi < 0) = false := by simp; omega
  have b5 : decide (59 < mi) = false := by simp; omega
  have b6 : decide (s < 0) = true := by simp; omega
  clear c0 c1 c2 c3 c4 c5 c6
  unfold cv
  go_enter Tryd.func13, Tryd.ntmps13
  go_wp2_with fail
  go_quiet ((go_at_call 17; exact Calls.quiet_of (days_q y m _)))
  go_wp2
  go_ret2
  exact ⟨rfl, below_drewN ((Below.refl _ _).alloc (Nat.le_refl _) _) _⟩
set_option maxHeartbeats 2000000 in
theorem bad7 (y m d h mi s wk : Int) (w : World) (c0 : ¬ d < 1) (c1 : ¬ dim y m < d) (c2 : ¬ h < 0) (c3 : ¬ 23 < h) (c4 : ¬ mi < 0) (c5 : ¬ 59 < mi) (c6 : ¬ s < 0) (c7 : 59 < s) : Calls Tryd.prog 13 #[cv y m d h mi s wk] w (SecPost (0, false) w) := by
  have b0 : decide (d < 1) = false := by simp; omega
  have b1 : decide (dim y m < d) = false := by simp; omega
  have b2 : decide (h < 0) = false := by simp; omega
  have b3 : decide (23 < h) = false := by simp; omega
  have b4 : decide (mi < 0) = false := by simp; omega
  have b5 : decide (59 < mi) = false := by simp; omega
  have b6 : decide (s < 0) = false := by simp; omega
  have b7 : decide (59 < s) = true := by simp; omega
  clear c0 c1 c2 c3 c4 c5 c6 c7
  unfold cv
  go_enter Tryd.func13, Tryd.ntmps13
  go_wp2_with fail
  go_quiet ((go_at_call 17; exact Calls.quiet_of (days_q y m _)))
  go_wp2
  go_ret2
  exact ⟨rfl, below_drewN ((Below.refl _ _).alloc (Nat.le_refl _) _) _⟩
set_option maxHeartbeats 2000000 in
theorem bad8 (y m d h mi s wk : Int) (w : World) (c0 : ¬ d < 1) (c1 : ¬ dim y m < d) (c2 : ¬ h < 0) (c3 : ¬ 23 < h) (c4 : ¬ mi < 0) (c5 : ¬ 59 < mi) (c6 : ¬ s < 0) (c7 : ¬ 59 < s) (c8 : 292277026596 < y) : Calls Tryd.prog 13 #[cv y m d h mi s wk] w (SecPost (0, false) w) := by
  have b0 : decide (d < 1) = false := by simp; omega
  have b1 : decide (dim y m < d) = false := by simp; omega
  have b2 : decide (h < 0) = false := by simp; omega
  have b3 : decide (23 < h) = false := by simp; omega
  have b4 : decide (mi < 0) = false := by simp; omega
  have b5 : decide (59 < mi) = false := by simp; omega
  have b6 : decide (s < 0) = false := by simp; omega
  have b7 : decide (59 < s) = false := by simp; omega
  have b8 : decide (292277026596 < y) = true := by simp; omega
  clear c0 c1 c2 c3 c4 c5 c6 c7 c8
  unfold cv
  go_enter Tryd.func13, Tryd.ntmps13
  go_wp2_with fail
  go_quiet ((go_at_call 17; exact Calls.quiet_of (days_q y m _)))
  go_wp2
  go_ret2
  exact ⟨rfl, below_drewN ((Below.refl _ _).alloc (Nat.le_refl _) _) _⟩
set_option maxHeartbeats 2000000 in
theorem bad9 (y m d h mi s wk : Int) (w : World) (c0 : ¬ d < 1) (c1 : ¬ dim y m < d) (c2 : ¬ h < 0) (c3 : ¬ 23 < h) (c4 : ¬ mi < 0) (c5 : ¬ 59 < mi) (c6 : ¬ s < 0) (c7 : ¬ 59 < s) (c8 : ¬ 292277026596 < y) (c9 : y < -292277022657) : Calls Tryd.prog 13 #[cv y m d h mi s wk] w (SecPost (0, false) w) := by
  have b0 : decide (d < 1) = false := by simp; omega
  have b1 : decide (dim y m < d) = false := by simp; omega
  have b2 : decide (h < 0) = false := by simp; omega
  have b3 : decide (23 < h) = false := by simp; omega
  have b4 : decide (mi < 0) = false := by simp; omega
  have b5 : decide (59 < mi) = false := by simp; omega
  have b6 : decide (s < 0) = false := by simp; omega
  have b7 : decide (59 < s) = false := by simp; omega
  have b8 : decide (292277026596 < y) = false := by simp; omega
  have b9 : decide (y < -292277022657) = true := by simp; omega
  clear c0 c1 c2 c3 c4 c5 c6 c7 c8 c9
  unfold cv
  go_enter Tryd.func13, Tryd.ntmps13
  go_wp2_with fail
  go_quiet ((go_at_call 17; exact Calls.quiet_of (days_q y m _)))
  go_wp2
  go_ret2
  exact ⟨rfl, below_drewN ((Below.refl _ _).alloc (Nat.le_refl _) _) _⟩
end Go.Proofs.YtdeohkldlpknnaaDoor.Cq
