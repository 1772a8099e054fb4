/- The contract of civil.Seconds: the second of a date and time, or none. -/
import Derived.Test.YtdeohkldlpknnaaDoorCs0
import Derived.Deep.DeepCutAuto
import Derived.Deep.QuietTactic
import Derived.BigQuiet
import Derived.Deep.RegionHeld3
namespace Go.Proofs.YtdeohkldlpknnaaDoor.Cs
set_option linter.unusedVariables false
open Go.RowKit Go.Proofs.YtdeohkldlpknnaaDoor.Blk Go.Proofs.YtdeohkldlpknnaaDoor.Blk2 Go.Proofs.YtdeohkldlpknnaaDoor.CivP Go.Proofs.YtdeohkldlpknnaaDoor.Cw Go.Proofs.YtdeohkldlpknnaaDoor.Cr Go.Proofs.YtdeohkldlpknnaaDoor.Cs0 Go.Proofs.YtdeohkldlpknnaaDoor.Laid

/-- A time of day that is. -/
def Vt (h mi s : Int) : Prop := 0 ≤ h ∧ h ≤ 23 ∧ 0 ≤ mi ∧ mi ≤ 59 ∧ 0 ≤ s ∧ s ≤ 59
instance (h mi s : Int) : Decidable (Vt h mi s) := by unfold Vt; infer_instance
instance (y m d : Int) : Decidable (Vd y m d) := by unfold Vd; infer_instance
/-- The second of a date and time, as a number without bounds. -/
def tot (y m d h mi s : Int) : Int := dn y m d * 86400 + (h * 3600 + mi * 60 + s)
def I64 (n : Int) : Prop := -9223372036854775808 ≤ n ∧ n ≤ 9223372036854775807
instance (n : Int) : Decidable (I64 n) := by unfold I64; infer_instance
def secR (y m d h mi s : Int) : Int × Bool := if Vd y m d ∧ Vt h mi s ∧ I64 (tot y m d h mi s) then (tot y m d h mi s, true) else (0, false)
theorem dn_big {y m d : Int} (hv : Vd y m d) : 365 * (y - 1970) ≤ dn y m d + 500 ∨ y < 1970 := by
  have a := in_year hv
  unfold dy at a; omega
theorem dn_lo {y m d : Int} (hv : Vd y m d) : y ≤ 1970 → dn y m d ≤ 365 * (y - 1970) + 900 := by
  have a := in_year hv
  have b := long_pos y
  unfold dy at a; intro h; omega
theorem far_off {y m d h mi s : Int} (hv : Vd y m d) (ht : Vt h mi s) (hy : y < -300000000000 ∨ 300000000000 < y) : ¬ I64 (tot y m d h mi s) := by
  obtain ⟨t1, t2, t3, t4, t5, t6⟩ := ht
  unfold I64 tot
  rcases hy with hy | hy
  · have := dn_lo hv (by omega); omega
  · rcases dn_big hv with h1 | h1 <;> omega
theorem near_by {y m d : Int} (hv : Vd y m d) (hy : -300000000000 ≤ y ∧ y ≤ 300000000000) : -110000000000000 ≤ dn y m d ∧ dn y m d ≤ 110000000000000 := by
  have a := in_year hv
  have b := long_pos y
  unfold dy at a; omega

def cv (y m d h mi s wk : Int) : Value := .agg #[.int .i64 y, .int .i64 m, .int .i64 d, .int .i64 h, .int .i64 mi, .int .i64 s, .int .i64 wk]
def SecPost (r : Int × Bool) (w : World) (e : Ending) (w' : World) : Prop := e = .returned (.tuple #[.int .i64 r.1, .bool r.2]) ∧ Below w.heap.size w w'
set_option maxHeartbeats 2000000 in
theorem bad0 (y m d h mi s wk : Int) (w : World) (hL : Laid w)  (c0 : d < 1) : Calls Tryd.prog 12 #[cv y m d h mi s wk] w (SecPost (0, false) w) := by
  have b0 : decide (d < 1) = true := by simp; omega
  have HL : Hid (∀ o n, Laid ((w.alloc o).drewN n)) := fun o n => Laid.below hL (below_drewN ((Below.refl _ _).alloc (Nat.le_refl _) _) n)
  clear hL c0
  unfold cv
  go_enter Tryd.func12, Tryd.ntmps12
  go_wp2_with fail
  go_quiet ((go_at_call 16; exact Calls.quiet_of (days_any y m _ (HL.out _ _))))
  go_wp2
  go_ret2
  exact ⟨rfl, below_drewN ((Below.refl _ _).alloc (Nat.le_refl _) _) _⟩
set_option maxHeartbeats 2000000 in
theorem bad1 (y m d h mi s wk : Int) (w : World) (hL : Laid w) (c0 : ¬ d < 1) (c1 : dim y m < d) : Calls Tryd.prog 12 #[cv y m d h mi s wk] w (SecPost (0, false) w) := by
  have b0 : decide (d < 1) = false := by simp; omega
  have b1 : decide (dim y m < d) = true := by simp; omega
  have HL : Hid (∀ o n, Laid ((w.alloc o).drewN n)) := fun o n => Laid.below hL (below_drewN ((Below.refl _ _).alloc (Nat.le_refl _) _) n)
  clear hL c0 c1
  unfold cv
  go_enter Tryd.func12, Tryd.ntmps12
  go_wp2_with fail
  go_quiet ((go_at_call 16; exact Calls.quiet_of (days_any y m _ (HL.out _ _))))
  go_wp2
  go_ret2
  exact ⟨rfl, below_drewN ((Below.refl _ _).alloc (Nat.le_refl _) _) _⟩
set_option maxHeartbeats 2000000 in
theorem bad2 (y m d h mi s wk : Int) (w : World) (hL : Laid w) (c0 : ¬ d < 1) (c1 : ¬ dim y m < d) (c2 : h < 0) : Calls Tryd.prog 12 #[cv y m d h mi s wk] w (SecPost (0, false) w) := by
  have b0 : decide (d < 1) = false := by simp; omega
  have b1 : decide (dim y m < d) = false := by simp; omega
  have b2 : decide (h < 0) = true := by simp; omega
  have HL : Hid (∀ o n, Laid ((w.alloc o).drewN n)) := fun o n => Laid.below hL (below_drewN ((Below.refl _ _).alloc (Nat.le_refl _) _) n)
  clear hL c0 c1 c2
  unfold cv
  go_enter Tryd.func12, Tryd.ntmps12
  go_wp2_with fail
  go_quiet ((go_at_call 16; exact Calls.quiet_of (days_any y m _ (HL.out _ _))))
  go_wp2
  go_ret2
  exact ⟨rfl, below_drewN ((Below.refl _ _).alloc (Nat.le_refl _) _) _⟩
set_option maxHeartbeats 2000000 in
theorem bad3 (y m d h mi s wk : Int) (w : World) (hL : Laid w) (c0 : ¬ d < 1) (c1 : ¬ dim y m < d) (c2 : ¬ h < 0) (c3 : 23 < h) : Calls Tryd.prog 12 #[cv y m d h mi s wk] w (SecPost (0, false) w) := by
  have b0 : decide (d < 1) = false := by simp; omega
  have b1 : decide (dim y m < d) = false := by simp; omega
  have b2 : decide (h < 0) = false := by simp; omega
  have b3 : decide (23 < h) = true := by simp; omega
  have HL : Hid (∀ o n, Laid ((w.alloc o).drewN n)) := fun o n => Laid.below hL (below_drewN ((Below.refl _ _).alloc (Nat.le_refl _) _) n)
  clear hL c0 c1 c2 c3
  unfold cv
  go_enter Tryd.func12, Tryd.ntmps12
  go_wp2_with fail
  go_quiet ((go_at_call 16; exact Calls.quiet_of (days_any y m _ (HL.out _ _))))
  go_wp2
  go_ret2
  exact ⟨rfl, below_drewN ((Below.refl _ _).alloc (Nat.le_refl _) _) _⟩
set_option maxHeartbeats 2000000 in
theorem bad4 (y m d h mi s wk : Int) (w : World) (hL : Laid w) (c0 : ¬ d < 1) (c1 : ¬ dim y m < d) (c2 : ¬ h < 0) (c3 : ¬ 23 < h) (c4 : mi < 0) : Calls Tryd.prog 12 #[cv y m d h mi s wk] w (SecPost (0, false) w) := by
  have b0 : decide (d < 1) = false := by simp; omega
  have b1 : decide (dim y m < d) = false := by simp; omega
  have b2 : decide (h < 0) = false := by simp; omega
  have b3 : decide (23 < h) = false := by simp; omega
  have b4 : decide (mi < 0) = true := by simp; omega
  have HL : Hid (∀ o n, Laid ((w.alloc o).drewN n)) := fun o n => Laid.below hL (below_drewN ((Below.refl _ _).alloc (Nat.le_refl _) _) n)
  clear hL c0 c1 c2 c3 c4
  unfold cv
  go_enter Tryd.func12, Tryd.ntmps12
  go_wp2_with fail
  go_quiet ((go_at_call 16; exact Calls.quiet_of (days_any y m _ (HL.out _ _))))
  go_wp2
  go_ret2
  exact ⟨rfl, below_drewN ((Below.refl _ _).alloc (Nat.le_refl _) _) _⟩
set_option maxHeartbeats 2000000 in
theorem bad5 (y m d h mi s wk : Int) (w : World) (hL : Laid w) (c0 : ¬ d < 1) (c1 : ¬ dim y m < d) (c2 : ¬ h < 0) (c3 : ¬ 23 < h) (c4 : ¬ mi < 0) (c5 : 59 < mi) : Calls Tryd.prog 12 #[cv y m d h mi s wk] w (SecPost (0, false) w) := by
  have b0 : decide (d < 1) = false := by simp; omega
  have b1 : decide (dim y m < d) = false := by simp; omega
  have b2 : decide (h < 0) = false := by simp; omega
  have b3 : decide (23 < h) = false := by simp; omega
  have b4 : decide (mi < 0) = false := by simp; omega
  have b5 : decide (59 < mi) = true := by simp; omega
  have HL : Hid (∀ o n, Laid ((w.alloc o).drewN n)) := fun o n => Laid.below hL (below_drewN ((Below.refl _ _).alloc (Nat.le_refl _) _) n)
  clear hL c0 c1 c2 c3 c4 c5
  unfold cv
  go_enter Tryd.func12, Tryd.ntmps12
  go_wp2_with fail
  go_quiet ((go_at_call 16; exact Calls.quiet_of (days_any y m _ (HL.out _ _))))
  go_wp2
  go_ret2
  exact ⟨rfl, below_drewN ((Below.refl _ _).alloc (Nat.le_refl _) _) _⟩
set_option maxHeartbeats 2000000 in
theorem bad6 (y m d h mi s wk : Int) (w : World) (hL : Laid w) (c0 : ¬ d < 1) (c1 : ¬ dim y m < d) (c2 : ¬ h < 0) (c3 : ¬ 23 < h) (c4 : ¬ mi < 0) (c5 : ¬ 59 < mi) (c6 : s < 0) : Calls Tryd.prog 12 #[cv y m d h mi s wk] w (SecPost (0, false) w) := by
  have b0 : decide (d < 1) = false := by simp; omega
  have b1 : decide (dim y m < d) = false := by simp; omega
  have b2 : decide (h < 0) = false := by simp; omega
  have b3 : decide (23 < h) = false := by simp; omega
  have b4 : decide (mi < 0) = false := by simp; omega
  have b5 : decide (59 < mi) = false := by simp; omega
  have b6 : decide (s < 0) = true := by simp; omega
  have HL : Hid (∀ o n, Laid ((w.alloc o).drewN n)) := fun o n => Laid.below hL (below_drewN ((Below.refl _ _).alloc (Nat.le_refl _) _) n)
  clear hL c0 c1 c2 c3 c4 c5 c6
  unfold cv
  go_enter Tryd.func12, Tryd.ntmps12
  go_wp2_with fail
  go_quiet ((go_at_call 16; exact Calls.quiet_of (days_any y m _ (HL.out _ _))))
  go_wp2
  go_ret2
  exact ⟨rfl, below_drewN ((Below.refl _ _).alloc (Nat.le_refl _) _) _⟩
set_option maxHeartbeats 2000000 in
theorem bad7 (y m d h mi s wk : Int) (w : World) (hL : Laid w) (c0 : ¬ d < 1) (c1 : ¬ dim y m < d) (c2 : ¬ h < 0) (c3 : ¬ 23 < h) (c4 : ¬ mi < 0) (c5 : ¬ 59 < mi) (c6 : ¬ s < 0) (c7 : 59 < s) : Calls Tryd.prog 12 #[cv y m d h mi s wk] w (SecPost (0, false) w) := by
  have b0 : decide (d < 1) = false := by simp; omega
  have b1 : decide (dim y m < d) = false := by simp; omega
  have b2 : decide (h < 0) = false := by simp; omega
  have b3 : decide (23 < h) = false := by simp; omega
  have b4 : decide (mi < 0) = false := by simp; omega
  have b5 : decide (59 < mi) = false := by simp; omega
  have b6 : decide (s < 0) = false := by simp; omega
  have b7 : decide (59 < s) = true := by simp; omega
  have HL : Hid (∀ o n, Laid ((w.alloc o).drewN n)) := fun o n => Laid.below hL (below_drewN ((Below.refl _ _).alloc (Nat.le_refl _) _) n)
  clear hL c0 c1 c2 c3 c4 c5 c6 c7
  unfold cv
  go_enter Tryd.func12, Tryd.ntmps12
  go_wp2_with fail
  go_quiet ((go_at_call 16; exact Calls.quiet_of (days_any y m _ (HL.out _ _))))
  go_wp2
  go_ret2
  exact ⟨rfl, below_drewN ((Below.refl _ _).alloc (Nat.le_refl _) _) _⟩
end Go.Proofs.YtdeohkldlpknnaaDoor.Cs
