/- capstanref03.Seconds at a date that is and a year that may be; CivilSeconds. -/
import Derived.Test.YtdeohkldlpknnaaDoorCq
import Derived.OpenShut
namespace Go.Proofs.YtdeohkldlpknnaaDoor.Cq1
set_option linter.unusedVariables false
open Go.RowKit Go.Proofs.YtdeohkldlpknnaaDoor.Blk Go.Proofs.YtdeohkldlpknnaaDoor.Blk2 Go.Proofs.YtdeohkldlpknnaaDoor.CivP Go.Proofs.YtdeohkldlpknnaaDoor.Cw Go.Proofs.YtdeohkldlpknnaaDoor.Co Go.Proofs.YtdeohkldlpknnaaDoor.Cr Go.Proofs.YtdeohkldlpknnaaDoor.Cs0 Go.Proofs.YtdeohkldlpknnaaDoor.Cs Go.Proofs.YtdeohkldlpknnaaDoor.Cs1 Go.Proofs.YtdeohkldlpknnaaDoor.Laid Go.Proofs.YtdeohkldlpknnaaDoor.Cl Go.Proofs.YtdeohkldlpknnaaDoor.Cq

theorem dy_cycle (n k : Int) : n * 146097 + dy (1970 + k) = dy (1970 + 400 * n + k) := by unfold dy; omega
def RefPost (y m d h mi s : Int) (w : World) (e : Ending) (w' : World) : Prop := SecPost (secI (tot y m d h mi s)) w e w'
theorem ref_no {y m d h mi s N R : Int} {w w' : World} (e : tot y m d h mi s = N * 86400 + R) (k : ¬ I64 (N * 86400 + R)) (hb : Below w.heap.size w w') : RefPost y m d h mi s w (.returned (.tuple #[.int .i64 0, .bool false])) w' := by
  unfold RefPost secI; rw [e, if_neg k]; exact ⟨rfl, hb⟩
theorem ref_yes {y m d h mi s N R v : Int} {w w' : World} (e : tot y m d h mi s = N * 86400 + R) (k : I64 (N * 86400 + R)) (hv : v = N * 86400 + R) (hb : Below w.heap.size w w') : RefPost y m d h mi s w (.returned (.tuple #[.int .i64 v, .bool true])) w' := by
  unfold RefPost secI; rw [e, if_pos k, hv]; exact ⟨rfl, hb⟩
set_option maxHeartbeats 8000000 in
set_option maxRecDepth 100000 in
theorem good (y m d h mi s wk : Int) (w : World) (hv : Vd y m d) (ht : Vt h mi s) (hy : -292277022657 ≤ y ∧ y ≤ 292277026596) : Calls Tryd.prog 13 #[cv y m d h mi s wk] w (RefPost y m d h mi s w) := by
  have hnb := near_by hv (by omega)
  have hiy := in_year hv
  have hlp := long_pos y
  have hv' := hv
  obtain ⟨v1, v2, v3, v4⟩ := hv
  have hdi := dim_pos y m v1 v2
  obtain ⟨t1, t2, t3, t4, t5, t6⟩ := ht
  obtain ⟨hy1, hy2⟩ := hy
  have b0 : decide (d < 1) = false := by simp; omega
  have b1 : decide (dim y m < d) = false := by simp; omega
  have b2 : decide (h < 0) = false := by simp; omega
  have b3 : decide (23 < h) = false := by simp; omega
  have b4 : decide (mi < 0) = false := by simp; omega
  have b5 : decide (59 < mi) = false := by simp; omega
  have b6 : decide (s < 0) = false := by simp; omega
  have b7 : decide (59 < s) = false := by simp; omega
  have b8 : decide (292277026596 < y) = false := by simp; omega
  have b9 : decide (y < -292277022657) = false := by simp; omega
  have HV : Hid (Vd y m d) := hv'
  have HDN : Hid (dn y m d = dy y + dm y m + d - 1) := rfl
  have hd0 := dm_nonneg y m v1 v2
  have d1 : -109000000000000 ≤ dy y := by unfold dy; omega
  have d2 : dy y ≤ 109000000000000 := by unfold dy; omega
  have d3 : dm y m ≤ 366 := by have := dm_lt (y := y) (a := m) (b := 13) (by omega) v1 (by omega); have := dm_end y; omega
  have d4 : d ≤ 31 := by omega
  clear hv' hnb hiy hlp hdi v4
  unfold cv
  go_enter Tryd.func13, Tryd.ntmps13
  go_wp2_with fail
  go_quiet ((go_at_call 17; exact Calls.quiet_of (days_q y m _)))
  go_wp2_with fail
  refine (over_q (y - 1970) 400 _ (by omega) (by omega)).mono ?_
  rintro e w1 ⟨rfl, n1, rfl⟩
  obtain ⟨n, hn⟩ : ∃ n, n = (y - 1970) / 400 := ⟨_, rfl⟩
  obtain ⟨k, hk⟩ : ∃ k, k = (y - 1970) % 400 := ⟨_, rfl⟩
  rw [← hn, ← hk]
  have k0 : 0 ≤ k := by omega
  have k1 : k < 400 := by omega
  have n2 : -730692600 ≤ n := by omega
  have n3 : n ≤ 730692600 := by omega
  have HY : Hid (1970 + 400 * n + k = y) := by show 1970 + 400 * n + k = y; omega
  clear hn hk
  go_wp2_with fail
  go_loopw [6, 7] (fun dv iv wr => ∃ j : Int, 0 ≤ j ∧ j ≤ k ∧ iv = .int .i64 j ∧ dv = .int .i64 (n * 146097 + dy (1970 + j)) ∧ ∃ q, wr = (w.alloc (Obj.cells #[.int .i64 y, .int .i64 m, .int .i64 d, .int .i64 h, .int .i64 mi, .int .i64 s, .int .i64 wk] 24)).drewN q)
    (fun _ iv _ => (k - intOf iv).toNat)
  case atStart => exact ⟨0, Int.le_refl _, k0, rfl, by simp [dy], _, rfl⟩
  case round =>
    obtain ⟨j, j0, j1, rfl, rfl, q, rfl⟩ := hrel
    have hl := long_pos (1970 + j)
    have hs := lp_step (1970 + j)
    have a1 : 0 ≤ dy (1970 + j) := by unfold dy; omega
    have a2 : dy (1970 + j) ≤ 146462 := by unfold dy; omega
    have e1 : 1970 + (j + 1) = 1970 + j + 1 := by omega
    obtain ⟨D, hD⟩ : ∃ D, D = dy (1970 + j) := ⟨_, rfl⟩
    rw [← hD] at a1 a2 hs ⊢
    go_wp2_with fail
    · refine (long_q (1970 + j) _).mono ?_
      rintro e w2 ⟨rfl, q2, rfl⟩
      have hlt : j < k := by simp_all
      clear hs e1
      go_wp2
      go_roundw
      case rel => exact ⟨j + 1, by omega, by omega, by go_num, by rw [show 1970 + (j + 1) = 1970 + j + 1 from by omega, lp_step, ← hD, Int.add_assoc], _, rfl⟩
      case measure => simp [intOf]; omega
    · have hge : j = k := by simp_all; omega
      subst hge
      have HT : Hid (n * 146097 + D = dy y) := by
        have := dy_cycle n j
        rw [HY.out, ← hD] at this; exact this
      rw [HT.out, show decide (j < j) = false from by simp]
      clear hl hs a1 a2 e1 hD
      go_loopw [6, 8] (fun dv iv wr => ∃ j : Int, 1 ≤ j ∧ j ≤ m ∧ iv = .int .i64 j ∧ dv = .int .i64 (dy y + dm y j) ∧ ∃ q, wr = (w.alloc (Obj.cells #[.int .i64 y, .int .i64 m, .int .i64 d, .int .i64 h, .int .i64 mi, .int .i64 s, .int .i64 wk] 24)).drewN q)
        (fun _ iv _ => (m - intOf iv).toNat)
      case atStart => exact ⟨1, Int.le_refl _, v1, rfl, by simp [dm_one], _, rfl⟩
      case round =>
        obtain ⟨i, i0, i1, rfl, rfl, q', rfl⟩ := hrel
        have g0 := dm_nonneg y i i0 (by omega)
        have g1 : dm y i ≤ 366 := by have := dm_lt (y := y) (a := i) (b := 13) (by omega) i0 (by omega); have := dim_pos y i i0 (by omega); have := dm_end y; have := long_pos y; omega
        have g2 := (dim_pos y i i0 (by omega)).1
        have g3 := (dim_pos y i i0 (by omega)).2
        go_wp2_with fail
        · refine (days_q y i _).mono ?_
          rintro e w2 ⟨rfl, q2, rfl⟩
          have hlt : i < m := by assumption
          go_wp2
          go_roundw
          case rel => exact ⟨i + 1, by omega, by omega, by go_num, by rw [dm_step y i i0 (by omega), Int.add_assoc], _, rfl⟩
          case measure => simp [intOf]; omega
        · have hge : m ≤ i := by assumption
          have him : i = m := by omega
          subst him
          refine (over_q 9223372036854775807 86400 _ (by omega) (by omega)).mono ?_
          rintro e w2 ⟨rfl, q2, rfl⟩
          obtain ⟨R, hR⟩ : ∃ R, R = h * 3600 + mi * 60 + s := ⟨_, rfl⟩
          obtain ⟨NN, hNN⟩ : ∃ N, N = dy y + dm y i + (d - 1) := ⟨_, rfl⟩
          have HTOT : Hid (tot y i d h mi s = NN * 86400 + R) := by
            show tot y i d h mi s = NN * 86400 + R
            unfold tot; rw [HDN.out, hNN, hR]; omega
          rw [← hR, ← hNN, show (9223372036854775807 : Int) / 86400 = 106751991167300 from by decide, show (9223372036854775807 : Int) % 86400 = 55807 from by decide]
          have r0 : 0 ≤ R := by omega
          have r1 : R < 86400 := by omega
          have r2 : -110000000000000 ≤ NN := by omega
          have r3 : NN ≤ 110000000000000 := by omega
          unfold RefPost
          rw [HTOT.out]
          clear hR hNN g0 g1 g2 g3 d1 d2 d3 d4 hd0 hge
          go_wp2_with fail
          refine (over_q (-9223372036854775808) 86400 _ (by omega) (by omega)).mono ?_
          rintro e w2 ⟨rfl, q3, rfl⟩
          rw [show (-9223372036854775808 : Int) / 86400 = -106751991167301 from by decide, show (-9223372036854775808 : Int) % 86400 = 30592 from by decide]
          go_wp2
          all_goals go_ret2
          all_goals first
            | exact ref_no HTOT.out (by unfold I64; omega) (below_drewN ((Below.refl _ _).alloc (Nat.le_refl _) _) _)
            | (refine ref_yes HTOT.out (by unfold I64; omega) ?_ (below_drewN ((Below.refl _ _).alloc (Nat.le_refl _) _) _); first | omega | (simp; omega))
end Go.Proofs.YtdeohkldlpknnaaDoor.Cq1
