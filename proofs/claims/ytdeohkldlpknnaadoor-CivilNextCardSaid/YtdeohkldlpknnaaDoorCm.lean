/- The walk of CivilBack. -/
import Derived.Test.YtdeohkldlpknnaaDoorCl
import Derived.Test.YtdeohkldlpknnaaDoorArgCivilBack
import Derived.OpenShut
namespace Go.Proofs.YtdeohkldlpknnaaDoor.Cm
set_option linter.unusedVariables false
open Go.RowKit Go.Proofs.YtdeohkldlpknnaaDoor.Blk Go.Proofs.YtdeohkldlpknnaaDoor.Blk2 Go.Proofs.YtdeohkldlpknnaaDoor.CivP Go.Proofs.YtdeohkldlpknnaaDoor.Cw Go.Proofs.YtdeohkldlpknnaaDoor.Co Go.Proofs.YtdeohkldlpknnaaDoor.Cr Go.Proofs.YtdeohkldlpknnaaDoor.Cs0 Go.Proofs.YtdeohkldlpknnaaDoor.Cs Go.Proofs.YtdeohkldlpknnaaDoor.Cs1 Go.Proofs.YtdeohkldlpknnaaDoor.Laid Go.Proofs.YtdeohkldlpknnaaDoor.Cl

theorem sec_of {t y m d : Int} (hv : Vd y m d) (hn : dn y m d = t / 86400) (ht : -9223372036854775808 ≤ t ∧ t ≤ 9223372036854775807) : secR y m d (t % 86400 / 3600) (t % 86400 / 60 % 60) (t % 60) = (t, true) := by
  have e : tot y m d (t % 86400 / 3600) (t % 86400 / 60 % 60) (t % 60) = t := by unfold tot; rw [hn]; omega
  unfold secR
  rw [e, if_pos ⟨hv, ⟨by omega, by omega, by omega, by omega, by omega, by omega⟩, ht⟩]
theorem tot_cut {y m d h mi s : Int} (ht : Vt h mi s) : tot y m d h mi s / 86400 = dn y m d ∧ tot y m d h mi s % 86400 / 3600 = h ∧ tot y m d h mi s % 86400 / 60 % 60 = mi ∧ tot y m d h mi s % 60 = s := by
  obtain ⟨h1, h2, h3, h4, h5, h6⟩ := ht
  unfold tot; omega
set_option maxHeartbeats 4000000 in
set_option maxRecDepth 100000 in
theorem walk (t y m d h mi s wk : Int) (w : World) (hL : Laid w) (ht : -9223372036854775808 ≤ t ∧ t ≤ 9223372036854775807) :
    Calls Tryd.prog 6 #[.int .i64 t, cv y m d h mi s wk] w fun e w' => e = .returned (.bool true) ∧ Below w.heap.size w w' := by
  have HL := Lib.hid hL; have HT := Lib.hid ht
  clear hL ht
  unfold cv
  go_enter Tryd.func6, Tryd.ntmps6
  go_wp2_with fail
  refine (awake_any _ (HL.out.below ((Below.refl _ _).alloc (Nat.le_refl _) _))).mono ?_
  rintro e w1 ⟨rfl, hb⟩
  have hbx := blk_call (blk_new w (.cells #[.int .i64 y, .int .i64 m, .int .i64 d, .int .i64 h, .int .i64 mi, .int .i64 s, .int .i64 wk] 24)) hb
  have HB := Lib.hid (below_then ((Below.refl _ _).alloc (Nat.le_refl _) _) hb (by simp)); clear hb
  have HX := Lib.hid hbx; clear hbx
  go_wp2_with fail
  refine (of_any t _ HT.out).mono ?_
  rintro e w2 ⟨y1, m1, d1, rfl, hv, hn, hb2⟩
  have HS := Lib.hid (sec_of hv hn HT.out)
  have HB2 := Lib.hid (below_then HB.out hb2 HB.out.size)
  have HX2 := Lib.hid (blk_call HX.out hb2)
  clear hv hn hb2
  go_wp2_with fail
  refine (seconds_any y1 m1 d1 (t % 86400 / 3600) (t % 86400 / 60 % 60) (t % 60) _ _ (HL.out.below HB2.out)).mono ?_
  rintro e w3 ⟨rfl, hb3⟩
  rw [HS.out]
  have HB3 := Lib.hid (below_then HB2.out hb3 HB2.out.size)
  have hx3 := blk_call HX2.out hb3
  have HX3 := Lib.hid hx3
  have hl3 := blk_lt hx3
  have x0 := blk_cell hx3 0
  have x1 := blk_cell hx3 1
  have x2 := blk_cell hx3 2
  have x3 := blk_cell hx3 3
  have x4 := blk_cell hx3 4
  have x5 := blk_cell hx3 5
  have x6 := blk_cell hx3 6
  simp at x0 x1 x2 x3 x4 x5 x6
  clear hx3 hb3
  go_wp2_with fail
  refine (seconds_any y m d h mi s wk _ (HL.out.below HB3.out)).mono ?_
  rintro e w4 ⟨rfl, hb4⟩
  have HB4 := Lib.hid (below_then HB3.out hb4 HB3.out.size)
  have hx4 := blk_call HX3.out hb4
  clear x0 x1 x2 x3 x4 x5 x6 hl3
  by_cases hs : Vd y m d ∧ Vt h mi s ∧ I64 (tot y m d h mi s)
  · have e1 : secR y m d h mi s = (tot y m d h mi s, true) := by unfold secR; rw [if_pos hs]
    rw [e1]
    obtain ⟨hv, htm, hi⟩ := hs
    obtain ⟨q1, q2, q3, q4⟩ := tot_cut (y := y) (m := m) (d := d) htm
    obtain ⟨T, hT⟩ : ∃ T, T = tot y m d h mi s := ⟨_, rfl⟩
    rw [← hT] at q1 q2 q3 q4 hi ⊢
    have HI := Lib.hid hi; have HV := Lib.hid hv; have HX4 := Lib.hid hx4
    have Q1 := Lib.hid q1; have Q2 := Lib.hid q2; have Q3 := Lib.hid q3; have Q4 := Lib.hid q4
    clear e1 hT hv htm hi q1 q2 q3 q4 hx4 hb4
    go_wp2_with fail
    refine (of_any T _ HI.out).mono ?_
    rintro e w5 ⟨y2, m2, d2, rfl, hv2, hn2, hb5⟩
    rw [Q2.out, Q3.out, Q4.out]
    obtain ⟨rfl, rfl, rfl⟩ := uniq hv2 HV.out (hn2.trans Q1.out)
    have HB5 := Lib.hid (below_then HB4.out hb5 HB4.out.size)
    have hx5 := blk_call HX4.out hb5
    have hl5 := blk_lt hx5
    have x0 := blk_cell hx5 0
    have x1 := blk_cell hx5 1
    have x2 := blk_cell hx5 2
    have x3 := blk_cell hx5 3
    have x4 := blk_cell hx5 4
    have x5 := blk_cell hx5 5
    have x6 := blk_cell hx5 6
    have f6 := blk_frozen hx5 6
    simp at x0 x1 x2 x3 x4 x5 x6
    clear hx5 hb5 hv2 hn2
    go_wp2
    go_ret
    have HB6 := HB5.out.setCell (p := ⟨w.heap.size, 6, none⟩) (Nat.le_refl _) (.int .i64 ((T / 86400 + 4) % 7))
    exact ⟨by simp, HB6.alloc HB6.size _⟩
  · have e1 : secR y m d h mi s = (0, false) := by unfold secR; rw [if_neg hs]
    rw [e1]
    clear e1 hs hx4 hb4
    go_wp2
    go_ret
    exact ⟨rfl, HB4.out⟩
theorem walkBack : ArgCivilBack.Walk := fun t y m d h mi s wk w hL ht _ _ _ _ _ _ _ => walk t y m d h mi s wk w hL (bounds_i64 ht)
end Go.Proofs.YtdeohkldlpknnaaDoor.Cm
