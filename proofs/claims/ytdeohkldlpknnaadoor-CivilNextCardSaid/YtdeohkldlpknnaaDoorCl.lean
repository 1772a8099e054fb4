/- The calendar's laws' first fact, and the walks of CivilOf, CivilDays, CivilCycle. -/
import Derived.Test.YtdeohkldlpknnaaDoorCs1
namespace Go.Proofs.YtdeohkldlpknnaaDoor.Cl
set_option linter.unusedVariables false
open Go.RowKit Go.Proofs.YtdeohkldlpknnaaDoor.Blk Go.Proofs.YtdeohkldlpknnaaDoor.Blk2 Go.Proofs.YtdeohkldlpknnaaDoor.CivP Go.Proofs.YtdeohkldlpknnaaDoor.Cw Go.Proofs.YtdeohkldlpknnaaDoor.Co Go.Proofs.YtdeohkldlpknnaaDoor.Cr Go.Proofs.YtdeohkldlpknnaaDoor.Cs0 Go.Proofs.YtdeohkldlpknnaaDoor.Cs Go.Proofs.YtdeohkldlpknnaaDoor.Cs1 Go.Proofs.YtdeohkldlpknnaaDoor.Laid

set_option maxHeartbeats 2000000 in
theorem awake_any (w : World) (hL : Laid w) : Calls Tryd.prog 9 #[] w fun e w' => e = .returned (.bool true) ∧ Below w.heap.size w w' := by
  have h1 : Hid (secR 1970 1 2 0 0 1 = (86401, true)) := by show secR 1970 1 2 0 0 1 = (86401, true); decide +kernel
  have hu : Vd 1969 12 31 ∧ dn 1969 12 31 = -1 := by decide +kernel
  have HU := Lib.hid hu; have HL := Lib.hid hL
  clear hu hL
  go_enter Tryd.func9, Tryd.ntmps9
  go_wp2_with fail
  refine (seconds_any 1970 1 2 0 0 1 0 _ HL.out).mono ?_
  rintro e w1 ⟨rfl, hb⟩
  rw [h1.out]
  have HB := Lib.hid hb; clear hb
  go_wp2_with fail
  refine (of_any (-1) _ (by omega)).mono ?_
  rintro e w2 ⟨y, m, d, rfl, hv, hn, hb2⟩
  obtain ⟨rfl, rfl, rfl⟩ := uniq hv HU.out.1 (hn.trans HU.out.2.symm)
  have HB2 := Lib.hid (below_then HB.out hb2 HB.out.size)
  clear hv hn hb2
  go_wp2
  go_ret
  exact ⟨rfl, HB2.out⟩

set_option maxHeartbeats 2000000 in
theorem walkOf (t : Int) (w : World) (hL : Laid w) (ht : -9223372036854775808 ≤ t ∧ t ≤ 9223372036854775807) : Calls Tryd.prog 3 #[.int .i64 t] w fun e w' => e = .returned (.bool true) ∧ Below w.heap.size w w' := by
  have HL := Lib.hid hL; have HT := Lib.hid ht
  clear hL ht
  go_enter Tryd.func3, Tryd.ntmps3
  go_wp2_with fail
  refine (awake_any _ HL.out).mono ?_
  rintro e w1 ⟨rfl, hb⟩
  have HB := Lib.hid hb; clear hb
  go_wp2_with fail
  refine (of_any t _ HT.out).mono ?_
  rintro e w2 ⟨y, m, d, rfl, hv, hn, hb2⟩
  have HB2 := Lib.hid (below_then HB.out hb2 HB.out.size)
  have HV := Lib.hid hv; have HN := Lib.hid hn
  clear hv hn hb2
  go_wp2_with fail
  refine (ref_of_any t _ HT.out).mono ?_
  rintro e w3 ⟨y', m', d', rfl, hv, hn, hb3⟩
  obtain ⟨rfl, rfl, rfl⟩ := uniq hv HV.out (hn.trans HN.out.symm)
  have HB3 := Lib.hid (below_then HB2.out hb3 HB2.out.size)
  clear hv hn hb3
  go_wp2
  go_ret
  exact ⟨by simp, HB3.out⟩

set_option maxHeartbeats 2000000 in
theorem walkDays (y m : Int) (w : World) (hL : Laid w) : Calls Tryd.prog 5 #[.int .i64 y, .int .i64 m] w fun e w' => e = .returned (.bool true) ∧ Below w.heap.size w w' := by
  have HL := Lib.hid hL
  clear hL
  go_enter Tryd.func5, Tryd.ntmps5
  go_wp2_with fail
  refine (awake_any _ HL.out).mono ?_
  rintro e w1 ⟨rfl, hb⟩
  have HB := Lib.hid hb; clear hb
  go_wp2_with fail
  refine (leap_any y _).mono ?_
  rintro e w2 ⟨rfl, n2, rfl⟩
  go_wp2_with fail
  refine (PCivilOf.capstanref03_Leap.calls y _ _ (ref_leap y)).mono ?_
  rintro e w3 ⟨rfl, hd⟩
  obtain ⟨n3, rfl⟩ := hd.out
  clear hd
  go_wp2_with fail
  refine (days_any y m _ (HL.out.below (below_drewN HB.out _))).mono ?_
  rintro e w3 ⟨rfl, n4, rfl⟩
  go_wp2_with fail
  refine (PCivilOf.capstanref03_Days.calls 2 y m _ _ (ref_days 0 y m)).mono ?_
  rintro e w3 ⟨rfl, hd⟩
  obtain ⟨n5, rfl⟩ := hd.out
  clear hd
  go_wp2
  go_ret
  exact ⟨by simp, below_drewN HB.out _⟩

/-- The year of an int64 second is no great number. -/
theorem near_by2 {y m d t : Int} (hv : Vd y m d) (hn : dn y m d = t / 86400) (ht : -9223372036854775808 ≤ t ∧ t ≤ 9223372036854775807) : -300000000000 ≤ y ∧ y ≤ 300000000000 := by
  have a := in_year hv
  have b := long_pos y
  unfold dy at a; omega
/-! ### Four hundred years -/
theorem lp_400 (y : Int) : lp (y + 400) = lp y := by unfold lp; congr 1; apply propext; omega
theorem dim_400 (y m : Int) : dim (y + 400) m = dim y m := by unfold dim; rw [lp_400]
theorem dn_400 (y m d : Int) : dn (y + 400) m d = dn y m d + 146097 := by
  have : dm (y + 400) m = dm y m := by unfold dm; rw [lp_400]
  unfold dn; rw [this]; unfold dy; omega
theorem vd_400 {y m d : Int} (h : Vd y m d) : Vd (y + 400) m d := ⟨h.1, h.2.1, h.2.2.1, by rw [dim_400]; exact h.2.2.2⟩
set_option maxHeartbeats 4000000 in
theorem walkCycle (t : Int) (w : World) (hL : Laid w) (ht : -9223372036854775808 ≤ t ∧ t ≤ 9223372036854775807) : Calls Tryd.prog 8 #[.int .i64 t] w fun e w' => e = .returned (.bool true) ∧ Below w.heap.size w w' := by
  have HL := Lib.hid hL; have HT := Lib.hid ht
  obtain ⟨t1, t2⟩ := ht
  clear hL
  go_enter Tryd.func8, Tryd.ntmps8
  go_wp2_with fail
  refine (awake_any _ HL.out).mono ?_
  rintro e w1 ⟨rfl, hb⟩
  have HB := Lib.hid hb; clear hb
  by_cases hc : 9223372024231995007 < t
  · go_wp2
    go_ret
    exact ⟨rfl, HB.out⟩
  · go_wp2_with fail
    refine (of_any t _ HT.out).mono ?_
    rintro e w2 ⟨y, m, d, rfl, hv, hn, hb2⟩
    have HB2 := Lib.hid (below_then HB.out hb2 HB.out.size)
    have hr := near_by2 hv hn HT.out
    have HV := Lib.hid hv; have HN := Lib.hid hn
    clear hv hn hb2
    go_wp2_with fail
    refine (of_any (t + 12622780800) _ (by omega)).mono ?_
    rintro e w3 ⟨y', m', d', rfl, hv, hn, hb3⟩
    obtain ⟨rfl, rfl, rfl⟩ := uniq hv (vd_400 HV.out) (by rw [hn, dn_400, HN.out]; omega)
    rw [show (t + 12622780800) % 86400 = t % 86400 from by omega, show (t + 12622780800) % 60 = t % 60 from by omega, show ((t + 12622780800) / 86400 + 4) % 7 = (t / 86400 + 4) % 7 from by omega]
    have hbx := blk_call (blk_new w2 _) hb3
    have hbl := blk_lt hbx
    have HB3 := Lib.hid (below_then (HB2.out.alloc HB2.out.size _) hb3 (HB2.out.alloc HB2.out.size _).size)
    have hsz := HB2.out.size
    have hz2 : w2.heap.size < w3.heap.size := hbl
    have x0 := blk_cell hbx 0
    have x1 := blk_cell hbx 1
    have x2 := blk_cell hbx 2
    have x3 := blk_cell hbx 3
    have x4 := blk_cell hbx 4
    have x5 := blk_cell hbx 5
    have x6 := blk_cell hbx 6
    have f0 := blk_frozen hbx 0
    simp at x0 x1 x2 x3 x4 x5 x6
    have HL4 := Lib.hid (lp_400 y)
    clear hv hn hb3 hbx
    obtain ⟨hr1, hr2⟩ := hr
    go_wp2_with fail
    go_quiet ((go_at_call 14; exact Calls.quiet_of (leap_any _ _)))
    go_wp2_with fail
    go_ret
    have HB4 := HB3.out.setCell (p := ⟨w2.heap.size, 0, none⟩) hsz (.int .i64 (y + 400))
    exact ⟨by simp [lp_400], below_drewN (HB4.alloc HB4.size _) _⟩
end Go.Proofs.YtdeohkldlpknnaaDoor.Cl
