/- capstanref03.Seconds, whatever the date; CivilSeconds. -/
import Derived.Test.YtdeohkldlpknnaaDoorCq1
namespace Go.Proofs.YtdeohkldlpknnaaDoor.Cq2
set_option linter.unusedVariables false
open Go.RowKit Go.Proofs.YtdeohkldlpknnaaDoor.Blk Go.Proofs.YtdeohkldlpknnaaDoor.Blk2 Go.Proofs.YtdeohkldlpknnaaDoor.CivP Go.Proofs.YtdeohkldlpknnaaDoor.Cw Go.Proofs.YtdeohkldlpknnaaDoor.Co Go.Proofs.YtdeohkldlpknnaaDoor.Cr Go.Proofs.YtdeohkldlpknnaaDoor.Cs0 Go.Proofs.YtdeohkldlpknnaaDoor.Cs Go.Proofs.YtdeohkldlpknnaaDoor.Cs1 Go.Proofs.YtdeohkldlpknnaaDoor.Laid Go.Proofs.YtdeohkldlpknnaaDoor.Cl

theorem ref_any (y m d h mi s wk : Int) (w : World) : Calls Tryd.prog 13 #[cv y m d h mi s wk] w (SecPost (secR y m d h mi s) w) := by
  have bad : ¬ (Vd y m d ∧ Vt h mi s ∧ I64 (tot y m d h mi s)) → secR y m d h mi s = (0, false) := fun hh => by unfold secR; rw [if_neg hh]
  have hd0 : ¬ (1 ≤ m ∧ m ≤ 12) → dim y m = 0 := fun hh => dim_zero y m (by omega)
  by_cases c0 : d < 1
  · rw [bad (fun hh => by have := hh.1.2.2.1; omega)]; exact Cq.bad0 y m d h mi s wk w c0
  by_cases c1 : dim y m < d
  · rw [bad (fun hh => by have := hh.1.2.2.2; omega)]; exact Cq.bad1 y m d h mi s wk w c0 c1
  by_cases c2 : h < 0
  · rw [bad (fun hh => by have := hh.2.1.1; omega)]; exact Cq.bad2 y m d h mi s wk w c0 c1 c2
  by_cases c3 : 23 < h
  · rw [bad (fun hh => by have := hh.2.1.2.1; omega)]; exact Cq.bad3 y m d h mi s wk w c0 c1 c2 c3
  by_cases c4 : mi < 0
  · rw [bad (fun hh => by have := hh.2.1.2.2.1; omega)]; exact Cq.bad4 y m d h mi s wk w c0 c1 c2 c3 c4
  by_cases c5 : 59 < mi
  · rw [bad (fun hh => by have := hh.2.1.2.2.2.1; omega)]; exact Cq.bad5 y m d h mi s wk w c0 c1 c2 c3 c4 c5
  by_cases c6 : s < 0
  · rw [bad (fun hh => by have := hh.2.1.2.2.2.2.1; omega)]; exact Cq.bad6 y m d h mi s wk w c0 c1 c2 c3 c4 c5 c6
  by_cases c7 : 59 < s
  · rw [bad (fun hh => by have := hh.2.1.2.2.2.2.2; omega)]; exact Cq.bad7 y m d h mi s wk w c0 c1 c2 c3 c4 c5 c6 c7
  have hm : 1 ≤ m ∧ m ≤ 12 := by
    by_cases hm : 1 ≤ m ∧ m ≤ 12
    · exact hm
    · have := hd0 hm; omega
  have hv : Vd y m d := ⟨hm.1, hm.2, by omega, by omega⟩
  have ht : Vt h mi s := ⟨by omega, by omega, by omega, by omega, by omega, by omega⟩
  by_cases c8 : 292277026596 < y
  · rw [bad (fun hh => Cq.beyond hv ht (.inl c8) hh.2.2)]; exact Cq.bad8 y m d h mi s wk w c0 c1 c2 c3 c4 c5 c6 c7 c8
  by_cases c9 : y < -292277022657
  · rw [bad (fun hh => Cq.beyond hv ht (.inr c9) hh.2.2)]; exact Cq.bad9 y m d h mi s wk w c0 c1 c2 c3 c4 c5 c6 c7 c8 c9
  have e : secR y m d h mi s = secI (tot y m d h mi s) := by
    unfold secR secI
    by_cases hi : I64 (tot y m d h mi s)
    · rw [if_pos ⟨hv, ht, hi⟩, if_pos hi]
    · rw [if_neg (fun hx => hi hx.2.2), if_neg hi]
  rw [e]
  exact Cq1.good y m d h mi s wk w hv ht ⟨by omega, by omega⟩
set_option maxHeartbeats 4000000 in
theorem walk (y m d h mi s wk : Int) (w : World) (hL : Laid w) :
    Calls Tryd.prog 4 #[cv y m d h mi s wk] w fun e w' => e = .returned (.bool true) ∧ Below w.heap.size w w' := by
  have HL := Lib.hid hL
  clear hL
  obtain ⟨C, hC⟩ : ∃ C, C = cv y m d h mi s wk := ⟨_, rfl⟩
  obtain ⟨⟨r1, r2⟩, hr⟩ : ∃ R, R = secR y m d h mi s := ⟨_, rfl⟩
  have H1 : Hid (∀ W, Laid W → Calls Tryd.prog 12 #[cv y m d h mi s wk] W (SecPost (r1, r2) W)) := fun W hW => by rw [hr]; exact seconds_any y m d h mi s wk W hW
  have H2 : Hid (∀ W, Calls Tryd.prog 13 #[cv y m d h mi s wk] W (SecPost (r1, r2) W)) := fun W => by rw [hr]; exact ref_any y m d h mi s wk W
  clear hr hC
  unfold cv at *
  go_enter Tryd.func4, Tryd.ntmps4
  go_wp2_with fail
  refine (awake_any _ (HL.out.below ((Below.refl _ _).alloc (Nat.le_refl _) _))).mono ?_
  rintro e w1 ⟨rfl, hb⟩
  have hx := blk_call (blk_new w _) hb
  have HB := Lib.hid (below_then ((Below.refl _ _).alloc (Nat.le_refl _) _) hb (by simp)); clear hb
  have HX := Lib.hid hx
  have hl := blk_lt hx
  have x0 := blk_cell hx 0
  have x1 := blk_cell hx 1
  have x2 := blk_cell hx 2
  have x3 := blk_cell hx 3
  have x4 := blk_cell hx 4
  have x5 := blk_cell hx 5
  have x6 := blk_cell hx 6
  simp at x0 x1 x2 x3 x4 x5 x6
  clear hx
  go_wp2_with fail
  refine (H1.out _ (HL.out.below HB.out)).mono ?_
  rintro e w2 ⟨rfl, hb⟩
  have hx := blk_call HX.out hb
  have HB2 := Lib.hid (below_then HB.out hb HB.out.size); clear hb
  clear x0 x1 x2 x3 x4 x5 x6 hl
  have hl := blk_lt hx
  have x0 := blk_cell hx 0
  have x1 := blk_cell hx 1
  have x2 := blk_cell hx 2
  have x3 := blk_cell hx 3
  have x4 := blk_cell hx 4
  have x5 := blk_cell hx 5
  have x6 := blk_cell hx 6
  simp at x0 x1 x2 x3 x4 x5 x6
  clear hx
  go_wp2_with fail
  refine (H2.out _).mono ?_
  rintro e w3 ⟨rfl, hb⟩
  have HB3 := Lib.hid (below_then HB2.out hb HB2.out.size); clear hb
  clear x0 x1 x2 x3 x4 x5 x6 hl
  go_wp2
  go_ret
  exact ⟨by simp, HB3.out⟩
theorem walkSeconds : ArgCivilSeconds.Walk := fun y m d h mi s wk w hL _ _ _ _ _ _ _ => walk y m d h mi s wk w hL
end Go.Proofs.YtdeohkldlpknnaaDoor.Cq2
