/- Walks of functions, written by a program (wip/tools/own.py) over hand contracts; conditions: as each theorem states. -/
import Derived.Test.YtkmcmgfmahildaaDoorOBx0
import Derived.Test.YtkmcmgfmahildaaDoorOBx1
import Derived.Test.YtkmcmgfmahildaaDoorOBx6
import Derived.Test.YtkmcmgfmahildaaDoorOBx19
namespace Go.Proofs.YtkmcmgfmahildaaDoor.OB
open Go.RowKit Go.Proofs.YtkmcmgfmahildaaDoorW.PrintWords Go.Proofs.YtkmcmgfmahildaaDoorW.PrintLast Go.Proofs.YtkmcmgfmahildaaDoorW.PrintMore
attribute [local go_sem] max2_int min2_int max_two min_two max_three min_three max_four min_four   -- for this text's walks alone
set_option linter.unusedVariables false
set_option linter.unusedSimpArgs false

/-! ### capstanlaw04_CronLeast: function 9 -/
mutual
def capstanlaw04_CronLeast.j0 : Nat → Int → Int → Bool → Int → Int → Int → Int → Int → Option (Bool)
  | 0, _, _, _, _, _, _, _, _ => none
  | k + 1, x1, x5, x33, x256000, x256001, x256002, x256003, x256004 => if x33 = true then (some false) else (capstanlaw04_CronLeast.l0 k x1 x5 1 x256000 x256001 x256002 x256003 x256004)
def capstanlaw04_CronLeast.l0 : Nat → Int → Int → Int → Int → Int → Int → Int → Int → Option (Bool)
  | 0, _, _, _, _, _, _, _, _ => none
  | k + 1, x1, x5, x7, x256000, x256001, x256002, x256003, x256004 => if x7 ≤ 60 then (if (wrap64 (x5 - x1)) ≥ (wrap64 (60 * x7)) then ((cron_Names.f x256000 x256001 x256002 x256003 x256004 (wrap64 (x5 - (wrap64 (60 * x7))))).bind fun t260 => (if t260 = true then (some false) else (capstanlaw04_CronLeast.l0 k x1 x5 (wrap64 (x7 + 1)) x256000 x256001 x256002 x256003 x256004))) else (capstanlaw04_CronLeast.l0 k x1 x5 (wrap64 (x7 + 1)) x256000 x256001 x256002 x256003 x256004)) else (some true)
end
def capstanlaw04_CronLeast.f (k : Nat) (a0_0 : Int) (a0_1 : Int) (a0_2 : Int) (a0_3 : Int) (a0_4 : Int) (a1 : Int) : Option (Bool) := (capstanlaw04_awake.f k).bind fun t256 => (if t256 = true then ((cron_Next.f k a0_0 a0_1 a0_2 a0_3 a0_4 a1).bind fun bt257 => (if bt257.2 = true then (if bt257.1 < a1 then (capstanlaw04_CronLeast.j0 k a1 bt257.1 true a0_0 a0_1 a0_2 a0_3 a0_4) else (if (Int.tmod bt257.1 60) = 0 then ((cron_Names.f a0_0 a0_1 a0_2 a0_3 a0_4 bt257.1).bind fun t259 => (capstanlaw04_CronLeast.j0 k a1 bt257.1 (!t259) a0_0 a0_1 a0_2 a0_3 a0_4)) else (capstanlaw04_CronLeast.j0 k a1 bt257.1 true a0_0 a0_1 a0_2 a0_3 a0_4))) else (some (bt257.1 == 0)))) else (some false))
theorem capstanlaw04_CronLeast.mono_l : ∀ k, (∀ y0 y1 y2 y3 y4 y5 y6 y7, LeO (capstanlaw04_CronLeast.j0 k y0 y1 y2 y3 y4 y5 y6 y7) (capstanlaw04_CronLeast.j0 (k + 1) y0 y1 y2 y3 y4 y5 y6 y7)) ∧ (∀ y0 y1 y2 y3 y4 y5 y6 y7, LeO (capstanlaw04_CronLeast.l0 k y0 y1 y2 y3 y4 y5 y6 y7) (capstanlaw04_CronLeast.l0 (k + 1) y0 y1 y2 y3 y4 y5 y6 y7))
  | 0 => ⟨fun _ _ _ _ _ _ _ _ r h => by simp [capstanlaw04_CronLeast.j0] at h, fun _ _ _ _ _ _ _ _ r h => by simp [capstanlaw04_CronLeast.l0] at h⟩
  | k + 1 => by
    obtain ⟨ih0, ih1⟩ := capstanlaw04_CronLeast.mono_l k
    refine ⟨?_, ?_⟩
    · intro y0 y1 y2 y3 y4 y5 y6 y7
      unfold capstanlaw04_CronLeast.j0
      repeat' first
      | (with_reducible exact ih0 _ _ _ _ _ _ _ _)
      | (with_reducible exact ih1 _ _ _ _ _ _ _ _)
      | (with_reducible exact capstanlaw04_awake.mono _)
      | (with_reducible exact cron_Next.mono _ _ _ _ _ _ _)
      | (with_reducible exact LeO.refl _)
      | (with_reducible exact LeO.none _)
      | (with_reducible refine LeO.ite ?_ ?_)
      | (with_reducible refine LeO.bind ?_ (fun _ => ?_))
      | exact ih0 _ _ _ _ _ _ _ _
      | exact ih1 _ _ _ _ _ _ _ _
      | exact capstanlaw04_awake.mono _
      | exact cron_Next.mono _ _ _ _ _ _ _
      | exact LeO.none _
      | refine LeO.ite ?_ ?_
      | refine LeO.bind ?_ (fun _ => ?_)
    · intro y0 y1 y2 y3 y4 y5 y6 y7
      unfold capstanlaw04_CronLeast.l0
      repeat' first
      | (with_reducible exact ih0 _ _ _ _ _ _ _ _)
      | (with_reducible exact ih1 _ _ _ _ _ _ _ _)
      | (with_reducible exact capstanlaw04_awake.mono _)
      | (with_reducible exact cron_Next.mono _ _ _ _ _ _ _)
      | (with_reducible exact LeO.refl _)
      | (with_reducible exact LeO.none _)
      | (with_reducible refine LeO.ite ?_ ?_)
      | (with_reducible refine LeO.bind ?_ (fun _ => ?_))
      | exact ih0 _ _ _ _ _ _ _ _
      | exact ih1 _ _ _ _ _ _ _ _
      | exact capstanlaw04_awake.mono _
      | exact cron_Next.mono _ _ _ _ _ _ _
      | exact LeO.none _
      | refine LeO.ite ?_ ?_
      | refine LeO.bind ?_ (fun _ => ?_)
theorem capstanlaw04_CronLeast.mono : ∀ a0 a1 a2 a3 a4 a5 k, LeO (capstanlaw04_CronLeast.f k a0 a1 a2 a3 a4 a5) (capstanlaw04_CronLeast.f (k + 1) a0 a1 a2 a3 a4 a5) := by
  intro a0 a1 a2 a3 a4 a5 k
  obtain ⟨ih0, ih1⟩ := capstanlaw04_CronLeast.mono_l k
  unfold capstanlaw04_CronLeast.f
  repeat' first
      | (with_reducible exact ih0 _ _ _ _ _ _ _ _)
      | (with_reducible exact ih1 _ _ _ _ _ _ _ _)
      | (with_reducible exact capstanlaw04_awake.mono _)
      | (with_reducible exact cron_Next.mono _ _ _ _ _ _ _)
      | (with_reducible exact LeO.refl _)
      | (with_reducible exact LeO.none _)
      | (with_reducible refine LeO.ite ?_ ?_)
      | (with_reducible refine LeO.bind ?_ (fun _ => ?_))
      | exact ih0 _ _ _ _ _ _ _ _
      | exact ih1 _ _ _ _ _ _ _ _
      | exact capstanlaw04_awake.mono _
      | exact cron_Next.mono _ _ _ _ _ _ _
      | exact LeO.none _
      | refine LeO.ite ?_ ?_
      | refine LeO.bind ?_ (fun _ => ?_)
set_option maxHeartbeats 8000000 in
set_option maxRecDepth 100000 in
theorem capstanlaw04_CronLeast.calls (k : Nat) (a0_0 : Int) (a0_1 : Int) (a0_2 : Int) (a0_3 : Int) (a0_4 : Int) (a1 : Int) (r : Bool) (w : World) (h : capstanlaw04_CronLeast.f k a0_0 a0_1 a0_2 a0_3 a0_4 a1 = some r) (hL_ : Go.Proofs.YtkmcmgfmahildaaDoor.Laid.Laid w) :
    Calls Tryd.prog 9 #[.agg #[.int .u64 a0_0, .int .u64 a0_1, .int .u64 a0_2, .int .u64 a0_3, .int .u64 a0_4], .int .i64 a1] w fun e w' => e = .returned (.bool r) ∧ Below w.heap.size w w' := by
  have HL_ := Aside0.mk hL_
  clear hL_
  have hu25 := Tryd.underlying25
  have HB := Aside0.mk (Below.refl w.heap.size w)
  have H : ((capstanlaw04_awake.f k).bind fun t256 => (if t256 = true then ((cron_Next.f k a0_0 a0_1 a0_2 a0_3 a0_4 a1).bind fun bt257 => (if bt257.2 = true then (if bt257.1 < a1 then (capstanlaw04_CronLeast.j0 k a1 bt257.1 true a0_0 a0_1 a0_2 a0_3 a0_4) else (if (Int.tmod bt257.1 60) = 0 then ((cron_Names.f a0_0 a0_1 a0_2 a0_3 a0_4 bt257.1).bind fun t259 => (capstanlaw04_CronLeast.j0 k a1 bt257.1 (!t259) a0_0 a0_1 a0_2 a0_3 a0_4)) else (capstanlaw04_CronLeast.j0 k a1 bt257.1 true a0_0 a0_1 a0_2 a0_3 a0_4))) else (some (bt257.1 == 0)))) else (some false))) = some r := h
  clear h
  replace H := Option.bind_eq_some_iff.mp H
  obtain ⟨t256, A30, H⟩ := H
  replace H : (if t256 = true then ((cron_Next.f k a0_0 a0_1 a0_2 a0_3 a0_4 a1).bind fun bt257 => (if bt257.2 = true then (if bt257.1 < a1 then (capstanlaw04_CronLeast.j0 k a1 bt257.1 true a0_0 a0_1 a0_2 a0_3 a0_4) else (if (Int.tmod bt257.1 60) = 0 then ((cron_Names.f a0_0 a0_1 a0_2 a0_3 a0_4 bt257.1).bind fun t259 => (capstanlaw04_CronLeast.j0 k a1 bt257.1 (!t259) a0_0 a0_1 a0_2 a0_3 a0_4)) else (capstanlaw04_CronLeast.j0 k a1 bt257.1 true a0_0 a0_1 a0_2 a0_3 a0_4))) else (some (bt257.1 == 0)))) else (some false)) = some r := H
  have A3 := Aside0.mk A30
  clear A30
  by_cases c4 : t256 = true
  · subst c4
    have H1 : ((cron_Next.f k a0_0 a0_1 a0_2 a0_3 a0_4 a1).bind fun bt257 => (if bt257.2 = true then (if bt257.1 < a1 then (capstanlaw04_CronLeast.j0 k a1 bt257.1 true a0_0 a0_1 a0_2 a0_3 a0_4) else (if (Int.tmod bt257.1 60) = 0 then ((cron_Names.f a0_0 a0_1 a0_2 a0_3 a0_4 bt257.1).bind fun t259 => (capstanlaw04_CronLeast.j0 k a1 bt257.1 (!t259) a0_0 a0_1 a0_2 a0_3 a0_4)) else (capstanlaw04_CronLeast.j0 k a1 bt257.1 true a0_0 a0_1 a0_2 a0_3 a0_4))) else (some (bt257.1 == 0)))) = some r := by rw [if_pos rfl] at H; exact H
    clear H
    have H := H1
    clear H1
    replace H := Option.bind_eq_some_iff.mp H
    obtain ⟨⟨t257, t258⟩, A50, H⟩ := H
    replace H : (if t258 = true then (if t257 < a1 then (capstanlaw04_CronLeast.j0 k a1 t257 true a0_0 a0_1 a0_2 a0_3 a0_4) else (if (Int.tmod t257 60) = 0 then ((cron_Names.f a0_0 a0_1 a0_2 a0_3 a0_4 t257).bind fun t259 => (capstanlaw04_CronLeast.j0 k a1 t257 (!t259) a0_0 a0_1 a0_2 a0_3 a0_4)) else (capstanlaw04_CronLeast.j0 k a1 t257 true a0_0 a0_1 a0_2 a0_3 a0_4))) else (some (t257 == 0))) = some r := H
    have A5 := Aside0.mk A50
    clear A50
    by_cases c6 : t258 = true
    · subst c6
      have H1 : (if t257 < a1 then (capstanlaw04_CronLeast.j0 k a1 t257 true a0_0 a0_1 a0_2 a0_3 a0_4) else (if (Int.tmod t257 60) = 0 then ((cron_Names.f a0_0 a0_1 a0_2 a0_3 a0_4 t257).bind fun t259 => (capstanlaw04_CronLeast.j0 k a1 t257 (!t259) a0_0 a0_1 a0_2 a0_3 a0_4)) else (capstanlaw04_CronLeast.j0 k a1 t257 true a0_0 a0_1 a0_2 a0_3 a0_4))) = some r := by rw [if_pos rfl] at H; exact H
      clear H
      have H := H1
      clear H1
      have HC7 := Aside0.mk H
      clear H
      go_enter Tryd.func9, Tryd.ntmps9
      go_upto_region 6 with (first | ((with_reducible refine gate_dst (N := 2) rfl ?_); refine box_event ?hg (N := 2) ?hd (cs := #[.int .u64 a0_0, .int .u64 a0_1, .int .u64 a0_2, .int .u64 a0_3, .int .u64 a0_4]) (t := 25) ?hr ?_; (case hd => rfl); (case hg => rfl); (case hr => first | (go_simp; done) | (go_simp; rfl)); intro gb255 hg w8 hbox hb; have n0_ := Aside0.mk (below_step (by repeat (first | (with_reducible first | exact HB.out | apply below_alloc | apply pw_below_drewN | apply below_drew1) | exact HB.out)) hb); have n1_ := Aside0.mk (hbox); have n2_ := Aside0.mk ((by rw [hg]; exact (below_size (by repeat (first | (with_reducible first | exact HB.out | apply below_alloc | apply pw_below_drewN | apply below_drew1) | exact HB.out))) : w.heap.size ≤ gb255)); have n3_ := Aside0.mk ((by rw [hg]; exact (below_size (by repeat (first | (with_reducible first | exact HB.out | apply below_alloc | apply pw_below_drewN | apply below_drew1) | exact HB.out))) : w.heap.size ≤ gb255)); clear HB; have HB := n0_; have BK255 := n1_; have GW255 := n2_; have GE255 := n3_; clear n0_ n1_ n2_ n3_; clear hb hbox hg) | ((with_reducible refine gate_callee (f := 10) rfl ?_); refine goesL_ (some 8) rfl rfl Tryd.func10 (by kernel_rfl) rfl #[] rfl (by (try simp only [List.map_toArray, List.map_cons, List.map_nil]); first | done | rfl | (simp only [List.length_drop, List.length_take]; rfl)) ?_; (with_reducible refine (capstanlaw04_awake.calls k  true _ A3.out (by first | exact HL_.out | exact Go.Proofs.YtkmcmgfmahildaaDoor.Laid.Laid.below HL_.out (by repeat (first | (with_reducible first | exact HB.out | exact Below.refl _ _ | exact (‹Aside0 (Below _ _ _)›).out | apply below_alloc | apply pw_below_drewN | apply below_drew1 | refine Below.setCell ?_ (Aside0.out (by assumption)) _) | exact HB.out | exact (‹Aside0 (Below _ _ _)›).out)))).mono ?_); rintro e w9 ⟨rfl, hb⟩; refine ⟨_, rfl, ?_⟩; have n0_ := Aside0.mk (blk_below (g := gb255) (o := .cells #[.int .u64 a0_0, .int .u64 a0_1, .int .u64 a0_2, .int .u64 a0_3, .int .u64 a0_4] 25 (0, 0)) (by (with_reducible repeat (first | refine blk_drewN ?_ _ | refine blk_drew ?_ | refine blk_alloc ?_ _)); exact BK255.out) hb); have n1_ := Aside0.mk (below_step (by repeat (first | (with_reducible first | exact HB.out | apply below_alloc | apply pw_below_drewN | apply below_drew1 | refine below_set ?_ GE255.out) | exact HB.out)) hb); clear BK255; clear HB; have BK255 := n0_; have HB := n1_; clear n0_ n1_; (try clear hb); (try clear hb2); (try clear hk); (try clear hi); have hcz10_0 : w9.cell? ⟨gb255, 0, none⟩ = some (.int .u64 a0_0) := (blk_cell BK255.out 0).trans rfl; have hcz10_1 : w9.cell? ⟨gb255, 1, none⟩ = some (.int .u64 a0_1) := (blk_cell BK255.out 1).trans rfl; have hcz10_2 : w9.cell? ⟨gb255, 2, none⟩ = some (.int .u64 a0_2) := (blk_cell BK255.out 2).trans rfl; have hcz10_3 : w9.cell? ⟨gb255, 3, none⟩ = some (.int .u64 a0_3) := (blk_cell BK255.out 3).trans rfl; have hcz10_4 : w9.cell? ⟨gb255, 4, none⟩ = some (.int .u64 a0_4) := (blk_cell BK255.out 4).trans rfl; have hfz10_0 := blk_frozen BK255.out 0; have hfz10_1 := blk_frozen BK255.out 1; have hfz10_2 := blk_frozen BK255.out 2; have hfz10_3 := blk_frozen BK255.out 3; have hfz10_4 := blk_frozen BK255.out 4) | ((with_reducible refine gate_callee (f := 19) rfl ?_); refine goesL_ (some 13) rfl rfl Tryd.func19 (by kernel_rfl) rfl #[.agg #[.int .u64 a0_0, .int .u64 a0_1, .int .u64 a0_2, .int .u64 a0_3, .int .u64 a0_4], .int .i64 a1] rfl (by (try simp only [List.map_toArray, List.map_cons, List.map_nil]); first | done | rfl | (simp only [List.length_drop, List.length_take]; rfl)) ?_; (with_reducible refine (cron_Next.calls k a0_0 a0_1 a0_2 a0_3 a0_4 a1 t257 true _ A5.out (by first | exact HL_.out | exact Go.Proofs.YtkmcmgfmahildaaDoor.Laid.Laid.below HL_.out (by repeat (first | (with_reducible first | exact HB.out | exact Below.refl _ _ | exact (‹Aside0 (Below _ _ _)›).out | apply below_alloc | apply pw_below_drewN | apply below_drew1 | refine Below.setCell ?_ (Aside0.out (by assumption)) _) | exact HB.out | exact (‹Aside0 (Below _ _ _)›).out)))).mono ?_); rintro e w11 ⟨rfl, hb⟩; refine ⟨_, rfl, ?_⟩; have n0_ := Aside0.mk (blk_below (g := gb255) (o := .cells #[.int .u64 a0_0, .int .u64 a0_1, .int .u64 a0_2, .int .u64 a0_3, .int .u64 a0_4] 25 (0, 0)) (by (with_reducible repeat (first | refine blk_drewN ?_ _ | refine blk_drew ?_ | refine blk_alloc ?_ _)); exact BK255.out) hb); have n1_ := Aside0.mk (below_step (by repeat (first | (with_reducible first | exact HB.out | apply below_alloc | apply pw_below_drewN | apply below_drew1 | refine below_set ?_ GE255.out) | exact HB.out)) hb); clear BK255; clear HB; have BK255 := n0_; have HB := n1_; clear n0_ n1_; (try clear hb); (try clear hb2); (try clear hk); (try clear hi)))
      (try simp only [Act.put, List.setIfInBounds_toArray, List.set_cons_zero, List.set_cons_succ])
      go_cut [33] (fun v33 wc => ∃ (kq : Nat) (x33_6 : Bool), v33 = .bool x33_6 ∧ Aside0 (capstanlaw04_CronLeast.j0 kq a1 t257 x33_6 a0_0 a0_1 a0_2 a0_3 a0_4 = some r) ∧ Aside0 (kq ≤ k) ∧ Aside0 (wc.heap[gb255]? = some (.cells #[.int .u64 a0_0, .int .u64 a0_1, .int .u64 a0_2, .int .u64 a0_3, .int .u64 a0_4] 25 (0, 0))) ∧ Aside0 (Below w.heap.size w wc))
      case first =>
        have H := HC7.out
        clear HC7
        by_cases c12 : t257 < a1
        · rw [if_pos c12] at H
          have c12b0 : decide (t257 < a1) = true := decide_eq_true c12
          clear c12
          (first | rw [c12b0] | (simp only [i64_w, i32_w]; rw [c12b0]) | skip)
          have H' := Aside0.mk H
          clear H
          go_wp2
          go_meet
          case rel => exact ⟨_, (true), (by first | rfl | (simp; done) | (simp [*]; done)), H', ⟨by first | omega | exact Nat.le_refl _⟩, ⟨by (with_reducible repeat (first | refine blk_drewN ?_ _ | refine blk_drew ?_ | refine blk_alloc ?_ _)); exact BK255.out⟩, ⟨by repeat (first | (with_reducible first | exact HB.out | apply below_alloc | apply pw_below_drewN | apply below_drew1 | refine below_set ?_ GE255.out) | exact HB.out)⟩⟩
        · rw [if_neg c12] at H
          have c12b0 : decide (t257 < a1) = false := decide_eq_false c12
          clear c12
          (first | rw [c12b0] | (simp only [i64_w, i32_w]; rw [c12b0]) | skip)
          by_cases c13 : (Int.tmod t257 60) = 0
          · rw [if_pos c13] at H
            have c13b0 : ((Int.tmod t257 60) == 0) = true := beq_iff_eq.mpr c13
            have c13b1 : ((Int.tmod t257 60) != 0) = false := bne_eq_false_iff_eq.mpr c13
            clear c13
            replace H := Option.bind_eq_some_iff.mp H
            obtain ⟨t259, A140, H⟩ := H
            replace H : (capstanlaw04_CronLeast.j0 k a1 t257 (!t259) a0_0 a0_1 a0_2 a0_3 a0_4) = some r := H
            have A14 := Aside0.mk A140
            clear A140
            have H' := Aside0.mk H
            clear H
            have hcz15_0 : w11.cell? ⟨gb255, 0, none⟩ = some (.int .u64 a0_0) := (blk_cell BK255.out 0).trans rfl
            have hcz15_1 : w11.cell? ⟨gb255, 1, none⟩ = some (.int .u64 a0_1) := (blk_cell BK255.out 1).trans rfl
            have hcz15_2 : w11.cell? ⟨gb255, 2, none⟩ = some (.int .u64 a0_2) := (blk_cell BK255.out 2).trans rfl
            have hcz15_3 : w11.cell? ⟨gb255, 3, none⟩ = some (.int .u64 a0_3) := (blk_cell BK255.out 3).trans rfl
            have hcz15_4 : w11.cell? ⟨gb255, 4, none⟩ = some (.int .u64 a0_4) := (blk_cell BK255.out 4).trans rfl
            have hfz15_0 := blk_frozen BK255.out 0
            have hfz15_1 := blk_frozen BK255.out 1
            have hfz15_2 := blk_frozen BK255.out 2
            have hfz15_3 := blk_frozen BK255.out 3
            have hfz15_4 := blk_frozen BK255.out 4
            go_wp2_with (first | (go_at_call 17; (with_reducible refine (cron_Names.calls a0_0 a0_1 a0_2 a0_3 a0_4 t257 t259 _ A14.out).mono ?_); rintro e w16 ⟨rfl, hb⟩; have n0_ := Aside0.mk (blk_below (g := gb255) (o := .cells #[.int .u64 a0_0, .int .u64 a0_1, .int .u64 a0_2, .int .u64 a0_3, .int .u64 a0_4] 25 (0, 0)) (by (with_reducible repeat (first | refine blk_drewN ?_ _ | refine blk_drew ?_ | refine blk_alloc ?_ _)); exact BK255.out) hb); have n1_ := Aside0.mk (below_step (by repeat (first | (with_reducible first | exact HB.out | apply below_alloc | apply pw_below_drewN | apply below_drew1 | refine below_set ?_ GE255.out) | exact HB.out)) hb); clear BK255; clear HB; have BK255 := n0_; have HB := n1_; clear n0_ n1_; (try clear hb); (try clear hb2); (try clear hk); (try clear hi)))
            go_meet
            case rel => exact ⟨_, (!t259), (by first | rfl | (simp; done) | (simp [*]; done)), H', ⟨by first | omega | exact Nat.le_refl _⟩, ⟨by (with_reducible repeat (first | refine blk_drewN ?_ _ | refine blk_drew ?_ | refine blk_alloc ?_ _)); exact BK255.out⟩, ⟨by repeat (first | (with_reducible first | exact HB.out | apply below_alloc | apply pw_below_drewN | apply below_drew1 | refine below_set ?_ GE255.out) | exact HB.out)⟩⟩
          · rw [if_neg c13] at H
            have c13b0 : ((Int.tmod t257 60) == 0) = false := beq_eq_false_iff_ne.mpr c13
            have c13b1 : ((Int.tmod t257 60) != 0) = true := bne_iff_ne.mpr c13
            have H' := Aside0.mk H
            clear H
            go_wp2
            go_meet
            case rel => exact ⟨_, (true), (by first | rfl | (simp; done) | (simp [*]; done)), H', ⟨by first | omega | exact Nat.le_refl _⟩, ⟨by (with_reducible repeat (first | refine blk_drewN ?_ _ | refine blk_drew ?_ | refine blk_alloc ?_ _)); exact BK255.out⟩, ⟨by repeat (first | (with_reducible first | exact HB.out | apply below_alloc | apply pw_below_drewN | apply below_drew1 | refine below_set ?_ GE255.out) | exact HB.out)⟩⟩
      case rest =>
        clear HC7
        try clear c1
        try clear p2
        try clear c4
        try clear c6
        try clear c9
        try clear c10
        try clear c12
        try clear c12b0
        try clear c13
        try clear c13b0
        try clear c13b1
        try clear hcz10_0
        try clear hcz10_1
        try clear hcz10_2
        try clear hcz10_3
        try clear hcz10_4
        try clear hcz15_0
        try clear hcz15_1
        try clear hcz15_2
        try clear hcz15_3
        try clear hcz15_4
        try clear hfz10_0
        try clear hfz10_1
        try clear hfz10_2
        try clear hfz10_3
        try clear hfz10_4
        try clear hfz15_0
        try clear hfz15_1
        try clear hfz15_2
        try clear hfz15_3
        try clear hfz15_4
        obtain ⟨kq, x33_6, rfl, HA, HJ6, BK255, HB⟩ := hcut
        cases kq with
        | zero => exact absurd HA.out (by simp [capstanlaw04_CronLeast.j0])
        | succ kj6 =>
          have H := HA.out
          clear HA
          simp only [capstanlaw04_CronLeast.j0] at H
          by_cases c17 : x33_6 = true
          · subst c17
            have H1 : (some false) = some r := by rw [if_pos rfl] at H; exact H
            clear H
            have H := H1
            clear H1
            obtain rfl := Option.some.inj H
            go_wp2
            go_ret
            exact ⟨by first | rfl | (simp [errW_none, errW_some] <;> rfl) | (simp [*, errW_none, errW_some] <;> rfl), by repeat (first | (with_reducible first | exact HB.out | apply below_alloc | apply pw_below_drewN | apply below_drew1 | refine below_set ?_ GE255.out) | exact HB.out)⟩
          · replace c17 := Bool.eq_false_iff.mpr c17
            subst c17
            have H1 : (capstanlaw04_CronLeast.l0 kj6 a1 t257 1 a0_0 a0_1 a0_2 a0_3 a0_4) = some r := by rw [if_neg (show ¬ (false = true) by decide)] at H; exact H
            clear H
            have H := H1
            clear H1
            have H' := Aside0.mk H
            clear H
            go_wp2
            go_loopg [7] kj6 (fun kq v7 w' => ∃ (x7_2 : Int), v7 = .int .i64 x7_2 ∧ Aside0 (capstanlaw04_CronLeast.l0 kq a1 t257 x7_2 a0_0 a0_1 a0_2 a0_3 a0_4 = some r) ∧ Aside0 (kq ≤ kj6) ∧ Aside0 (w'.heap[gb255]? = some (.cells #[.int .u64 a0_0, .int .u64 a0_1, .int .u64 a0_2, .int .u64 a0_3, .int .u64 a0_4] 25 (0, 0))) ∧ Aside0 (Below w.heap.size w w'))
            case atStart => exact ⟨(1), (by first | rfl | (simp; done) | (simp [*]; done)), H', ⟨Nat.le_refl _⟩, ⟨by (with_reducible repeat (first | refine blk_drewN ?_ _ | refine blk_drew ?_ | refine blk_alloc ?_ _)); exact BK255.out⟩, ⟨by repeat (first | (with_reducible first | exact HB.out | apply below_alloc | apply pw_below_drewN | apply below_drew1 | refine below_set ?_ GE255.out) | exact HB.out)⟩⟩
            case round =>
              clear H'
              try clear c1
              try clear p2
              try clear c4
              try clear c6
              try clear c9
              try clear c10
              try clear c12
              try clear c12b0
              try clear c13
              try clear c13b0
              try clear c13b1
              try clear c17
              try clear hcz10_0
              try clear hcz10_1
              try clear hcz10_2
              try clear hcz10_3
              try clear hcz10_4
              try clear hcz15_0
              try clear hcz15_1
              try clear hcz15_2
              try clear hcz15_3
              try clear hcz15_4
              try clear hfz10_0
              try clear hfz10_1
              try clear hfz10_2
              try clear hfz10_3
              try clear hfz10_4
              try clear hfz15_0
              try clear hfz15_1
              try clear hfz15_2
              try clear hfz15_3
              try clear hfz15_4
              try clear p2
              obtain ⟨x7_2, rfl, HA, HK2, BK255, HB⟩ := hrel
              cases gk with
              | zero => exact absurd HA.out (by simp [capstanlaw04_CronLeast.l0])
              | succ k2 =>
                have H := HA.out
                clear HA
                simp only [capstanlaw04_CronLeast.l0] at H
                by_cases c18 : x7_2 ≤ 60
                · rw [if_pos c18] at H
                  have c18b0 : decide (x7_2 ≤ 60) = true := decide_eq_true c18
                  clear c18
                  by_cases c19 : (wrap64 (t257 - a1)) ≥ (wrap64 (60 * x7_2))
                  · rw [if_pos c19] at H
                    have c19b0 : decide ((wrap64 (60 * x7_2)) ≤ (wrap64 (t257 - a1))) = true := decide_eq_true c19
                    clear c19
                    replace H := Option.bind_eq_some_iff.mp H
                    obtain ⟨t260, A200, H⟩ := H
                    replace H : (if t260 = true then (some false) else (capstanlaw04_CronLeast.l0 k2 a1 t257 (wrap64 (x7_2 + 1)) a0_0 a0_1 a0_2 a0_3 a0_4)) = some r := H
                    have A20 := Aside0.mk A200
                    clear A200
                    by_cases c21 : t260 = true
                    · subst c21
                      have H1 : (some false) = some r := by rw [if_pos rfl] at H; exact H
                      clear H
                      have H := H1
                      clear H1
                      obtain rfl := Option.some.inj H
                      have hcz22_0 : wr.cell? ⟨gb255, 0, none⟩ = some (.int .u64 a0_0) := (blk_cell BK255.out 0).trans rfl
                      have hcz22_1 : wr.cell? ⟨gb255, 1, none⟩ = some (.int .u64 a0_1) := (blk_cell BK255.out 1).trans rfl
                      have hcz22_2 : wr.cell? ⟨gb255, 2, none⟩ = some (.int .u64 a0_2) := (blk_cell BK255.out 2).trans rfl
                      have hcz22_3 : wr.cell? ⟨gb255, 3, none⟩ = some (.int .u64 a0_3) := (blk_cell BK255.out 3).trans rfl
                      have hcz22_4 : wr.cell? ⟨gb255, 4, none⟩ = some (.int .u64 a0_4) := (blk_cell BK255.out 4).trans rfl
                      have hfz22_0 := blk_frozen BK255.out 0
                      have hfz22_1 := blk_frozen BK255.out 1
                      have hfz22_2 := blk_frozen BK255.out 2
                      have hfz22_3 := blk_frozen BK255.out 3
                      have hfz22_4 := blk_frozen BK255.out 4
                      go_wp2_with (first | (go_at_call 17; (with_reducible refine (cron_Names.calls a0_0 a0_1 a0_2 a0_3 a0_4 (wrap64 (t257 - (wrap64 (60 * x7_2)))) true _ A20.out).mono ?_); rintro e w23 ⟨rfl, hb⟩; have n0_ := Aside0.mk (blk_below (g := gb255) (o := .cells #[.int .u64 a0_0, .int .u64 a0_1, .int .u64 a0_2, .int .u64 a0_3, .int .u64 a0_4] 25 (0, 0)) (by (with_reducible repeat (first | refine blk_drewN ?_ _ | refine blk_drew ?_ | refine blk_alloc ?_ _)); exact BK255.out) hb); have n1_ := Aside0.mk (below_step (by repeat (first | (with_reducible first | exact HB.out | apply below_alloc | apply pw_below_drewN | apply below_drew1 | refine below_set ?_ GE255.out) | exact HB.out)) hb); clear BK255; clear HB; have BK255 := n0_; have HB := n1_; clear n0_ n1_; (try clear hb); (try clear hb2); (try clear hk); (try clear hi)))
                      go_ret
                      exact ⟨by first | rfl | (simp [errW_none, errW_some] <;> rfl) | (simp [*, errW_none, errW_some] <;> rfl), by repeat (first | (with_reducible first | exact HB.out | apply below_alloc | apply pw_below_drewN | apply below_drew1 | refine below_set ?_ GE255.out) | exact HB.out)⟩
                    · replace c21 := Bool.eq_false_iff.mpr c21
                      subst c21
                      have H1 : (capstanlaw04_CronLeast.l0 k2 a1 t257 (wrap64 (x7_2 + 1)) a0_0 a0_1 a0_2 a0_3 a0_4) = some r := by rw [if_neg (show ¬ (false = true) by decide)] at H; exact H
                      clear H
                      have H := H1
                      clear H1
                      have H' := Aside0.mk H
                      clear H
                      have hcz24_0 : wr.cell? ⟨gb255, 0, none⟩ = some (.int .u64 a0_0) := (blk_cell BK255.out 0).trans rfl
                      have hcz24_1 : wr.cell? ⟨gb255, 1, none⟩ = some (.int .u64 a0_1) := (blk_cell BK255.out 1).trans rfl
                      have hcz24_2 : wr.cell? ⟨gb255, 2, none⟩ = some (.int .u64 a0_2) := (blk_cell BK255.out 2).trans rfl
                      have hcz24_3 : wr.cell? ⟨gb255, 3, none⟩ = some (.int .u64 a0_3) := (blk_cell BK255.out 3).trans rfl
                      have hcz24_4 : wr.cell? ⟨gb255, 4, none⟩ = some (.int .u64 a0_4) := (blk_cell BK255.out 4).trans rfl
                      have hfz24_0 := blk_frozen BK255.out 0
                      have hfz24_1 := blk_frozen BK255.out 1
                      have hfz24_2 := blk_frozen BK255.out 2
                      have hfz24_3 := blk_frozen BK255.out 3
                      have hfz24_4 := blk_frozen BK255.out 4
                      go_wp2_with (first | (go_at_call 17; (with_reducible refine (cron_Names.calls a0_0 a0_1 a0_2 a0_3 a0_4 (wrap64 (t257 - (wrap64 (60 * x7_2)))) false _ A20.out).mono ?_); rintro e w25 ⟨rfl, hb⟩; have n0_ := Aside0.mk (blk_below (g := gb255) (o := .cells #[.int .u64 a0_0, .int .u64 a0_1, .int .u64 a0_2, .int .u64 a0_3, .int .u64 a0_4] 25 (0, 0)) (by (with_reducible repeat (first | refine blk_drewN ?_ _ | refine blk_drew ?_ | refine blk_alloc ?_ _)); exact BK255.out) hb); have n1_ := Aside0.mk (below_step (by repeat (first | (with_reducible first | exact HB.out | apply below_alloc | apply pw_below_drewN | apply below_drew1 | refine below_set ?_ GE255.out) | exact HB.out)) hb); clear BK255; clear HB; have BK255 := n0_; have HB := n1_; clear n0_ n1_; (try clear hb); (try clear hb2); (try clear hk); (try clear hi)))
                      go_roundg k2
                      case measure => have := HJ6.out; have := HK2.out; omega
                      case rel => exact ⟨(wrap64 (x7_2 + 1)), (by first | rfl | (simp; done) | (simp [*]; done)), H', ⟨by have := HJ6.out; have := HK2.out; omega⟩, ⟨by (with_reducible repeat (first | refine blk_drewN ?_ _ | refine blk_drew ?_ | refine blk_alloc ?_ _)); exact BK255.out⟩, ⟨by repeat (first | (with_reducible first | exact HB.out | apply below_alloc | apply pw_below_drewN | apply below_drew1 | refine below_set ?_ GE255.out) | exact HB.out)⟩⟩
                  · rw [if_neg c19] at H
                    have c19b0 : decide ((wrap64 (60 * x7_2)) ≤ (wrap64 (t257 - a1))) = false := decide_eq_false c19
                    clear c19
                    have H' := Aside0.mk H
                    clear H
                    go_wp2
                    go_roundg k2
                    case measure => have := HJ6.out; have := HK2.out; omega
                    case rel => exact ⟨(wrap64 (x7_2 + 1)), (by first | rfl | (simp; done) | (simp [*]; done)), H', ⟨by have := HJ6.out; have := HK2.out; omega⟩, ⟨by (with_reducible repeat (first | refine blk_drewN ?_ _ | refine blk_drew ?_ | refine blk_alloc ?_ _)); exact BK255.out⟩, ⟨by repeat (first | (with_reducible first | exact HB.out | apply below_alloc | apply pw_below_drewN | apply below_drew1 | refine below_set ?_ GE255.out) | exact HB.out)⟩⟩
                · rw [if_neg c18] at H
                  have c18b0 : decide (x7_2 ≤ 60) = false := decide_eq_false c18
                  clear c18
                  obtain rfl := Option.some.inj H
                  go_wp2
                  go_ret
                  exact ⟨by first | rfl | (simp [errW_none, errW_some] <;> rfl) | (simp [*, errW_none, errW_some] <;> rfl), by repeat (first | (with_reducible first | exact HB.out | apply below_alloc | apply pw_below_drewN | apply below_drew1 | refine below_set ?_ GE255.out) | exact HB.out)⟩
    · replace c6 := Bool.eq_false_iff.mpr c6
      subst c6
      have H1 : (some (t257 == 0)) = some r := by rw [if_neg (show ¬ (false = true) by decide)] at H; exact H
      clear H
      have H := H1
      clear H1
      obtain rfl := Option.some.inj H
      go_enter Tryd.func9, Tryd.ntmps9
      go_wp2_with (first | ((with_reducible refine gate_dst (N := 2) rfl ?_); refine box_event ?hg (N := 2) ?hd (cs := #[.int .u64 a0_0, .int .u64 a0_1, .int .u64 a0_2, .int .u64 a0_3, .int .u64 a0_4]) (t := 25) ?hr ?_; (case hd => rfl); (case hg => rfl); (case hr => first | (go_simp; done) | (go_simp; rfl)); intro gb255 hg w26 hbox hb; have n0_ := Aside0.mk (below_step (by repeat (first | (with_reducible first | exact HB.out | apply below_alloc | apply pw_below_drewN | apply below_drew1) | exact HB.out)) hb); have n1_ := Aside0.mk (hbox); have n2_ := Aside0.mk ((by rw [hg]; exact (below_size (by repeat (first | (with_reducible first | exact HB.out | apply below_alloc | apply pw_below_drewN | apply below_drew1) | exact HB.out))) : w.heap.size ≤ gb255)); have n3_ := Aside0.mk ((by rw [hg]; exact (below_size (by repeat (first | (with_reducible first | exact HB.out | apply below_alloc | apply pw_below_drewN | apply below_drew1) | exact HB.out))) : w.heap.size ≤ gb255)); clear HB; have HB := n0_; have BK255 := n1_; have GW255 := n2_; have GE255 := n3_; clear n0_ n1_ n2_ n3_; clear hb hbox hg) | ((with_reducible refine gate_callee (f := 10) rfl ?_); refine goesL_ (some 8) rfl rfl Tryd.func10 (by kernel_rfl) rfl #[] rfl (by (try simp only [List.map_toArray, List.map_cons, List.map_nil]); first | done | rfl | (simp only [List.length_drop, List.length_take]; rfl)) ?_; (with_reducible refine (capstanlaw04_awake.calls k  true _ A3.out (by first | exact HL_.out | exact Go.Proofs.YtkmcmgfmahildaaDoor.Laid.Laid.below HL_.out (by repeat (first | (with_reducible first | exact HB.out | exact Below.refl _ _ | exact (‹Aside0 (Below _ _ _)›).out | apply below_alloc | apply pw_below_drewN | apply below_drew1 | refine Below.setCell ?_ (Aside0.out (by assumption)) _) | exact HB.out | exact (‹Aside0 (Below _ _ _)›).out)))).mono ?_); rintro e w27 ⟨rfl, hb⟩; refine ⟨_, rfl, ?_⟩; have n0_ := Aside0.mk (blk_below (g := gb255) (o := .cells #[.int .u64 a0_0, .int .u64 a0_1, .int .u64 a0_2, .int .u64 a0_3, .int .u64 a0_4] 25 (0, 0)) (by (with_reducible repeat (first | refine blk_drewN ?_ _ | refine blk_drew ?_ | refine blk_alloc ?_ _)); exact BK255.out) hb); have n1_ := Aside0.mk (below_step (by repeat (first | (with_reducible first | exact HB.out | apply below_alloc | apply pw_below_drewN | apply below_drew1 | refine below_set ?_ GE255.out) | exact HB.out)) hb); clear BK255; clear HB; have BK255 := n0_; have HB := n1_; clear n0_ n1_; (try clear hb); (try clear hb2); (try clear hk); (try clear hi); have hcz28_0 : w27.cell? ⟨gb255, 0, none⟩ = some (.int .u64 a0_0) := (blk_cell BK255.out 0).trans rfl; have hcz28_1 : w27.cell? ⟨gb255, 1, none⟩ = some (.int .u64 a0_1) := (blk_cell BK255.out 1).trans rfl; have hcz28_2 : w27.cell? ⟨gb255, 2, none⟩ = some (.int .u64 a0_2) := (blk_cell BK255.out 2).trans rfl; have hcz28_3 : w27.cell? ⟨gb255, 3, none⟩ = some (.int .u64 a0_3) := (blk_cell BK255.out 3).trans rfl; have hcz28_4 : w27.cell? ⟨gb255, 4, none⟩ = some (.int .u64 a0_4) := (blk_cell BK255.out 4).trans rfl; have hfz28_0 := blk_frozen BK255.out 0; have hfz28_1 := blk_frozen BK255.out 1; have hfz28_2 := blk_frozen BK255.out 2; have hfz28_3 := blk_frozen BK255.out 3; have hfz28_4 := blk_frozen BK255.out 4) | ((with_reducible refine gate_callee (f := 19) rfl ?_); refine goesL_ (some 13) rfl rfl Tryd.func19 (by kernel_rfl) rfl #[.agg #[.int .u64 a0_0, .int .u64 a0_1, .int .u64 a0_2, .int .u64 a0_3, .int .u64 a0_4], .int .i64 a1] rfl (by (try simp only [List.map_toArray, List.map_cons, List.map_nil]); first | done | rfl | (simp only [List.length_drop, List.length_take]; rfl)) ?_; (with_reducible refine (cron_Next.calls k a0_0 a0_1 a0_2 a0_3 a0_4 a1 t257 false _ A5.out (by first | exact HL_.out | exact Go.Proofs.YtkmcmgfmahildaaDoor.Laid.Laid.below HL_.out (by repeat (first | (with_reducible first | exact HB.out | exact Below.refl _ _ | exact (‹Aside0 (Below _ _ _)›).out | apply below_alloc | apply pw_below_drewN | apply below_drew1 | refine Below.setCell ?_ (Aside0.out (by assumption)) _) | exact HB.out | exact (‹Aside0 (Below _ _ _)›).out)))).mono ?_); rintro e w29 ⟨rfl, hb⟩; refine ⟨_, rfl, ?_⟩; have n0_ := Aside0.mk (blk_below (g := gb255) (o := .cells #[.int .u64 a0_0, .int .u64 a0_1, .int .u64 a0_2, .int .u64 a0_3, .int .u64 a0_4] 25 (0, 0)) (by (with_reducible repeat (first | refine blk_drewN ?_ _ | refine blk_drew ?_ | refine blk_alloc ?_ _)); exact BK255.out) hb); have n1_ := Aside0.mk (below_step (by repeat (first | (with_reducible first | exact HB.out | apply below_alloc | apply pw_below_drewN | apply below_drew1 | refine below_set ?_ GE255.out) | exact HB.out)) hb); clear BK255; clear HB; have BK255 := n0_; have HB := n1_; clear n0_ n1_; (try clear hb); (try clear hb2); (try clear hk); (try clear hi)))
      go_ret
      exact ⟨by first | rfl | (simp [errW_none, errW_some] <;> rfl) | (simp [*, errW_none, errW_some] <;> rfl), by repeat (first | (with_reducible first | exact HB.out | apply below_alloc | apply pw_below_drewN | apply below_drew1 | refine below_set ?_ GE255.out) | exact HB.out)⟩
  · replace c4 := Bool.eq_false_iff.mpr c4
    subst c4
    have H1 : (some false) = some r := by rw [if_neg (show ¬ (false = true) by decide)] at H; exact H
    clear H
    have H := H1
    clear H1
    obtain rfl := Option.some.inj H
    go_enter Tryd.func9, Tryd.ntmps9
    go_wp2_with (first | ((with_reducible refine gate_dst (N := 2) rfl ?_); refine box_event ?hg (N := 2) ?hd (cs := #[.int .u64 a0_0, .int .u64 a0_1, .int .u64 a0_2, .int .u64 a0_3, .int .u64 a0_4]) (t := 25) ?hr ?_; (case hd => rfl); (case hg => rfl); (case hr => first | (go_simp; done) | (go_simp; rfl)); intro gb255 hg w30 hbox hb; have n0_ := Aside0.mk (below_step (by repeat (first | (with_reducible first | exact HB.out | apply below_alloc | apply pw_below_drewN | apply below_drew1) | exact HB.out)) hb); have n1_ := Aside0.mk (hbox); have n2_ := Aside0.mk ((by rw [hg]; exact (below_size (by repeat (first | (with_reducible first | exact HB.out | apply below_alloc | apply pw_below_drewN | apply below_drew1) | exact HB.out))) : w.heap.size ≤ gb255)); have n3_ := Aside0.mk ((by rw [hg]; exact (below_size (by repeat (first | (with_reducible first | exact HB.out | apply below_alloc | apply pw_below_drewN | apply below_drew1) | exact HB.out))) : w.heap.size ≤ gb255)); clear HB; have HB := n0_; have BK255 := n1_; have GW255 := n2_; have GE255 := n3_; clear n0_ n1_ n2_ n3_; clear hb hbox hg) | ((with_reducible refine gate_callee (f := 10) rfl ?_); refine goesL_ (some 8) rfl rfl Tryd.func10 (by kernel_rfl) rfl #[] rfl (by (try simp only [List.map_toArray, List.map_cons, List.map_nil]); first | done | rfl | (simp only [List.length_drop, List.length_take]; rfl)) ?_; (with_reducible refine (capstanlaw04_awake.calls k  false _ A3.out (by first | exact HL_.out | exact Go.Proofs.YtkmcmgfmahildaaDoor.Laid.Laid.below HL_.out (by repeat (first | (with_reducible first | exact HB.out | exact Below.refl _ _ | exact (‹Aside0 (Below _ _ _)›).out | apply below_alloc | apply pw_below_drewN | apply below_drew1 | refine Below.setCell ?_ (Aside0.out (by assumption)) _) | exact HB.out | exact (‹Aside0 (Below _ _ _)›).out)))).mono ?_); rintro e w31 ⟨rfl, hb⟩; refine ⟨_, rfl, ?_⟩; have n0_ := Aside0.mk (blk_below (g := gb255) (o := .cells #[.int .u64 a0_0, .int .u64 a0_1, .int .u64 a0_2, .int .u64 a0_3, .int .u64 a0_4] 25 (0, 0)) (by (with_reducible repeat (first | refine blk_drewN ?_ _ | refine blk_drew ?_ | refine blk_alloc ?_ _)); exact BK255.out) hb); have n1_ := Aside0.mk (below_step (by repeat (first | (with_reducible first | exact HB.out | apply below_alloc | apply pw_below_drewN | apply below_drew1 | refine below_set ?_ GE255.out) | exact HB.out)) hb); clear BK255; clear HB; have BK255 := n0_; have HB := n1_; clear n0_ n1_; (try clear hb); (try clear hb2); (try clear hk); (try clear hi)))
    go_ret
    exact ⟨by first | rfl | (simp [errW_none, errW_some] <;> rfl) | (simp [*, errW_none, errW_some] <;> rfl), by repeat (first | (with_reducible first | exact HB.out | apply below_alloc | apply pw_below_drewN | apply below_drew1 | refine below_set ?_ GE255.out) | exact HB.out)⟩

end Go.Proofs.YtkmcmgfmahildaaDoor.OB
