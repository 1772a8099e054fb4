/- Walks of functions, written by a program (wip/tools/own.py) over hand contracts; conditions: as each theorem states. -/
import Derived.Test.YtkmcmgfmahildaaDoorOBx0
import Derived.Test.YtkmcmgfmahildaaDoorOBx1
import Derived.Test.YtkmcmgfmahildaaDoorCd
import Derived.Test.YtkmcmgfmahildaaDoorCw
namespace Go.Proofs.YtkmcmgfmahildaaDoor.OB
open Go.RowKit Go.Proofs.YtkmcmgfmahildaaDoorW.PrintWords Go.Proofs.YtkmcmgfmahildaaDoorW.PrintLast Go.Proofs.YtkmcmgfmahildaaDoorW.PrintMore
attribute [local go_sem] max2_int min2_int max_two min_two max_three min_three max_four min_four   -- for this text's walks alone
set_option linter.unusedVariables false
set_option linter.unusedSimpArgs false

/-! ### cron_later: function 37 -/
def cron_later.f (a0 : Int) (a1 : Int) : Option (Int × Bool) := if a0 > (wrap64 (9223372036854775807 - a1)) then (some (0, false)) else (some (wrap64 (a0 + a1), true))
set_option maxHeartbeats 8000000 in
set_option maxRecDepth 100000 in
theorem cron_later.calls (a0 : Int) (a1 : Int) (r1 : Int) (r2 : Bool) (w : World) (h : cron_later.f a0 a1 = some (r1, r2)) :
    Calls Tryd.prog 37 #[.int .i64 a0, .int .i64 a1] w fun e w' => e = .returned (.tuple #[.int .i64 r1, .bool r2]) ∧ Drawn0 w w' := by
  have H : (if a0 > (wrap64 (9223372036854775807 - a1)) then (some (0, false)) else (some (wrap64 (a0 + a1), true))) = some (r1, r2) := h
  clear h
  by_cases c3 : a0 > (wrap64 (9223372036854775807 - a1))
  · rw [if_pos c3] at H
    have c3b0 : decide ((wrap64 (9223372036854775807 - a1)) < a0) = true := decide_eq_true c3
    clear c3
    simp only [Option.some.injEq, Prod.mk.injEq] at H
    obtain ⟨rfl, rfl⟩ := H
    go_enter Tryd.func37, Tryd.ntmps37
    go_wp2
    go_ret2
    exact ⟨by first | rfl | (simp; done) | (simp [*]; done), by repeat (first | exact Drawn0.refl _ | apply Drawn0.step)⟩
  · rw [if_neg c3] at H
    have c3b0 : decide ((wrap64 (9223372036854775807 - a1)) < a0) = false := decide_eq_false c3
    clear c3
    simp only [Option.some.injEq, Prod.mk.injEq] at H
    obtain ⟨rfl, rfl⟩ := H
    go_enter Tryd.func37, Tryd.ntmps37
    go_wp2
    go_ret2
    exact ⟨by first | rfl | (simp; done) | (simp [*]; done), by repeat (first | exact Drawn0.refl _ | apply Drawn0.step)⟩



/-! ### cron_inDay: function 38 -/
def cron_inDay.l0 : Nat → Int → Int → Int → Int → Int → Int → Option (Int × Bool)
  | 0, _, _, _, _, _, _ => none
  | k + 1, x6, x207000, x207001, x207002, x207003, x207004 => if x6 < 1440 then ((cron_has.f x207001 (wrap64 (Int.tdiv x6 60))).bind fun t207 => (if t207 = true then ((cron_has.f x207000 (Int.tmod x6 60)).bind fun t208 => (if t208 = true then (some (x6, true)) else (cron_inDay.l0 k (wrap64 (x6 + 1)) x207000 x207001 x207002 x207003 x207004))) else (cron_inDay.l0 k (wrap64 (x6 + 1)) x207000 x207001 x207002 x207003 x207004))) else (some (0, false))
def cron_inDay.f (k : Nat) (a0_0 : Int) (a0_1 : Int) (a0_2 : Int) (a0_3 : Int) (a0_4 : Int) (a1 : Int) : Option (Int × Bool) := cron_inDay.l0 k a1 a0_0 a0_1 a0_2 a0_3 a0_4
theorem cron_inDay.mono_l : ∀ k, (∀ y0 y1 y2 y3 y4 y5, LeO (cron_inDay.l0 k y0 y1 y2 y3 y4 y5) (cron_inDay.l0 (k + 1) y0 y1 y2 y3 y4 y5))
  | 0 => fun _ _ _ _ _ _ r h => by simp [cron_inDay.l0] at h
  | k + 1 => by
    have ih0 := cron_inDay.mono_l k
    · intro y0 y1 y2 y3 y4 y5
      unfold cron_inDay.l0
      repeat' first
      | (with_reducible exact ih0 _ _ _ _ _ _)
      | (with_reducible exact LeO.refl _)
      | (with_reducible exact LeO.none _)
      | (with_reducible refine LeO.ite ?_ ?_)
      | (with_reducible refine LeO.bind ?_ (fun _ => ?_))
      | exact ih0 _ _ _ _ _ _
      | exact LeO.none _
      | refine LeO.ite ?_ ?_
      | refine LeO.bind ?_ (fun _ => ?_)
theorem cron_inDay.mono : ∀ a0 a1 a2 a3 a4 a5 k, LeO (cron_inDay.f k a0 a1 a2 a3 a4 a5) (cron_inDay.f (k + 1) a0 a1 a2 a3 a4 a5) := by
  intro a0 a1 a2 a3 a4 a5 k
  have ih0 := cron_inDay.mono_l k
  unfold cron_inDay.f
  repeat' first
      | (with_reducible exact ih0 _ _ _ _ _ _)
      | (with_reducible exact LeO.refl _)
      | (with_reducible exact LeO.none _)
      | (with_reducible refine LeO.ite ?_ ?_)
      | (with_reducible refine LeO.bind ?_ (fun _ => ?_))
      | exact ih0 _ _ _ _ _ _
      | exact LeO.none _
      | refine LeO.ite ?_ ?_
      | refine LeO.bind ?_ (fun _ => ?_)
set_option maxHeartbeats 8000000 in
set_option maxRecDepth 100000 in
theorem cron_inDay.calls (k : Nat) (a0_0 : Int) (a0_1 : Int) (a0_2 : Int) (a0_3 : Int) (a0_4 : Int) (a1 : Int) (r1 : Int) (r2 : Bool) (w : World) (h : cron_inDay.f k a0_0 a0_1 a0_2 a0_3 a0_4 a1 = some (r1, r2)) :
    Calls Tryd.prog 38 #[.agg #[.int .u64 a0_0, .int .u64 a0_1, .int .u64 a0_2, .int .u64 a0_3, .int .u64 a0_4], .int .i64 a1] w fun e w' => e = .returned (.tuple #[.int .i64 r1, .bool r2]) ∧ Below w.heap.size w w' := by
  have hu25 := Tryd.underlying25
  have HB := Aside0.mk (Below.refl w.heap.size w)
  have H : (cron_inDay.l0 k a1 a0_0 a0_1 a0_2 a0_3 a0_4) = some (r1, r2) := h
  clear h
  have H' := Aside0.mk H
  clear H
  go_enter Tryd.func38, Tryd.ntmps38
  go_wp2_with (first | ((with_reducible refine gate_dst (N := 2) rfl ?_); refine box_event ?hg (N := 2) ?hd (cs := #[.int .u64 a0_0, .int .u64 a0_1, .int .u64 a0_2, .int .u64 a0_3, .int .u64 a0_4]) (t := 25) ?hr ?_; (case hd => rfl); (case hg => rfl); (case hr => first | (go_simp; done) | (go_simp; rfl)); intro gb206 hg w3 hbox hb; have n0_ := Aside0.mk (below_step (by repeat (first | (with_reducible first | exact HB.out | apply below_alloc | apply pw_below_drewN | apply below_drew1) | exact HB.out)) hb); have n1_ := Aside0.mk (hbox); have n2_ := Aside0.mk ((by rw [hg]; exact (below_size (by repeat (first | (with_reducible first | exact HB.out | apply below_alloc | apply pw_below_drewN | apply below_drew1) | exact HB.out))) : w.heap.size ≤ gb206)); have n3_ := Aside0.mk ((by rw [hg]; exact (below_size (by repeat (first | (with_reducible first | exact HB.out | apply below_alloc | apply pw_below_drewN | apply below_drew1) | exact HB.out))) : w.heap.size ≤ gb206)); clear HB; have HB := n0_; have BK206 := n1_; have GW206 := n2_; have GE206 := n3_; clear n0_ n1_ n2_ n3_; clear hb hbox hg))
  go_loopg [6] k (fun kq v6 w' => ∃ (x6_1 : Int), v6 = .int .i64 x6_1 ∧ Aside0 (cron_inDay.l0 kq x6_1 a0_0 a0_1 a0_2 a0_3 a0_4 = some (r1, r2)) ∧ Aside0 (kq ≤ k) ∧ Aside0 (w'.heap[gb206]? = some (.cells #[.int .u64 a0_0, .int .u64 a0_1, .int .u64 a0_2, .int .u64 a0_3, .int .u64 a0_4] 25 (0, 0))) ∧ Aside0 (Below w.heap.size w w'))
  case atStart => exact ⟨(a1), (by first | rfl | (simp; done) | (simp [*]; done)), H', ⟨Nat.le_refl _⟩, ⟨by (with_reducible repeat (first | refine blk_drewN ?_ _ | refine blk_drew ?_ | refine blk_alloc ?_ _)); exact BK206.out⟩, ⟨by repeat (first | (with_reducible first | exact HB.out | apply below_alloc | apply pw_below_drewN | apply below_drew1 | refine below_set ?_ GE206.out) | exact HB.out)⟩⟩
  case round =>
    clear H'
    try clear p2
    try clear c3
    obtain ⟨x6_1, rfl, HA, HK1, BK206, HB⟩ := hrel
    cases gk with
    | zero => exact absurd HA.out (by simp [cron_inDay.l0])
    | succ k1 =>
      have H := HA.out
      clear HA
      simp only [cron_inDay.l0] at H
      by_cases c4 : x6_1 < 1440
      · rw [if_pos c4] at H
        have c4b0 : decide (x6_1 < 1440) = true := decide_eq_true c4
        clear c4
        replace H := Option.bind_eq_some_iff.mp H
        obtain ⟨t207, A50, H⟩ := H
        replace H : (if t207 = true then ((cron_has.f a0_0 (Int.tmod x6_1 60)).bind fun t208 => (if t208 = true then (some (x6_1, true)) else (cron_inDay.l0 k1 (wrap64 (x6_1 + 1)) a0_0 a0_1 a0_2 a0_3 a0_4))) else (cron_inDay.l0 k1 (wrap64 (x6_1 + 1)) a0_0 a0_1 a0_2 a0_3 a0_4)) = some (r1, r2) := H
        have A5 := Aside0.mk A50
        clear A50
        by_cases c6 : t207 = true
        · subst c6
          have H1 : ((cron_has.f a0_0 (Int.tmod x6_1 60)).bind fun t208 => (if t208 = true then (some (x6_1, true)) else (cron_inDay.l0 k1 (wrap64 (x6_1 + 1)) a0_0 a0_1 a0_2 a0_3 a0_4))) = some (r1, r2) := by rw [if_pos rfl] at H; exact H
          clear H
          have H := H1
          clear H1
          replace H := Option.bind_eq_some_iff.mp H
          obtain ⟨t208, A70, H⟩ := H
          replace H : (if t208 = true then (some (x6_1, true)) else (cron_inDay.l0 k1 (wrap64 (x6_1 + 1)) a0_0 a0_1 a0_2 a0_3 a0_4)) = some (r1, r2) := H
          have A7 := Aside0.mk A70
          clear A70
          by_cases c8 : t208 = true
          · subst c8
            have H1 : (some (x6_1, true)) = some (r1, r2) := by rw [if_pos rfl] at H; exact H
            clear H
            have H := H1
            clear H1
            simp only [Option.some.injEq, Prod.mk.injEq] at H
            obtain ⟨rfl, rfl⟩ := H
            have hcz9_0 : wr.cell? ⟨gb206, 0, none⟩ = some (.int .u64 a0_0) := (blk_cell BK206.out 0).trans rfl
            have hcz9_1 : wr.cell? ⟨gb206, 1, none⟩ = some (.int .u64 a0_1) := (blk_cell BK206.out 1).trans rfl
            have hcz9_2 : wr.cell? ⟨gb206, 2, none⟩ = some (.int .u64 a0_2) := (blk_cell BK206.out 2).trans rfl
            have hcz9_3 : wr.cell? ⟨gb206, 3, none⟩ = some (.int .u64 a0_3) := (blk_cell BK206.out 3).trans rfl
            have hcz9_4 : wr.cell? ⟨gb206, 4, none⟩ = some (.int .u64 a0_4) := (blk_cell BK206.out 4).trans rfl
            have hfz9_0 := blk_frozen BK206.out 0
            have hfz9_1 := blk_frozen BK206.out 1
            have hfz9_2 := blk_frozen BK206.out 2
            have hfz9_3 := blk_frozen BK206.out 3
            have hfz9_4 := blk_frozen BK206.out 4
            go_wp2_with (first | ((with_reducible refine gate_callee (f := 35) rfl ?_); refine goesL_ (some 16) rfl rfl Tryd.func35 (by kernel_rfl) rfl #[.int .u64 a0_1, .int .i64 (wrap64 (Int.tdiv x6_1 60))] rfl (by (try simp only [List.map_toArray, List.map_cons, List.map_nil]); first | done | rfl | (simp only [List.length_drop, List.length_take]; rfl)) ?_; (with_reducible refine (cron_has.calls a0_1 (wrap64 (Int.tdiv x6_1 60)) true _ A5.out).mono ?_); rintro e w' ⟨rfl, ⟨nd, rfl⟩⟩; refine ⟨_, rfl, ?_⟩) | (go_at_call 35; (with_reducible refine (cron_has.calls a0_0 (Int.tmod x6_1 60) true _ A7.out).mono ?_); rintro e w' ⟨rfl, ⟨nd, rfl⟩⟩))
            go_ret2
            exact ⟨by first | rfl | (simp [errW_none, errW_some] <;> rfl) | (simp [*, errW_none, errW_some] <;> rfl), by repeat (first | (with_reducible first | exact HB.out | apply below_alloc | apply pw_below_drewN | apply below_drew1 | refine below_set ?_ GE206.out) | exact HB.out)⟩
          · replace c8 := Bool.eq_false_iff.mpr c8
            subst c8
            have H1 : (cron_inDay.l0 k1 (wrap64 (x6_1 + 1)) a0_0 a0_1 a0_2 a0_3 a0_4) = some (r1, r2) := by rw [if_neg (show ¬ (false = true) by decide)] at H; exact H
            clear H
            have H := H1
            clear H1
            have H' := Aside0.mk H
            clear H
            have hcz10_0 : wr.cell? ⟨gb206, 0, none⟩ = some (.int .u64 a0_0) := (blk_cell BK206.out 0).trans rfl
            have hcz10_1 : wr.cell? ⟨gb206, 1, none⟩ = some (.int .u64 a0_1) := (blk_cell BK206.out 1).trans rfl
            have hcz10_2 : wr.cell? ⟨gb206, 2, none⟩ = some (.int .u64 a0_2) := (blk_cell BK206.out 2).trans rfl
            have hcz10_3 : wr.cell? ⟨gb206, 3, none⟩ = some (.int .u64 a0_3) := (blk_cell BK206.out 3).trans rfl
            have hcz10_4 : wr.cell? ⟨gb206, 4, none⟩ = some (.int .u64 a0_4) := (blk_cell BK206.out 4).trans rfl
            have hfz10_0 := blk_frozen BK206.out 0
            have hfz10_1 := blk_frozen BK206.out 1
            have hfz10_2 := blk_frozen BK206.out 2
            have hfz10_3 := blk_frozen BK206.out 3
            have hfz10_4 := blk_frozen BK206.out 4
            go_wp2_with (first | ((with_reducible refine gate_callee (f := 35) rfl ?_); refine goesL_ (some 16) rfl rfl Tryd.func35 (by kernel_rfl) rfl #[.int .u64 a0_1, .int .i64 (wrap64 (Int.tdiv x6_1 60))] rfl (by (try simp only [List.map_toArray, List.map_cons, List.map_nil]); first | done | rfl | (simp only [List.length_drop, List.length_take]; rfl)) ?_; (with_reducible refine (cron_has.calls a0_1 (wrap64 (Int.tdiv x6_1 60)) true _ A5.out).mono ?_); rintro e w' ⟨rfl, ⟨nd, rfl⟩⟩; refine ⟨_, rfl, ?_⟩) | (go_at_call 35; (with_reducible refine (cron_has.calls a0_0 (Int.tmod x6_1 60) false _ A7.out).mono ?_); rintro e w' ⟨rfl, ⟨nd, rfl⟩⟩))
            go_roundg k1
            case measure => have := HK1.out; omega
            case rel => exact ⟨(wrap64 (x6_1 + 1)), (by first | rfl | (simp; done) | (simp [*]; done)), H', ⟨by have := HK1.out; omega⟩, ⟨by (with_reducible repeat (first | refine blk_drewN ?_ _ | refine blk_drew ?_ | refine blk_alloc ?_ _)); exact BK206.out⟩, ⟨by repeat (first | (with_reducible first | exact HB.out | apply below_alloc | apply pw_below_drewN | apply below_drew1 | refine below_set ?_ GE206.out) | exact HB.out)⟩⟩
        · replace c6 := Bool.eq_false_iff.mpr c6
          subst c6
          have H1 : (cron_inDay.l0 k1 (wrap64 (x6_1 + 1)) a0_0 a0_1 a0_2 a0_3 a0_4) = some (r1, r2) := by rw [if_neg (show ¬ (false = true) by decide)] at H; exact H
          clear H
          have H := H1
          clear H1
          have H' := Aside0.mk H
          clear H
          have hcz11_0 : wr.cell? ⟨gb206, 0, none⟩ = some (.int .u64 a0_0) := (blk_cell BK206.out 0).trans rfl
          have hcz11_1 : wr.cell? ⟨gb206, 1, none⟩ = some (.int .u64 a0_1) := (blk_cell BK206.out 1).trans rfl
          have hcz11_2 : wr.cell? ⟨gb206, 2, none⟩ = some (.int .u64 a0_2) := (blk_cell BK206.out 2).trans rfl
          have hcz11_3 : wr.cell? ⟨gb206, 3, none⟩ = some (.int .u64 a0_3) := (blk_cell BK206.out 3).trans rfl
          have hcz11_4 : wr.cell? ⟨gb206, 4, none⟩ = some (.int .u64 a0_4) := (blk_cell BK206.out 4).trans rfl
          have hfz11_0 := blk_frozen BK206.out 0
          have hfz11_1 := blk_frozen BK206.out 1
          have hfz11_2 := blk_frozen BK206.out 2
          have hfz11_3 := blk_frozen BK206.out 3
          have hfz11_4 := blk_frozen BK206.out 4
          go_wp2_with (first | ((with_reducible refine gate_callee (f := 35) rfl ?_); refine goesL_ (some 16) rfl rfl Tryd.func35 (by kernel_rfl) rfl #[.int .u64 a0_1, .int .i64 (wrap64 (Int.tdiv x6_1 60))] rfl (by (try simp only [List.map_toArray, List.map_cons, List.map_nil]); first | done | rfl | (simp only [List.length_drop, List.length_take]; rfl)) ?_; (with_reducible refine (cron_has.calls a0_1 (wrap64 (Int.tdiv x6_1 60)) false _ A5.out).mono ?_); rintro e w' ⟨rfl, ⟨nd, rfl⟩⟩; refine ⟨_, rfl, ?_⟩))
          go_roundg k1
          case measure => have := HK1.out; omega
          case rel => exact ⟨(wrap64 (x6_1 + 1)), (by first | rfl | (simp; done) | (simp [*]; done)), H', ⟨by have := HK1.out; omega⟩, ⟨by (with_reducible repeat (first | refine blk_drewN ?_ _ | refine blk_drew ?_ | refine blk_alloc ?_ _)); exact BK206.out⟩, ⟨by repeat (first | (with_reducible first | exact HB.out | apply below_alloc | apply pw_below_drewN | apply below_drew1 | refine below_set ?_ GE206.out) | exact HB.out)⟩⟩
      · rw [if_neg c4] at H
        have c4b0 : decide (x6_1 < 1440) = false := decide_eq_false c4
        clear c4
        simp only [Option.some.injEq, Prod.mk.injEq] at H
        obtain ⟨rfl, rfl⟩ := H
        go_wp2
        go_ret2
        exact ⟨by first | rfl | (simp [errW_none, errW_some] <;> rfl) | (simp [*, errW_none, errW_some] <;> rfl), by repeat (first | (with_reducible first | exact HB.out | apply below_alloc | apply pw_below_drewN | apply below_drew1 | refine below_set ?_ GE206.out) | exact HB.out)⟩



/-! ### cron_Next: function 19 -/
mutual
def cron_Next.l0 : Nat → Int → Int → Int → Int → Int → Int → Int → Int → Int → Option (Int × Bool)
  | 0, _, _, _, _, _, _, _, _, _ => none
  | k + 1, x1, x6, x7, x23, x210000, x210001, x210002, x210003, x210004 => if x23 < 10228 then ((cron_later.f x1 (wrap64 (x23 * 86400))).bind fun bt211 => (if bt211.2 = true then (cron_Next.j1 k x1 x6 x7 x23 bt211.1 bt211.2 x23 x210000 x210001 x210002 x210003 x210004) else ((cron_later.f (wrap64 (x1 - x6)) (wrap64 (x23 * 86400))).bind fun bt213 => (cron_Next.j1 k x1 x6 x7 x23 bt213.1 bt213.2 x23 x210000 x210001 x210002 x210003 x210004)))) else (some (0, false))
def cron_Next.j1 : Nat → Int → Int → Int → Int → Int → Bool → Int → Int → Int → Int → Int → Int → Option (Int × Bool)
  | 0, _, _, _, _, _, _, _, _, _, _, _, _ => none
  | k + 1, x1, x6, x7, x8, x9, x10, x23, x210000, x210001, x210002, x210003, x210004 => if x10 = true then ((Cd.Of.f x9).bind fun bt215 => ((cron_dated.f x210000 x210001 x210002 x210003 x210004 bt215.1 bt215.2.1 bt215.2.2.1 bt215.2.2.2.1 bt215.2.2.2.2.1 bt215.2.2.2.2.2.1 bt215.2.2.2.2.2.2).bind fun t222 => (if t222 = true then ((cron_inDay.f k x210000 x210001 x210002 x210003 x210004 x7).bind fun bt223 => (if bt223.2 = true then ((cron_later.f x1 (wrap64 ((wrap64 ((wrap64 (x8 * 86400)) + (wrap64 (bt223.1 * 60)))) - x6))).bind fun bt225 => (some (bt225.1, bt225.2))) else (cron_Next.l0 k x1 x6 0 (wrap64 (x23 + 1)) x210000 x210001 x210002 x210003 x210004))) else (cron_Next.l0 k x1 x6 0 (wrap64 (x23 + 1)) x210000 x210001 x210002 x210003 x210004)))) else (some (0, false))
end
def cron_Next.f (k : Nat) (a0_0 : Int) (a0_1 : Int) (a0_2 : Int) (a0_3 : Int) (a0_4 : Int) (a1 : Int) : Option (Int × Bool) := (Cw.formed.f a0_0 a0_1 a0_2 a0_3 a0_4).bind fun t210 => (if t210 = true then (cron_Next.l0 k a1 (Int.tmod (wrap64 ((Int.tmod a1 86400) + 86400)) 86400) (wrap64 (Int.tdiv (wrap64 ((Int.tmod (wrap64 ((Int.tmod a1 86400) + 86400)) 86400) + 59)) 60)) 0 a0_0 a0_1 a0_2 a0_3 a0_4) else (some (0, false)))
theorem cron_Next.mono_l : ∀ k, (∀ y0 y1 y2 y3 y4 y5 y6 y7 y8, LeO (cron_Next.l0 k y0 y1 y2 y3 y4 y5 y6 y7 y8) (cron_Next.l0 (k + 1) y0 y1 y2 y3 y4 y5 y6 y7 y8)) ∧ (∀ y0 y1 y2 y3 y4 y5 y6 y7 y8 y9 y10 y11, LeO (cron_Next.j1 k y0 y1 y2 y3 y4 y5 y6 y7 y8 y9 y10 y11) (cron_Next.j1 (k + 1) y0 y1 y2 y3 y4 y5 y6 y7 y8 y9 y10 y11))
  | 0 => ⟨fun _ _ _ _ _ _ _ _ _ r h => by simp [cron_Next.l0] at h, fun _ _ _ _ _ _ _ _ _ _ _ _ r h => by simp [cron_Next.j1] at h⟩
  | k + 1 => by
    obtain ⟨ih0, ih1⟩ := cron_Next.mono_l k
    refine ⟨?_, ?_⟩
    · intro y0 y1 y2 y3 y4 y5 y6 y7 y8
      unfold cron_Next.l0
      repeat' first
      | (with_reducible exact ih0 _ _ _ _ _ _ _ _ _)
      | (with_reducible exact ih1 _ _ _ _ _ _ _ _ _ _ _ _)
      | (with_reducible exact cron_inDay.mono _ _ _ _ _ _ _)
      | (with_reducible exact LeO.refl _)
      | (with_reducible exact LeO.none _)
      | (with_reducible refine LeO.ite ?_ ?_)
      | (with_reducible refine LeO.bind ?_ (fun _ => ?_))
      | exact ih0 _ _ _ _ _ _ _ _ _
      | exact ih1 _ _ _ _ _ _ _ _ _ _ _ _
      | exact cron_inDay.mono _ _ _ _ _ _ _
      | exact LeO.none _
      | refine LeO.ite ?_ ?_
      | refine LeO.bind ?_ (fun _ => ?_)
    · intro y0 y1 y2 y3 y4 y5 y6 y7 y8 y9 y10 y11
      unfold cron_Next.j1
      repeat' first
      | (with_reducible exact ih0 _ _ _ _ _ _ _ _ _)
      | (with_reducible exact ih1 _ _ _ _ _ _ _ _ _ _ _ _)
      | (with_reducible exact cron_inDay.mono _ _ _ _ _ _ _)
      | (with_reducible exact LeO.refl _)
      | (with_reducible exact LeO.none _)
      | (with_reducible refine LeO.ite ?_ ?_)
      | (with_reducible refine LeO.bind ?_ (fun _ => ?_))
      | exact ih0 _ _ _ _ _ _ _ _ _
      | exact ih1 _ _ _ _ _ _ _ _ _ _ _ _
      | exact cron_inDay.mono _ _ _ _ _ _ _
      | exact LeO.none _
      | refine LeO.ite ?_ ?_
      | refine LeO.bind ?_ (fun _ => ?_)
theorem cron_Next.mono : ∀ a0 a1 a2 a3 a4 a5 k, LeO (cron_Next.f k a0 a1 a2 a3 a4 a5) (cron_Next.f (k + 1) a0 a1 a2 a3 a4 a5) := by
  intro a0 a1 a2 a3 a4 a5 k
  obtain ⟨ih0, ih1⟩ := cron_Next.mono_l k
  unfold cron_Next.f
  repeat' first
      | (with_reducible exact ih0 _ _ _ _ _ _ _ _ _)
      | (with_reducible exact ih1 _ _ _ _ _ _ _ _ _ _ _ _)
      | (with_reducible exact cron_inDay.mono _ _ _ _ _ _ _)
      | (with_reducible exact LeO.refl _)
      | (with_reducible exact LeO.none _)
      | (with_reducible refine LeO.ite ?_ ?_)
      | (with_reducible refine LeO.bind ?_ (fun _ => ?_))
      | exact ih0 _ _ _ _ _ _ _ _ _
      | exact ih1 _ _ _ _ _ _ _ _ _ _ _ _
      | exact cron_inDay.mono _ _ _ _ _ _ _
      | exact LeO.none _
      | refine LeO.ite ?_ ?_
      | refine LeO.bind ?_ (fun _ => ?_)
set_option maxHeartbeats 8000000 in
set_option maxRecDepth 100000 in
theorem cron_Next.calls (k : Nat) (a0_0 : Int) (a0_1 : Int) (a0_2 : Int) (a0_3 : Int) (a0_4 : Int) (a1 : Int) (r1 : Int) (r2 : Bool) (w : World) (h : cron_Next.f k a0_0 a0_1 a0_2 a0_3 a0_4 a1 = some (r1, r2)) (hL_ : Go.Proofs.YtkmcmgfmahildaaDoor.Laid.Laid w) :
    Calls Tryd.prog 19 #[.agg #[.int .u64 a0_0, .int .u64 a0_1, .int .u64 a0_2, .int .u64 a0_3, .int .u64 a0_4], .int .i64 a1] w fun e w' => e = .returned (.tuple #[.int .i64 r1, .bool r2]) ∧ Below w.heap.size w w' := by
  have HL_ := Aside0.mk hL_
  clear hL_
  have hu25 := Tryd.underlying25
  have HB := Aside0.mk (Below.refl w.heap.size w)
  have H : ((Cw.formed.f a0_0 a0_1 a0_2 a0_3 a0_4).bind fun t210 => (if t210 = true then (cron_Next.l0 k a1 (Int.tmod (wrap64 ((Int.tmod a1 86400) + 86400)) 86400) (wrap64 (Int.tdiv (wrap64 ((Int.tmod (wrap64 ((Int.tmod a1 86400) + 86400)) 86400) + 59)) 60)) 0 a0_0 a0_1 a0_2 a0_3 a0_4) else (some (0, false)))) = some (r1, r2) := h
  clear h
  replace H := Option.bind_eq_some_iff.mp H
  obtain ⟨t210, A30, H⟩ := H
  replace H : (if t210 = true then (cron_Next.l0 k a1 (Int.tmod (wrap64 ((Int.tmod a1 86400) + 86400)) 86400) (wrap64 (Int.tdiv (wrap64 ((Int.tmod (wrap64 ((Int.tmod a1 86400) + 86400)) 86400) + 59)) 60)) 0 a0_0 a0_1 a0_2 a0_3 a0_4) else (some (0, false))) = some (r1, r2) := H
  have A3 := Aside0.mk A30
  clear A30
  by_cases c4 : t210 = true
  · subst c4
    have H1 : (cron_Next.l0 k a1 (Int.tmod (wrap64 ((Int.tmod a1 86400) + 86400)) 86400) (wrap64 (Int.tdiv (wrap64 ((Int.tmod (wrap64 ((Int.tmod a1 86400) + 86400)) 86400) + 59)) 60)) 0 a0_0 a0_1 a0_2 a0_3 a0_4) = some (r1, r2) := by rw [if_pos rfl] at H; exact H
    clear H
    have H := H1
    clear H1
    have H' := Aside0.mk H
    clear H
    go_enter Tryd.func19, Tryd.ntmps19
    go_wp2_with (first | ((with_reducible refine gate_dst (N := 2) rfl ?_); refine box_event ?hg (N := 2) ?hd (cs := #[.int .u64 a0_0, .int .u64 a0_1, .int .u64 a0_2, .int .u64 a0_3, .int .u64 a0_4]) (t := 25) ?hr ?_; (case hd => rfl); (case hg => rfl); (case hr => first | (go_simp; done) | (go_simp; rfl)); intro gb209 hg w5 hbox hb; have n0_ := Aside0.mk (below_step (by repeat (first | (with_reducible first | exact HB.out | apply below_alloc | apply pw_below_drewN | apply below_drew1) | exact HB.out)) hb); have n1_ := Aside0.mk (hbox); have n2_ := Aside0.mk ((by rw [hg]; exact (below_size (by repeat (first | (with_reducible first | exact HB.out | apply below_alloc | apply pw_below_drewN | apply below_drew1) | exact HB.out))) : w.heap.size ≤ gb209)); have n3_ := Aside0.mk ((by rw [hg]; exact (below_size (by repeat (first | (with_reducible first | exact HB.out | apply below_alloc | apply pw_below_drewN | apply below_drew1) | exact HB.out))) : w.heap.size ≤ gb209)); clear HB; have HB := n0_; have BK209 := n1_; have GW209 := n2_; have GE209 := n3_; clear n0_ n1_ n2_ n3_; clear hb hbox hg; have hcz6_0 : w5.cell? ⟨gb209, 0, none⟩ = some (.int .u64 a0_0) := (blk_cell BK209.out 0).trans rfl; have hcz6_1 : w5.cell? ⟨gb209, 1, none⟩ = some (.int .u64 a0_1) := (blk_cell BK209.out 1).trans rfl; have hcz6_2 : w5.cell? ⟨gb209, 2, none⟩ = some (.int .u64 a0_2) := (blk_cell BK209.out 2).trans rfl; have hcz6_3 : w5.cell? ⟨gb209, 3, none⟩ = some (.int .u64 a0_3) := (blk_cell BK209.out 3).trans rfl; have hcz6_4 : w5.cell? ⟨gb209, 4, none⟩ = some (.int .u64 a0_4) := (blk_cell BK209.out 4).trans rfl; have hfz6_0 := blk_frozen BK209.out 0; have hfz6_1 := blk_frozen BK209.out 1; have hfz6_2 := blk_frozen BK209.out 2; have hfz6_3 := blk_frozen BK209.out 3; have hfz6_4 := blk_frozen BK209.out 4) | ((with_reducible refine gate_callee (f := 15) rfl ?_); refine goesL_ (some 14) rfl rfl Tryd.func15 (by kernel_rfl) rfl #[.agg #[.int .u64 a0_0, .int .u64 a0_1, .int .u64 a0_2, .int .u64 a0_3, .int .u64 a0_4]] rfl (by (try simp only [List.map_toArray, List.map_cons, List.map_nil]); first | done | rfl | (simp only [List.length_drop, List.length_take]; rfl)) ?_; (with_reducible refine (Cw.formed.calls a0_0 a0_1 a0_2 a0_3 a0_4 true _ A3.out (by first | exact HL_.out | exact Go.Proofs.YtkmcmgfmahildaaDoor.Laid.Laid.below HL_.out (by repeat (first | (with_reducible first | exact HB.out | exact Below.refl _ _ | exact (‹Aside0 (Below _ _ _)›).out | apply below_alloc | apply pw_below_drewN | apply below_drew1 | refine Below.setCell ?_ (Aside0.out (by assumption)) _) | exact HB.out | exact (‹Aside0 (Below _ _ _)›).out)))).mono ?_); rintro e w7 ⟨rfl, hb⟩; refine ⟨_, rfl, ?_⟩; have n0_ := Aside0.mk (blk_below (g := gb209) (o := .cells #[.int .u64 a0_0, .int .u64 a0_1, .int .u64 a0_2, .int .u64 a0_3, .int .u64 a0_4] 25 (0, 0)) (by (with_reducible repeat (first | refine blk_drewN ?_ _ | refine blk_drew ?_ | refine blk_alloc ?_ _)); exact BK209.out) hb); have n1_ := Aside0.mk (below_step (by repeat (first | (with_reducible first | exact HB.out | apply below_alloc | apply pw_below_drewN | apply below_drew1 | refine below_set ?_ GE209.out) | exact HB.out)) hb); clear BK209; clear HB; have BK209 := n0_; have HB := n1_; clear n0_ n1_; (try clear hb); (try clear hb2); (try clear hk); (try clear hi)))
    go_loopg [7, 23] k (fun kq v7 v23 w' => ∃ (x7_1 : Int) (x23_1 : Int), v7 = .int .i64 x7_1 ∧ v23 = .int .i64 x23_1 ∧ Aside0 (cron_Next.l0 kq a1 (Int.tmod (wrap64 ((Int.tmod a1 86400) + 86400)) 86400) x7_1 x23_1 a0_0 a0_1 a0_2 a0_3 a0_4 = some (r1, r2)) ∧ Aside0 (kq ≤ k) ∧ Aside0 (w'.heap[gb209]? = some (.cells #[.int .u64 a0_0, .int .u64 a0_1, .int .u64 a0_2, .int .u64 a0_3, .int .u64 a0_4] 25 (0, 0))) ∧ Aside0 (Below w.heap.size w w'))
    case atStart => exact ⟨(wrap64 (Int.tdiv (wrap64 ((Int.tmod (wrap64 ((Int.tmod a1 86400) + 86400)) 86400) + 59)) 60)), (0), (by first | rfl | (simp; done) | (simp [*]; done)), (by first | rfl | (simp; done) | (simp [*]; done)), H', ⟨Nat.le_refl _⟩, ⟨by (with_reducible repeat (first | refine blk_drewN ?_ _ | refine blk_drew ?_ | refine blk_alloc ?_ _)); exact BK209.out⟩, ⟨by repeat (first | (with_reducible first | exact HB.out | apply below_alloc | apply pw_below_drewN | apply below_drew1 | refine below_set ?_ GE209.out) | exact HB.out)⟩⟩
    case round =>
      clear H'
      try clear c1
      try clear p2
      try clear c4
      try clear p6
      try clear hcz6_0
      try clear hcz6_1
      try clear hcz6_2
      try clear hcz6_3
      try clear hcz6_4
      try clear hfz6_0
      try clear hfz6_1
      try clear hfz6_2
      try clear hfz6_3
      try clear hfz6_4
      obtain ⟨x7_1, x23_1, rfl, rfl, HA, HK1, BK209, HB⟩ := hrel
      cases gk with
      | zero => exact absurd HA.out (by simp [cron_Next.l0])
      | succ k1 =>
        have H := HA.out
        clear HA
        simp only [cron_Next.l0] at H
        by_cases c8 : x23_1 < 10228
        · rw [if_pos c8] at H
          have c8b0 : decide (x23_1 < 10228) = true := decide_eq_true c8
          clear c8
          replace H := Option.bind_eq_some_iff.mp H
          obtain ⟨⟨t211, t212⟩, A90, H⟩ := H
          replace H : (if t212 = true then (cron_Next.j1 k1 a1 (Int.tmod (wrap64 ((Int.tmod a1 86400) + 86400)) 86400) x7_1 x23_1 t211 t212 x23_1 a0_0 a0_1 a0_2 a0_3 a0_4) else ((cron_later.f (wrap64 (a1 - (Int.tmod (wrap64 ((Int.tmod a1 86400) + 86400)) 86400))) (wrap64 (x23_1 * 86400))).bind fun bt213 => (cron_Next.j1 k1 a1 (Int.tmod (wrap64 ((Int.tmod a1 86400) + 86400)) 86400) x7_1 x23_1 bt213.1 bt213.2 x23_1 a0_0 a0_1 a0_2 a0_3 a0_4))) = some (r1, r2) := H
          have A9 := Aside0.mk A90
          clear A90
          have HC10 := Aside0.mk H
          clear H
          go_upto_if 34 with (first | ((with_reducible refine gate_callee (f := 37) rfl ?_); refine goesL_ (some 30) rfl rfl Tryd.func37 (by kernel_rfl) rfl #[.int .i64 a1, .int .i64 (wrap64 (x23_1 * 86400))] rfl (by (try simp only [List.map_toArray, List.map_cons, List.map_nil]); first | done | rfl | (simp only [List.length_drop, List.length_take]; rfl)) ?_; (with_reducible refine (cron_later.calls a1 (wrap64 (x23_1 * 86400)) t211 t212 _ A9.out).mono ?_); rintro e w' ⟨rfl, ⟨nd, rfl⟩⟩; refine ⟨_, rfl, ?_⟩))
          (try simp only [Act.put, List.setIfInBounds_toArray, List.set_cons_zero, List.set_cons_succ])
          go_cut [9, 10] (fun v9 v10 wc => ∃ (kq : Nat) (x9_9 : Int) (x10_9 : Bool), v9 = .int .i64 x9_9 ∧ v10 = .bool x10_9 ∧ Aside0 (cron_Next.j1 kq a1 (Int.tmod (wrap64 ((Int.tmod a1 86400) + 86400)) 86400) x7_1 x23_1 x9_9 x10_9 x23_1 a0_0 a0_1 a0_2 a0_3 a0_4 = some (r1, r2)) ∧ Aside0 (kq ≤ k1) ∧ Aside0 (wc.heap[gb209]? = some (.cells #[.int .u64 a0_0, .int .u64 a0_1, .int .u64 a0_2, .int .u64 a0_3, .int .u64 a0_4] 25 (0, 0))) ∧ Aside0 (Below w.heap.size w wc))
          case first =>
            have H := HC10.out
            clear HC10
            by_cases c11 : t212 = true
            · subst c11
              have H1 : (cron_Next.j1 k1 a1 (Int.tmod (wrap64 ((Int.tmod a1 86400) + 86400)) 86400) x7_1 x23_1 t211 true x23_1 a0_0 a0_1 a0_2 a0_3 a0_4) = some (r1, r2) := by rw [if_pos rfl] at H; exact H
              clear H
              have H := H1
              clear H1
              have H' := Aside0.mk H
              clear H
              go_wp2
              go_meet
              case rel => exact ⟨_, (t211), (true), (by first | rfl | (simp; done) | (simp [*]; done)), (by first | rfl | (simp; done) | (simp [*]; done)), H', ⟨by have := HK1.out; first | omega | exact Nat.le_refl _⟩, ⟨by (with_reducible repeat (first | refine blk_drewN ?_ _ | refine blk_drew ?_ | refine blk_alloc ?_ _)); exact BK209.out⟩, ⟨by repeat (first | (with_reducible first | exact HB.out | apply below_alloc | apply pw_below_drewN | apply below_drew1 | refine below_set ?_ GE209.out) | exact HB.out)⟩⟩
            · replace c11 := Bool.eq_false_iff.mpr c11
              subst c11
              have H1 : ((cron_later.f (wrap64 (a1 - (Int.tmod (wrap64 ((Int.tmod a1 86400) + 86400)) 86400))) (wrap64 (x23_1 * 86400))).bind fun bt213 => (cron_Next.j1 k1 a1 (Int.tmod (wrap64 ((Int.tmod a1 86400) + 86400)) 86400) x7_1 x23_1 bt213.1 bt213.2 x23_1 a0_0 a0_1 a0_2 a0_3 a0_4)) = some (r1, r2) := by rw [if_neg (show ¬ (false = true) by decide)] at H; exact H
              clear H
              have H := H1
              clear H1
              replace H := Option.bind_eq_some_iff.mp H
              obtain ⟨⟨t213, t214⟩, A120, H⟩ := H
              replace H : (cron_Next.j1 k1 a1 (Int.tmod (wrap64 ((Int.tmod a1 86400) + 86400)) 86400) x7_1 x23_1 t213 t214 x23_1 a0_0 a0_1 a0_2 a0_3 a0_4) = some (r1, r2) := H
              have A12 := Aside0.mk A120
              clear A120
              have H' := Aside0.mk H
              clear H
              go_wp2_with (first | ((with_reducible refine gate_callee (f := 37) rfl ?_); refine goesL_ (some 41) rfl rfl Tryd.func37 (by kernel_rfl) rfl #[.int .i64 (wrap64 (a1 - (Int.tmod (wrap64 ((Int.tmod a1 86400) + 86400)) 86400))), .int .i64 (wrap64 (x23_1 * 86400))] rfl (by (try simp only [List.map_toArray, List.map_cons, List.map_nil]); first | done | rfl | (simp only [List.length_drop, List.length_take]; rfl)) ?_; (with_reducible refine (cron_later.calls (wrap64 (a1 - (Int.tmod (wrap64 ((Int.tmod a1 86400) + 86400)) 86400))) (wrap64 (x23_1 * 86400)) t213 t214 _ A12.out).mono ?_); rintro e w' ⟨rfl, ⟨nd, rfl⟩⟩; refine ⟨_, rfl, ?_⟩))
              go_meet
              case rel => exact ⟨_, (t213), (t214), (by first | rfl | (simp; done) | (simp [*]; done)), (by first | rfl | (simp; done) | (simp [*]; done)), H', ⟨by have := HK1.out; first | omega | exact Nat.le_refl _⟩, ⟨by (with_reducible repeat (first | refine blk_drewN ?_ _ | refine blk_drew ?_ | refine blk_alloc ?_ _)); exact BK209.out⟩, ⟨by repeat (first | (with_reducible first | exact HB.out | apply below_alloc | apply pw_below_drewN | apply below_drew1 | refine below_set ?_ GE209.out) | exact HB.out)⟩⟩
          case rest =>
            clear HC10
            try clear c1
            try clear p2
            try clear c3
            try clear c4
            try clear p6
            try clear c8
            try clear c8b0
            try clear c11
            try clear hcz6_0
            try clear hcz6_1
            try clear hcz6_2
            try clear hcz6_3
            try clear hcz6_4
            try clear hfz6_0
            try clear hfz6_1
            try clear hfz6_2
            try clear hfz6_3
            try clear hfz6_4
            try clear p2
            try clear p6
            obtain ⟨kq, x9_9, x10_9, rfl, rfl, HA, HJ9, BK209, HB⟩ := hcut
            cases kq with
            | zero => exact absurd HA.out (by simp [cron_Next.j1])
            | succ kj9 =>
              have H := HA.out
              clear HA
              simp only [cron_Next.j1] at H
              by_cases c13 : x10_9 = true
              · subst c13
                have H1 : ((Cd.Of.f x9_9).bind fun bt215 => ((cron_dated.f a0_0 a0_1 a0_2 a0_3 a0_4 bt215.1 bt215.2.1 bt215.2.2.1 bt215.2.2.2.1 bt215.2.2.2.2.1 bt215.2.2.2.2.2.1 bt215.2.2.2.2.2.2).bind fun t222 => (if t222 = true then ((cron_inDay.f kj9 a0_0 a0_1 a0_2 a0_3 a0_4 x7_1).bind fun bt223 => (if bt223.2 = true then ((cron_later.f a1 (wrap64 ((wrap64 ((wrap64 (x23_1 * 86400)) + (wrap64 (bt223.1 * 60)))) - (Int.tmod (wrap64 ((Int.tmod a1 86400) + 86400)) 86400)))).bind fun bt225 => (some (bt225.1, bt225.2))) else (cron_Next.l0 kj9 a1 (Int.tmod (wrap64 ((Int.tmod a1 86400) + 86400)) 86400) 0 (wrap64 (x23_1 + 1)) a0_0 a0_1 a0_2 a0_3 a0_4))) else (cron_Next.l0 kj9 a1 (Int.tmod (wrap64 ((Int.tmod a1 86400) + 86400)) 86400) 0 (wrap64 (x23_1 + 1)) a0_0 a0_1 a0_2 a0_3 a0_4)))) = some (r1, r2) := by rw [if_pos rfl] at H; exact H
                clear H
                have H := H1
                clear H1
                replace H := Option.bind_eq_some_iff.mp H
                obtain ⟨⟨t215, t216, t217, t218, t219, t220, t221⟩, A140, H⟩ := H
                replace H : ((cron_dated.f a0_0 a0_1 a0_2 a0_3 a0_4 t215 t216 t217 t218 t219 t220 t221).bind fun t222 => (if t222 = true then ((cron_inDay.f kj9 a0_0 a0_1 a0_2 a0_3 a0_4 x7_1).bind fun bt223 => (if bt223.2 = true then ((cron_later.f a1 (wrap64 ((wrap64 ((wrap64 (x23_1 * 86400)) + (wrap64 (bt223.1 * 60)))) - (Int.tmod (wrap64 ((Int.tmod a1 86400) + 86400)) 86400)))).bind fun bt225 => (some (bt225.1, bt225.2))) else (cron_Next.l0 kj9 a1 (Int.tmod (wrap64 ((Int.tmod a1 86400) + 86400)) 86400) 0 (wrap64 (x23_1 + 1)) a0_0 a0_1 a0_2 a0_3 a0_4))) else (cron_Next.l0 kj9 a1 (Int.tmod (wrap64 ((Int.tmod a1 86400) + 86400)) 86400) 0 (wrap64 (x23_1 + 1)) a0_0 a0_1 a0_2 a0_3 a0_4))) = some (r1, r2) := H
                have A14 := Aside0.mk A140
                clear A140
                replace H := Option.bind_eq_some_iff.mp H
                obtain ⟨t222, A150, H⟩ := H
                replace H : (if t222 = true then ((cron_inDay.f kj9 a0_0 a0_1 a0_2 a0_3 a0_4 x7_1).bind fun bt223 => (if bt223.2 = true then ((cron_later.f a1 (wrap64 ((wrap64 ((wrap64 (x23_1 * 86400)) + (wrap64 (bt223.1 * 60)))) - (Int.tmod (wrap64 ((Int.tmod a1 86400) + 86400)) 86400)))).bind fun bt225 => (some (bt225.1, bt225.2))) else (cron_Next.l0 kj9 a1 (Int.tmod (wrap64 ((Int.tmod a1 86400) + 86400)) 86400) 0 (wrap64 (x23_1 + 1)) a0_0 a0_1 a0_2 a0_3 a0_4))) else (cron_Next.l0 kj9 a1 (Int.tmod (wrap64 ((Int.tmod a1 86400) + 86400)) 86400) 0 (wrap64 (x23_1 + 1)) a0_0 a0_1 a0_2 a0_3 a0_4)) = some (r1, r2) := H
                have A15 := Aside0.mk A150
                clear A150
                by_cases c16 : t222 = true
                · subst c16
                  have H1 : ((cron_inDay.f kj9 a0_0 a0_1 a0_2 a0_3 a0_4 x7_1).bind fun bt223 => (if bt223.2 = true then ((cron_later.f a1 (wrap64 ((wrap64 ((wrap64 (x23_1 * 86400)) + (wrap64 (bt223.1 * 60)))) - (Int.tmod (wrap64 ((Int.tmod a1 86400) + 86400)) 86400)))).bind fun bt225 => (some (bt225.1, bt225.2))) else (cron_Next.l0 kj9 a1 (Int.tmod (wrap64 ((Int.tmod a1 86400) + 86400)) 86400) 0 (wrap64 (x23_1 + 1)) a0_0 a0_1 a0_2 a0_3 a0_4))) = some (r1, r2) := by rw [if_pos rfl] at H; exact H
                  clear H
                  have H := H1
                  clear H1
                  replace H := Option.bind_eq_some_iff.mp H
                  obtain ⟨⟨t223, t224⟩, A170, H⟩ := H
                  replace H : (if t224 = true then ((cron_later.f a1 (wrap64 ((wrap64 ((wrap64 (x23_1 * 86400)) + (wrap64 (t223 * 60)))) - (Int.tmod (wrap64 ((Int.tmod a1 86400) + 86400)) 86400)))).bind fun bt225 => (some (bt225.1, bt225.2))) else (cron_Next.l0 kj9 a1 (Int.tmod (wrap64 ((Int.tmod a1 86400) + 86400)) 86400) 0 (wrap64 (x23_1 + 1)) a0_0 a0_1 a0_2 a0_3 a0_4)) = some (r1, r2) := H
                  have A17 := Aside0.mk A170
                  clear A170
                  by_cases c18 : t224 = true
                  · subst c18
                    have H1 : ((cron_later.f a1 (wrap64 ((wrap64 ((wrap64 (x23_1 * 86400)) + (wrap64 (t223 * 60)))) - (Int.tmod (wrap64 ((Int.tmod a1 86400) + 86400)) 86400)))).bind fun bt225 => (some (bt225.1, bt225.2))) = some (r1, r2) := by rw [if_pos rfl] at H; exact H
                    clear H
                    have H := H1
                    clear H1
                    replace H := Option.bind_eq_some_iff.mp H
                    obtain ⟨⟨t225, t226⟩, A190, H⟩ := H
                    replace H : (some (t225, t226)) = some (r1, r2) := H
                    have A19 := Aside0.mk A190
                    clear A190
                    simp only [Option.some.injEq, Prod.mk.injEq] at H
                    obtain ⟨rfl, rfl⟩ := H
                    try go_wp2
                    have n0_ := Aside0.mk (blk_drew BK209.out)
                    have n1_ := Aside0.mk (below_drew1 HB.out)
                    clear BK209
                    clear HB
                    have BK209 := n0_
                    have HB := n1_
                    clear n0_ n1_
                    refine start_ (n := 4) (S := fun w' => w'.cell? ⟨gb209, 0, none⟩ = some (.int .u64 a0_0) ∧ w'.cell? ⟨gb209, 1, none⟩ = some (.int .u64 a0_1) ∧ w'.cell? ⟨gb209, 2, none⟩ = some (.int .u64 a0_2) ∧ w'.cell? ⟨gb209, 3, none⟩ = some (.int .u64 a0_3) ∧ w'.cell? ⟨gb209, 4, none⟩ = some (.int .u64 a0_4)) (ds := []) #[false, false, false, false] (by kernel_rfl) rfl rfl ⟨(blk_cell BK209.out 0).trans rfl, (blk_cell BK209.out 1).trans rfl, (blk_cell BK209.out 2).trans rfl, (blk_cell BK209.out 3).trans rfl, (blk_cell BK209.out 4).trans rfl⟩ (fun hHeld => ?_)
                    generalize wc.drew = w20 at BK209 HB hHeld ⊢
                    refine pure_ (i := 1) (N := some 47) (v := ?_) (a' := ?_) #[false, true, false, false] rfl rfl (by kernel_rfl) (fun _ _ _ h => h) (Or.inl ⟨by rfl, ?_⟩) ?_ ?_
                    rotate_left
                    · intro w'
                      go_simp
                      with_reducible rfl
                    rotate_left
                    · simp only [Act.put, List.setIfInBounds_toArray, List.set_cons_zero, List.set_cons_succ, i64_w, i32_w]
                      rfl
                    refine take_ (i := 0) (N := some 46) (v := ?_) (a' := ?_) #[true, true, false, false] rfl rfl (by kernel_rfl) (fun _ _ _ h => h) (Or.inl ⟨by rfl, ?_⟩) hHeld ?_ ?_
                    rotate_left
                    · rintro w' ⟨s0, s1, s2, s3, s4⟩
                      go_simp
                      with_reducible rfl
                    rotate_left
                    · simp only [Act.put, List.setIfInBounds_toArray, List.set_cons_zero, List.set_cons_succ, i64_w, i32_w]
                      rfl
                    refine one_ (i := 2) (N := some 48) #[true, true, true, false] rfl rfl (by kernel_rfl) (by decide) (fun K hK => ?_)
                    refine goes_ Tryd.func33 (by kernel_rfl) rfl #[.int .i64 x9_9] (by rfl) rfl rfl (by (try simp only [List.map_toArray, List.map_cons, List.map_nil]); first | done | rfl | (simp only [List.length_drop, List.length_take]; rfl)) ?_
                    with_reducible refine (Cd.Of.calls x9_9 t215 t216 t217 t218 t219 t220 t221 _ A14.out).mono ?_
                    rintro e w21 ⟨rfl, hb⟩
                    refine ⟨_, rfl, ?_⟩
                    have n0_ := Aside0.mk (blk_below (g := gb209) (o := .cells #[.int .u64 a0_0, .int .u64 a0_1, .int .u64 a0_2, .int .u64 a0_3, .int .u64 a0_4] 25 (0, 0)) (by (with_reducible repeat (first | refine blk_drewN ?_ _ | refine blk_drew ?_ | refine blk_alloc ?_ _)); exact BK209.out) hb)
                    have n1_ := Aside0.mk (below_step (by repeat (first | (with_reducible first | exact HB.out | apply below_alloc | apply pw_below_drewN | apply below_drew1 | refine below_set ?_ GE209.out) | exact HB.out)) hb)
                    clear BK209
                    clear HB
                    have BK209 := n0_
                    have HB := n1_
                    clear n0_ n1_
                    (try clear hb)
                    (try clear hb2)
                    (try clear hk)
                    (try clear hi)
                    refine hK.out _ _ ⟨(blk_cell BK209.out 0).trans rfl, (blk_cell BK209.out 1).trans rfl, (blk_cell BK209.out 2).trans rfl, (blk_cell BK209.out 3).trans rfl, (blk_cell BK209.out 4).trans rfl⟩ (fun hHeld => ?_)
                    clear hK K
                    refine norm_ (a' := ?_) ?_ ?_
                    rotate_left
                    · show Act.put _ (some 48) _ = _
                      simp only [Act.put, List.setIfInBounds_toArray, List.set_cons_zero, List.set_cons_succ, i64_w, i32_w]
                      rfl
                    refine one_ (i := 3) (N := some 49) #[true, true, true, true] rfl rfl (by kernel_rfl) (by decide) (fun K hK => ?_)
                    refine goes_ Tryd.func34 (by kernel_rfl) rfl #[.agg #[.int .u64 a0_0, .int .u64 a0_1, .int .u64 a0_2, .int .u64 a0_3, .int .u64 a0_4], .agg #[.int .i64 t215, .int .i64 t216, .int .i64 t217, .int .i64 t218, .int .i64 t219, .int .i64 t220, .int .i64 t221]] (by rfl) rfl rfl (by (try simp only [List.map_toArray, List.map_cons, List.map_nil]); first | done | rfl | (simp only [List.length_drop, List.length_take]; rfl)) ?_
                    with_reducible refine (cron_dated.calls a0_0 a0_1 a0_2 a0_3 a0_4 t215 t216 t217 t218 t219 t220 t221 true _ A15.out).mono ?_
                    rintro e w22 ⟨rfl, hb⟩
                    refine ⟨_, rfl, ?_⟩
                    have n0_ := Aside0.mk (blk_below (g := gb209) (o := .cells #[.int .u64 a0_0, .int .u64 a0_1, .int .u64 a0_2, .int .u64 a0_3, .int .u64 a0_4] 25 (0, 0)) (by (with_reducible repeat (first | refine blk_drewN ?_ _ | refine blk_drew ?_ | refine blk_alloc ?_ _)); exact BK209.out) hb)
                    have n1_ := Aside0.mk (below_step (by repeat (first | (with_reducible first | exact HB.out | apply below_alloc | apply pw_below_drewN | apply below_drew1 | refine below_set ?_ GE209.out) | exact HB.out)) hb)
                    clear BK209
                    clear HB
                    have BK209 := n0_
                    have HB := n1_
                    clear n0_ n1_
                    (try clear hb)
                    (try clear hb2)
                    (try clear hk)
                    (try clear hi)
                    refine hK.out _ _ ⟨(blk_cell BK209.out 0).trans rfl, (blk_cell BK209.out 1).trans rfl, (blk_cell BK209.out 2).trans rfl, (blk_cell BK209.out 3).trans rfl, (blk_cell BK209.out 4).trans rfl⟩ (fun hHeld => ?_)
                    clear hK K
                    refine norm_ (a' := ?_) ?_ ?_
                    rotate_left
                    · show Act.put _ (some 49) _ = _
                      simp only [Act.put, List.setIfInBounds_toArray, List.set_cons_zero, List.set_cons_succ, i64_w, i32_w]
                      rfl
                    refine done_ (by kernel_rfl) ?_
                    have hcz23_0 : w22.cell? ⟨gb209, 0, none⟩ = some (.int .u64 a0_0) := (blk_cell BK209.out 0).trans rfl
                    have hcz23_1 : w22.cell? ⟨gb209, 1, none⟩ = some (.int .u64 a0_1) := (blk_cell BK209.out 1).trans rfl
                    have hcz23_2 : w22.cell? ⟨gb209, 2, none⟩ = some (.int .u64 a0_2) := (blk_cell BK209.out 2).trans rfl
                    have hcz23_3 : w22.cell? ⟨gb209, 3, none⟩ = some (.int .u64 a0_3) := (blk_cell BK209.out 3).trans rfl
                    have hcz23_4 : w22.cell? ⟨gb209, 4, none⟩ = some (.int .u64 a0_4) := (blk_cell BK209.out 4).trans rfl
                    have hfz23_0 := blk_frozen BK209.out 0
                    have hfz23_1 := blk_frozen BK209.out 1
                    have hfz23_2 := blk_frozen BK209.out 2
                    have hfz23_3 := blk_frozen BK209.out 3
                    have hfz23_4 := blk_frozen BK209.out 4
                    try go_wp2_with (first | ((with_reducible refine gate_callee (f := 38) rfl ?_); refine goesL_ (some 53) rfl rfl Tryd.func38 (by kernel_rfl) rfl #[.agg #[.int .u64 a0_0, .int .u64 a0_1, .int .u64 a0_2, .int .u64 a0_3, .int .u64 a0_4], .int .i64 x7_1] rfl (by (try simp only [List.map_toArray, List.map_cons, List.map_nil]); first | done | rfl | (simp only [List.length_drop, List.length_take]; rfl)) ?_; (with_reducible refine (cron_inDay.calls kj9 a0_0 a0_1 a0_2 a0_3 a0_4 x7_1 t223 true _ A17.out).mono ?_); rintro e w24 ⟨rfl, hb⟩; refine ⟨_, rfl, ?_⟩; have n0_ := Aside0.mk (blk_below (g := gb209) (o := .cells #[.int .u64 a0_0, .int .u64 a0_1, .int .u64 a0_2, .int .u64 a0_3, .int .u64 a0_4] 25 (0, 0)) (by (with_reducible repeat (first | refine blk_drewN ?_ _ | refine blk_drew ?_ | refine blk_alloc ?_ _)); exact BK209.out) hb); have n1_ := Aside0.mk (below_step (by repeat (first | (with_reducible first | exact HB.out | apply below_alloc | apply pw_below_drewN | apply below_drew1 | refine below_set ?_ GE209.out) | exact HB.out)) hb); clear BK209; clear HB; have BK209 := n0_; have HB := n1_; clear n0_ n1_; (try clear hb); (try clear hb2); (try clear hk); (try clear hi)) | ((with_reducible refine gate_callee (f := 37) rfl ?_); refine goesL_ (some 65) rfl rfl Tryd.func37 (by kernel_rfl) rfl #[.int .i64 a1, .int .i64 (wrap64 ((wrap64 ((wrap64 (x23_1 * 86400)) + (wrap64 (t223 * 60)))) - (Int.tmod (wrap64 ((Int.tmod a1 86400) + 86400)) 86400)))] rfl (by (try simp only [List.map_toArray, List.map_cons, List.map_nil]); first | done | rfl | (simp only [List.length_drop, List.length_take]; rfl)) ?_; (with_reducible refine (cron_later.calls a1 (wrap64 ((wrap64 ((wrap64 (x23_1 * 86400)) + (wrap64 (t223 * 60)))) - (Int.tmod (wrap64 ((Int.tmod a1 86400) + 86400)) 86400))) t225 t226 _ A19.out).mono ?_); rintro e w' ⟨rfl, ⟨nd, rfl⟩⟩; refine ⟨_, rfl, ?_⟩))
                    go_ret2
                    exact ⟨by first | rfl | (simp [errW_none, errW_some] <;> rfl) | (simp [*, errW_none, errW_some] <;> rfl), by repeat (first | (with_reducible first | exact HB.out | apply below_alloc | apply pw_below_drewN | apply below_drew1 | refine below_set ?_ GE209.out) | exact HB.out)⟩
                  · replace c18 := Bool.eq_false_iff.mpr c18
                    subst c18
                    have H1 : (cron_Next.l0 kj9 a1 (Int.tmod (wrap64 ((Int.tmod a1 86400) + 86400)) 86400) 0 (wrap64 (x23_1 + 1)) a0_0 a0_1 a0_2 a0_3 a0_4) = some (r1, r2) := by rw [if_neg (show ¬ (false = true) by decide)] at H; exact H
                    clear H
                    have H := H1
                    clear H1
                    have H' := Aside0.mk H
                    clear H
                    try go_wp2
                    have n0_ := Aside0.mk (blk_drew BK209.out)
                    have n1_ := Aside0.mk (below_drew1 HB.out)
                    clear BK209
                    clear HB
                    have BK209 := n0_
                    have HB := n1_
                    clear n0_ n1_
                    refine start_ (n := 4) (S := fun w' => w'.cell? ⟨gb209, 0, none⟩ = some (.int .u64 a0_0) ∧ w'.cell? ⟨gb209, 1, none⟩ = some (.int .u64 a0_1) ∧ w'.cell? ⟨gb209, 2, none⟩ = some (.int .u64 a0_2) ∧ w'.cell? ⟨gb209, 3, none⟩ = some (.int .u64 a0_3) ∧ w'.cell? ⟨gb209, 4, none⟩ = some (.int .u64 a0_4)) (ds := []) #[false, false, false, false] (by kernel_rfl) rfl rfl ⟨(blk_cell BK209.out 0).trans rfl, (blk_cell BK209.out 1).trans rfl, (blk_cell BK209.out 2).trans rfl, (blk_cell BK209.out 3).trans rfl, (blk_cell BK209.out 4).trans rfl⟩ (fun hHeld => ?_)
                    generalize wc.drew = w25 at BK209 HB hHeld ⊢
                    refine pure_ (i := 1) (N := some 47) (v := ?_) (a' := ?_) #[false, true, false, false] rfl rfl (by kernel_rfl) (fun _ _ _ h => h) (Or.inl ⟨by rfl, ?_⟩) ?_ ?_
                    rotate_left
                    · intro w'
                      go_simp
                      with_reducible rfl
                    rotate_left
                    · simp only [Act.put, List.setIfInBounds_toArray, List.set_cons_zero, List.set_cons_succ, i64_w, i32_w]
                      rfl
                    refine take_ (i := 0) (N := some 46) (v := ?_) (a' := ?_) #[true, true, false, false] rfl rfl (by kernel_rfl) (fun _ _ _ h => h) (Or.inl ⟨by rfl, ?_⟩) hHeld ?_ ?_
                    rotate_left
                    · rintro w' ⟨s0, s1, s2, s3, s4⟩
                      go_simp
                      with_reducible rfl
                    rotate_left
                    · simp only [Act.put, List.setIfInBounds_toArray, List.set_cons_zero, List.set_cons_succ, i64_w, i32_w]
                      rfl
                    refine one_ (i := 2) (N := some 48) #[true, true, true, false] rfl rfl (by kernel_rfl) (by decide) (fun K hK => ?_)
                    refine goes_ Tryd.func33 (by kernel_rfl) rfl #[.int .i64 x9_9] (by rfl) rfl rfl (by (try simp only [List.map_toArray, List.map_cons, List.map_nil]); first | done | rfl | (simp only [List.length_drop, List.length_take]; rfl)) ?_
                    with_reducible refine (Cd.Of.calls x9_9 t215 t216 t217 t218 t219 t220 t221 _ A14.out).mono ?_
                    rintro e w26 ⟨rfl, hb⟩
                    refine ⟨_, rfl, ?_⟩
                    have n0_ := Aside0.mk (blk_below (g := gb209) (o := .cells #[.int .u64 a0_0, .int .u64 a0_1, .int .u64 a0_2, .int .u64 a0_3, .int .u64 a0_4] 25 (0, 0)) (by (with_reducible repeat (first | refine blk_drewN ?_ _ | refine blk_drew ?_ | refine blk_alloc ?_ _)); exact BK209.out) hb)
                    have n1_ := Aside0.mk (below_step (by repeat (first | (with_reducible first | exact HB.out | apply below_alloc | apply pw_below_drewN | apply below_drew1 | refine below_set ?_ GE209.out) | exact HB.out)) hb)
                    clear BK209
                    clear HB
                    have BK209 := n0_
                    have HB := n1_
                    clear n0_ n1_
                    (try clear hb)
                    (try clear hb2)
                    (try clear hk)
                    (try clear hi)
                    refine hK.out _ _ ⟨(blk_cell BK209.out 0).trans rfl, (blk_cell BK209.out 1).trans rfl, (blk_cell BK209.out 2).trans rfl, (blk_cell BK209.out 3).trans rfl, (blk_cell BK209.out 4).trans rfl⟩ (fun hHeld => ?_)
                    clear hK K
                    refine norm_ (a' := ?_) ?_ ?_
                    rotate_left
                    · show Act.put _ (some 48) _ = _
                      simp only [Act.put, List.setIfInBounds_toArray, List.set_cons_zero, List.set_cons_succ, i64_w, i32_w]
                      rfl
                    refine one_ (i := 3) (N := some 49) #[true, true, true, true] rfl rfl (by kernel_rfl) (by decide) (fun K hK => ?_)
                    refine goes_ Tryd.func34 (by kernel_rfl) rfl #[.agg #[.int .u64 a0_0, .int .u64 a0_1, .int .u64 a0_2, .int .u64 a0_3, .int .u64 a0_4], .agg #[.int .i64 t215, .int .i64 t216, .int .i64 t217, .int .i64 t218, .int .i64 t219, .int .i64 t220, .int .i64 t221]] (by rfl) rfl rfl (by (try simp only [List.map_toArray, List.map_cons, List.map_nil]); first | done | rfl | (simp only [List.length_drop, List.length_take]; rfl)) ?_
                    with_reducible refine (cron_dated.calls a0_0 a0_1 a0_2 a0_3 a0_4 t215 t216 t217 t218 t219 t220 t221 true _ A15.out).mono ?_
                    rintro e w27 ⟨rfl, hb⟩
                    refine ⟨_, rfl, ?_⟩
                    have n0_ := Aside0.mk (blk_below (g := gb209) (o := .cells #[.int .u64 a0_0, .int .u64 a0_1, .int .u64 a0_2, .int .u64 a0_3, .int .u64 a0_4] 25 (0, 0)) (by (with_reducible repeat (first | refine blk_drewN ?_ _ | refine blk_drew ?_ | refine blk_alloc ?_ _)); exact BK209.out) hb)
                    have n1_ := Aside0.mk (below_step (by repeat (first | (with_reducible first | exact HB.out | apply below_alloc | apply pw_below_drewN | apply below_drew1 | refine below_set ?_ GE209.out) | exact HB.out)) hb)
                    clear BK209
                    clear HB
                    have BK209 := n0_
                    have HB := n1_
                    clear n0_ n1_
                    (try clear hb)
                    (try clear hb2)
                    (try clear hk)
                    (try clear hi)
                    refine hK.out _ _ ⟨(blk_cell BK209.out 0).trans rfl, (blk_cell BK209.out 1).trans rfl, (blk_cell BK209.out 2).trans rfl, (blk_cell BK209.out 3).trans rfl, (blk_cell BK209.out 4).trans rfl⟩ (fun hHeld => ?_)
                    clear hK K
                    refine norm_ (a' := ?_) ?_ ?_
                    rotate_left
                    · show Act.put _ (some 49) _ = _
                      simp only [Act.put, List.setIfInBounds_toArray, List.set_cons_zero, List.set_cons_succ, i64_w, i32_w]
                      rfl
                    refine done_ (by kernel_rfl) ?_
                    have hcz28_0 : w27.cell? ⟨gb209, 0, none⟩ = some (.int .u64 a0_0) := (blk_cell BK209.out 0).trans rfl
                    have hcz28_1 : w27.cell? ⟨gb209, 1, none⟩ = some (.int .u64 a0_1) := (blk_cell BK209.out 1).trans rfl
                    have hcz28_2 : w27.cell? ⟨gb209, 2, none⟩ = some (.int .u64 a0_2) := (blk_cell BK209.out 2).trans rfl
                    have hcz28_3 : w27.cell? ⟨gb209, 3, none⟩ = some (.int .u64 a0_3) := (blk_cell BK209.out 3).trans rfl
                    have hcz28_4 : w27.cell? ⟨gb209, 4, none⟩ = some (.int .u64 a0_4) := (blk_cell BK209.out 4).trans rfl
                    have hfz28_0 := blk_frozen BK209.out 0
                    have hfz28_1 := blk_frozen BK209.out 1
                    have hfz28_2 := blk_frozen BK209.out 2
                    have hfz28_3 := blk_frozen BK209.out 3
                    have hfz28_4 := blk_frozen BK209.out 4
                    try go_wp2_with (first | ((with_reducible refine gate_callee (f := 38) rfl ?_); refine goesL_ (some 53) rfl rfl Tryd.func38 (by kernel_rfl) rfl #[.agg #[.int .u64 a0_0, .int .u64 a0_1, .int .u64 a0_2, .int .u64 a0_3, .int .u64 a0_4], .int .i64 x7_1] rfl (by (try simp only [List.map_toArray, List.map_cons, List.map_nil]); first | done | rfl | (simp only [List.length_drop, List.length_take]; rfl)) ?_; (with_reducible refine (cron_inDay.calls kj9 a0_0 a0_1 a0_2 a0_3 a0_4 x7_1 t223 false _ A17.out).mono ?_); rintro e w29 ⟨rfl, hb⟩; refine ⟨_, rfl, ?_⟩; have n0_ := Aside0.mk (blk_below (g := gb209) (o := .cells #[.int .u64 a0_0, .int .u64 a0_1, .int .u64 a0_2, .int .u64 a0_3, .int .u64 a0_4] 25 (0, 0)) (by (with_reducible repeat (first | refine blk_drewN ?_ _ | refine blk_drew ?_ | refine blk_alloc ?_ _)); exact BK209.out) hb); have n1_ := Aside0.mk (below_step (by repeat (first | (with_reducible first | exact HB.out | apply below_alloc | apply pw_below_drewN | apply below_drew1 | refine below_set ?_ GE209.out) | exact HB.out)) hb); clear BK209; clear HB; have BK209 := n0_; have HB := n1_; clear n0_ n1_; (try clear hb); (try clear hb2); (try clear hk); (try clear hi)))
                    go_roundg kj9
                    case measure => have := HK1.out; have := HJ9.out; omega
                    case rel => exact ⟨(0), (wrap64 (x23_1 + 1)), (by first | rfl | (simp; done) | (simp [*]; done)), (by first | rfl | (simp; done) | (simp [*]; done)), H', ⟨by have := HK1.out; have := HJ9.out; omega⟩, ⟨by (with_reducible repeat (first | refine blk_drewN ?_ _ | refine blk_drew ?_ | refine blk_alloc ?_ _)); exact BK209.out⟩, ⟨by repeat (first | (with_reducible first | exact HB.out | apply below_alloc | apply pw_below_drewN | apply below_drew1 | refine below_set ?_ GE209.out) | exact HB.out)⟩⟩
                · replace c16 := Bool.eq_false_iff.mpr c16
                  subst c16
                  have H1 : (cron_Next.l0 kj9 a1 (Int.tmod (wrap64 ((Int.tmod a1 86400) + 86400)) 86400) 0 (wrap64 (x23_1 + 1)) a0_0 a0_1 a0_2 a0_3 a0_4) = some (r1, r2) := by rw [if_neg (show ¬ (false = true) by decide)] at H; exact H
                  clear H
                  have H := H1
                  clear H1
                  have H' := Aside0.mk H
                  clear H
                  try go_wp2
                  have n0_ := Aside0.mk (blk_drew BK209.out)
                  have n1_ := Aside0.mk (below_drew1 HB.out)
                  clear BK209
                  clear HB
                  have BK209 := n0_
                  have HB := n1_
                  clear n0_ n1_
                  refine start_ (n := 4) (S := fun w' => w'.cell? ⟨gb209, 0, none⟩ = some (.int .u64 a0_0) ∧ w'.cell? ⟨gb209, 1, none⟩ = some (.int .u64 a0_1) ∧ w'.cell? ⟨gb209, 2, none⟩ = some (.int .u64 a0_2) ∧ w'.cell? ⟨gb209, 3, none⟩ = some (.int .u64 a0_3) ∧ w'.cell? ⟨gb209, 4, none⟩ = some (.int .u64 a0_4)) (ds := []) #[false, false, false, false] (by kernel_rfl) rfl rfl ⟨(blk_cell BK209.out 0).trans rfl, (blk_cell BK209.out 1).trans rfl, (blk_cell BK209.out 2).trans rfl, (blk_cell BK209.out 3).trans rfl, (blk_cell BK209.out 4).trans rfl⟩ (fun hHeld => ?_)
                  generalize wc.drew = w30 at BK209 HB hHeld ⊢
                  refine pure_ (i := 1) (N := some 47) (v := ?_) (a' := ?_) #[false, true, false, false] rfl rfl (by kernel_rfl) (fun _ _ _ h => h) (Or.inl ⟨by rfl, ?_⟩) ?_ ?_
                  rotate_left
                  · intro w'
                    go_simp
                    with_reducible rfl
                  rotate_left
                  · simp only [Act.put, List.setIfInBounds_toArray, List.set_cons_zero, List.set_cons_succ, i64_w, i32_w]
                    rfl
                  refine take_ (i := 0) (N := some 46) (v := ?_) (a' := ?_) #[true, true, false, false] rfl rfl (by kernel_rfl) (fun _ _ _ h => h) (Or.inl ⟨by rfl, ?_⟩) hHeld ?_ ?_
                  rotate_left
                  · rintro w' ⟨s0, s1, s2, s3, s4⟩
                    go_simp
                    with_reducible rfl
                  rotate_left
                  · simp only [Act.put, List.setIfInBounds_toArray, List.set_cons_zero, List.set_cons_succ, i64_w, i32_w]
                    rfl
                  refine one_ (i := 2) (N := some 48) #[true, true, true, false] rfl rfl (by kernel_rfl) (by decide) (fun K hK => ?_)
                  refine goes_ Tryd.func33 (by kernel_rfl) rfl #[.int .i64 x9_9] (by rfl) rfl rfl (by (try simp only [List.map_toArray, List.map_cons, List.map_nil]); first | done | rfl | (simp only [List.length_drop, List.length_take]; rfl)) ?_
                  with_reducible refine (Cd.Of.calls x9_9 t215 t216 t217 t218 t219 t220 t221 _ A14.out).mono ?_
                  rintro e w31 ⟨rfl, hb⟩
                  refine ⟨_, rfl, ?_⟩
                  have n0_ := Aside0.mk (blk_below (g := gb209) (o := .cells #[.int .u64 a0_0, .int .u64 a0_1, .int .u64 a0_2, .int .u64 a0_3, .int .u64 a0_4] 25 (0, 0)) (by (with_reducible repeat (first | refine blk_drewN ?_ _ | refine blk_drew ?_ | refine blk_alloc ?_ _)); exact BK209.out) hb)
                  have n1_ := Aside0.mk (below_step (by repeat (first | (with_reducible first | exact HB.out | apply below_alloc | apply pw_below_drewN | apply below_drew1 | refine below_set ?_ GE209.out) | exact HB.out)) hb)
                  clear BK209
                  clear HB
                  have BK209 := n0_
                  have HB := n1_
                  clear n0_ n1_
                  (try clear hb)
                  (try clear hb2)
                  (try clear hk)
                  (try clear hi)
                  refine hK.out _ _ ⟨(blk_cell BK209.out 0).trans rfl, (blk_cell BK209.out 1).trans rfl, (blk_cell BK209.out 2).trans rfl, (blk_cell BK209.out 3).trans rfl, (blk_cell BK209.out 4).trans rfl⟩ (fun hHeld => ?_)
                  clear hK K
                  refine norm_ (a' := ?_) ?_ ?_
                  rotate_left
                  · show Act.put _ (some 48) _ = _
                    simp only [Act.put, List.setIfInBounds_toArray, List.set_cons_zero, List.set_cons_succ, i64_w, i32_w]
                    rfl
                  refine one_ (i := 3) (N := some 49) #[true, true, true, true] rfl rfl (by kernel_rfl) (by decide) (fun K hK => ?_)
                  refine goes_ Tryd.func34 (by kernel_rfl) rfl #[.agg #[.int .u64 a0_0, .int .u64 a0_1, .int .u64 a0_2, .int .u64 a0_3, .int .u64 a0_4], .agg #[.int .i64 t215, .int .i64 t216, .int .i64 t217, .int .i64 t218, .int .i64 t219, .int .i64 t220, .int .i64 t221]] (by rfl) rfl rfl (by (try simp only [List.map_toArray, List.map_cons, List.map_nil]); first | done | rfl | (simp only [List.length_drop, List.length_take]; rfl)) ?_
                  with_reducible refine (cron_dated.calls a0_0 a0_1 a0_2 a0_3 a0_4 t215 t216 t217 t218 t219 t220 t221 false _ A15.out).mono ?_
                  rintro e w32 ⟨rfl, hb⟩
                  refine ⟨_, rfl, ?_⟩
                  have n0_ := Aside0.mk (blk_below (g := gb209) (o := .cells #[.int .u64 a0_0, .int .u64 a0_1, .int .u64 a0_2, .int .u64 a0_3, .int .u64 a0_4] 25 (0, 0)) (by (with_reducible repeat (first | refine blk_drewN ?_ _ | refine blk_drew ?_ | refine blk_alloc ?_ _)); exact BK209.out) hb)
                  have n1_ := Aside0.mk (below_step (by repeat (first | (with_reducible first | exact HB.out | apply below_alloc | apply pw_below_drewN | apply below_drew1 | refine below_set ?_ GE209.out) | exact HB.out)) hb)
                  clear BK209
                  clear HB
                  have BK209 := n0_
                  have HB := n1_
                  clear n0_ n1_
                  (try clear hb)
                  (try clear hb2)
                  (try clear hk)
                  (try clear hi)
                  refine hK.out _ _ ⟨(blk_cell BK209.out 0).trans rfl, (blk_cell BK209.out 1).trans rfl, (blk_cell BK209.out 2).trans rfl, (blk_cell BK209.out 3).trans rfl, (blk_cell BK209.out 4).trans rfl⟩ (fun hHeld => ?_)
                  clear hK K
                  refine norm_ (a' := ?_) ?_ ?_
                  rotate_left
                  · show Act.put _ (some 49) _ = _
                    simp only [Act.put, List.setIfInBounds_toArray, List.set_cons_zero, List.set_cons_succ, i64_w, i32_w]
                    rfl
                  refine done_ (by kernel_rfl) ?_
                  try go_wp2
                  go_roundg kj9
                  case measure => have := HK1.out; have := HJ9.out; omega
                  case rel => exact ⟨(0), (wrap64 (x23_1 + 1)), (by first | rfl | (simp; done) | (simp [*]; done)), (by first | rfl | (simp; done) | (simp [*]; done)), H', ⟨by have := HK1.out; have := HJ9.out; omega⟩, ⟨by (with_reducible repeat (first | refine blk_drewN ?_ _ | refine blk_drew ?_ | refine blk_alloc ?_ _)); exact BK209.out⟩, ⟨by repeat (first | (with_reducible first | exact HB.out | apply below_alloc | apply pw_below_drewN | apply below_drew1 | refine below_set ?_ GE209.out) | exact HB.out)⟩⟩
              · replace c13 := Bool.eq_false_iff.mpr c13
                subst c13
                have H1 : (some (0, false)) = some (r1, r2) := by rw [if_neg (show ¬ (false = true) by decide)] at H; exact H
                clear H
                have H := H1
                clear H1
                simp only [Option.some.injEq, Prod.mk.injEq] at H
                obtain ⟨rfl, rfl⟩ := H
                go_wp2
                go_ret2
                exact ⟨by first | rfl | (simp [errW_none, errW_some] <;> rfl) | (simp [*, errW_none, errW_some] <;> rfl), by repeat (first | (with_reducible first | exact HB.out | apply below_alloc | apply pw_below_drewN | apply below_drew1 | refine below_set ?_ GE209.out) | exact HB.out)⟩
        · rw [if_neg c8] at H
          have c8b0 : decide (x23_1 < 10228) = false := decide_eq_false c8
          clear c8
          simp only [Option.some.injEq, Prod.mk.injEq] at H
          obtain ⟨rfl, rfl⟩ := H
          go_wp2
          go_ret2
          exact ⟨by first | rfl | (simp [errW_none, errW_some] <;> rfl) | (simp [*, errW_none, errW_some] <;> rfl), by repeat (first | (with_reducible first | exact HB.out | apply below_alloc | apply pw_below_drewN | apply below_drew1 | refine below_set ?_ GE209.out) | exact HB.out)⟩
  · replace c4 := Bool.eq_false_iff.mpr c4
    subst c4
    have H1 : (some (0, false)) = some (r1, r2) := by rw [if_neg (show ¬ (false = true) by decide)] at H; exact H
    clear H
    have H := H1
    clear H1
    simp only [Option.some.injEq, Prod.mk.injEq] at H
    obtain ⟨rfl, rfl⟩ := H
    go_enter Tryd.func19, Tryd.ntmps19
    go_wp2_with (first | ((with_reducible refine gate_dst (N := 2) rfl ?_); refine box_event ?hg (N := 2) ?hd (cs := #[.int .u64 a0_0, .int .u64 a0_1, .int .u64 a0_2, .int .u64 a0_3, .int .u64 a0_4]) (t := 25) ?hr ?_; (case hd => rfl); (case hg => rfl); (case hr => first | (go_simp; done) | (go_simp; rfl)); intro gb209 hg w33 hbox hb; have n0_ := Aside0.mk (below_step (by repeat (first | (with_reducible first | exact HB.out | apply below_alloc | apply pw_below_drewN | apply below_drew1) | exact HB.out)) hb); have n1_ := Aside0.mk (hbox); have n2_ := Aside0.mk ((by rw [hg]; exact (below_size (by repeat (first | (with_reducible first | exact HB.out | apply below_alloc | apply pw_below_drewN | apply below_drew1) | exact HB.out))) : w.heap.size ≤ gb209)); have n3_ := Aside0.mk ((by rw [hg]; exact (below_size (by repeat (first | (with_reducible first | exact HB.out | apply below_alloc | apply pw_below_drewN | apply below_drew1) | exact HB.out))) : w.heap.size ≤ gb209)); clear HB; have HB := n0_; have BK209 := n1_; have GW209 := n2_; have GE209 := n3_; clear n0_ n1_ n2_ n3_; clear hb hbox hg; have hcz34_0 : w33.cell? ⟨gb209, 0, none⟩ = some (.int .u64 a0_0) := (blk_cell BK209.out 0).trans rfl; have hcz34_1 : w33.cell? ⟨gb209, 1, none⟩ = some (.int .u64 a0_1) := (blk_cell BK209.out 1).trans rfl; have hcz34_2 : w33.cell? ⟨gb209, 2, none⟩ = some (.int .u64 a0_2) := (blk_cell BK209.out 2).trans rfl; have hcz34_3 : w33.cell? ⟨gb209, 3, none⟩ = some (.int .u64 a0_3) := (blk_cell BK209.out 3).trans rfl; have hcz34_4 : w33.cell? ⟨gb209, 4, none⟩ = some (.int .u64 a0_4) := (blk_cell BK209.out 4).trans rfl; have hfz34_0 := blk_frozen BK209.out 0; have hfz34_1 := blk_frozen BK209.out 1; have hfz34_2 := blk_frozen BK209.out 2; have hfz34_3 := blk_frozen BK209.out 3; have hfz34_4 := blk_frozen BK209.out 4) | ((with_reducible refine gate_callee (f := 15) rfl ?_); refine goesL_ (some 14) rfl rfl Tryd.func15 (by kernel_rfl) rfl #[.agg #[.int .u64 a0_0, .int .u64 a0_1, .int .u64 a0_2, .int .u64 a0_3, .int .u64 a0_4]] rfl (by (try simp only [List.map_toArray, List.map_cons, List.map_nil]); first | done | rfl | (simp only [List.length_drop, List.length_take]; rfl)) ?_; (with_reducible refine (Cw.formed.calls a0_0 a0_1 a0_2 a0_3 a0_4 false _ A3.out (by first | exact HL_.out | exact Go.Proofs.YtkmcmgfmahildaaDoor.Laid.Laid.below HL_.out (by repeat (first | (with_reducible first | exact HB.out | exact Below.refl _ _ | exact (‹Aside0 (Below _ _ _)›).out | apply below_alloc | apply pw_below_drewN | apply below_drew1 | refine Below.setCell ?_ (Aside0.out (by assumption)) _) | exact HB.out | exact (‹Aside0 (Below _ _ _)›).out)))).mono ?_); rintro e w35 ⟨rfl, hb⟩; refine ⟨_, rfl, ?_⟩; have n0_ := Aside0.mk (blk_below (g := gb209) (o := .cells #[.int .u64 a0_0, .int .u64 a0_1, .int .u64 a0_2, .int .u64 a0_3, .int .u64 a0_4] 25 (0, 0)) (by (with_reducible repeat (first | refine blk_drewN ?_ _ | refine blk_drew ?_ | refine blk_alloc ?_ _)); exact BK209.out) hb); have n1_ := Aside0.mk (below_step (by repeat (first | (with_reducible first | exact HB.out | apply below_alloc | apply pw_below_drewN | apply below_drew1 | refine below_set ?_ GE209.out) | exact HB.out)) hb); clear BK209; clear HB; have BK209 := n0_; have HB := n1_; clear n0_ n1_; (try clear hb); (try clear hb2); (try clear hk); (try clear hi)))
    go_ret2
    exact ⟨by first | rfl | (simp [errW_none, errW_some] <;> rfl) | (simp [*, errW_none, errW_some] <;> rfl), by repeat (first | (with_reducible first | exact HB.out | apply below_alloc | apply pw_below_drewN | apply below_drew1 | refine below_set ?_ GE209.out) | exact HB.out)⟩

end Go.Proofs.YtkmcmgfmahildaaDoor.OB
