/- capstanref01_Of: the walk out of the print, turned where it falls, or laid over a turned one. -/
import Derived.Test.YtalefchapckcoaaPGateBindsx0
namespace Go.Proofs.Ytalefchapckcoaa.PGateBinds
open Go.RowKit Go.Proofs.YtalefchapckcoaaW.PrintWords Go.Proofs.YtalefchapckcoaaW.PrintLast Go.Proofs.YtalefchapckcoaaW.PrintMore
attribute [local go_sem] max2_int min2_int max_two min_two max_three min_three max_four min_four   -- for this text's walks alone
set_option linter.unusedVariables false
set_option linter.unusedSimpArgs false

/-! ### capstanref01_Of: function 24 -/
mutual
def capstanref01_Of.j0 : Nat → Bool → Int → Option (Bool × List Int)
  | 0, _, _ => none
  | k + 1, x3, x4 => capstanref01_Of.l0 k x3 x4 ([] : List Int)
def capstanref01_Of.l0 : Nat → Bool → Int → List Int → Option (Bool × List Int)
  | 0, _, _, _ => none
  | k + 1, x3, x4, x5 => if x4 > 0 then (if x5.length < 17592186044416 then (capstanref01_Of.l0 k x3 (IntKind.u64.wrap (Int.tdiv x4 65536)) (x5 ++ [wrap64 (Int.tmod x4 65536)])) else (none)) else (some (x3, x5))
end
def capstanref01_Of.f (k : Nat) (a0 : Int) : Option (Bool × List Int) := if a0 < 0 then (capstanref01_Of.j0 k (decide (a0 < 0)) (IntKind.u64.wrap (-(IntKind.u64.wrap (a0))))) else (capstanref01_Of.j0 k (decide (a0 < 0)) (IntKind.u64.wrap (a0)))
theorem capstanref01_Of.mono_l : ∀ k, (∀ y0 y1, LeO (capstanref01_Of.j0 k y0 y1) (capstanref01_Of.j0 (k + 1) y0 y1)) ∧ (∀ y0 y1 y2, LeO (capstanref01_Of.l0 k y0 y1 y2) (capstanref01_Of.l0 (k + 1) y0 y1 y2))
  | 0 => ⟨fun _ _ r h => by simp [capstanref01_Of.j0] at h, fun _ _ _ r h => by simp [capstanref01_Of.l0] at h⟩
  | k + 1 => by
    obtain ⟨ih0, ih1⟩ := capstanref01_Of.mono_l k
    refine ⟨?_, ?_⟩
    · intro y0 y1
      unfold capstanref01_Of.j0
      repeat' first
      | (with_reducible exact ih0 _ _)
      | (with_reducible exact ih1 _ _ _)
      | (with_reducible exact LeO.refl _)
      | (with_reducible exact LeO.none _)
      | (with_reducible refine LeO.ite ?_ ?_)
      | (with_reducible refine LeO.bind ?_ (fun _ => ?_))
      | exact ih0 _ _
      | exact ih1 _ _ _
      | exact LeO.none _
      | refine LeO.ite ?_ ?_
      | refine LeO.bind ?_ (fun _ => ?_)
    · intro y0 y1 y2
      unfold capstanref01_Of.l0
      repeat' first
      | (with_reducible exact ih0 _ _)
      | (with_reducible exact ih1 _ _ _)
      | (with_reducible exact LeO.refl _)
      | (with_reducible exact LeO.none _)
      | (with_reducible refine LeO.ite ?_ ?_)
      | (with_reducible refine LeO.bind ?_ (fun _ => ?_))
      | exact ih0 _ _
      | exact ih1 _ _ _
      | exact LeO.none _
      | refine LeO.ite ?_ ?_
      | refine LeO.bind ?_ (fun _ => ?_)
theorem capstanref01_Of.mono : ∀ a0 k, LeO (capstanref01_Of.f k a0) (capstanref01_Of.f (k + 1) a0) := by
  intro a0 k
  obtain ⟨ih0, ih1⟩ := capstanref01_Of.mono_l k
  unfold capstanref01_Of.f
  repeat' first
      | (with_reducible exact ih0 _ _)
      | (with_reducible exact ih1 _ _ _)
      | (with_reducible exact LeO.refl _)
      | (with_reducible exact LeO.none _)
      | (with_reducible refine LeO.ite ?_ ?_)
      | (with_reducible refine LeO.bind ?_ (fun _ => ?_))
      | exact ih0 _ _
      | exact ih1 _ _ _
      | exact LeO.none _
      | refine LeO.ite ?_ ?_
      | refine LeO.bind ?_ (fun _ => ?_)
set_option maxHeartbeats 8000000 in
set_option maxRecDepth 100000 in
theorem capstanref01_Of.calls (k : Nat) (a0 : Int) (r1 : Bool) (r2 : List Int) (w : World) (h : capstanref01_Of.f k a0 = some (r1, r2)) :
    Calls Try.prog 24 #[.int .i64 a0] w fun e w' => ∃ v1_ : Value, e = .returned (.agg #[.bool r1, v1_]) ∧ Kd.R (Kd.int .i64) 3 w' w.heap.size (fun _ => True) v1_ r2 ∧ Below w.heap.size w w' := by
  have hu68 := Try.underlying68
  have HB := Aside0.mk (Below.refl w.heap.size w)
  have H : (if a0 < 0 then (capstanref01_Of.j0 k (decide (a0 < 0)) (IntKind.u64.wrap (-(IntKind.u64.wrap (a0))))) else (capstanref01_Of.j0 k (decide (a0 < 0)) (IntKind.u64.wrap (a0)))) = some (r1, r2) := h
  clear h
  have HC2 := Aside0.mk H
  clear H
  go_enter Try.func24, Try.ntmps24
  go_upto_if 10 with (first | ((with_reducible refine gate_dst (N := 2) rfl ?_); refine box_event ?hg (N := 2) ?hd (cs := #[.bool false, .slice none 0 0]) (t := 68) ?hr ?_; (case hd => rfl); (case hg => rfl); (case hr => first | (go_simp; done) | (go_simp; rfl)); intro gb151 hg w3 hbox hb; have n0_ := Aside0.mk (below_step (by repeat (first | (with_reducible first | exact HB.out | apply below_alloc | apply pw_below_drewN | apply below_drew1) | exact HB.out)) hb); have n1_ := Aside0.mk (hbox); have n2_ := Aside0.mk ((by rw [hg]; exact (below_size (by repeat (first | (with_reducible first | exact HB.out | apply below_alloc | apply pw_below_drewN | apply below_drew1) | exact HB.out))) : w.heap.size ≤ gb151)); have n3_ := Aside0.mk ((by rw [hg]; exact (below_size (by repeat (first | (with_reducible first | exact HB.out | apply below_alloc | apply pw_below_drewN | apply below_drew1) | exact HB.out))) : w.heap.size ≤ gb151)); clear HB; have HB := n0_; have BK151 := n1_; have GW151 := n2_; have GE151 := n3_; clear n0_ n1_ n2_ n3_; clear hb hbox hg))
  (try simp only [Act.put, List.setIfInBounds_toArray, List.set_cons_zero, List.set_cons_succ])
  go_cut [3, 4] (fun v3 v4 wc => ∃ (kq : Nat) (x4_1 : Int), v3 = .bool (decide (a0 < 0)) ∧ v4 = .int .u64 x4_1 ∧ Aside0 (capstanref01_Of.j0 kq (decide (a0 < 0)) x4_1 = some (r1, r2)) ∧ Aside0 (kq ≤ k) ∧ Aside0 (wc.heap[gb151]? = some (.cells #[.bool false, (.slice none 0 0)] 68 (0, 0))) ∧ Aside0 (Below w.heap.size w wc))
  case first =>
    have H := HC2.out
    clear HC2
    by_cases c4 : a0 < 0
    · rw [if_pos c4] at H
      have c4b0 : decide (a0 < 0) = true := decide_eq_true c4
      clear c4
      (first | rw [c4b0] | (simp only [i64_w, i32_w]; rw [c4b0]) | skip)
      have H' := Aside0.mk H
      clear H
      go_wp2
      go_meet
      case rel => exact ⟨_, (IntKind.u64.wrap (-(IntKind.u64.wrap (a0)))), (by rw [c4b0]), (by first | rfl | (simp; done) | (simp [*]; done)), H', ⟨by first | omega | exact Nat.le_refl _⟩, ⟨by (with_reducible repeat (first | refine blk_drewN ?_ _ | refine blk_drew ?_ | refine blk_alloc ?_ _)); exact BK151.out⟩, ⟨by repeat (first | (with_reducible first | exact HB.out | apply below_alloc | apply pw_below_drewN | apply below_drew1 | refine below_set ?_ GE151.out) | exact HB.out)⟩⟩
    · rw [if_neg c4] at H
      have c4b0 : decide (a0 < 0) = false := decide_eq_false c4
      clear c4
      (first | rw [c4b0] | (simp only [i64_w, i32_w]; rw [c4b0]) | skip)
      have H' := Aside0.mk H
      clear H
      go_wp2
      go_meet
      case rel => exact ⟨_, (IntKind.u64.wrap (a0)), (by rw [c4b0]), (by first | rfl | (simp; done) | (simp [*]; done)), H', ⟨by first | omega | exact Nat.le_refl _⟩, ⟨by (with_reducible repeat (first | refine blk_drewN ?_ _ | refine blk_drew ?_ | refine blk_alloc ?_ _)); exact BK151.out⟩, ⟨by repeat (first | (with_reducible first | exact HB.out | apply below_alloc | apply pw_below_drewN | apply below_drew1 | refine below_set ?_ GE151.out) | exact HB.out)⟩⟩
  case rest =>
    clear HC2
    try clear c2
    try clear p2
    try clear c4
    try clear c4b0
    obtain ⟨kq, x4_1, rfl, rfl, HA, HJ1, BK151, HB⟩ := hcut
    cases kq with
    | zero => exact absurd HA.out (by simp [capstanref01_Of.j0])
    | succ kj1 =>
      have H := HA.out
      clear HA
      simp only [capstanref01_Of.j0] at H
      have H' := Aside0.mk H
      clear H
      go_wp2
      go_loopg [4, 5] kj1 (fun kq v4 v5 w' => ∃ (x4_2 : Int) (x5_2 : List Int), v4 = .int .u64 x4_2 ∧ Aside0 (capstanref01_Of.l0 kq (decide (a0 < 0)) x4_2 x5_2 = some (r1, r2)) ∧ Aside0 (kq ≤ kj1) ∧ Aside0 (Kd.R (Kd.int .i64) 3 w' w.heap.size (fun _ => True) v5 x5_2) ∧ Aside0 (w'.heap[gb151]? = some (.cells #[.bool false, (.slice none 0 0)] 68 (0, 0))) ∧ Aside0 (Below w.heap.size w w'))
      case atStart => exact ⟨(x4_1), (([] : List Int)), (by first | rfl | (simp; done) | (simp [*]; done)), H', ⟨Nat.le_refl _⟩, ⟨by first | exact Kd.R_nil _ _ _ _ _ | exact Kd.N_nil _ _ _ _ _ | exact Kd.V_nil _ _ _ _ _ | exact Kd.Q_nil _ _ _ _ _ | exact Kd.S_nil _ _ _ _ _⟩, ⟨by (with_reducible repeat (first | refine blk_drewN ?_ _ | refine blk_drew ?_ | refine blk_alloc ?_ _)); exact BK151.out⟩, ⟨by repeat (first | (with_reducible first | exact HB.out | apply below_alloc | apply pw_below_drewN | apply below_drew1 | refine below_set ?_ GE151.out) | exact HB.out)⟩⟩
      case round =>
        clear H'
        try clear c2
        try clear p2
        try clear c4
        try clear c4b0
        try clear p2
        obtain ⟨x4_2, x5_2, rfl, HA, HK2, HO_5, BK151, HB⟩ := hrel
        cases gk with
        | zero => exact absurd HA.out (by simp [capstanref01_Of.l0])
        | succ k2 =>
          have H := HA.out
          clear HA
          simp only [capstanref01_Of.l0] at H
          by_cases c5 : x4_2 > 0
          · rw [if_pos c5] at H
            have c5b0 : decide (0 < x4_2) = true := decide_eq_true c5
            clear c5
            by_cases c6 : x5_2.length < 17592186044416
            · rw [if_pos c6] at H
              have LMc6 := Aside0.mk c6
              clear c6
              obtain ⟨y152, hy152⟩ : ∃ y_ : List Int, y_ = (x5_2 ++ [wrap64 (Int.tmod x4_2 65536)]) := ⟨_, rfl⟩
              replace H : (capstanref01_Of.l0 k2 (decide (a0 < 0)) (IntKind.u64.wrap (Int.tdiv x4_2 65536)) y152) = some (r1, r2) := by first | (rw [hy152]; with_reducible exact H) | (have H2_ := (Option.bind_some _ _).symm.trans H; rw [hy152]; with_reducible exact H2_) | (have H2_ := (Option.bind_some _ _).symm.trans H; with_reducible exact H2_) | with_reducible exact H | (rw [hy152]; exact H) | exact H
              have Ny152 := Aside0.mk hy152
              clear hy152
              have H' := Aside0.mk H
              clear H
              go_wp2_with (first | ((with_reducible refine gate_builtin (b := .append) (xs := #[.tmp 15, .tmp 19]) rfl ?_); at_builtin; refine Kd.R_append (Kd.int .i64) (w0 := w) w.heap.size rfl (.tmp 15) (.tmp 19) 66 3 (.int .i64 0) 8 rfl Try.underlying66 info3 rfl (by decide) (by omega) u5 x5_2 (wrap64 (Int.tmod x4_2 65536)) [.int .i64 (wrap64 (Int.tmod x4_2 65536))] (fun _ => True) (fun _ => False) rfl rfl ?aP (fun _ hk => hk.elim) ?aF ?aO ?aB ?aS ?aL ?_; (case aP => exact rfl); (case aB => exact (by repeat (first | (with_reducible first | exact HB.out | apply below_alloc | apply pw_below_drewN | apply below_drew1 | refine below_set ?_ GE151.out) | exact HB.out))); (case aF => exact (fun _ _ => trivial)); (case aO => exact (by (with_reducible repeat (first | apply Kd.R_alloc | apply Kd.R_drewN | apply Kd.R_drew)); exact HO_5.out)); (case aS => exact (below_size (by repeat (first | (with_reducible first | exact HB.out | apply below_alloc | apply pw_below_drewN | apply below_drew1 | refine below_set ?_ GE151.out) | exact HB.out)))); (case aL => have := LMc6.out; omega); intro v153 w7 ho hb hg hat; rw [← Ny152.out] at ho; have n0_ := Aside0.mk (blk_grown (g := gb151) (o := .cells #[.bool false, .slice none 0 0] 68 (0, 0)) (by (with_reducible repeat (first | refine blk_drewN ?_ _ | refine blk_drew ?_ | refine blk_alloc ?_ _)); exact BK151.out) hg (Kd.R_ne HO_5.out BK151.out (by decide))); have n1_ := Aside0.mk (hb); have n2_ := Aside0.mk (ho); clear BK151; clear HB; clear HO_5; have BK151 := n0_; have HB := n1_; have HO154 := n2_; clear n0_ n1_ n2_; clear ho hb hg hat))
              go_roundg k2
              case measure => have := HJ1.out; have := HK2.out; omega
              case rel => exact ⟨(IntKind.u64.wrap (Int.tdiv x4_2 65536)), (y152), (by first | rfl | (simp; done) | (simp [*]; done)), H', ⟨by have := HJ1.out; have := HK2.out; omega⟩, ⟨by (with_reducible repeat (first | apply Kd.R_alloc | apply Kd.R_drewN | apply Kd.R_drew)); exact HO154.out⟩, ⟨by (with_reducible repeat (first | refine blk_drewN ?_ _ | refine blk_drew ?_ | refine blk_alloc ?_ _)); exact BK151.out⟩, ⟨by repeat (first | (with_reducible first | exact HB.out | apply below_alloc | apply pw_below_drewN | apply below_drew1 | refine below_set ?_ GE151.out) | exact HB.out)⟩⟩
            · rw [if_neg c6] at H
              exact absurd H (by simp)
          · rw [if_neg c5] at H
            have c5b0 : decide (0 < x4_2) = false := decide_eq_false c5
            clear c5
            simp only [Option.some.injEq, Prod.mk.injEq] at H
            obtain ⟨rfl, rfl⟩ := H
            obtain ⟨Ao8, co8, eo8⟩ := Kd.R_slice HO_5.out
            subst eo8
            have hcz9_0 : wr.cell? ⟨gb151, 0, none⟩ = some (.bool false) := (blk_cell BK151.out 0).trans rfl
            have hcz9_1 : wr.cell? ⟨gb151, 1, none⟩ = some (.slice none 0 0) := (blk_cell BK151.out 1).trans rfl
            have hfz9_0 := blk_frozen BK151.out 0
            have hfz9_1 := blk_frozen BK151.out 1
            go_wp2
            refine bodyPost_ret (results_cell_row rfl _ _ gb151 68 #[.bool (decide (a0 < 0)), .slice Ao8 x5_2.length co8] (0, 0) _ rfl (by (with_reducible repeat (first | refine blk_drewN ?_ _ | refine blk_drew ?_ | refine blk_alloc ?_ _)); refine blk_put (cs := #[.bool (decide (a0 < 0)), .slice none 0 0]) ?_ 1 _ rfl; (with_reducible repeat (first | refine blk_drewN ?_ _ | refine blk_drew ?_ | refine blk_alloc ?_ _)); refine blk_put (cs := #[.bool false, .slice none 0 0]) ?_ 0 _ rfl; (with_reducible repeat (first | refine blk_drewN ?_ _ | refine blk_drew ?_ | refine blk_alloc ?_ _)); exact BK151.out) Try.underlying68 rfl (by kernel_rfl)) rfl ?_
            exact ⟨_, by first | rfl | (simp [errW_none, errW_some] <;> rfl) | (simp [*, errW_none, errW_some] <;> rfl), by (with_reducible repeat (first | apply Kd.R_alloc | apply Kd.R_drewN | apply Kd.R_drew)); exact Kd.R_mono (Kd.R_far (p := ⟨gb151, 1, none⟩) (Kd.R_far (p := ⟨gb151, 0, none⟩) (Kd.R_types HO_5.out BK151.out (by decide)) (fun _ hk => hk.2) (.bool (decide (a0 < 0)))) (fun _ hk => hk.2) (.slice Ao8 x5_2.length co8)) (fun _ hk => trivial), by repeat (first | (with_reducible first | exact HB.out | apply below_alloc | apply pw_below_drewN | apply below_drew1 | refine below_set ?_ GE151.out) | exact HB.out)⟩

end Go.Proofs.Ytalefchapckcoaa.PGateBinds
