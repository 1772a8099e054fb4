-- PRINTED BY print.sh 35421559b90ae4d0a3588c463048766b98c2df88dd9212a6774a882060cdf62d: not written by this session
import Derived.Test.YtdeohkldlpknnaaDoorPCivilOfx0
import Derived.Test.YtdeohkldlpknnaaDoorPCivilOfx6
import Derived.Test.YtdeohkldlpknnaaDoorPCivilOfx7
import Derived.Test.YtdeohkldlpknnaaDoorPCivilOfx8
namespace Go.Proofs.YtdeohkldlpknnaaDoor.PCivilOf
open Go.RowKit Go.Proofs.YtdeohkldlpknnaaDoorW.PrintWords Go.Proofs.YtdeohkldlpknnaaDoorW.PrintLast Go.Proofs.YtdeohkldlpknnaaDoorW.PrintMore
attribute [local go_sem] max2_int min2_int max_two min_two max_three min_three max_four min_four   -- for this text's walks alone
set_option linter.unusedVariables false
set_option linter.unusedSimpArgs false

/-! ### capstanref03_Of: function 11 -/
mutual
def capstanref03_Of.l0 : Nat → Int → Int → Int → Int → Option (Int × Int × Int × Int × Int × Int × Int)
  | 0, _, _, _, _ => none
  | k + 1, x4, x6, x8, x9 => (capstanref03_long.f x9).bind fun t125 => (if x8 ≥ t125 then ((capstanref03_long.f x9).bind fun t126 => (capstanref03_Of.l0 k x4 x6 (wrap64 (x8 - t126)) (wrap64 (x9 + 1)))) else (capstanref03_Of.l1 k x4 x6 x8 x9 1))
def capstanref03_Of.l1 : Nat → Int → Int → Int → Int → Int → Option (Int × Int × Int × Int × Int × Int × Int)
  | 0, _, _, _, _, _ => none
  | k + 1, x4, x6, x8, x9, x10 => (capstanref03_Days.f k x9 x10).bind fun t127 => (if x8 ≥ t127 then ((capstanref03_Days.f k x9 x10).bind fun t128 => (capstanref03_Of.l1 k x4 x6 (wrap64 (x8 - t128)) x9 (wrap64 (x10 + 1)))) else ((capstanref03_Over.f x4 3600).bind fun bt129 => ((capstanref03_Over.f bt129.2 60).bind fun bt131 => (some (x9, x10, wrap64 (x8 + 1), bt129.1, bt131.1, bt131.2, x6)))))
end
def capstanref03_Of.f (k : Nat) (a0 : Int) : Option (Int × Int × Int × Int × Int × Int × Int) := (capstanref03_Over.f a0 86400).bind fun bt119 => ((capstanref03_Over.f (wrap64 (bt119.1 + 4)) 7).bind fun bt121 => ((capstanref03_Over.f bt119.1 146097).bind fun bt123 => (capstanref03_Of.l0 k bt119.2 bt121.2 bt123.2 (wrap64 (1970 + (wrap64 (400 * bt123.1)))))))
theorem capstanref03_Of.mono_l : ∀ k, (∀ y0 y1 y2 y3, LeO (capstanref03_Of.l0 k y0 y1 y2 y3) (capstanref03_Of.l0 (k + 1) y0 y1 y2 y3)) ∧ (∀ y0 y1 y2 y3 y4, LeO (capstanref03_Of.l1 k y0 y1 y2 y3 y4) (capstanref03_Of.l1 (k + 1) y0 y1 y2 y3 y4))
  | 0 => ⟨fun _ _ _ _ r h => by simp [capstanref03_Of.l0] at h, fun _ _ _ _ _ r h => by simp [capstanref03_Of.l1] at h⟩
  | k + 1 => by
    obtain ⟨ih0, ih1⟩ := capstanref03_Of.mono_l k
    refine ⟨?_, ?_⟩
    · intro y0 y1 y2 y3
      unfold capstanref03_Of.l0
      repeat' first
      | (with_reducible exact ih0 _ _ _ _)
      | (with_reducible exact ih1 _ _ _ _ _)
      | (with_reducible exact capstanref03_Days.mono _ _ _)
      | (with_reducible exact LeO.refl _)
      | (with_reducible exact LeO.none _)
      | (with_reducible refine LeO.ite ?_ ?_)
      | (with_reducible refine LeO.bind ?_ (fun _ => ?_))
      | exact ih0 _ _ _ _
      | exact ih1 _ _ _ _ _
      | exact capstanref03_Days.mono _ _ _
      | exact LeO.none _
      | refine LeO.ite ?_ ?_
      | refine LeO.bind ?_ (fun _ => ?_)
    · intro y0 y1 y2 y3 y4
      unfold capstanref03_Of.l1
      repeat' first
      | (with_reducible exact ih0 _ _ _ _)
      | (with_reducible exact ih1 _ _ _ _ _)
      | (with_reducible exact capstanref03_Days.mono _ _ _)
      | (with_reducible exact LeO.refl _)
      | (with_reducible exact LeO.none _)
      | (with_reducible refine LeO.ite ?_ ?_)
      | (with_reducible refine LeO.bind ?_ (fun _ => ?_))
      | exact ih0 _ _ _ _
      | exact ih1 _ _ _ _ _
      | exact capstanref03_Days.mono _ _ _
      | exact LeO.none _
      | refine LeO.ite ?_ ?_
      | refine LeO.bind ?_ (fun _ => ?_)
theorem capstanref03_Of.mono : ∀ a0 k, LeO (capstanref03_Of.f k a0) (capstanref03_Of.f (k + 1) a0) := by
  intro a0 k
  obtain ⟨ih0, ih1⟩ := capstanref03_Of.mono_l k
  unfold capstanref03_Of.f
  repeat' first
      | (with_reducible exact ih0 _ _ _ _)
      | (with_reducible exact ih1 _ _ _ _ _)
      | (with_reducible exact capstanref03_Days.mono _ _ _)
      | (with_reducible exact LeO.refl _)
      | (with_reducible exact LeO.none _)
      | (with_reducible refine LeO.ite ?_ ?_)
      | (with_reducible refine LeO.bind ?_ (fun _ => ?_))
      | exact ih0 _ _ _ _
      | exact ih1 _ _ _ _ _
      | exact capstanref03_Days.mono _ _ _
      | exact LeO.none _
      | refine LeO.ite ?_ ?_
      | refine LeO.bind ?_ (fun _ => ?_)
set_option maxHeartbeats 8000000 in
set_option maxRecDepth 100000 in
theorem capstanref03_Of.calls (k : Nat) (a0 : Int) (r1 : Int) (r2 : Int) (r3 : Int) (r4 : Int) (r5 : Int) (r6 : Int) (r7 : Int) (w : World) (h : capstanref03_Of.f k a0 = some (r1, r2, r3, r4, r5, r6, r7)) :
    Calls Tryd.prog 11 #[.int .i64 a0] w fun e w' => e = .returned (.agg #[.int .i64 r1, .int .i64 r2, .int .i64 r3, .int .i64 r4, .int .i64 r5, .int .i64 r6, .int .i64 r7]) ∧ Below w.heap.size w w' := by
  have hu24 := Tryd.underlying24
  have HB := Aside0.mk (Below.refl w.heap.size w)
  have H : ((capstanref03_Over.f a0 86400).bind fun bt119 => ((capstanref03_Over.f (wrap64 (bt119.1 + 4)) 7).bind fun bt121 => ((capstanref03_Over.f bt119.1 146097).bind fun bt123 => (capstanref03_Of.l0 k bt119.2 bt121.2 bt123.2 (wrap64 (1970 + (wrap64 (400 * bt123.1)))))))) = some (r1, r2, r3, r4, r5, r6, r7) := h
  clear h
  replace H := Option.bind_eq_some_iff.mp H
  obtain ⟨⟨t119, t120⟩, A20, H⟩ := H
  replace H : ((capstanref03_Over.f (wrap64 (t119 + 4)) 7).bind fun bt121 => ((capstanref03_Over.f t119 146097).bind fun bt123 => (capstanref03_Of.l0 k t120 bt121.2 bt123.2 (wrap64 (1970 + (wrap64 (400 * bt123.1))))))) = some (r1, r2, r3, r4, r5, r6, r7) := H
  have A2 := Aside0.mk A20
  clear A20
  replace H := Option.bind_eq_some_iff.mp H
  obtain ⟨⟨t121, t122⟩, A30, H⟩ := H
  replace H : ((capstanref03_Over.f t119 146097).bind fun bt123 => (capstanref03_Of.l0 k t120 t122 bt123.2 (wrap64 (1970 + (wrap64 (400 * bt123.1)))))) = some (r1, r2, r3, r4, r5, r6, r7) := H
  have A3 := Aside0.mk A30
  clear A30
  replace H := Option.bind_eq_some_iff.mp H
  obtain ⟨⟨t123, t124⟩, A40, H⟩ := H
  replace H : (capstanref03_Of.l0 k t120 t122 t124 (wrap64 (1970 + (wrap64 (400 * t123))))) = some (r1, r2, r3, r4, r5, r6, r7) := H
  have A4 := Aside0.mk A40
  clear A40
  have H' := Aside0.mk H
  clear H
  go_enter Tryd.func11, Tryd.ntmps11
  go_wp2_with (first | ((with_reducible refine gate_dst (N := 2) rfl ?_); refine box_event ?hg (N := 2) ?hd (cs := #[.int .i64 0, .int .i64 0, .int .i64 0, .int .i64 0, .int .i64 0, .int .i64 0, .int .i64 0]) (t := 24) ?hr ?_; (case hd => rfl); (case hg => rfl); (case hr => first | (go_simp; done) | (go_simp; rfl)); intro gb118 hg w5 hbox hb; have n0_ := Aside0.mk (below_step (by repeat (first | (with_reducible first | exact HB.out | apply below_alloc | apply pw_below_drewN | apply below_drew1) | exact HB.out)) hb); have n1_ := Aside0.mk (hbox); have n2_ := Aside0.mk ((by rw [hg]; exact (below_size (by repeat (first | (with_reducible first | exact HB.out | apply below_alloc | apply pw_below_drewN | apply below_drew1) | exact HB.out))) : w.heap.size ≤ gb118)); have n3_ := Aside0.mk ((by rw [hg]; exact (below_size (by repeat (first | (with_reducible first | exact HB.out | apply below_alloc | apply pw_below_drewN | apply below_drew1) | exact HB.out))) : w.heap.size ≤ gb118)); clear HB; have HB := n0_; have BK118 := n1_; have GW118 := n2_; have GE118 := n3_; clear n0_ n1_ n2_ n3_; clear hb hbox hg) | ((with_reducible refine gate_callee (f := 20) rfl ?_); refine goesL_ (some 16) rfl rfl Tryd.func20 (by kernel_rfl) rfl #[.int .i64 a0, .int .i64 86400] rfl (by (try simp only [List.map_toArray, List.map_cons, List.map_nil]); first | done | rfl | (simp only [List.length_drop, List.length_take]; rfl)) ?_; (with_reducible refine (capstanref03_Over.calls a0 86400 t119 t120 _ A2.out).mono ?_); rintro e w' ⟨rfl, ⟨nd, rfl⟩⟩; refine ⟨_, rfl, ?_⟩) | ((with_reducible refine gate_callee (f := 20) rfl ?_); refine goesL_ (some 22) rfl rfl Tryd.func20 (by kernel_rfl) rfl #[.int .i64 (wrap64 (t119 + 4)), .int .i64 7] rfl (by (try simp only [List.map_toArray, List.map_cons, List.map_nil]); first | done | rfl | (simp only [List.length_drop, List.length_take]; rfl)) ?_; (with_reducible refine (capstanref03_Over.calls (wrap64 (t119 + 4)) 7 t121 t122 _ A3.out).mono ?_); rintro e w' ⟨rfl, ⟨nd, rfl⟩⟩; refine ⟨_, rfl, ?_⟩) | ((with_reducible refine gate_callee (f := 20) rfl ?_); refine goesL_ (some 27) rfl rfl Tryd.func20 (by kernel_rfl) rfl #[.int .i64 t119, .int .i64 146097] rfl (by (try simp only [List.map_toArray, List.map_cons, List.map_nil]); first | done | rfl | (simp only [List.length_drop, List.length_take]; rfl)) ?_; (with_reducible refine (capstanref03_Over.calls t119 146097 t123 t124 _ A4.out).mono ?_); rintro e w' ⟨rfl, ⟨nd, rfl⟩⟩; refine ⟨_, rfl, ?_⟩))
  go_loopg [8, 9] k (fun kq v8 v9 w' => ∃ (x8_1 : Int) (x9_1 : Int), v8 = .int .i64 x8_1 ∧ v9 = .int .i64 x9_1 ∧ Aside0 (capstanref03_Of.l0 kq t120 t122 x8_1 x9_1 = some (r1, r2, r3, r4, r5, r6, r7)) ∧ Aside0 (kq ≤ k) ∧ Aside0 (w'.heap[gb118]? = some (.cells #[.int .i64 0, .int .i64 0, .int .i64 0, .int .i64 0, .int .i64 0, .int .i64 0, .int .i64 0] 24 (0, 0))) ∧ Aside0 (Below w.heap.size w w'))
  case atStart => exact ⟨(t124), (wrap64 (1970 + (wrap64 (400 * t123)))), (by first | rfl | (simp; done) | (simp [*]; done)), (by first | rfl | (simp; done) | (simp [*]; done)), H', ⟨Nat.le_refl _⟩, ⟨by (with_reducible repeat (first | refine blk_drewN ?_ _ | refine blk_drew ?_ | refine blk_alloc ?_ _)); exact BK118.out⟩, ⟨by repeat (first | (with_reducible first | exact HB.out | apply below_alloc | apply pw_below_drewN | apply below_drew1 | refine below_set ?_ GE118.out) | exact HB.out)⟩⟩
  case round =>
    clear H'
    try clear c1
    try clear c2
    try clear p2
    obtain ⟨x8_1, x9_1, rfl, rfl, HA, HK1, BK118, HB⟩ := hrel
    cases gk with
    | zero => exact absurd HA.out (by simp [capstanref03_Of.l0])
    | succ k1 =>
      have H := HA.out
      clear HA
      simp only [capstanref03_Of.l0] at H
      replace H := Option.bind_eq_some_iff.mp H
      obtain ⟨t125, A60, H⟩ := H
      replace H : (if x8_1 ≥ t125 then ((capstanref03_long.f x9_1).bind fun t126 => (capstanref03_Of.l0 k1 t120 t122 (wrap64 (x8_1 - t126)) (wrap64 (x9_1 + 1)))) else (capstanref03_Of.l1 k1 t120 t122 x8_1 x9_1 1)) = some (r1, r2, r3, r4, r5, r6, r7) := H
      have A6 := Aside0.mk A60
      clear A60
      by_cases c7 : x8_1 ≥ t125
      · rw [if_pos c7] at H
        have c7b0 : decide (t125 ≤ x8_1) = true := decide_eq_true c7
        clear c7
        replace H := Option.bind_eq_some_iff.mp H
        obtain ⟨t126, A80, H⟩ := H
        replace H : (capstanref03_Of.l0 k1 t120 t122 (wrap64 (x8_1 - t126)) (wrap64 (x9_1 + 1))) = some (r1, r2, r3, r4, r5, r6, r7) := H
        have A8 := Aside0.mk A80
        clear A80
        have H' := Aside0.mk H
        clear H
        go_wp2_with (first | ((with_reducible refine gate_callee (f := 21) rfl ?_); refine goesL_ (some 35) rfl rfl Tryd.func21 (by kernel_rfl) rfl #[.int .i64 x9_1] rfl (by (try simp only [List.map_toArray, List.map_cons, List.map_nil]); first | done | rfl | (simp only [List.length_drop, List.length_take]; rfl)) ?_; (with_reducible refine (capstanref03_long.calls x9_1 t125 _ A6.out).mono ?_); rintro e w' ⟨rfl, ⟨nd, rfl⟩⟩; refine ⟨_, rfl, ?_⟩) | ((with_reducible refine gate_callee (f := 21) rfl ?_); refine goesL_ (some 39) rfl rfl Tryd.func21 (by kernel_rfl) rfl #[.int .i64 x9_1] rfl (by (try simp only [List.map_toArray, List.map_cons, List.map_nil]); first | done | rfl | (simp only [List.length_drop, List.length_take]; rfl)) ?_; (with_reducible refine (capstanref03_long.calls x9_1 t126 _ A8.out).mono ?_); rintro e w' ⟨rfl, ⟨nd, rfl⟩⟩; refine ⟨_, rfl, ?_⟩))
        go_roundg k1
        case measure => have := HK1.out; omega
        case rel => exact ⟨(wrap64 (x8_1 - t126)), (wrap64 (x9_1 + 1)), (by first | rfl | (simp; done) | (simp [*]; done)), (by first | rfl | (simp; done) | (simp [*]; done)), H', ⟨by have := HK1.out; omega⟩, ⟨by (with_reducible repeat (first | refine blk_drewN ?_ _ | refine blk_drew ?_ | refine blk_alloc ?_ _)); exact BK118.out⟩, ⟨by repeat (first | (with_reducible first | exact HB.out | apply below_alloc | apply pw_below_drewN | apply below_drew1 | refine below_set ?_ GE118.out) | exact HB.out)⟩⟩
      · rw [if_neg c7] at H
        have c7b0 : decide (t125 ≤ x8_1) = false := decide_eq_false c7
        clear c7
        have H' := Aside0.mk H
        clear H
        go_wp2_with (first | ((with_reducible refine gate_callee (f := 21) rfl ?_); refine goesL_ (some 35) rfl rfl Tryd.func21 (by kernel_rfl) rfl #[.int .i64 x9_1] rfl (by (try simp only [List.map_toArray, List.map_cons, List.map_nil]); first | done | rfl | (simp only [List.length_drop, List.length_take]; rfl)) ?_; (with_reducible refine (capstanref03_long.calls x9_1 t125 _ A6.out).mono ?_); rintro e w' ⟨rfl, ⟨nd, rfl⟩⟩; refine ⟨_, rfl, ?_⟩))
        go_loopg [8, 10] k1 (fun kq v8 v10 w' => ∃ (x8_2 : Int) (x10_2 : Int), v8 = .int .i64 x8_2 ∧ v10 = .int .i64 x10_2 ∧ Aside0 (capstanref03_Of.l1 kq t120 t122 x8_2 x9_1 x10_2 = some (r1, r2, r3, r4, r5, r6, r7)) ∧ Aside0 (kq ≤ k1) ∧ Aside0 (w'.heap[gb118]? = some (.cells #[.int .i64 0, .int .i64 0, .int .i64 0, .int .i64 0, .int .i64 0, .int .i64 0, .int .i64 0] 24 (0, 0))) ∧ Aside0 (Below w.heap.size w w'))
        case atStart => exact ⟨(x8_1), (1), (by first | rfl | (simp; done) | (simp [*]; done)), (by first | rfl | (simp; done) | (simp [*]; done)), H', ⟨Nat.le_refl _⟩, ⟨by (with_reducible repeat (first | refine blk_drewN ?_ _ | refine blk_drew ?_ | refine blk_alloc ?_ _)); exact BK118.out⟩, ⟨by repeat (first | (with_reducible first | exact HB.out | apply below_alloc | apply pw_below_drewN | apply below_drew1 | refine below_set ?_ GE118.out) | exact HB.out)⟩⟩
        case round =>
          clear H'
          try clear c1
          try clear c2
          try clear p2
          try clear p6
          try clear c7
          try clear c7b0
          try clear p2
          obtain ⟨x8_2, x10_2, rfl, rfl, HA, HK2, BK118, HB⟩ := hrel
          cases gk with
          | zero => exact absurd HA.out (by simp [capstanref03_Of.l1])
          | succ k2 =>
            have H := HA.out
            clear HA
            simp only [capstanref03_Of.l1] at H
            replace H := Option.bind_eq_some_iff.mp H
            obtain ⟨t127, A90, H⟩ := H
            replace H : (if x8_2 ≥ t127 then ((capstanref03_Days.f k2 x9_1 x10_2).bind fun t128 => (capstanref03_Of.l1 k2 t120 t122 (wrap64 (x8_2 - t128)) x9_1 (wrap64 (x10_2 + 1)))) else ((capstanref03_Over.f t120 3600).bind fun bt129 => ((capstanref03_Over.f bt129.2 60).bind fun bt131 => (some (x9_1, x10_2, wrap64 (x8_2 + 1), bt129.1, bt131.1, bt131.2, t122))))) = some (r1, r2, r3, r4, r5, r6, r7) := H
            have A9 := Aside0.mk A90
            clear A90
            by_cases c10 : x8_2 ≥ t127
            · rw [if_pos c10] at H
              have c10b0 : decide (t127 ≤ x8_2) = true := decide_eq_true c10
              clear c10
              replace H := Option.bind_eq_some_iff.mp H
              obtain ⟨t128, A110, H⟩ := H
              replace H : (capstanref03_Of.l1 k2 t120 t122 (wrap64 (x8_2 - t128)) x9_1 (wrap64 (x10_2 + 1))) = some (r1, r2, r3, r4, r5, r6, r7) := H
              have A11 := Aside0.mk A110
              clear A110
              have H' := Aside0.mk H
              clear H
              go_wp2_with (first | ((with_reducible refine gate_callee (f := 17) rfl ?_); refine goesL_ (some 46) rfl rfl Tryd.func17 (by kernel_rfl) rfl #[.int .i64 x9_1, .int .i64 x10_2] rfl (by (try simp only [List.map_toArray, List.map_cons, List.map_nil]); first | done | rfl | (simp only [List.length_drop, List.length_take]; rfl)) ?_; (with_reducible refine (capstanref03_Days.calls k2 x9_1 x10_2 t127 _ A9.out).mono ?_); rintro e w' ⟨rfl, ⟨nd, rfl⟩⟩; refine ⟨_, rfl, ?_⟩) | ((with_reducible refine gate_callee (f := 17) rfl ?_); refine goesL_ (some 51) rfl rfl Tryd.func17 (by kernel_rfl) rfl #[.int .i64 x9_1, .int .i64 x10_2] rfl (by (try simp only [List.map_toArray, List.map_cons, List.map_nil]); first | done | rfl | (simp only [List.length_drop, List.length_take]; rfl)) ?_; (with_reducible refine (capstanref03_Days.calls k2 x9_1 x10_2 t128 _ A11.out).mono ?_); rintro e w' ⟨rfl, ⟨nd, rfl⟩⟩; refine ⟨_, rfl, ?_⟩))
              go_roundg k2
              case measure => have := HK1.out; have := HK2.out; omega
              case rel => exact ⟨(wrap64 (x8_2 - t128)), (wrap64 (x10_2 + 1)), (by first | rfl | (simp; done) | (simp [*]; done)), (by first | rfl | (simp; done) | (simp [*]; done)), H', ⟨by have := HK1.out; have := HK2.out; omega⟩, ⟨by (with_reducible repeat (first | refine blk_drewN ?_ _ | refine blk_drew ?_ | refine blk_alloc ?_ _)); exact BK118.out⟩, ⟨by repeat (first | (with_reducible first | exact HB.out | apply below_alloc | apply pw_below_drewN | apply below_drew1 | refine below_set ?_ GE118.out) | exact HB.out)⟩⟩
            · rw [if_neg c10] at H
              have c10b0 : decide (t127 ≤ x8_2) = false := decide_eq_false c10
              clear c10
              replace H := Option.bind_eq_some_iff.mp H
              obtain ⟨⟨t129, t130⟩, A120, H⟩ := H
              replace H : ((capstanref03_Over.f t130 60).bind fun bt131 => (some (x9_1, x10_2, wrap64 (x8_2 + 1), t129, bt131.1, bt131.2, t122))) = some (r1, r2, r3, r4, r5, r6, r7) := H
              have A12 := Aside0.mk A120
              clear A120
              replace H := Option.bind_eq_some_iff.mp H
              obtain ⟨⟨t131, t132⟩, A130, H⟩ := H
              replace H : (some (x9_1, x10_2, wrap64 (x8_2 + 1), t129, t131, t132, t122)) = some (r1, r2, r3, r4, r5, r6, r7) := H
              have A13 := Aside0.mk A130
              clear A130
              simp only [Option.some.injEq, Prod.mk.injEq] at H
              obtain ⟨rfl, rfl, rfl, rfl, rfl, rfl, rfl⟩ := H
              go_wp2_with (first | ((with_reducible refine gate_callee (f := 17) rfl ?_); refine goesL_ (some 46) rfl rfl Tryd.func17 (by kernel_rfl) rfl #[.int .i64 x9_1, .int .i64 x10_2] rfl (by (try simp only [List.map_toArray, List.map_cons, List.map_nil]); first | done | rfl | (simp only [List.length_drop, List.length_take]; rfl)) ?_; (with_reducible refine (capstanref03_Days.calls k2 x9_1 x10_2 t127 _ A9.out).mono ?_); rintro e w' ⟨rfl, ⟨nd, rfl⟩⟩; refine ⟨_, rfl, ?_⟩; (try (rw [drewN_self wr]; generalize hq_ : World.drewN wr _ = wr; have n0_ : Aside0 (wr.heap[gb118]? = some (.cells #[.int .i64 0, .int .i64 0, .int .i64 0, .int .i64 0, .int .i64 0, .int .i64 0, .int .i64 0] 24 (0, 0))) := ⟨by rw [← hq_]; exact (by (with_reducible repeat (first | refine blk_drewN ?_ _ | refine blk_drew ?_ | refine blk_alloc ?_ _)); exact BK118.out)⟩; have n1_ : Aside0 (Below w.heap.size w wr) := ⟨by rw [← hq_]; exact (by repeat (first | (with_reducible first | exact HB.out | apply below_alloc | apply pw_below_drewN | apply below_drew1 | refine below_set ?_ GE118.out) | exact HB.out))⟩; clear BK118 HB hq_; have BK118 := n0_; have HB := n1_; clear n0_ n1_))) | ((with_reducible refine gate_callee (f := 20) rfl ?_); refine goesL_ (some 57) rfl rfl Tryd.func20 (by kernel_rfl) rfl #[.int .i64 t120, .int .i64 3600] rfl (by (try simp only [List.map_toArray, List.map_cons, List.map_nil]); first | done | rfl | (simp only [List.length_drop, List.length_take]; rfl)) ?_; (with_reducible refine (capstanref03_Over.calls t120 3600 t129 t130 _ A12.out).mono ?_); rintro e w' ⟨rfl, ⟨nd, rfl⟩⟩; refine ⟨_, rfl, ?_⟩; (try (rw [drewN_self wr]; generalize hq_ : World.drewN wr _ = wr; have n0_ : Aside0 (wr.heap[gb118]? = some (.cells #[.int .i64 0, .int .i64 0, .int .i64 0, .int .i64 0, .int .i64 0, .int .i64 0, .int .i64 0] 24 (0, 0))) := ⟨by rw [← hq_]; exact (by (with_reducible repeat (first | refine blk_drewN ?_ _ | refine blk_drew ?_ | refine blk_alloc ?_ _)); exact BK118.out)⟩; have n1_ : Aside0 (Below w.heap.size w wr) := ⟨by rw [← hq_]; exact (by repeat (first | (with_reducible first | exact HB.out | apply below_alloc | apply pw_below_drewN | apply below_drew1 | refine below_set ?_ GE118.out) | exact HB.out))⟩; clear BK118 HB hq_; have BK118 := n0_; have HB := n1_; clear n0_ n1_))) | ((with_reducible refine gate_callee (f := 20) rfl ?_); refine goesL_ (some 62) rfl rfl Tryd.func20 (by kernel_rfl) rfl #[.int .i64 t130, .int .i64 60] rfl (by (try simp only [List.map_toArray, List.map_cons, List.map_nil]); first | done | rfl | (simp only [List.length_drop, List.length_take]; rfl)) ?_; (with_reducible refine (capstanref03_Over.calls t130 60 t131 t132 _ A13.out).mono ?_); rintro e w' ⟨rfl, ⟨nd, rfl⟩⟩; refine ⟨_, rfl, ?_⟩; (try (rw [drewN_self wr]; generalize hq_ : World.drewN wr _ = wr; have n0_ : Aside0 (wr.heap[gb118]? = some (.cells #[.int .i64 0, .int .i64 0, .int .i64 0, .int .i64 0, .int .i64 0, .int .i64 0, .int .i64 0] 24 (0, 0))) := ⟨by rw [← hq_]; exact (by (with_reducible repeat (first | refine blk_drewN ?_ _ | refine blk_drew ?_ | refine blk_alloc ?_ _)); exact BK118.out)⟩; have n1_ : Aside0 (Below w.heap.size w wr) := ⟨by rw [← hq_]; exact (by repeat (first | (with_reducible first | exact HB.out | apply below_alloc | apply pw_below_drewN | apply below_drew1 | refine below_set ?_ GE118.out) | exact HB.out))⟩; clear BK118 HB hq_; have BK118 := n0_; have HB := n1_; clear n0_ n1_)); have hcz14_0 : wr.cell? ⟨gb118, 0, none⟩ = some (.int .i64 0) := (blk_cell BK118.out 0).trans rfl; have hcz14_1 : wr.cell? ⟨gb118, 1, none⟩ = some (.int .i64 0) := (blk_cell BK118.out 1).trans rfl; have hcz14_2 : wr.cell? ⟨gb118, 2, none⟩ = some (.int .i64 0) := (blk_cell BK118.out 2).trans rfl; have hcz14_3 : wr.cell? ⟨gb118, 3, none⟩ = some (.int .i64 0) := (blk_cell BK118.out 3).trans rfl; have hcz14_4 : wr.cell? ⟨gb118, 4, none⟩ = some (.int .i64 0) := (blk_cell BK118.out 4).trans rfl; have hcz14_5 : wr.cell? ⟨gb118, 5, none⟩ = some (.int .i64 0) := (blk_cell BK118.out 5).trans rfl; have hcz14_6 : wr.cell? ⟨gb118, 6, none⟩ = some (.int .i64 0) := (blk_cell BK118.out 6).trans rfl; have hfz14_0 := blk_frozen BK118.out 0; have hfz14_1 := blk_frozen BK118.out 1; have hfz14_2 := blk_frozen BK118.out 2; have hfz14_3 := blk_frozen BK118.out 3; have hfz14_4 := blk_frozen BK118.out 4; have hfz14_5 := blk_frozen BK118.out 5; have hfz14_6 := blk_frozen BK118.out 6))
              refine bodyPost_ret (results_cell_row rfl _ _ gb118 24 #[.int .i64 x9_1, .int .i64 x10_2, .int .i64 (wrap64 (x8_2 + 1)), .int .i64 t129, .int .i64 t131, .int .i64 t132, .int .i64 t122] (0, 0) _ rfl (by (with_reducible repeat (first | refine blk_drewN ?_ _ | refine blk_drew ?_ | refine blk_alloc ?_ _)); refine blk_put (cs := #[.int .i64 x9_1, .int .i64 x10_2, .int .i64 (wrap64 (x8_2 + 1)), .int .i64 t129, .int .i64 t131, .int .i64 t132, .int .i64 0]) ?_ 6 _ rfl; (with_reducible repeat (first | refine blk_drewN ?_ _ | refine blk_drew ?_ | refine blk_alloc ?_ _)); refine blk_put (cs := #[.int .i64 x9_1, .int .i64 x10_2, .int .i64 (wrap64 (x8_2 + 1)), .int .i64 t129, .int .i64 t131, .int .i64 0, .int .i64 0]) ?_ 5 _ rfl; (with_reducible repeat (first | refine blk_drewN ?_ _ | refine blk_drew ?_ | refine blk_alloc ?_ _)); refine blk_put (cs := #[.int .i64 x9_1, .int .i64 x10_2, .int .i64 (wrap64 (x8_2 + 1)), .int .i64 t129, .int .i64 0, .int .i64 0, .int .i64 0]) ?_ 4 _ rfl; (with_reducible repeat (first | refine blk_drewN ?_ _ | refine blk_drew ?_ | refine blk_alloc ?_ _)); refine blk_put (cs := #[.int .i64 x9_1, .int .i64 x10_2, .int .i64 (wrap64 (x8_2 + 1)), .int .i64 0, .int .i64 0, .int .i64 0, .int .i64 0]) ?_ 3 _ rfl; (with_reducible repeat (first | refine blk_drewN ?_ _ | refine blk_drew ?_ | refine blk_alloc ?_ _)); refine blk_put (cs := #[.int .i64 x9_1, .int .i64 x10_2, .int .i64 0, .int .i64 0, .int .i64 0, .int .i64 0, .int .i64 0]) ?_ 2 _ rfl; (with_reducible repeat (first | refine blk_drewN ?_ _ | refine blk_drew ?_ | refine blk_alloc ?_ _)); refine blk_put (cs := #[.int .i64 x9_1, .int .i64 0, .int .i64 0, .int .i64 0, .int .i64 0, .int .i64 0, .int .i64 0]) ?_ 1 _ rfl; (with_reducible repeat (first | refine blk_drewN ?_ _ | refine blk_drew ?_ | refine blk_alloc ?_ _)); refine blk_put (cs := #[.int .i64 0, .int .i64 0, .int .i64 0, .int .i64 0, .int .i64 0, .int .i64 0, .int .i64 0]) ?_ 0 _ rfl; (with_reducible repeat (first | refine blk_drewN ?_ _ | refine blk_drew ?_ | refine blk_alloc ?_ _)); exact BK118.out) Tryd.underlying24 rfl (by kernel_rfl)) rfl ?_
              exact ⟨by first | rfl | (simp [errW_none, errW_some] <;> rfl) | (simp [*, errW_none, errW_some] <;> rfl), by repeat (first | (with_reducible first | exact HB.out | apply below_alloc | apply pw_below_drewN | apply below_drew1 | refine below_set ?_ GE118.out) | exact HB.out)⟩

end Go.Proofs.YtdeohkldlpknnaaDoor.PCivilOf
