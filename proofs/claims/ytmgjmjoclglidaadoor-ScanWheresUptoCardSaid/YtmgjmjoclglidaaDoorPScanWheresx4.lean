-- PRINTED BY print.sh 35421559b90ae4d0a3588c463048766b98c2df88dd9212a6774a882060cdf62d: not written by this session
import Derived.Test.YtmgjmjoclglidaaDoorPScanWheresx0
namespace Go.Proofs.YtmgjmjoclglidaaDoor.PScanWheres
open Go.RowKit Go.Proofs.YtmgjmjoclglidaaDoorW.PrintWords Go.Proofs.YtmgjmjoclglidaaDoorW.PrintLast Go.Proofs.YtmgjmjoclglidaaDoorW.PrintMore
attribute [local go_sem] max2_int min2_int max_two min_two max_three min_three max_four min_four   -- for this text's walks alone
set_option linter.unusedVariables false
set_option linter.unusedSimpArgs false

/-! ### capstanref09_Sequence: function 21 -/
mutual
def capstanref09_Sequence.j0 : Nat → ByteArray → Int → Int → Int → Int → Option (Int × Int)
  | 0, _, _, _, _, _ => none
  | k + 1, x0, x1, x7, x8, x9 => if (wrap64 (x1 + x7)) > (x0.size : Int) then (some (0, 0)) else (capstanref09_Sequence.l0 k x0 x1 x7 x8 x9 1)
def capstanref09_Sequence.l0 : Nat → ByteArray → Int → Int → Int → Int → Int → Option (Int × Int)
  | 0, _, _, _, _, _, _ => none
  | k + 1, x0, x1, x7, x8, x9, x10 => if x10 < x7 then (if 0 ≤ (wrap64 (x1 + x10)) then (if (wrap64 (x1 + x10)) < (x0.size : Int) then (if (wrap64 (Int.tdiv (wrap64 (bt x0 (wrap64 (x1 + x10)))) 64)) = 2 then (capstanref09_Sequence.l0 k x0 x1 x7 (wrap64 ((wrap64 (x8 * 64)) + (Int.tmod (wrap64 (bt x0 (wrap64 (x1 + x10)))) 64))) x9 (wrap64 (x10 + 1))) else (some (0, 0))) else (none)) else (none)) else (if x8 < x9 then (some (0, 0)) else (if x8 > 1114111 then (some (0, 0)) else (if x8 ≥ 55296 then (if x8 ≤ 57343 then (some (0, 0)) else (some (x8, x7))) else (some (x8, x7)))))
end
def capstanref09_Sequence.f (k : Nat) (a0 : ByteArray) (a1 : Int) : Option (Int × Int) := if 0 ≤ a1 then (if a1 < (a0.size : Int) then (if (wrap64 (bt a0 a1)) < 128 then (some (wrap64 (bt a0 a1), 1)) else (if (wrap64 (Int.tdiv (wrap64 (bt a0 a1)) 32)) = 6 then (capstanref09_Sequence.j0 k a0 a1 2 (Int.tmod (wrap64 (bt a0 a1)) 32) 128) else (if (wrap64 (Int.tdiv (wrap64 (bt a0 a1)) 16)) = 14 then (capstanref09_Sequence.j0 k a0 a1 3 (Int.tmod (wrap64 (bt a0 a1)) 16) 2048) else (if (wrap64 (Int.tdiv (wrap64 (bt a0 a1)) 8)) = 30 then (capstanref09_Sequence.j0 k a0 a1 4 (Int.tmod (wrap64 (bt a0 a1)) 8) 65536) else (some (0, 0)))))) else (none)) else (none)
theorem capstanref09_Sequence.mono_l : ∀ k, (∀ y0 y1 y2 y3 y4, LeO (capstanref09_Sequence.j0 k y0 y1 y2 y3 y4) (capstanref09_Sequence.j0 (k + 1) y0 y1 y2 y3 y4)) ∧ (∀ y0 y1 y2 y3 y4 y5, LeO (capstanref09_Sequence.l0 k y0 y1 y2 y3 y4 y5) (capstanref09_Sequence.l0 (k + 1) y0 y1 y2 y3 y4 y5))
  | 0 => ⟨fun _ _ _ _ _ r h => by simp [capstanref09_Sequence.j0] at h, fun _ _ _ _ _ _ r h => by simp [capstanref09_Sequence.l0] at h⟩
  | k + 1 => by
    obtain ⟨ih0, ih1⟩ := capstanref09_Sequence.mono_l k
    refine ⟨?_, ?_⟩
    · intro y0 y1 y2 y3 y4
      unfold capstanref09_Sequence.j0
      repeat' first
      | (with_reducible exact ih0 _ _ _ _ _)
      | (with_reducible exact ih1 _ _ _ _ _ _)
      | (with_reducible exact LeO.refl _)
      | (with_reducible exact LeO.none _)
      | (with_reducible refine LeO.ite ?_ ?_)
      | (with_reducible refine LeO.bind ?_ (fun _ => ?_))
      | exact ih0 _ _ _ _ _
      | exact ih1 _ _ _ _ _ _
      | exact LeO.none _
      | refine LeO.ite ?_ ?_
      | refine LeO.bind ?_ (fun _ => ?_)
    · intro y0 y1 y2 y3 y4 y5
      unfold capstanref09_Sequence.l0
      repeat' first
      | (with_reducible exact ih0 _ _ _ _ _)
      | (with_reducible exact ih1 _ _ _ _ _ _)
      | (with_reducible exact LeO.refl _)
      | (with_reducible exact LeO.none _)
      | (with_reducible refine LeO.ite ?_ ?_)
      | (with_reducible refine LeO.bind ?_ (fun _ => ?_))
      | exact ih0 _ _ _ _ _
      | exact ih1 _ _ _ _ _ _
      | exact LeO.none _
      | refine LeO.ite ?_ ?_
      | refine LeO.bind ?_ (fun _ => ?_)
theorem capstanref09_Sequence.mono : ∀ a0 a1 k, LeO (capstanref09_Sequence.f k a0 a1) (capstanref09_Sequence.f (k + 1) a0 a1) := by
  intro a0 a1 k
  obtain ⟨ih0, ih1⟩ := capstanref09_Sequence.mono_l k
  unfold capstanref09_Sequence.f
  repeat' first
      | (with_reducible exact ih0 _ _ _ _ _)
      | (with_reducible exact ih1 _ _ _ _ _ _)
      | (with_reducible exact LeO.refl _)
      | (with_reducible exact LeO.none _)
      | (with_reducible refine LeO.ite ?_ ?_)
      | (with_reducible refine LeO.bind ?_ (fun _ => ?_))
      | exact ih0 _ _ _ _ _
      | exact ih1 _ _ _ _ _ _
      | exact LeO.none _
      | refine LeO.ite ?_ ?_
      | refine LeO.bind ?_ (fun _ => ?_)
set_option maxHeartbeats 8000000 in
set_option maxRecDepth 100000 in
theorem capstanref09_Sequence.calls (k : Nat) (a0 : ByteArray) (a1 : Int) (r1 : Int) (r2 : Int) (w : World) (h : capstanref09_Sequence.f k a0 a1 = some (r1, r2)) :
    Calls Tryd.prog 21 #[.string a0, .int .i64 a1] w fun e w' => e = .returned (.tuple #[.int .i64 r1, .int .i64 r2]) ∧ Drawn0 w w' := by
  have H : (if 0 ≤ a1 then (if a1 < (a0.size : Int) then (if (wrap64 (bt a0 a1)) < 128 then (some (wrap64 (bt a0 a1), 1)) else (if (wrap64 (Int.tdiv (wrap64 (bt a0 a1)) 32)) = 6 then (capstanref09_Sequence.j0 k a0 a1 2 (Int.tmod (wrap64 (bt a0 a1)) 32) 128) else (if (wrap64 (Int.tdiv (wrap64 (bt a0 a1)) 16)) = 14 then (capstanref09_Sequence.j0 k a0 a1 3 (Int.tmod (wrap64 (bt a0 a1)) 16) 2048) else (if (wrap64 (Int.tdiv (wrap64 (bt a0 a1)) 8)) = 30 then (capstanref09_Sequence.j0 k a0 a1 4 (Int.tmod (wrap64 (bt a0 a1)) 8) 65536) else (some (0, 0)))))) else (none)) else (none)) = some (r1, r2) := h
  clear h
  by_cases c3 : 0 ≤ a1
  · rw [if_pos c3] at H
    have c3b0 : decide (0 ≤ a1) = true := decide_eq_true c3
    clear c3
    by_cases c4 : a1 < (a0.size : Int)
    · rw [if_pos c4] at H
      have c4b0 : decide (a1 < (a0.size : Int)) = true := decide_eq_true c4
      clear c4
      have HC6 := Aside0.mk H
      clear H
      have p5 : 0 ≤ (a1 : Int) := of_decide_eq_true (by first | (with_reducible assumption) | assumption)
      have q5 : a1 < (a0.size : Int) := of_decide_eq_true (by first | (with_reducible assumption) | assumption)
      have hx5 := bt_at a0 a1
      replace p5 := eq_true p5
      replace q5 := eq_true q5
      go_enter Tryd.func21, Tryd.ntmps21
      go_upto_block 0 with (fail)
      go_cut [7, 8, 9] (fun v7 v8 v9 wc => ∃ (kq : Nat) (x7_5 : Int) (x8_5 : Int) (x9_5 : Int), v7 = .int .i64 x7_5 ∧ v8 = .int .i64 x8_5 ∧ v9 = .int .i64 x9_5 ∧ Aside0 (capstanref09_Sequence.j0 kq a0 a1 x7_5 x8_5 x9_5 = some (r1, r2)) ∧ Aside0 (kq ≤ k) ∧ Drawn0 w wc)
      case first =>
        have H := HC6.out
        clear HC6
        by_cases c7 : (wrap64 (bt a0 a1)) < 128
        · rw [if_pos c7] at H
          have c7b0 : decide ((wrap64 (bt a0 a1)) < 128) = true := decide_eq_true c7
          clear c7
          (first | rw [c7b0] | (simp only [i64_w, i32_w]; rw [c7b0]) | skip)
          simp only [Option.some.injEq, Prod.mk.injEq] at H
          obtain ⟨rfl, rfl⟩ := H
          go_wp2
          go_ret2
          exact ⟨by first | rfl | (simp; done) | (simp [*]; done), by repeat (first | exact Drawn0.refl _ | apply Drawn0.step)⟩
        · rw [if_neg c7] at H
          have c7b0 : decide ((wrap64 (bt a0 a1)) < 128) = false := decide_eq_false c7
          clear c7
          (first | rw [c7b0] | (simp only [i64_w, i32_w]; rw [c7b0]) | skip)
          by_cases c8 : (wrap64 (Int.tdiv (wrap64 (bt a0 a1)) 32)) = 6
          · rw [if_pos c8] at H
            have c8b0 : ((wrap64 (Int.tdiv (wrap64 (bt a0 a1)) 32)) == 6) = true := beq_iff_eq.mpr c8
            have c8b1 : ((wrap64 (Int.tdiv (wrap64 (bt a0 a1)) 32)) != 6) = false := bne_eq_false_iff_eq.mpr c8
            clear c8
            have H' := Aside0.mk H
            clear H
            go_wp2
            go_meet
            case rel => exact ⟨_, (2), (Int.tmod (wrap64 (bt a0 a1)) 32), (128), (by first | rfl | (simp; done) | (simp [*]; done)), (by first | rfl | (simp; done) | (simp [*]; done)), (by first | rfl | (simp; done) | (simp [*]; done)), H', ⟨by first | omega | exact Nat.le_refl _⟩, by repeat (first | exact Drawn0.refl _ | apply Drawn0.step)⟩
          · rw [if_neg c8] at H
            have c8b0 : ((wrap64 (Int.tdiv (wrap64 (bt a0 a1)) 32)) == 6) = false := beq_eq_false_iff_ne.mpr c8
            have c8b1 : ((wrap64 (Int.tdiv (wrap64 (bt a0 a1)) 32)) != 6) = true := bne_iff_ne.mpr c8
            by_cases c9 : (wrap64 (Int.tdiv (wrap64 (bt a0 a1)) 16)) = 14
            · rw [if_pos c9] at H
              have c9b0 : ((wrap64 (Int.tdiv (wrap64 (bt a0 a1)) 16)) == 14) = true := beq_iff_eq.mpr c9
              have c9b1 : ((wrap64 (Int.tdiv (wrap64 (bt a0 a1)) 16)) != 14) = false := bne_eq_false_iff_eq.mpr c9
              clear c9
              have H' := Aside0.mk H
              clear H
              go_wp2
              go_meet
              case rel => exact ⟨_, (3), (Int.tmod (wrap64 (bt a0 a1)) 16), (2048), (by first | rfl | (simp; done) | (simp [*]; done)), (by first | rfl | (simp; done) | (simp [*]; done)), (by first | rfl | (simp; done) | (simp [*]; done)), H', ⟨by first | omega | exact Nat.le_refl _⟩, by repeat (first | exact Drawn0.refl _ | apply Drawn0.step)⟩
            · rw [if_neg c9] at H
              have c9b0 : ((wrap64 (Int.tdiv (wrap64 (bt a0 a1)) 16)) == 14) = false := beq_eq_false_iff_ne.mpr c9
              have c9b1 : ((wrap64 (Int.tdiv (wrap64 (bt a0 a1)) 16)) != 14) = true := bne_iff_ne.mpr c9
              by_cases c10 : (wrap64 (Int.tdiv (wrap64 (bt a0 a1)) 8)) = 30
              · rw [if_pos c10] at H
                have c10b0 : ((wrap64 (Int.tdiv (wrap64 (bt a0 a1)) 8)) == 30) = true := beq_iff_eq.mpr c10
                have c10b1 : ((wrap64 (Int.tdiv (wrap64 (bt a0 a1)) 8)) != 30) = false := bne_eq_false_iff_eq.mpr c10
                clear c10
                have H' := Aside0.mk H
                clear H
                go_wp2
                go_meet
                case rel => exact ⟨_, (4), (Int.tmod (wrap64 (bt a0 a1)) 8), (65536), (by first | rfl | (simp; done) | (simp [*]; done)), (by first | rfl | (simp; done) | (simp [*]; done)), (by first | rfl | (simp; done) | (simp [*]; done)), H', ⟨by first | omega | exact Nat.le_refl _⟩, by repeat (first | exact Drawn0.refl _ | apply Drawn0.step)⟩
              · rw [if_neg c10] at H
                have c10b0 : ((wrap64 (Int.tdiv (wrap64 (bt a0 a1)) 8)) == 30) = false := beq_eq_false_iff_ne.mpr c10
                have c10b1 : ((wrap64 (Int.tdiv (wrap64 (bt a0 a1)) 8)) != 30) = true := bne_iff_ne.mpr c10
                simp only [Option.some.injEq, Prod.mk.injEq] at H
                obtain ⟨rfl, rfl⟩ := H
                go_wp2
                go_ret2
                exact ⟨by first | rfl | (simp; done) | (simp [*]; done), by repeat (first | exact Drawn0.refl _ | apply Drawn0.step)⟩
      case rest =>
        clear HC6
        try clear c1
        try clear c2
        try clear p2
        try clear c3
        try clear c3b0
        try clear c4
        try clear c4b0
        try clear p5
        try clear q5
        try clear hx5
        try clear p6
        try clear c7
        try clear c7b0
        try clear c8
        try clear c8b0
        try clear c8b1
        try clear c9
        try clear c9b0
        try clear c9b1
        try clear c10
        try clear c10b0
        try clear c10b1
        try clear p5
        try clear q5
        obtain ⟨kq, x7_5, x8_5, x9_5, rfl, rfl, rfl, HA, HJ5, ⟨mc5, rfl⟩⟩ := hcut
        cases kq with
        | zero => exact absurd HA.out (by simp [capstanref09_Sequence.j0])
        | succ kj5 =>
          have H := HA.out
          clear HA
          simp only [capstanref09_Sequence.j0] at H
          by_cases c11 : (wrap64 (a1 + x7_5)) > (a0.size : Int)
          · rw [if_pos c11] at H
            have c11b0 : decide ((a0.size : Int) < (wrap64 (a1 + x7_5))) = true := decide_eq_true c11
            clear c11
            simp only [Option.some.injEq, Prod.mk.injEq] at H
            obtain ⟨rfl, rfl⟩ := H
            go_wp2
            go_ret2
            exact ⟨by first | rfl | (simp; done) | (simp [*]; done), by repeat (first | exact Drawn0.refl _ | apply Drawn0.step)⟩
          · rw [if_neg c11] at H
            have c11b0 : decide ((a0.size : Int) < (wrap64 (a1 + x7_5))) = false := decide_eq_false c11
            clear c11
            have H' := Aside0.mk H
            clear H
            go_wp2
            go_loopg [8, 10] kj5 (fun kq v8 v10 w' => ∃ (x8_2 : Int) (x10_2 : Int), v8 = .int .i64 x8_2 ∧ v10 = .int .i64 x10_2 ∧ Aside0 (capstanref09_Sequence.l0 kq a0 a1 x7_5 x8_2 x9_5 x10_2 = some (r1, r2)) ∧ Aside0 (kq ≤ kj5) ∧ Drawn0 w w')
            case atStart => exact ⟨(x8_5), (1), (by first | rfl | (simp; done) | (simp [*]; done)), (by first | rfl | (simp; done) | (simp [*]; done)), H', ⟨Nat.le_refl _⟩, by repeat (first | exact Drawn0.refl _ | apply Drawn0.step)⟩
            case round =>
              clear H'
              try clear c1
              try clear c2
              try clear p2
              try clear c3
              try clear c3b0
              try clear c4
              try clear c4b0
              try clear c5
              try clear p5
              try clear q5
              try clear hx5
              try clear p6
              try clear c7
              try clear c7b0
              try clear c8
              try clear c8b0
              try clear c8b1
              try clear c9
              try clear c9b0
              try clear c9b1
              try clear c10
              try clear c10b0
              try clear c10b1
              try clear c11
              try clear c11b0
              try clear p2
              try clear p5
              try clear p6
              try clear q5
              obtain ⟨x8_2, x10_2, rfl, rfl, HA, HK2, ⟨m2, rfl⟩⟩ := hrel
              cases gk with
              | zero => exact absurd HA.out (by simp [capstanref09_Sequence.l0])
              | succ k2 =>
                have H := HA.out
                clear HA
                simp only [capstanref09_Sequence.l0] at H
                by_cases c12 : x10_2 < x7_5
                · rw [if_pos c12] at H
                  have c12b0 : decide (x10_2 < x7_5) = true := decide_eq_true c12
                  clear c12
                  obtain ⟨ji13, hji13⟩ : ∃ j_ : Int, (wrap64 (a1 + x10_2)) = j_ := ⟨_, rfl⟩
                  replace H : (if 0 ≤ (ji13) then (if (ji13) < (a0.size : Int) then (if (wrap64 (Int.tdiv (wrap64 (bt a0 (ji13))) 64)) = 2 then (capstanref09_Sequence.l0 k2 a0 a1 x7_5 (wrap64 ((wrap64 (x8_2 * 64)) + (Int.tmod (wrap64 (bt a0 (ji13))) 64))) x9_5 (wrap64 (x10_2 + 1))) else (some (0, 0))) else (none)) else (none)) = some (r1, r2) := by first | (rw [hji13] at H; exact H) | (simp only [hji13] at H ⊢; exact H)
                  have hji13w : (IntKind.i64.wrap (a1 + x10_2)) = ji13 := (i64_w _).trans hji13
                  by_cases c14 : 0 ≤ (ji13)
                  · rw [if_pos c14] at H
                    have c14b0 : decide (0 ≤ (ji13)) = true := decide_eq_true c14
                    clear c14
                    by_cases c15 : (ji13) < (a0.size : Int)
                    · rw [if_pos c15] at H
                      have c15b0 : decide ((ji13) < (a0.size : Int)) = true := decide_eq_true c15
                      clear c15
                      by_cases c17 : (wrap64 (Int.tdiv (wrap64 (bt a0 (ji13))) 64)) = 2
                      · rw [if_pos c17] at H
                        have c17b0 : ((wrap64 (Int.tdiv (wrap64 (bt a0 (ji13))) 64)) == 2) = true := beq_iff_eq.mpr c17
                        have c17b1 : ((wrap64 (Int.tdiv (wrap64 (bt a0 (ji13))) 64)) != 2) = false := bne_eq_false_iff_eq.mpr c17
                        clear c17
                        have H' := Aside0.mk H
                        clear H
                        have p16 : 0 ≤ ((ji13) : Int) := of_decide_eq_true (by first | (with_reducible assumption) | assumption)
                        have q16 : (ji13) < (a0.size : Int) := of_decide_eq_true (by first | (with_reducible assumption) | assumption)
                        have hx16 := bt_at a0 (ji13)
                        replace p16 := eq_true p16
                        replace q16 := eq_true q16
                        have p18 : 0 ≤ ((ji13) : Int) := of_decide_eq_true (by first | (with_reducible assumption) | assumption)
                        have q18 : (ji13) < (a0.size : Int) := of_decide_eq_true (by first | (with_reducible assumption) | assumption)
                        have hx18 := bt_at a0 (ji13)
                        replace p18 := eq_true p18
                        replace q18 := eq_true q18
                        go_wp2
                        go_roundg k2
                        case measure => have := HJ5.out; have := HK2.out; omega
                        case rel => exact ⟨(wrap64 ((wrap64 (x8_2 * 64)) + (Int.tmod (wrap64 (bt a0 (ji13))) 64))), (wrap64 (x10_2 + 1)), (by first | rfl | (simp; done) | (simp only [← hji13] <;> (first | rfl | simp)) | (simp [*]; done)), (by first | rfl | (simp; done) | (simp [*]; done)), H', ⟨by have := HJ5.out; have := HK2.out; omega⟩, by repeat (first | exact Drawn0.refl _ | apply Drawn0.step)⟩
                      · rw [if_neg c17] at H
                        have c17b0 : ((wrap64 (Int.tdiv (wrap64 (bt a0 (ji13))) 64)) == 2) = false := beq_eq_false_iff_ne.mpr c17
                        have c17b1 : ((wrap64 (Int.tdiv (wrap64 (bt a0 (ji13))) 64)) != 2) = true := bne_iff_ne.mpr c17
                        simp only [Option.some.injEq, Prod.mk.injEq] at H
                        obtain ⟨rfl, rfl⟩ := H
                        have p16 : 0 ≤ ((ji13) : Int) := of_decide_eq_true (by first | (with_reducible assumption) | assumption)
                        have q16 : (ji13) < (a0.size : Int) := of_decide_eq_true (by first | (with_reducible assumption) | assumption)
                        have hx16 := bt_at a0 (ji13)
                        replace p16 := eq_true p16
                        replace q16 := eq_true q16
                        go_wp2
                        go_ret2
                        exact ⟨by first | rfl | (simp; done) | (simp only [← hji13] <;> (first | rfl | simp)) | (simp [*]; done), by repeat (first | exact Drawn0.refl _ | apply Drawn0.step)⟩
                    · rw [if_neg c15] at H
                      exact absurd H (by simp)
                  · rw [if_neg c14] at H
                    exact absurd H (by simp)
                · rw [if_neg c12] at H
                  have c12b0 : decide (x10_2 < x7_5) = false := decide_eq_false c12
                  clear c12
                  by_cases c19 : x8_2 < x9_5
                  · rw [if_pos c19] at H
                    have c19b0 : decide (x8_2 < x9_5) = true := decide_eq_true c19
                    clear c19
                    simp only [Option.some.injEq, Prod.mk.injEq] at H
                    obtain ⟨rfl, rfl⟩ := H
                    go_wp2
                    go_ret2
                    exact ⟨by first | rfl | (simp; done) | (simp [*]; done), by repeat (first | exact Drawn0.refl _ | apply Drawn0.step)⟩
                  · rw [if_neg c19] at H
                    have c19b0 : decide (x8_2 < x9_5) = false := decide_eq_false c19
                    clear c19
                    by_cases c20 : x8_2 > 1114111
                    · rw [if_pos c20] at H
                      have c20b0 : decide (1114111 < x8_2) = true := decide_eq_true c20
                      clear c20
                      simp only [Option.some.injEq, Prod.mk.injEq] at H
                      obtain ⟨rfl, rfl⟩ := H
                      go_wp2
                      go_ret2
                      exact ⟨by first | rfl | (simp; done) | (simp [*]; done), by repeat (first | exact Drawn0.refl _ | apply Drawn0.step)⟩
                    · rw [if_neg c20] at H
                      have c20b0 : decide (1114111 < x8_2) = false := decide_eq_false c20
                      clear c20
                      by_cases c21 : x8_2 ≥ 55296
                      · rw [if_pos c21] at H
                        have c21b0 : decide (55296 ≤ x8_2) = true := decide_eq_true c21
                        clear c21
                        by_cases c22 : x8_2 ≤ 57343
                        · rw [if_pos c22] at H
                          have c22b0 : decide (x8_2 ≤ 57343) = true := decide_eq_true c22
                          clear c22
                          simp only [Option.some.injEq, Prod.mk.injEq] at H
                          obtain ⟨rfl, rfl⟩ := H
                          go_wp2
                          go_ret2
                          exact ⟨by first | rfl | (simp; done) | (simp [*]; done), by repeat (first | exact Drawn0.refl _ | apply Drawn0.step)⟩
                        · rw [if_neg c22] at H
                          have c22b0 : decide (x8_2 ≤ 57343) = false := decide_eq_false c22
                          clear c22
                          simp only [Option.some.injEq, Prod.mk.injEq] at H
                          obtain ⟨rfl, rfl⟩ := H
                          go_wp2
                          go_ret2
                          exact ⟨by first | rfl | (simp; done) | (simp [*]; done), by repeat (first | exact Drawn0.refl _ | apply Drawn0.step)⟩
                      · rw [if_neg c21] at H
                        have c21b0 : decide (55296 ≤ x8_2) = false := decide_eq_false c21
                        clear c21
                        simp only [Option.some.injEq, Prod.mk.injEq] at H
                        obtain ⟨rfl, rfl⟩ := H
                        go_wp2
                        go_ret2
                        exact ⟨by first | rfl | (simp; done) | (simp [*]; done), by repeat (first | exact Drawn0.refl _ | apply Drawn0.step)⟩
    · rw [if_neg c4] at H
      exact absurd H (by simp)
  · rw [if_neg c3] at H
    exact absurd H (by simp)

end Go.Proofs.YtmgjmjoclglidaaDoor.PScanWheres
