/- Walks of functions, written by a program (wip/tools/own.py) over hand contracts; conditions: as each theorem states. -/
import Derived.Test.YtkmcmgfmahildaaDoorOAx0
namespace Go.Proofs.YtkmcmgfmahildaaDoor.OA
open Go.RowKit Go.Proofs.YtkmcmgfmahildaaDoorW.PrintWords Go.Proofs.YtkmcmgfmahildaaDoorW.PrintLast Go.Proofs.YtkmcmgfmahildaaDoorW.PrintMore
attribute [local go_sem] max2_int min2_int max_two min_two max_three min_three max_four min_four   -- for this text's walks alone
set_option linter.unusedVariables false
set_option linter.unusedSimpArgs false

/-! ### capstanref04_number: function 42 -/
mutual
def capstanref04_number.l0 : Nat → ByteArray → Int → Int → Int → Int → Int → Option (Int × Int × Bool)
  | 0, _, _, _, _, _, _ => none
  | k + 1, x0, x1, x2, x3, x11, x12 => if x12 < (x0.size : Int) then (if 0 ≤ x12 then (if (bt x0 x12) ≥ 48 then (capstanref04_number.j1 k x0 x1 x2 x3 x11 x12 (decide ((bt x0 x12) ≤ 57))) else (capstanref04_number.j1 k x0 x1 x2 x3 x11 x12 false)) else (none)) else (capstanref04_number.j1 k x0 x1 x2 x3 x11 x12 false)
def capstanref04_number.j1 : Nat → ByteArray → Int → Int → Int → Int → Int → Bool → Option (Int × Int × Bool)
  | 0, _, _, _, _, _, _, _ => none
  | k + 1, x0, x1, x2, x3, x11, x12, x29 => if x29 = true then (if x12 < (wrap64 (x1 + 3)) then (if 0 ≤ x12 then (if x12 < (x0.size : Int) then (capstanref04_number.l0 k x0 x1 x2 x3 (wrap64 ((wrap64 (10 * x11)) + (((bt x0 x12) - 48) % 256))) (wrap64 (x12 + 1))) else (none)) else (none)) else (capstanref04_number.l0 k x0 x1 x2 x3 x11 (wrap64 (x12 + 1)))) else (if x12 = x1 then (some (0, x1, false)) else (if x12 > (wrap64 (x1 + 2)) then (some (0, x1, false)) else (if x12 = (wrap64 (x1 + 2)) then (if 0 ≤ x1 then (if x1 < (x0.size : Int) then (if (bt x0 x1) = 48 then (some (0, x1, false)) else (if x11 < x2 then (some (0, x1, false)) else (if x11 > x3 then (some (0, x1, false)) else (some (x11, x12, true))))) else (none)) else (none)) else (if x11 < x2 then (some (0, x1, false)) else (if x11 > x3 then (some (0, x1, false)) else (some (x11, x12, true)))))))
end
def capstanref04_number.f (k : Nat) (a0 : ByteArray) (a1 : Int) (a2 : Int) (a3 : Int) : Option (Int × Int × Bool) := capstanref04_number.l0 k a0 a1 a2 a3 0 a1
theorem capstanref04_number.mono_l : ∀ k, (∀ y0 y1 y2 y3 y4 y5, LeO (capstanref04_number.l0 k y0 y1 y2 y3 y4 y5) (capstanref04_number.l0 (k + 1) y0 y1 y2 y3 y4 y5)) ∧ (∀ y0 y1 y2 y3 y4 y5 y6, LeO (capstanref04_number.j1 k y0 y1 y2 y3 y4 y5 y6) (capstanref04_number.j1 (k + 1) y0 y1 y2 y3 y4 y5 y6))
  | 0 => ⟨fun _ _ _ _ _ _ r h => by simp [capstanref04_number.l0] at h, fun _ _ _ _ _ _ _ r h => by simp [capstanref04_number.j1] at h⟩
  | k + 1 => by
    obtain ⟨ih0, ih1⟩ := capstanref04_number.mono_l k
    refine ⟨?_, ?_⟩
    · intro y0 y1 y2 y3 y4 y5
      unfold capstanref04_number.l0
      repeat' first
      | (with_reducible exact ih0 _ _ _ _ _ _)
      | (with_reducible exact ih1 _ _ _ _ _ _ _)
      | (with_reducible exact LeO.refl _)
      | (with_reducible exact LeO.none _)
      | (with_reducible refine LeO.ite ?_ ?_)
      | (with_reducible refine LeO.bind ?_ (fun _ => ?_))
      | exact ih0 _ _ _ _ _ _
      | exact ih1 _ _ _ _ _ _ _
      | exact LeO.none _
      | refine LeO.ite ?_ ?_
      | refine LeO.bind ?_ (fun _ => ?_)
    · intro y0 y1 y2 y3 y4 y5 y6
      unfold capstanref04_number.j1
      repeat' first
      | (with_reducible exact ih0 _ _ _ _ _ _)
      | (with_reducible exact ih1 _ _ _ _ _ _ _)
      | (with_reducible exact LeO.refl _)
      | (with_reducible exact LeO.none _)
      | (with_reducible refine LeO.ite ?_ ?_)
      | (with_reducible refine LeO.bind ?_ (fun _ => ?_))
      | exact ih0 _ _ _ _ _ _
      | exact ih1 _ _ _ _ _ _ _
      | exact LeO.none _
      | refine LeO.ite ?_ ?_
      | refine LeO.bind ?_ (fun _ => ?_)
theorem capstanref04_number.mono : ∀ a0 a1 a2 a3 k, LeO (capstanref04_number.f k a0 a1 a2 a3) (capstanref04_number.f (k + 1) a0 a1 a2 a3) := by
  intro a0 a1 a2 a3 k
  obtain ⟨ih0, ih1⟩ := capstanref04_number.mono_l k
  unfold capstanref04_number.f
  repeat' first
      | (with_reducible exact ih0 _ _ _ _ _ _)
      | (with_reducible exact ih1 _ _ _ _ _ _ _)
      | (with_reducible exact LeO.refl _)
      | (with_reducible exact LeO.none _)
      | (with_reducible refine LeO.ite ?_ ?_)
      | (with_reducible refine LeO.bind ?_ (fun _ => ?_))
      | exact ih0 _ _ _ _ _ _
      | exact ih1 _ _ _ _ _ _ _
      | exact LeO.none _
      | refine LeO.ite ?_ ?_
      | refine LeO.bind ?_ (fun _ => ?_)
set_option maxHeartbeats 8000000 in
set_option maxRecDepth 100000 in
theorem capstanref04_number.calls (k : Nat) (a0 : ByteArray) (a1 : Int) (a2 : Int) (a3 : Int) (r1 : Int) (r2 : Int) (r3 : Bool) (w : World) (h : capstanref04_number.f k a0 a1 a2 a3 = some (r1, r2, r3)) :
    Calls Tryd.prog 42 #[.string a0, .int .i64 a1, .int .i64 a2, .int .i64 a3] w fun e w' => e = .returned (.tuple #[.int .i64 r1, .int .i64 r2, .bool r3]) ∧ Drawn0 w w' := by
  have H : (capstanref04_number.l0 k a0 a1 a2 a3 0 a1) = some (r1, r2, r3) := h
  clear h
  have H' := Aside0.mk H
  clear H
  go_enter Tryd.func42, Tryd.ntmps42
  go_wp2
  go_loopg [11, 12] k (fun kq v11 v12 w' => ∃ (x11_1 : Int) (x12_1 : Int), v11 = .int .i64 x11_1 ∧ v12 = .int .i64 x12_1 ∧ Aside0 (capstanref04_number.l0 kq a0 a1 a2 a3 x11_1 x12_1 = some (r1, r2, r3)) ∧ Aside0 (kq ≤ k) ∧ Drawn0 w w')
  case atStart => exact ⟨(0), (a1), (by first | rfl | (simp; done) | (simp [*]; done)), (by first | rfl | (simp; done) | (simp [*]; done)), H', ⟨Nat.le_refl _⟩, by repeat (first | exact Drawn0.refl _ | apply Drawn0.step)⟩
  case round =>
    clear H'
    try clear p2
    try clear c4
    obtain ⟨x11_1, x12_1, rfl, rfl, HA, HK1, ⟨m1, rfl⟩⟩ := hrel
    cases gk with
    | zero => exact absurd HA.out (by simp [capstanref04_number.l0])
    | succ k1 =>
      have H := HA.out
      clear HA
      simp only [capstanref04_number.l0] at H
      have HC5 := Aside0.mk H
      clear H
      go_upto_region 3 with (fail)
      go_cut [29] (fun v29 wc => ∃ (kq : Nat) (x29_4 : Bool), v29 = .bool x29_4 ∧ Aside0 (capstanref04_number.j1 kq a0 a1 a2 a3 x11_1 x12_1 x29_4 = some (r1, r2, r3)) ∧ Aside0 (kq ≤ k1) ∧ Drawn0 w wc)
      case first =>
        have H := HC5.out
        clear HC5
        by_cases c6 : x12_1 < (a0.size : Int)
        · rw [if_pos c6] at H
          have c6b0 : decide (x12_1 < (a0.size : Int)) = true := decide_eq_true c6
          clear c6
          (first | rw [c6b0] | (simp only [i64_w, i32_w]; rw [c6b0]) | skip)
          by_cases c7 : 0 ≤ x12_1
          · rw [if_pos c7] at H
            have c7b0 : decide (0 ≤ x12_1) = true := decide_eq_true c7
            clear c7
            by_cases c9 : (bt a0 x12_1) ≥ 48
            · rw [if_pos c9] at H
              have c9b0 : decide (48 ≤ (bt a0 x12_1)) = true := decide_eq_true c9
              clear c9
              have H' := Aside0.mk H
              clear H
              have p8 : 0 ≤ (x12_1 : Int) := of_decide_eq_true (by first | (with_reducible assumption) | assumption)
              have q8 : x12_1 < (a0.size : Int) := of_decide_eq_true (by first | (with_reducible assumption) | assumption)
              have hx8 := bt_at a0 x12_1
              replace p8 := eq_true p8
              replace q8 := eq_true q8
              have p10 : 0 ≤ (x12_1 : Int) := of_decide_eq_true (by first | (with_reducible assumption) | assumption)
              have q10 : x12_1 < (a0.size : Int) := of_decide_eq_true (by first | (with_reducible assumption) | assumption)
              have hx10 := bt_at a0 x12_1
              replace p10 := eq_true p10
              replace q10 := eq_true q10
              go_wp2
              go_meet
              case rel => exact ⟨_, (decide ((bt a0 x12_1) ≤ 57)), (by first | rfl | (simp; done) | (simp [*]; done)), H', ⟨by have := HK1.out; first | omega | exact Nat.le_refl _⟩, by repeat (first | exact Drawn0.refl _ | apply Drawn0.step)⟩
            · rw [if_neg c9] at H
              have c9b0 : decide (48 ≤ (bt a0 x12_1)) = false := decide_eq_false c9
              clear c9
              have H' := Aside0.mk H
              clear H
              have p8 : 0 ≤ (x12_1 : Int) := of_decide_eq_true (by first | (with_reducible assumption) | assumption)
              have q8 : x12_1 < (a0.size : Int) := of_decide_eq_true (by first | (with_reducible assumption) | assumption)
              have hx8 := bt_at a0 x12_1
              replace p8 := eq_true p8
              replace q8 := eq_true q8
              go_wp2
              go_meet
              case rel => exact ⟨_, (false), (by first | rfl | (simp; done) | (simp [*]; done)), H', ⟨by have := HK1.out; first | omega | exact Nat.le_refl _⟩, by repeat (first | exact Drawn0.refl _ | apply Drawn0.step)⟩
          · rw [if_neg c7] at H
            exact absurd H (by simp)
        · rw [if_neg c6] at H
          have c6b0 : decide (x12_1 < (a0.size : Int)) = false := decide_eq_false c6
          clear c6
          (first | rw [c6b0] | (simp only [i64_w, i32_w]; rw [c6b0]) | skip)
          have H' := Aside0.mk H
          clear H
          go_wp2
          go_meet
          case rel => exact ⟨_, (false), (by first | rfl | (simp; done) | (simp [*]; done)), H', ⟨by have := HK1.out; first | omega | exact Nat.le_refl _⟩, by repeat (first | exact Drawn0.refl _ | apply Drawn0.step)⟩
      case rest =>
        clear HC5
        try clear p1
        try clear q1
        try clear hx1
        try clear p2
        try clear c4
        try clear c6
        try clear c6b0
        try clear c7
        try clear c7b0
        try clear p8
        try clear q8
        try clear hx8
        try clear c9
        try clear c9b0
        try clear p10
        try clear q10
        try clear hx10
        try clear p10
        try clear p2
        try clear p8
        try clear q10
        try clear q8
        obtain ⟨kq, x29_4, rfl, HA, HJ4, ⟨mc4, rfl⟩⟩ := hcut
        cases kq with
        | zero => exact absurd HA.out (by simp [capstanref04_number.j1])
        | succ kj4 =>
          have H := HA.out
          clear HA
          simp only [capstanref04_number.j1] at H
          by_cases c11 : x29_4 = true
          · subst c11
            have H1 : (if x12_1 < (wrap64 (a1 + 3)) then (if 0 ≤ x12_1 then (if x12_1 < (a0.size : Int) then (capstanref04_number.l0 kj4 a0 a1 a2 a3 (wrap64 ((wrap64 (10 * x11_1)) + (((bt a0 x12_1) - 48) % 256))) (wrap64 (x12_1 + 1))) else (none)) else (none)) else (capstanref04_number.l0 kj4 a0 a1 a2 a3 x11_1 (wrap64 (x12_1 + 1)))) = some (r1, r2, r3) := by rw [if_pos rfl] at H; exact H
            clear H
            have H := H1
            clear H1
            by_cases c12 : x12_1 < (wrap64 (a1 + 3))
            · rw [if_pos c12] at H
              have c12b0 : decide (x12_1 < (wrap64 (a1 + 3))) = true := decide_eq_true c12
              clear c12
              by_cases c13 : 0 ≤ x12_1
              · rw [if_pos c13] at H
                have c13b0 : decide (0 ≤ x12_1) = true := decide_eq_true c13
                clear c13
                by_cases c14 : x12_1 < (a0.size : Int)
                · rw [if_pos c14] at H
                  have c14b0 : decide (x12_1 < (a0.size : Int)) = true := decide_eq_true c14
                  clear c14
                  have H' := Aside0.mk H
                  clear H
                  have p15 : 0 ≤ (x12_1 : Int) := of_decide_eq_true (by first | (with_reducible assumption) | assumption)
                  have q15 : x12_1 < (a0.size : Int) := of_decide_eq_true (by first | (with_reducible assumption) | assumption)
                  have hx15 := bt_at a0 x12_1
                  replace p15 := eq_true p15
                  replace q15 := eq_true q15
                  go_wp2
                  go_roundg kj4
                  case measure => have := HK1.out; have := HJ4.out; omega
                  case rel => exact ⟨(wrap64 ((wrap64 (10 * x11_1)) + (((bt a0 x12_1) - 48) % 256))), (wrap64 (x12_1 + 1)), (by first | rfl | (simp; done) | (simp [*]; done)), (by first | rfl | (simp; done) | (simp [*]; done)), H', ⟨by have := HK1.out; have := HJ4.out; omega⟩, by repeat (first | exact Drawn0.refl _ | apply Drawn0.step)⟩
                · rw [if_neg c14] at H
                  exact absurd H (by simp)
              · rw [if_neg c13] at H
                exact absurd H (by simp)
            · rw [if_neg c12] at H
              have c12b0 : decide (x12_1 < (wrap64 (a1 + 3))) = false := decide_eq_false c12
              clear c12
              have H' := Aside0.mk H
              clear H
              go_wp2
              go_roundg kj4
              case measure => have := HK1.out; have := HJ4.out; omega
              case rel => exact ⟨(x11_1), (wrap64 (x12_1 + 1)), (by first | rfl | (simp; done) | (simp [*]; done)), (by first | rfl | (simp; done) | (simp [*]; done)), H', ⟨by have := HK1.out; have := HJ4.out; omega⟩, by repeat (first | exact Drawn0.refl _ | apply Drawn0.step)⟩
          · replace c11 := Bool.eq_false_iff.mpr c11
            subst c11
            have H1 : (if x12_1 = a1 then (some (0, a1, false)) else (if x12_1 > (wrap64 (a1 + 2)) then (some (0, a1, false)) else (if x12_1 = (wrap64 (a1 + 2)) then (if 0 ≤ a1 then (if a1 < (a0.size : Int) then (if (bt a0 a1) = 48 then (some (0, a1, false)) else (if x11_1 < a2 then (some (0, a1, false)) else (if x11_1 > a3 then (some (0, a1, false)) else (some (x11_1, x12_1, true))))) else (none)) else (none)) else (if x11_1 < a2 then (some (0, a1, false)) else (if x11_1 > a3 then (some (0, a1, false)) else (some (x11_1, x12_1, true))))))) = some (r1, r2, r3) := by rw [if_neg (show ¬ (false = true) by decide)] at H; exact H
            clear H
            have H := H1
            clear H1
            by_cases c16 : x12_1 = a1
            · rw [if_pos c16] at H
              have c16b0 : (x12_1 == a1) = true := beq_iff_eq.mpr c16
              have c16b1 : (x12_1 != a1) = false := bne_eq_false_iff_eq.mpr c16
              clear c16
              simp only [Option.some.injEq, Prod.mk.injEq] at H
              obtain ⟨rfl, rfl, rfl⟩ := H
              go_wp2
              go_ret3
              exact ⟨by first | rfl | (simp; done) | (simp [*]; done), by repeat (first | exact Drawn0.refl _ | apply Drawn0.step)⟩
            · rw [if_neg c16] at H
              have c16b0 : (x12_1 == a1) = false := beq_eq_false_iff_ne.mpr c16
              have c16b1 : (x12_1 != a1) = true := bne_iff_ne.mpr c16
              by_cases c17 : x12_1 > (wrap64 (a1 + 2))
              · rw [if_pos c17] at H
                have c17b0 : decide ((wrap64 (a1 + 2)) < x12_1) = true := decide_eq_true c17
                clear c17
                simp only [Option.some.injEq, Prod.mk.injEq] at H
                obtain ⟨rfl, rfl, rfl⟩ := H
                go_wp2
                go_ret3
                exact ⟨by first | rfl | (simp; done) | (simp [*]; done), by repeat (first | exact Drawn0.refl _ | apply Drawn0.step)⟩
              · rw [if_neg c17] at H
                have c17b0 : decide ((wrap64 (a1 + 2)) < x12_1) = false := decide_eq_false c17
                clear c17
                by_cases c18 : x12_1 = (wrap64 (a1 + 2))
                · rw [if_pos c18] at H
                  have c18b0 : (x12_1 == (wrap64 (a1 + 2))) = true := beq_iff_eq.mpr c18
                  have c18b1 : (x12_1 != (wrap64 (a1 + 2))) = false := bne_eq_false_iff_eq.mpr c18
                  clear c18
                  by_cases c19 : 0 ≤ a1
                  · rw [if_pos c19] at H
                    have c19b0 : decide (0 ≤ a1) = true := decide_eq_true c19
                    clear c19
                    by_cases c20 : a1 < (a0.size : Int)
                    · rw [if_pos c20] at H
                      have c20b0 : decide (a1 < (a0.size : Int)) = true := decide_eq_true c20
                      clear c20
                      by_cases c22 : (bt a0 a1) = 48
                      · rw [if_pos c22] at H
                        have c22b0 : ((bt a0 a1) == 48) = true := beq_iff_eq.mpr c22
                        have c22b1 : ((bt a0 a1) != 48) = false := bne_eq_false_iff_eq.mpr c22
                        clear c22
                        simp only [Option.some.injEq, Prod.mk.injEq] at H
                        obtain ⟨rfl, rfl, rfl⟩ := H
                        have p21 : 0 ≤ (a1 : Int) := of_decide_eq_true (by first | (with_reducible assumption) | assumption)
                        have q21 : a1 < (a0.size : Int) := of_decide_eq_true (by first | (with_reducible assumption) | assumption)
                        have hx21 := bt_at a0 a1
                        replace p21 := eq_true p21
                        replace q21 := eq_true q21
                        go_wp2
                        go_ret3
                        exact ⟨by first | rfl | (simp; done) | (simp [*]; done), by repeat (first | exact Drawn0.refl _ | apply Drawn0.step)⟩
                      · rw [if_neg c22] at H
                        have c22b0 : ((bt a0 a1) == 48) = false := beq_eq_false_iff_ne.mpr c22
                        have c22b1 : ((bt a0 a1) != 48) = true := bne_iff_ne.mpr c22
                        by_cases c23 : x11_1 < a2
                        · rw [if_pos c23] at H
                          have c23b0 : decide (x11_1 < a2) = true := decide_eq_true c23
                          clear c23
                          simp only [Option.some.injEq, Prod.mk.injEq] at H
                          obtain ⟨rfl, rfl, rfl⟩ := H
                          have p21 : 0 ≤ (a1 : Int) := of_decide_eq_true (by first | (with_reducible assumption) | assumption)
                          have q21 : a1 < (a0.size : Int) := of_decide_eq_true (by first | (with_reducible assumption) | assumption)
                          have hx21 := bt_at a0 a1
                          replace p21 := eq_true p21
                          replace q21 := eq_true q21
                          go_wp2
                          go_ret3
                          exact ⟨by first | rfl | (simp; done) | (simp [*]; done), by repeat (first | exact Drawn0.refl _ | apply Drawn0.step)⟩
                        · rw [if_neg c23] at H
                          have c23b0 : decide (x11_1 < a2) = false := decide_eq_false c23
                          clear c23
                          by_cases c24 : x11_1 > a3
                          · rw [if_pos c24] at H
                            have c24b0 : decide (a3 < x11_1) = true := decide_eq_true c24
                            clear c24
                            simp only [Option.some.injEq, Prod.mk.injEq] at H
                            obtain ⟨rfl, rfl, rfl⟩ := H
                            have p21 : 0 ≤ (a1 : Int) := of_decide_eq_true (by first | (with_reducible assumption) | assumption)
                            have q21 : a1 < (a0.size : Int) := of_decide_eq_true (by first | (with_reducible assumption) | assumption)
                            have hx21 := bt_at a0 a1
                            replace p21 := eq_true p21
                            replace q21 := eq_true q21
                            go_wp2
                            go_ret3
                            exact ⟨by first | rfl | (simp; done) | (simp [*]; done), by repeat (first | exact Drawn0.refl _ | apply Drawn0.step)⟩
                          · rw [if_neg c24] at H
                            have c24b0 : decide (a3 < x11_1) = false := decide_eq_false c24
                            clear c24
                            simp only [Option.some.injEq, Prod.mk.injEq] at H
                            obtain ⟨rfl, rfl, rfl⟩ := H
                            have p21 : 0 ≤ (a1 : Int) := of_decide_eq_true (by first | (with_reducible assumption) | assumption)
                            have q21 : a1 < (a0.size : Int) := of_decide_eq_true (by first | (with_reducible assumption) | assumption)
                            have hx21 := bt_at a0 a1
                            replace p21 := eq_true p21
                            replace q21 := eq_true q21
                            go_wp2
                            go_ret3
                            exact ⟨by first | rfl | (simp; done) | (simp [*]; done), by repeat (first | exact Drawn0.refl _ | apply Drawn0.step)⟩
                    · rw [if_neg c20] at H
                      exact absurd H (by simp)
                  · rw [if_neg c19] at H
                    exact absurd H (by simp)
                · rw [if_neg c18] at H
                  have c18b0 : (x12_1 == (wrap64 (a1 + 2))) = false := beq_eq_false_iff_ne.mpr c18
                  have c18b1 : (x12_1 != (wrap64 (a1 + 2))) = true := bne_iff_ne.mpr c18
                  by_cases c25 : x11_1 < a2
                  · rw [if_pos c25] at H
                    have c25b0 : decide (x11_1 < a2) = true := decide_eq_true c25
                    clear c25
                    simp only [Option.some.injEq, Prod.mk.injEq] at H
                    obtain ⟨rfl, rfl, rfl⟩ := H
                    go_wp2
                    go_ret3
                    exact ⟨by first | rfl | (simp; done) | (simp [*]; done), by repeat (first | exact Drawn0.refl _ | apply Drawn0.step)⟩
                  · rw [if_neg c25] at H
                    have c25b0 : decide (x11_1 < a2) = false := decide_eq_false c25
                    clear c25
                    by_cases c26 : x11_1 > a3
                    · rw [if_pos c26] at H
                      have c26b0 : decide (a3 < x11_1) = true := decide_eq_true c26
                      clear c26
                      simp only [Option.some.injEq, Prod.mk.injEq] at H
                      obtain ⟨rfl, rfl, rfl⟩ := H
                      go_wp2
                      go_ret3
                      exact ⟨by first | rfl | (simp; done) | (simp [*]; done), by repeat (first | exact Drawn0.refl _ | apply Drawn0.step)⟩
                    · rw [if_neg c26] at H
                      have c26b0 : decide (a3 < x11_1) = false := decide_eq_false c26
                      clear c26
                      simp only [Option.some.injEq, Prod.mk.injEq] at H
                      obtain ⟨rfl, rfl, rfl⟩ := H
                      go_wp2
                      go_ret3
                      exact ⟨by first | rfl | (simp; done) | (simp [*]; done), by repeat (first | exact Drawn0.refl _ | apply Drawn0.step)⟩



/-! ### capstanref04_item: function 23 -/
mutual
def capstanref04_item.j0 : Nat → ByteArray → Int → List Bool → Int → Int → Int → Bool → Bool → Option (Int × Bool × List Bool)
  | 0, _, _, _, _, _, _, _, _ => none
  | k + 1, x0, x1, x3, x10, x11, x12, x14, x29 => if x29 = true then (capstanref04_item.j2 k x0 (wrap64 (x1 + 1)) x3 x10 x11 x12 x14) else ((capstanref04_number.f k x0 x1 x10 x11).bind fun bt143 => (if bt143.2.2 = true then (if bt143.2.1 < (x0.size : Int) then (if 0 ≤ bt143.2.1 then (capstanref04_item.j1 k x0 bt143.2.1 x3 bt143.1 x11 x12 ((bt x0 bt143.2.1) == 45)) else (none)) else (capstanref04_item.j1 k x0 bt143.2.1 x3 bt143.1 x11 x12 false)) else (some (bt143.2.1, false, x3))))
def capstanref04_item.j2 : Nat → ByteArray → Int → List Bool → Int → Int → Int → Bool → Option (Int × Bool × List Bool)
  | 0, _, _, _, _, _, _, _ => none
  | k + 1, x0, x1, x3, x10, x11, x12, x14 => if x14 = true then (if x1 < (x0.size : Int) then (if 0 ≤ x1 then (capstanref04_item.j3 k x0 x1 x3 x10 x11 x12 ((bt x0 x1) == 47)) else (none)) else (capstanref04_item.j3 k x0 x1 x3 x10 x11 x12 false)) else (capstanref04_item.j3 k x0 x1 x3 x10 x11 x12 false)
def capstanref04_item.j3 : Nat → ByteArray → Int → List Bool → Int → Int → Int → Bool → Option (Int × Bool × List Bool)
  | 0, _, _, _, _, _, _, _ => none
  | k + 1, x0, x1, x3, x10, x11, x12, x81 => if x81 = true then ((capstanref04_number.f k x0 (wrap64 (x1 + 1)) 1 99).bind fun bt149 => (if bt149.2.2 = true then (capstanref04_item.j4 k bt149.2.1 x3 x10 x11 bt149.1) else (some (bt149.2.1, false, x3)))) else (capstanref04_item.j4 k x1 x3 x10 x11 x12)
def capstanref04_item.j4 : Nat → Int → List Bool → Int → Int → Int → Option (Int × Bool × List Bool)
  | 0, _, _, _, _, _ => none
  | k + 1, x1, x3, x10, x11, x12 => capstanref04_item.l0 k x1 x3 x11 x12 x10
def capstanref04_item.l0 : Nat → Int → List Bool → Int → Int → Int → Option (Int × Bool × List Bool)
  | 0, _, _, _, _, _ => none
  | k + 1, x1, x3, x11, x12, x15 => if x15 ≤ x11 then (if 0 ≤ x15 then (if x15 < (x3.length : Int) then (capstanref04_item.l0 k x1 (x3.set (x15 : Int).toNat true) x11 x12 (wrap64 (x15 + x12))) else (none)) else (none)) else (some (x1, true, x3))
def capstanref04_item.j1 : Nat → ByteArray → Int → List Bool → Int → Int → Int → Bool → Option (Int × Bool × List Bool)
  | 0, _, _, _, _, _, _, _ => none
  | k + 1, x0, x1, x3, x10, x11, x12, x14 => if x14 = true then ((capstanref04_number.f k x0 (wrap64 (x1 + 1)) x10 x11).bind fun bt146 => (if bt146.2.2 = true then (capstanref04_item.j2 k x0 bt146.2.1 x3 x10 bt146.1 x12 x14) else (some (bt146.2.1, false, x3)))) else (capstanref04_item.j2 k x0 x1 x3 x10 x10 x12 x14)
end
def capstanref04_item.f (k : Nat) (a0 : ByteArray) (a1 : Int) (a2 : Int) (l3 : List Bool) : Option (Int × Bool × List Bool) := (Ca.low.f a2).bind fun t141 => ((Ca.high.f a2).bind fun t142 => (if a1 < (a0.size : Int) then (if 0 ≤ a1 then (capstanref04_item.j0 k a0 a1 l3 t141 t142 1 true ((bt a0 a1) == 42)) else (none)) else (capstanref04_item.j0 k a0 a1 l3 t141 t142 1 true false)))
theorem capstanref04_item.mono_l : ∀ k, (∀ y0 y1 y2 y3 y4 y5 y6 y7, LeO (capstanref04_item.j0 k y0 y1 y2 y3 y4 y5 y6 y7) (capstanref04_item.j0 (k + 1) y0 y1 y2 y3 y4 y5 y6 y7)) ∧ (∀ y0 y1 y2 y3 y4 y5 y6, LeO (capstanref04_item.j2 k y0 y1 y2 y3 y4 y5 y6) (capstanref04_item.j2 (k + 1) y0 y1 y2 y3 y4 y5 y6)) ∧ (∀ y0 y1 y2 y3 y4 y5 y6, LeO (capstanref04_item.j3 k y0 y1 y2 y3 y4 y5 y6) (capstanref04_item.j3 (k + 1) y0 y1 y2 y3 y4 y5 y6)) ∧ (∀ y0 y1 y2 y3 y4, LeO (capstanref04_item.j4 k y0 y1 y2 y3 y4) (capstanref04_item.j4 (k + 1) y0 y1 y2 y3 y4)) ∧ (∀ y0 y1 y2 y3 y4, LeO (capstanref04_item.l0 k y0 y1 y2 y3 y4) (capstanref04_item.l0 (k + 1) y0 y1 y2 y3 y4)) ∧ (∀ y0 y1 y2 y3 y4 y5 y6, LeO (capstanref04_item.j1 k y0 y1 y2 y3 y4 y5 y6) (capstanref04_item.j1 (k + 1) y0 y1 y2 y3 y4 y5 y6))
  | 0 => ⟨fun _ _ _ _ _ _ _ _ r h => by simp [capstanref04_item.j0] at h, fun _ _ _ _ _ _ _ r h => by simp [capstanref04_item.j2] at h, fun _ _ _ _ _ _ _ r h => by simp [capstanref04_item.j3] at h, fun _ _ _ _ _ r h => by simp [capstanref04_item.j4] at h, fun _ _ _ _ _ r h => by simp [capstanref04_item.l0] at h, fun _ _ _ _ _ _ _ r h => by simp [capstanref04_item.j1] at h⟩
  | k + 1 => by
    obtain ⟨ih0, ih1, ih2, ih3, ih4, ih5⟩ := capstanref04_item.mono_l k
    refine ⟨?_, ?_, ?_, ?_, ?_, ?_⟩
    · intro y0 y1 y2 y3 y4 y5 y6 y7
      unfold capstanref04_item.j0
      repeat' first
      | (with_reducible exact ih0 _ _ _ _ _ _ _ _)
      | (with_reducible exact ih1 _ _ _ _ _ _ _)
      | (with_reducible exact ih2 _ _ _ _ _ _ _)
      | (with_reducible exact ih3 _ _ _ _ _)
      | (with_reducible exact ih4 _ _ _ _ _)
      | (with_reducible exact ih5 _ _ _ _ _ _ _)
      | (with_reducible exact capstanref04_number.mono _ _ _ _ _)
      | (with_reducible exact LeO.refl _)
      | (with_reducible exact LeO.none _)
      | (with_reducible refine LeO.ite ?_ ?_)
      | (with_reducible refine LeO.bind ?_ (fun _ => ?_))
      | exact ih0 _ _ _ _ _ _ _ _
      | exact ih1 _ _ _ _ _ _ _
      | exact ih2 _ _ _ _ _ _ _
      | exact ih3 _ _ _ _ _
      | exact ih4 _ _ _ _ _
      | exact ih5 _ _ _ _ _ _ _
      | exact capstanref04_number.mono _ _ _ _ _
      | exact LeO.none _
      | refine LeO.ite ?_ ?_
      | refine LeO.bind ?_ (fun _ => ?_)
    · intro y0 y1 y2 y3 y4 y5 y6
      unfold capstanref04_item.j2
      repeat' first
      | (with_reducible exact ih0 _ _ _ _ _ _ _ _)
      | (with_reducible exact ih1 _ _ _ _ _ _ _)
      | (with_reducible exact ih2 _ _ _ _ _ _ _)
      | (with_reducible exact ih3 _ _ _ _ _)
      | (with_reducible exact ih4 _ _ _ _ _)
      | (with_reducible exact ih5 _ _ _ _ _ _ _)
      | (with_reducible exact capstanref04_number.mono _ _ _ _ _)
      | (with_reducible exact LeO.refl _)
      | (with_reducible exact LeO.none _)
      | (with_reducible refine LeO.ite ?_ ?_)
      | (with_reducible refine LeO.bind ?_ (fun _ => ?_))
      | exact ih0 _ _ _ _ _ _ _ _
      | exact ih1 _ _ _ _ _ _ _
      | exact ih2 _ _ _ _ _ _ _
      | exact ih3 _ _ _ _ _
      | exact ih4 _ _ _ _ _
      | exact ih5 _ _ _ _ _ _ _
      | exact capstanref04_number.mono _ _ _ _ _
      | exact LeO.none _
      | refine LeO.ite ?_ ?_
      | refine LeO.bind ?_ (fun _ => ?_)
    · intro y0 y1 y2 y3 y4 y5 y6
      unfold capstanref04_item.j3
      repeat' first
      | (with_reducible exact ih0 _ _ _ _ _ _ _ _)
      | (with_reducible exact ih1 _ _ _ _ _ _ _)
      | (with_reducible exact ih2 _ _ _ _ _ _ _)
      | (with_reducible exact ih3 _ _ _ _ _)
      | (with_reducible exact ih4 _ _ _ _ _)
      | (with_reducible exact ih5 _ _ _ _ _ _ _)
      | (with_reducible exact capstanref04_number.mono _ _ _ _ _)
      | (with_reducible exact LeO.refl _)
      | (with_reducible exact LeO.none _)
      | (with_reducible refine LeO.ite ?_ ?_)
      | (with_reducible refine LeO.bind ?_ (fun _ => ?_))
      | exact ih0 _ _ _ _ _ _ _ _
      | exact ih1 _ _ _ _ _ _ _
      | exact ih2 _ _ _ _ _ _ _
      | exact ih3 _ _ _ _ _
      | exact ih4 _ _ _ _ _
      | exact ih5 _ _ _ _ _ _ _
      | exact capstanref04_number.mono _ _ _ _ _
      | exact LeO.none _
      | refine LeO.ite ?_ ?_
      | refine LeO.bind ?_ (fun _ => ?_)
    · intro y0 y1 y2 y3 y4
      unfold capstanref04_item.j4
      repeat' first
      | (with_reducible exact ih0 _ _ _ _ _ _ _ _)
      | (with_reducible exact ih1 _ _ _ _ _ _ _)
      | (with_reducible exact ih2 _ _ _ _ _ _ _)
      | (with_reducible exact ih3 _ _ _ _ _)
      | (with_reducible exact ih4 _ _ _ _ _)
      | (with_reducible exact ih5 _ _ _ _ _ _ _)
      | (with_reducible exact capstanref04_number.mono _ _ _ _ _)
      | (with_reducible exact LeO.refl _)
      | (with_reducible exact LeO.none _)
      | (with_reducible refine LeO.ite ?_ ?_)
      | (with_reducible refine LeO.bind ?_ (fun _ => ?_))
      | exact ih0 _ _ _ _ _ _ _ _
      | exact ih1 _ _ _ _ _ _ _
      | exact ih2 _ _ _ _ _ _ _
      | exact ih3 _ _ _ _ _
      | exact ih4 _ _ _ _ _
      | exact ih5 _ _ _ _ _ _ _
      | exact capstanref04_number.mono _ _ _ _ _
      | exact LeO.none _
      | refine LeO.ite ?_ ?_
      | refine LeO.bind ?_ (fun _ => ?_)
    · intro y0 y1 y2 y3 y4
      unfold capstanref04_item.l0
      repeat' first
      | (with_reducible exact ih0 _ _ _ _ _ _ _ _)
      | (with_reducible exact ih1 _ _ _ _ _ _ _)
      | (with_reducible exact ih2 _ _ _ _ _ _ _)
      | (with_reducible exact ih3 _ _ _ _ _)
      | (with_reducible exact ih4 _ _ _ _ _)
      | (with_reducible exact ih5 _ _ _ _ _ _ _)
      | (with_reducible exact capstanref04_number.mono _ _ _ _ _)
      | (with_reducible exact LeO.refl _)
      | (with_reducible exact LeO.none _)
      | (with_reducible refine LeO.ite ?_ ?_)
      | (with_reducible refine LeO.bind ?_ (fun _ => ?_))
      | exact ih0 _ _ _ _ _ _ _ _
      | exact ih1 _ _ _ _ _ _ _
      | exact ih2 _ _ _ _ _ _ _
      | exact ih3 _ _ _ _ _
      | exact ih4 _ _ _ _ _
      | exact ih5 _ _ _ _ _ _ _
      | exact capstanref04_number.mono _ _ _ _ _
      | exact LeO.none _
      | refine LeO.ite ?_ ?_
      | refine LeO.bind ?_ (fun _ => ?_)
    · intro y0 y1 y2 y3 y4 y5 y6
      unfold capstanref04_item.j1
      repeat' first
      | (with_reducible exact ih0 _ _ _ _ _ _ _ _)
      | (with_reducible exact ih1 _ _ _ _ _ _ _)
      | (with_reducible exact ih2 _ _ _ _ _ _ _)
      | (with_reducible exact ih3 _ _ _ _ _)
      | (with_reducible exact ih4 _ _ _ _ _)
      | (with_reducible exact ih5 _ _ _ _ _ _ _)
      | (with_reducible exact capstanref04_number.mono _ _ _ _ _)
      | (with_reducible exact LeO.refl _)
      | (with_reducible exact LeO.none _)
      | (with_reducible refine LeO.ite ?_ ?_)
      | (with_reducible refine LeO.bind ?_ (fun _ => ?_))
      | exact ih0 _ _ _ _ _ _ _ _
      | exact ih1 _ _ _ _ _ _ _
      | exact ih2 _ _ _ _ _ _ _
      | exact ih3 _ _ _ _ _
      | exact ih4 _ _ _ _ _
      | exact ih5 _ _ _ _ _ _ _
      | exact capstanref04_number.mono _ _ _ _ _
      | exact LeO.none _
      | refine LeO.ite ?_ ?_
      | refine LeO.bind ?_ (fun _ => ?_)
theorem capstanref04_item.mono : ∀ a0 a1 a2 a3 k, LeO (capstanref04_item.f k a0 a1 a2 a3) (capstanref04_item.f (k + 1) a0 a1 a2 a3) := by
  intro a0 a1 a2 a3 k
  obtain ⟨ih0, ih1, ih2, ih3, ih4, ih5⟩ := capstanref04_item.mono_l k
  unfold capstanref04_item.f
  repeat' first
      | (with_reducible exact ih0 _ _ _ _ _ _ _ _)
      | (with_reducible exact ih1 _ _ _ _ _ _ _)
      | (with_reducible exact ih2 _ _ _ _ _ _ _)
      | (with_reducible exact ih3 _ _ _ _ _)
      | (with_reducible exact ih4 _ _ _ _ _)
      | (with_reducible exact ih5 _ _ _ _ _ _ _)
      | (with_reducible exact capstanref04_number.mono _ _ _ _ _)
      | (with_reducible exact LeO.refl _)
      | (with_reducible exact LeO.none _)
      | (with_reducible refine LeO.ite ?_ ?_)
      | (with_reducible refine LeO.bind ?_ (fun _ => ?_))
      | exact ih0 _ _ _ _ _ _ _ _
      | exact ih1 _ _ _ _ _ _ _
      | exact ih2 _ _ _ _ _ _ _
      | exact ih3 _ _ _ _ _
      | exact ih4 _ _ _ _ _
      | exact ih5 _ _ _ _ _ _ _
      | exact capstanref04_number.mono _ _ _ _ _
      | exact LeO.none _
      | refine LeO.ite ?_ ?_
      | refine LeO.bind ?_ (fun _ => ?_)
set_option maxHeartbeats 8000000 in
set_option maxRecDepth 100000 in
theorem capstanref04_item.calls (k : Nat) (a0 : ByteArray) (a1 : Int) (a2 : Int) (P3_ : Nat → Prop) (u9000_ : Value) (l3 : List Bool) (r1 : Int) (r2 : Bool) (r3 : List Bool) (w0 w : World) (hB : Below w0.heap.size w0 w) (ho3 : Kd.R Kd.bool 4 w w0.heap.size P3_ u9000_ l3) (h : capstanref04_item.f k a0 a1 a2 l3 = some (r1, r2, r3)) :
    Calls Tryd.prog 23 #[.string a0, .int .i64 a1, .int .i64 a2, u9000_] w fun e w' => e = .returned (.tuple #[.int .i64 r1, .bool r2]) ∧ Kd.R Kd.bool 4 w' w0.heap.size (fun k_ => (P3_ k_ ∨ w.heap.size ≤ k_)) u9000_ r3 ∧ Below w0.heap.size w0 w' ∧ Kept w w' (fun k_ => P3_ k_) := by
  have HO3 := Aside0.mk (show Kd.R Kd.bool 4 w w0.heap.size (fun k_ => (P3_ k_ ∨ w.heap.size ≤ k_)) u9000_ l3 from Kd.R_mono ho3 (fun k_ hk => (.inl hk)))
  have HK := Aside0.mk (Kept.refl w (fun k_ => P3_ k_))
  have HW0 := Aside0.mk hB.size
  have HB := Aside0.mk hB
  clear hB
  have H : ((Ca.low.f a2).bind fun t141 => ((Ca.high.f a2).bind fun t142 => (if a1 < (a0.size : Int) then (if 0 ≤ a1 then (capstanref04_item.j0 k a0 a1 l3 t141 t142 1 true ((bt a0 a1) == 42)) else (none)) else (capstanref04_item.j0 k a0 a1 l3 t141 t142 1 true false)))) = some (r1, r2, r3) := h
  clear h
  replace H := Option.bind_eq_some_iff.mp H
  obtain ⟨t141, A50, H⟩ := H
  replace H : ((Ca.high.f a2).bind fun t142 => (if a1 < (a0.size : Int) then (if 0 ≤ a1 then (capstanref04_item.j0 k a0 a1 l3 t141 t142 1 true ((bt a0 a1) == 42)) else (none)) else (capstanref04_item.j0 k a0 a1 l3 t141 t142 1 true false))) = some (r1, r2, r3) := H
  have A5 := Aside0.mk A50
  clear A50
  replace H := Option.bind_eq_some_iff.mp H
  obtain ⟨t142, A60, H⟩ := H
  replace H : (if a1 < (a0.size : Int) then (if 0 ≤ a1 then (capstanref04_item.j0 k a0 a1 l3 t141 t142 1 true ((bt a0 a1) == 42)) else (none)) else (capstanref04_item.j0 k a0 a1 l3 t141 t142 1 true false)) = some (r1, r2, r3) := H
  have A6 := Aside0.mk A60
  clear A60
  have HC7 := Aside0.mk H
  clear H
  go_enter Tryd.func23, Tryd.ntmps23
  go_upto_region 6 with (first | ((with_reducible refine gate_callee (f := 31) rfl ?_); refine goesL_ (some 17) rfl rfl Tryd.func31 (by kernel_rfl) rfl #[.int .i64 a2] rfl (by (try simp only [List.map_toArray, List.map_cons, List.map_nil]); first | done | rfl | (simp only [List.length_drop, List.length_take]; rfl)) ?_; (with_reducible refine (Ca.low.calls a2 t141 _ A5.out).mono ?_); rintro e w' ⟨rfl, ⟨nd, rfl⟩⟩; refine ⟨_, rfl, ?_⟩) | ((with_reducible refine gate_callee (f := 32) rfl ?_); refine goesL_ (some 19) rfl rfl Tryd.func32 (by kernel_rfl) rfl #[.int .i64 a2] rfl (by (try simp only [List.map_toArray, List.map_cons, List.map_nil]); first | done | rfl | (simp only [List.length_drop, List.length_take]; rfl)) ?_; (with_reducible refine (Ca.high.calls a2 t142 _ A6.out).mono ?_); rintro e w' ⟨rfl, ⟨nd, rfl⟩⟩; refine ⟨_, rfl, ?_⟩))
  (try simp only [Act.put, List.setIfInBounds_toArray, List.set_cons_zero, List.set_cons_succ])
  go_cut [29] (fun v29 wc => ∃ (kq : Nat) (x29_6 : Bool), v29 = .bool x29_6 ∧ Aside0 (capstanref04_item.j0 kq a0 a1 l3 t141 t142 1 true x29_6 = some (r1, r2, r3)) ∧ Aside0 (kq ≤ k) ∧ Aside0 (Kd.R Kd.bool 4 wc w0.heap.size (fun k_ => (P3_ k_ ∨ w.heap.size ≤ k_)) u9000_ l3) ∧ Aside0 (Kept w wc (fun k_ => P3_ k_)) ∧ Aside0 (Below w0.heap.size w0 wc))
  case first =>
    have H := HC7.out
    clear HC7
    by_cases c8 : a1 < (a0.size : Int)
    · rw [if_pos c8] at H
      have c8b0 : decide (a1 < (a0.size : Int)) = true := decide_eq_true c8
      clear c8
      (first | rw [c8b0] | (simp only [i64_w, i32_w]; rw [c8b0]) | skip)
      by_cases c9 : 0 ≤ a1
      · rw [if_pos c9] at H
        have c9b0 : decide (0 ≤ a1) = true := decide_eq_true c9
        clear c9
        have H' := Aside0.mk H
        clear H
        have p10 : 0 ≤ (a1 : Int) := of_decide_eq_true (by first | (with_reducible assumption) | assumption)
        have q10 : a1 < (a0.size : Int) := of_decide_eq_true (by first | (with_reducible assumption) | assumption)
        have hx10 := bt_at a0 a1
        replace p10 := eq_true p10
        replace q10 := eq_true q10
        go_wp2
        go_meet
        case rel => exact ⟨_, (((bt a0 a1) == 42)), (by first | rfl | (simp; done) | (simp [*]; done)), H', ⟨by first | omega | exact Nat.le_refl _⟩, ⟨by (with_reducible repeat (first | apply Kd.R_alloc | apply Kd.R_drewN | apply Kd.R_drew)); exact HO3.out⟩, ⟨by repeat (first | (with_reducible first | exact HK.out | apply Kept.alloc | apply Kept.drewN | apply Kept.drew) | exact HK.out)⟩, ⟨by repeat (first | (with_reducible first | exact HB.out | apply below_alloc | apply pw_below_drewN | apply below_drew1) | exact HB.out)⟩⟩
      · rw [if_neg c9] at H
        exact absurd H (by simp)
    · rw [if_neg c8] at H
      have c8b0 : decide (a1 < (a0.size : Int)) = false := decide_eq_false c8
      clear c8
      (first | rw [c8b0] | (simp only [i64_w, i32_w]; rw [c8b0]) | skip)
      have H' := Aside0.mk H
      clear H
      go_wp2
      go_meet
      case rel => exact ⟨_, (false), (by first | rfl | (simp; done) | (simp [*]; done)), H', ⟨by first | omega | exact Nat.le_refl _⟩, ⟨by (with_reducible repeat (first | apply Kd.R_alloc | apply Kd.R_drewN | apply Kd.R_drew)); exact HO3.out⟩, ⟨by repeat (first | (with_reducible first | exact HK.out | apply Kept.alloc | apply Kept.drewN | apply Kept.drew) | exact HK.out)⟩, ⟨by repeat (first | (with_reducible first | exact HB.out | apply below_alloc | apply pw_below_drewN | apply below_drew1) | exact HB.out)⟩⟩
  case rest =>
    clear HC7
    try clear p1
    try clear q1
    try clear hx1
    try clear c2
    try clear p2
    try clear c3
    try clear c8
    try clear c8b0
    try clear c9
    try clear c9b0
    try clear p10
    try clear q10
    try clear hx10
    try clear p10
    try clear q10
    obtain ⟨kq, x29_6, rfl, HA, HJ6, HO_3, HK, HB⟩ := hcut
    cases kq with
    | zero => exact absurd HA.out (by simp [capstanref04_item.j0])
    | succ kj6 =>
      have H := HA.out
      clear HA
      simp only [capstanref04_item.j0] at H
      have HC11 := Aside0.mk H
      clear H
      go_upto_if 29 with (fail)
      go_cut [1, 10, 11, 14] (fun v1 v10 v11 v14 wc => ∃ (kq : Nat) (x1_10 : Int) (x10_10 : Int) (x11_10 : Int) (x14_10 : Bool), v1 = .int .i64 x1_10 ∧ v10 = .int .i64 x10_10 ∧ v11 = .int .i64 x11_10 ∧ v14 = .bool x14_10 ∧ Aside0 (capstanref04_item.j2 kq a0 x1_10 l3 x10_10 x11_10 1 x14_10 = some (r1, r2, r3)) ∧ Aside0 (kq ≤ kj6) ∧ Aside0 (Kd.R Kd.bool 4 wc w0.heap.size (fun k_ => (P3_ k_ ∨ w.heap.size ≤ k_)) u9000_ l3) ∧ Aside0 (Kept w wc (fun k_ => P3_ k_)) ∧ Aside0 (Below w0.heap.size w0 wc))
      case first =>
        have H := HC11.out
        clear HC11
        by_cases c12 : x29_6 = true
        · subst c12
          have H1 : (capstanref04_item.j2 kj6 a0 (wrap64 (a1 + 1)) l3 t141 t142 1 true) = some (r1, r2, r3) := by rw [if_pos rfl] at H; exact H
          clear H
          have H := H1
          clear H1
          have H' := Aside0.mk H
          clear H
          go_wp2
          go_meet
          case rel => exact ⟨_, (wrap64 (a1 + 1)), (t141), (t142), (true), (by first | rfl | (simp; done) | (simp [*]; done)), (by first | rfl | (simp; done) | (simp [*]; done)), (by first | rfl | (simp; done) | (simp [*]; done)), (by first | rfl | (simp; done) | (simp [*]; done)), H', ⟨by have := HJ6.out; first | omega | exact Nat.le_refl _⟩, ⟨by (with_reducible repeat (first | apply Kd.R_alloc | apply Kd.R_drewN | apply Kd.R_drew)); exact HO_3.out⟩, ⟨by repeat (first | (with_reducible first | exact HK.out | apply Kept.alloc | apply Kept.drewN | apply Kept.drew) | exact HK.out)⟩, ⟨by repeat (first | (with_reducible first | exact HB.out | apply below_alloc | apply pw_below_drewN | apply below_drew1) | exact HB.out)⟩⟩
        · replace c12 := Bool.eq_false_iff.mpr c12
          subst c12
          have H1 : ((capstanref04_number.f kj6 a0 a1 t141 t142).bind fun bt143 => (if bt143.2.2 = true then (if bt143.2.1 < (a0.size : Int) then (if 0 ≤ bt143.2.1 then (capstanref04_item.j1 kj6 a0 bt143.2.1 l3 bt143.1 t142 1 ((bt a0 bt143.2.1) == 45)) else (none)) else (capstanref04_item.j1 kj6 a0 bt143.2.1 l3 bt143.1 t142 1 false)) else (some (bt143.2.1, false, l3)))) = some (r1, r2, r3) := by rw [if_neg (show ¬ (false = true) by decide)] at H; exact H
          clear H
          have H := H1
          clear H1
          replace H := Option.bind_eq_some_iff.mp H
          obtain ⟨⟨t143, t144, t145⟩, A130, H⟩ := H
          replace H : (if t145 = true then (if t144 < (a0.size : Int) then (if 0 ≤ t144 then (capstanref04_item.j1 kj6 a0 t144 l3 t143 t142 1 ((bt a0 t144) == 45)) else (none)) else (capstanref04_item.j1 kj6 a0 t144 l3 t143 t142 1 false)) else (some (t144, false, l3))) = some (r1, r2, r3) := H
          have A13 := Aside0.mk A130
          clear A130
          by_cases c14 : t145 = true
          · subst c14
            have H1 : (if t144 < (a0.size : Int) then (if 0 ≤ t144 then (capstanref04_item.j1 kj6 a0 t144 l3 t143 t142 1 ((bt a0 t144) == 45)) else (none)) else (capstanref04_item.j1 kj6 a0 t144 l3 t143 t142 1 false)) = some (r1, r2, r3) := by rw [if_pos rfl] at H; exact H
            clear H
            have H := H1
            clear H1
            have HC15 := Aside0.mk H
            clear H
            go_upto_region 11 with (first | ((with_reducible refine gate_callee (f := 42) rfl ?_); refine goesL_ (some 37) rfl rfl Tryd.func42 (by kernel_rfl) rfl #[.string a0, .int .i64 a1, .int .i64 t141, .int .i64 t142] rfl (by (try simp only [List.map_toArray, List.map_cons, List.map_nil]); first | done | rfl | (simp only [List.length_drop, List.length_take]; rfl)) ?_; (with_reducible refine (capstanref04_number.calls kj6 a0 a1 t141 t142 t143 t144 true _ A13.out).mono ?_); rintro e w' ⟨rfl, ⟨nd, rfl⟩⟩; refine ⟨_, rfl, ?_⟩))
            (try simp only [Act.put, List.setIfInBounds_toArray, List.set_cons_zero, List.set_cons_succ])
            go_cut [14] (fun v14 wc => ∃ (kq : Nat) (x14_14 : Bool), v14 = .bool x14_14 ∧ Aside0 (capstanref04_item.j1 kq a0 t144 l3 t143 t142 1 x14_14 = some (r1, r2, r3)) ∧ Aside0 (kq ≤ kj6) ∧ Aside0 (Kd.R Kd.bool 4 wc w0.heap.size (fun k_ => (P3_ k_ ∨ w.heap.size ≤ k_)) u9000_ l3) ∧ Aside0 (Kept w wc (fun k_ => P3_ k_)) ∧ Aside0 (Below w0.heap.size w0 wc))
            case first =>
              have H := HC15.out
              clear HC15
              by_cases c16 : t144 < (a0.size : Int)
              · rw [if_pos c16] at H
                have c16b0 : decide (t144 < (a0.size : Int)) = true := decide_eq_true c16
                clear c16
                (first | rw [c16b0] | (simp only [i64_w, i32_w]; rw [c16b0]) | skip)
                by_cases c17 : 0 ≤ t144
                · rw [if_pos c17] at H
                  have c17b0 : decide (0 ≤ t144) = true := decide_eq_true c17
                  clear c17
                  have H' := Aside0.mk H
                  clear H
                  have p18 : 0 ≤ (t144 : Int) := of_decide_eq_true (by first | (with_reducible assumption) | assumption)
                  have q18 : t144 < (a0.size : Int) := of_decide_eq_true (by first | (with_reducible assumption) | assumption)
                  have hx18 := bt_at a0 t144
                  replace p18 := eq_true p18
                  replace q18 := eq_true q18
                  go_wp2
                  go_meet
                  case rel => exact ⟨_, (((bt a0 t144) == 45)), (by first | rfl | (simp; done) | (simp [*]; done)), H', ⟨by have := HJ6.out; first | omega | exact Nat.le_refl _⟩, ⟨by (with_reducible repeat (first | apply Kd.R_alloc | apply Kd.R_drewN | apply Kd.R_drew)); exact HO_3.out⟩, ⟨by repeat (first | (with_reducible first | exact HK.out | apply Kept.alloc | apply Kept.drewN | apply Kept.drew) | exact HK.out)⟩, ⟨by repeat (first | (with_reducible first | exact HB.out | apply below_alloc | apply pw_below_drewN | apply below_drew1) | exact HB.out)⟩⟩
                · rw [if_neg c17] at H
                  exact absurd H (by simp)
              · rw [if_neg c16] at H
                have c16b0 : decide (t144 < (a0.size : Int)) = false := decide_eq_false c16
                clear c16
                (first | rw [c16b0] | (simp only [i64_w, i32_w]; rw [c16b0]) | skip)
                have H' := Aside0.mk H
                clear H
                go_wp2
                go_meet
                case rel => exact ⟨_, (false), (by first | rfl | (simp; done) | (simp [*]; done)), H', ⟨by have := HJ6.out; first | omega | exact Nat.le_refl _⟩, ⟨by (with_reducible repeat (first | apply Kd.R_alloc | apply Kd.R_drewN | apply Kd.R_drew)); exact HO_3.out⟩, ⟨by repeat (first | (with_reducible first | exact HK.out | apply Kept.alloc | apply Kept.drewN | apply Kept.drew) | exact HK.out)⟩, ⟨by repeat (first | (with_reducible first | exact HB.out | apply below_alloc | apply pw_below_drewN | apply below_drew1) | exact HB.out)⟩⟩
            case rest =>
              clear HC15
              try clear c1
              try clear p1
              try clear q1
              try clear hx1
              try clear c2
              try clear p2
              try clear c3
              try clear c4
              try clear p6
              try clear c8
              try clear c8b0
              try clear c9
              try clear c9b0
              try clear p10
              try clear q10
              try clear hx10
              try clear c12
              try clear c14
              try clear c16
              try clear c16b0
              try clear c17
              try clear c17b0
              try clear p18
              try clear q18
              try clear hx18
              try clear p1
              try clear p10
              try clear p18
              try clear p2
              try clear q1
              try clear q10
              try clear q18
              obtain ⟨kq, x14_14, rfl, HA, HJ14, HO_3, HK, HB⟩ := hcut
              cases kq with
              | zero => exact absurd HA.out (by simp [capstanref04_item.j1])
              | succ kj14 =>
                have H := HA.out
                clear HA
                simp only [capstanref04_item.j1] at H
                by_cases c19 : x14_14 = true
                · subst c19
                  have H1 : ((capstanref04_number.f kj14 a0 (wrap64 (t144 + 1)) t143 t142).bind fun bt146 => (if bt146.2.2 = true then (capstanref04_item.j2 kj14 a0 bt146.2.1 l3 t143 bt146.1 1 true) else (some (bt146.2.1, false, l3)))) = some (r1, r2, r3) := by rw [if_pos rfl] at H; exact H
                  clear H
                  have H := H1
                  clear H1
                  replace H := Option.bind_eq_some_iff.mp H
                  obtain ⟨⟨t146, t147, t148⟩, A200, H⟩ := H
                  replace H : (if t148 = true then (capstanref04_item.j2 kj14 a0 t147 l3 t143 t146 1 true) else (some (t147, false, l3))) = some (r1, r2, r3) := H
                  have A20 := Aside0.mk A200
                  clear A200
                  by_cases c21 : t148 = true
                  · subst c21
                    have H1 : (capstanref04_item.j2 kj14 a0 t147 l3 t143 t146 1 true) = some (r1, r2, r3) := by rw [if_pos rfl] at H; exact H
                    clear H
                    have H := H1
                    clear H1
                    have H' := Aside0.mk H
                    clear H
                    go_wp2_with (first | ((with_reducible refine gate_callee (f := 42) rfl ?_); refine goesL_ (some 61) rfl rfl Tryd.func42 (by kernel_rfl) rfl #[.string a0, .int .i64 (wrap64 (t144 + 1)), .int .i64 t143, .int .i64 t142] rfl (by (try simp only [List.map_toArray, List.map_cons, List.map_nil]); first | done | rfl | (simp only [List.length_drop, List.length_take]; rfl)) ?_; (with_reducible refine (capstanref04_number.calls kj14 a0 (wrap64 (t144 + 1)) t143 t142 t146 t147 true _ A20.out).mono ?_); rintro e w' ⟨rfl, ⟨nd, rfl⟩⟩; refine ⟨_, rfl, ?_⟩))
                    go_meet
                    case rel => exact ⟨_, (t147), (t143), (t146), (true), (by first | rfl | (simp; done) | (simp [*]; done)), (by first | rfl | (simp; done) | (simp [*]; done)), (by first | rfl | (simp; done) | (simp [*]; done)), (by first | rfl | (simp; done) | (simp [*]; done)), H', ⟨by have := HJ6.out; have := HJ14.out; first | omega | exact Nat.le_refl _⟩, ⟨by (with_reducible repeat (first | apply Kd.R_alloc | apply Kd.R_drewN | apply Kd.R_drew)); exact HO_3.out⟩, ⟨by repeat (first | (with_reducible first | exact HK.out | apply Kept.alloc | apply Kept.drewN | apply Kept.drew) | exact HK.out)⟩, ⟨by repeat (first | (with_reducible first | exact HB.out | apply below_alloc | apply pw_below_drewN | apply below_drew1) | exact HB.out)⟩⟩
                  · replace c21 := Bool.eq_false_iff.mpr c21
                    subst c21
                    have H1 : (some (t147, false, l3)) = some (r1, r2, r3) := by rw [if_neg (show ¬ (false = true) by decide)] at H; exact H
                    clear H
                    have H := H1
                    clear H1
                    simp only [Option.some.injEq, Prod.mk.injEq] at H
                    obtain ⟨rfl, rfl, rfl⟩ := H
                    go_wp2_with (first | ((with_reducible refine gate_callee (f := 42) rfl ?_); refine goesL_ (some 61) rfl rfl Tryd.func42 (by kernel_rfl) rfl #[.string a0, .int .i64 (wrap64 (t144 + 1)), .int .i64 t143, .int .i64 t142] rfl (by (try simp only [List.map_toArray, List.map_cons, List.map_nil]); first | done | rfl | (simp only [List.length_drop, List.length_take]; rfl)) ?_; (with_reducible refine (capstanref04_number.calls kj14 a0 (wrap64 (t144 + 1)) t143 t142 t146 t147 false _ A20.out).mono ?_); rintro e w' ⟨rfl, ⟨nd, rfl⟩⟩; refine ⟨_, rfl, ?_⟩))
                    go_ret2
                    exact ⟨by first | rfl | (simp [errW_none, errW_some] <;> rfl) | (simp [*, errW_none, errW_some] <;> rfl), by (with_reducible repeat (first | apply Kd.R_alloc | apply Kd.R_drewN | apply Kd.R_drew)); exact HO_3.out, by repeat (first | (with_reducible first | exact HB.out | apply below_alloc | apply pw_below_drewN | apply below_drew1) | exact HB.out), by repeat (first | (with_reducible first | exact HK.out | apply Kept.alloc | apply Kept.drewN | apply Kept.drew) | exact HK.out)⟩
                · replace c19 := Bool.eq_false_iff.mpr c19
                  subst c19
                  have H1 : (capstanref04_item.j2 kj14 a0 t144 l3 t143 t143 1 false) = some (r1, r2, r3) := by rw [if_neg (show ¬ (false = true) by decide)] at H; exact H
                  clear H
                  have H := H1
                  clear H1
                  have H' := Aside0.mk H
                  clear H
                  go_wp2
                  go_meet
                  case rel => exact ⟨_, (t144), (t143), (t143), (false), (by first | rfl | (simp; done) | (simp [*]; done)), (by first | rfl | (simp; done) | (simp [*]; done)), (by first | rfl | (simp; done) | (simp [*]; done)), (by first | rfl | (simp; done) | (simp [*]; done)), H', ⟨by have := HJ6.out; have := HJ14.out; first | omega | exact Nat.le_refl _⟩, ⟨by (with_reducible repeat (first | apply Kd.R_alloc | apply Kd.R_drewN | apply Kd.R_drew)); exact HO_3.out⟩, ⟨by repeat (first | (with_reducible first | exact HK.out | apply Kept.alloc | apply Kept.drewN | apply Kept.drew) | exact HK.out)⟩, ⟨by repeat (first | (with_reducible first | exact HB.out | apply below_alloc | apply pw_below_drewN | apply below_drew1) | exact HB.out)⟩⟩
          · replace c14 := Bool.eq_false_iff.mpr c14
            subst c14
            have H1 : (some (t144, false, l3)) = some (r1, r2, r3) := by rw [if_neg (show ¬ (false = true) by decide)] at H; exact H
            clear H
            have H := H1
            clear H1
            simp only [Option.some.injEq, Prod.mk.injEq] at H
            obtain ⟨rfl, rfl, rfl⟩ := H
            go_wp2_with (first | ((with_reducible refine gate_callee (f := 42) rfl ?_); refine goesL_ (some 37) rfl rfl Tryd.func42 (by kernel_rfl) rfl #[.string a0, .int .i64 a1, .int .i64 t141, .int .i64 t142] rfl (by (try simp only [List.map_toArray, List.map_cons, List.map_nil]); first | done | rfl | (simp only [List.length_drop, List.length_take]; rfl)) ?_; (with_reducible refine (capstanref04_number.calls kj6 a0 a1 t141 t142 t143 t144 false _ A13.out).mono ?_); rintro e w' ⟨rfl, ⟨nd, rfl⟩⟩; refine ⟨_, rfl, ?_⟩))
            go_ret2
            exact ⟨by first | rfl | (simp [errW_none, errW_some] <;> rfl) | (simp [*, errW_none, errW_some] <;> rfl), by (with_reducible repeat (first | apply Kd.R_alloc | apply Kd.R_drewN | apply Kd.R_drew)); exact HO_3.out, by repeat (first | (with_reducible first | exact HB.out | apply below_alloc | apply pw_below_drewN | apply below_drew1) | exact HB.out), by repeat (first | (with_reducible first | exact HK.out | apply Kept.alloc | apply Kept.drewN | apply Kept.drew) | exact HK.out)⟩
      case rest =>
        clear HC11
        try clear c1
        try clear p1
        try clear q1
        try clear hx1
        try clear c2
        try clear p2
        try clear c3
        try clear c4
        try clear p6
        try clear c8
        try clear c8b0
        try clear c9
        try clear c9b0
        try clear p10
        try clear q10
        try clear hx10
        try clear c12
        try clear c14
        try clear c16
        try clear c16b0
        try clear c17
        try clear c17b0
        try clear p18
        try clear q18
        try clear hx18
        try clear c19
        try clear c21
        try clear p1
        try clear p10
        try clear p18
        try clear p2
        try clear p6
        try clear q1
        try clear q10
        try clear q18
        obtain ⟨kq, x1_10, x10_10, x11_10, x14_10, rfl, rfl, rfl, rfl, HA, HJ10, HO_3, HK, HB⟩ := hcut
        cases kq with
        | zero => exact absurd HA.out (by simp [capstanref04_item.j2])
        | succ kj10 =>
          have H := HA.out
          clear HA
          simp only [capstanref04_item.j2] at H
          have HC22 := Aside0.mk H
          clear H
          go_upto_region 17 with (fail)
          go_cut [81] (fun v81 wc => ∃ (kq : Nat) (x81_21 : Bool), v81 = .bool x81_21 ∧ Aside0 (capstanref04_item.j3 kq a0 x1_10 l3 x10_10 x11_10 1 x81_21 = some (r1, r2, r3)) ∧ Aside0 (kq ≤ kj10) ∧ Aside0 (Kd.R Kd.bool 4 wc w0.heap.size (fun k_ => (P3_ k_ ∨ w.heap.size ≤ k_)) u9000_ l3) ∧ Aside0 (Kept w wc (fun k_ => P3_ k_)) ∧ Aside0 (Below w0.heap.size w0 wc))
          case first =>
            have H := HC22.out
            clear HC22
            by_cases c23 : x14_10 = true
            · subst c23
              have H1 : (if x1_10 < (a0.size : Int) then (if 0 ≤ x1_10 then (capstanref04_item.j3 kj10 a0 x1_10 l3 x10_10 x11_10 1 ((bt a0 x1_10) == 47)) else (none)) else (capstanref04_item.j3 kj10 a0 x1_10 l3 x10_10 x11_10 1 false)) = some (r1, r2, r3) := by rw [if_pos rfl] at H; exact H
              clear H
              have H := H1
              clear H1
              by_cases c24 : x1_10 < (a0.size : Int)
              · rw [if_pos c24] at H
                have c24b0 : decide (x1_10 < (a0.size : Int)) = true := decide_eq_true c24
                clear c24
                (first | rw [c24b0] | (simp only [i64_w, i32_w]; rw [c24b0]) | skip)
                by_cases c25 : 0 ≤ x1_10
                · rw [if_pos c25] at H
                  have c25b0 : decide (0 ≤ x1_10) = true := decide_eq_true c25
                  clear c25
                  have H' := Aside0.mk H
                  clear H
                  have p26 : 0 ≤ (x1_10 : Int) := of_decide_eq_true (by first | (with_reducible assumption) | assumption)
                  have q26 : x1_10 < (a0.size : Int) := of_decide_eq_true (by first | (with_reducible assumption) | assumption)
                  have hx26 := bt_at a0 x1_10
                  replace p26 := eq_true p26
                  replace q26 := eq_true q26
                  go_wp2
                  go_meet
                  case rel => exact ⟨_, (((bt a0 x1_10) == 47)), (by first | rfl | (simp; done) | (simp [*]; done)), H', ⟨by have := HJ6.out; have := HJ10.out; first | omega | exact Nat.le_refl _⟩, ⟨by (with_reducible repeat (first | apply Kd.R_alloc | apply Kd.R_drewN | apply Kd.R_drew)); exact HO_3.out⟩, ⟨by repeat (first | (with_reducible first | exact HK.out | apply Kept.alloc | apply Kept.drewN | apply Kept.drew) | exact HK.out)⟩, ⟨by repeat (first | (with_reducible first | exact HB.out | apply below_alloc | apply pw_below_drewN | apply below_drew1) | exact HB.out)⟩⟩
                · rw [if_neg c25] at H
                  exact absurd H (by simp)
              · rw [if_neg c24] at H
                have c24b0 : decide (x1_10 < (a0.size : Int)) = false := decide_eq_false c24
                clear c24
                (first | rw [c24b0] | (simp only [i64_w, i32_w]; rw [c24b0]) | skip)
                have H' := Aside0.mk H
                clear H
                go_wp2
                go_meet
                case rel => exact ⟨_, (false), (by first | rfl | (simp; done) | (simp [*]; done)), H', ⟨by have := HJ6.out; have := HJ10.out; first | omega | exact Nat.le_refl _⟩, ⟨by (with_reducible repeat (first | apply Kd.R_alloc | apply Kd.R_drewN | apply Kd.R_drew)); exact HO_3.out⟩, ⟨by repeat (first | (with_reducible first | exact HK.out | apply Kept.alloc | apply Kept.drewN | apply Kept.drew) | exact HK.out)⟩, ⟨by repeat (first | (with_reducible first | exact HB.out | apply below_alloc | apply pw_below_drewN | apply below_drew1) | exact HB.out)⟩⟩
            · replace c23 := Bool.eq_false_iff.mpr c23
              subst c23
              have H1 : (capstanref04_item.j3 kj10 a0 x1_10 l3 x10_10 x11_10 1 false) = some (r1, r2, r3) := by rw [if_neg (show ¬ (false = true) by decide)] at H; exact H
              clear H
              have H := H1
              clear H1
              have H' := Aside0.mk H
              clear H
              go_wp2
              go_meet
              case rel => exact ⟨_, (false), (by first | rfl | (simp; done) | (simp [*]; done)), H', ⟨by have := HJ6.out; have := HJ10.out; first | omega | exact Nat.le_refl _⟩, ⟨by (with_reducible repeat (first | apply Kd.R_alloc | apply Kd.R_drewN | apply Kd.R_drew)); exact HO_3.out⟩, ⟨by repeat (first | (with_reducible first | exact HK.out | apply Kept.alloc | apply Kept.drewN | apply Kept.drew) | exact HK.out)⟩, ⟨by repeat (first | (with_reducible first | exact HB.out | apply below_alloc | apply pw_below_drewN | apply below_drew1) | exact HB.out)⟩⟩
          case rest =>
            clear HC22
            try clear c1
            try clear p1
            try clear q1
            try clear hx1
            try clear c2
            try clear p2
            try clear q2
            try clear hx2
            try clear c3
            try clear c4
            try clear p6
            try clear c8
            try clear c8b0
            try clear c9
            try clear c9b0
            try clear p10
            try clear q10
            try clear hx10
            try clear c12
            try clear c14
            try clear c16
            try clear c16b0
            try clear c17
            try clear c17b0
            try clear p18
            try clear q18
            try clear hx18
            try clear c19
            try clear c21
            try clear c23
            try clear c24
            try clear c24b0
            try clear c25
            try clear c25b0
            try clear p26
            try clear q26
            try clear hx26
            try clear p1
            try clear p10
            try clear p18
            try clear p2
            try clear p26
            try clear p6
            try clear q1
            try clear q10
            try clear q18
            try clear q26
            obtain ⟨kq, x81_21, rfl, HA, HJ21, HO_3, HK, HB⟩ := hcut
            cases kq with
            | zero => exact absurd HA.out (by simp [capstanref04_item.j3])
            | succ kj21 =>
              have H := HA.out
              clear HA
              simp only [capstanref04_item.j3] at H
              have HC27 := Aside0.mk H
              clear H
              go_upto_if 81 with (fail)
              go_cut [1, 12] (fun v1 v12 wc => ∃ (kq : Nat) (x1_26 : Int) (x12_26 : Int), v1 = .int .i64 x1_26 ∧ v12 = .int .i64 x12_26 ∧ Aside0 (capstanref04_item.j4 kq x1_26 l3 x10_10 x11_10 x12_26 = some (r1, r2, r3)) ∧ Aside0 (kq ≤ kj21) ∧ Aside0 (Kd.R Kd.bool 4 wc w0.heap.size (fun k_ => (P3_ k_ ∨ w.heap.size ≤ k_)) u9000_ l3) ∧ Aside0 (Kept w wc (fun k_ => P3_ k_)) ∧ Aside0 (Below w0.heap.size w0 wc))
              case first =>
                have H := HC27.out
                clear HC27
                by_cases c28 : x81_21 = true
                · subst c28
                  have H1 : ((capstanref04_number.f kj21 a0 (wrap64 (x1_10 + 1)) 1 99).bind fun bt149 => (if bt149.2.2 = true then (capstanref04_item.j4 kj21 bt149.2.1 l3 x10_10 x11_10 bt149.1) else (some (bt149.2.1, false, l3)))) = some (r1, r2, r3) := by rw [if_pos rfl] at H; exact H
                  clear H
                  have H := H1
                  clear H1
                  replace H := Option.bind_eq_some_iff.mp H
                  obtain ⟨⟨t149, t150, t151⟩, A290, H⟩ := H
                  replace H : (if t151 = true then (capstanref04_item.j4 kj21 t150 l3 x10_10 x11_10 t149) else (some (t150, false, l3))) = some (r1, r2, r3) := H
                  have A29 := Aside0.mk A290
                  clear A290
                  by_cases c30 : t151 = true
                  · subst c30
                    have H1 : (capstanref04_item.j4 kj21 t150 l3 x10_10 x11_10 t149) = some (r1, r2, r3) := by rw [if_pos rfl] at H; exact H
                    clear H
                    have H := H1
                    clear H1
                    have H' := Aside0.mk H
                    clear H
                    go_wp2_with (first | ((with_reducible refine gate_callee (f := 42) rfl ?_); refine goesL_ (some 86) rfl rfl Tryd.func42 (by kernel_rfl) rfl #[.string a0, .int .i64 (wrap64 (x1_10 + 1)), .int .i64 1, .int .i64 99] rfl (by (try simp only [List.map_toArray, List.map_cons, List.map_nil]); first | done | rfl | (simp only [List.length_drop, List.length_take]; rfl)) ?_; (with_reducible refine (capstanref04_number.calls kj21 a0 (wrap64 (x1_10 + 1)) 1 99 t149 t150 true _ A29.out).mono ?_); rintro e w' ⟨rfl, ⟨nd, rfl⟩⟩; refine ⟨_, rfl, ?_⟩))
                    go_meet
                    case rel => exact ⟨_, (t150), (t149), (by first | rfl | (simp; done) | (simp [*]; done)), (by first | rfl | (simp; done) | (simp [*]; done)), H', ⟨by have := HJ6.out; have := HJ10.out; have := HJ21.out; first | omega | exact Nat.le_refl _⟩, ⟨by (with_reducible repeat (first | apply Kd.R_alloc | apply Kd.R_drewN | apply Kd.R_drew)); exact HO_3.out⟩, ⟨by repeat (first | (with_reducible first | exact HK.out | apply Kept.alloc | apply Kept.drewN | apply Kept.drew) | exact HK.out)⟩, ⟨by repeat (first | (with_reducible first | exact HB.out | apply below_alloc | apply pw_below_drewN | apply below_drew1) | exact HB.out)⟩⟩
                  · replace c30 := Bool.eq_false_iff.mpr c30
                    subst c30
                    have H1 : (some (t150, false, l3)) = some (r1, r2, r3) := by rw [if_neg (show ¬ (false = true) by decide)] at H; exact H
                    clear H
                    have H := H1
                    clear H1
                    simp only [Option.some.injEq, Prod.mk.injEq] at H
                    obtain ⟨rfl, rfl, rfl⟩ := H
                    go_wp2_with (first | ((with_reducible refine gate_callee (f := 42) rfl ?_); refine goesL_ (some 86) rfl rfl Tryd.func42 (by kernel_rfl) rfl #[.string a0, .int .i64 (wrap64 (x1_10 + 1)), .int .i64 1, .int .i64 99] rfl (by (try simp only [List.map_toArray, List.map_cons, List.map_nil]); first | done | rfl | (simp only [List.length_drop, List.length_take]; rfl)) ?_; (with_reducible refine (capstanref04_number.calls kj21 a0 (wrap64 (x1_10 + 1)) 1 99 t149 t150 false _ A29.out).mono ?_); rintro e w' ⟨rfl, ⟨nd, rfl⟩⟩; refine ⟨_, rfl, ?_⟩))
                    go_ret2
                    exact ⟨by first | rfl | (simp [errW_none, errW_some] <;> rfl) | (simp [*, errW_none, errW_some] <;> rfl), by (with_reducible repeat (first | apply Kd.R_alloc | apply Kd.R_drewN | apply Kd.R_drew)); exact HO_3.out, by repeat (first | (with_reducible first | exact HB.out | apply below_alloc | apply pw_below_drewN | apply below_drew1) | exact HB.out), by repeat (first | (with_reducible first | exact HK.out | apply Kept.alloc | apply Kept.drewN | apply Kept.drew) | exact HK.out)⟩
                · replace c28 := Bool.eq_false_iff.mpr c28
                  subst c28
                  have H1 : (capstanref04_item.j4 kj21 x1_10 l3 x10_10 x11_10 1) = some (r1, r2, r3) := by rw [if_neg (show ¬ (false = true) by decide)] at H; exact H
                  clear H
                  have H := H1
                  clear H1
                  have H' := Aside0.mk H
                  clear H
                  go_wp2
                  go_meet
                  case rel => exact ⟨_, (x1_10), (1), (by first | rfl | (simp; done) | (simp [*]; done)), (by first | rfl | (simp; done) | (simp [*]; done)), H', ⟨by have := HJ6.out; have := HJ10.out; have := HJ21.out; first | omega | exact Nat.le_refl _⟩, ⟨by (with_reducible repeat (first | apply Kd.R_alloc | apply Kd.R_drewN | apply Kd.R_drew)); exact HO_3.out⟩, ⟨by repeat (first | (with_reducible first | exact HK.out | apply Kept.alloc | apply Kept.drewN | apply Kept.drew) | exact HK.out)⟩, ⟨by repeat (first | (with_reducible first | exact HB.out | apply below_alloc | apply pw_below_drewN | apply below_drew1) | exact HB.out)⟩⟩
              case rest =>
                clear HC27
                try clear c1
                try clear p1
                try clear q1
                try clear hx1
                try clear c2
                try clear p2
                try clear q2
                try clear hx2
                try clear c3
                try clear c4
                try clear p6
                try clear c8
                try clear c8b0
                try clear c9
                try clear c9b0
                try clear p10
                try clear q10
                try clear hx10
                try clear c12
                try clear c14
                try clear c16
                try clear c16b0
                try clear c17
                try clear c17b0
                try clear p18
                try clear q18
                try clear hx18
                try clear c19
                try clear c21
                try clear c23
                try clear c24
                try clear c24b0
                try clear c25
                try clear c25b0
                try clear p26
                try clear q26
                try clear hx26
                try clear c28
                try clear c30
                try clear p1
                try clear p10
                try clear p18
                try clear p2
                try clear p26
                try clear p6
                try clear q1
                try clear q10
                try clear q18
                try clear q2
                try clear q26
                obtain ⟨kq, x1_26, x12_26, rfl, rfl, HA, HJ26, HO_3, HK, HB⟩ := hcut
                cases kq with
                | zero => exact absurd HA.out (by simp [capstanref04_item.j4])
                | succ kj26 =>
                  have H := HA.out
                  clear HA
                  simp only [capstanref04_item.j4] at H
                  have H' := Aside0.mk H
                  clear H
                  go_wp2
                  go_loopg [15] kj26 (fun kq v15 w' => ∃ (x3_5 : List Bool) (x15_5 : Int), v15 = .int .i64 x15_5 ∧ Aside0 (capstanref04_item.l0 kq x1_26 x3_5 x11_10 x12_26 x15_5 = some (r1, r2, r3)) ∧ Aside0 (kq ≤ kj26) ∧ Aside0 (Kd.R Kd.bool 4 w' w0.heap.size (fun k_ => (P3_ k_ ∨ w.heap.size ≤ k_)) u9000_ x3_5) ∧ Aside0 (Kept w w' (fun k_ => P3_ k_)) ∧ Aside0 (Below w0.heap.size w0 w'))
                  case atStart => exact ⟨(l3), (x10_10), (by first | rfl | (simp; done) | (simp [*]; done)), H', ⟨Nat.le_refl _⟩, ⟨by (with_reducible repeat (first | apply Kd.R_alloc | apply Kd.R_drewN | apply Kd.R_drew)); exact HO_3.out⟩, ⟨by repeat (first | (with_reducible first | exact HK.out | apply Kept.alloc | apply Kept.drewN | apply Kept.drew) | exact HK.out)⟩, ⟨by repeat (first | (with_reducible first | exact HB.out | apply below_alloc | apply pw_below_drewN | apply below_drew1) | exact HB.out)⟩⟩
                  case round =>
                    clear H'
                    try clear c1
                    try clear p1
                    try clear q1
                    try clear hx1
                    try clear c2
                    try clear p2
                    try clear q2
                    try clear hx2
                    try clear c3
                    try clear c4
                    try clear p6
                    try clear c8
                    try clear c8b0
                    try clear c9
                    try clear c9b0
                    try clear p10
                    try clear q10
                    try clear hx10
                    try clear c12
                    try clear c14
                    try clear c16
                    try clear c16b0
                    try clear c17
                    try clear c17b0
                    try clear p18
                    try clear q18
                    try clear hx18
                    try clear c19
                    try clear c21
                    try clear c23
                    try clear c24
                    try clear c24b0
                    try clear c25
                    try clear c25b0
                    try clear p26
                    try clear q26
                    try clear hx26
                    try clear c28
                    try clear c30
                    try clear p1
                    try clear p10
                    try clear p18
                    try clear p2
                    try clear p26
                    try clear p6
                    try clear q1
                    try clear q10
                    try clear q18
                    try clear q2
                    try clear q26
                    obtain ⟨x3_5, x15_5, rfl, HA, HK5, HO_3, HK, HB⟩ := hrel
                    cases gk with
                    | zero => exact absurd HA.out (by simp [capstanref04_item.l0])
                    | succ k5 =>
                      have H := HA.out
                      clear HA
                      simp only [capstanref04_item.l0] at H
                      by_cases c31 : x15_5 ≤ x11_10
                      · rw [if_pos c31] at H
                        have c31b0 : decide (x15_5 ≤ x11_10) = true := decide_eq_true c31
                        clear c31
                        by_cases c32 : 0 ≤ x15_5
                        · rw [if_pos c32] at H
                          have c32b0 : decide (0 ≤ x15_5) = true := decide_eq_true c32
                          clear c32
                          by_cases c33 : x15_5 < (x3_5.length : Int)
                          · rw [if_pos c33] at H
                            have c33b0 : decide (x15_5 < (x3_5.length : Int)) = true := decide_eq_true c33
                            clear c33
                            obtain ⟨y152, hy152⟩ : ∃ y_ : List Bool, y_ = (x3_5.set (x15_5 : Int).toNat true) := ⟨_, rfl⟩
                            replace H : (capstanref04_item.l0 k5 x1_26 y152 x11_10 x12_26 (wrap64 (x15_5 + x12_26))) = some (r1, r2, r3) := by first | (rw [hy152]; with_reducible exact H) | (have H2_ := (Option.bind_some _ _).symm.trans H; rw [hy152]; with_reducible exact H2_) | (have H2_ := (Option.bind_some _ _).symm.trans H; with_reducible exact H2_) | with_reducible exact H | (rw [hy152]; exact H) | exact H
                            have Ny152 := Aside0.mk hy152
                            clear hy152
                            have H' := Aside0.mk H
                            clear H
                            have p34 : 0 ≤ (x15_5 : Int) := of_decide_eq_true (by first | (with_reducible assumption) | assumption)
                            have q34 : (x15_5 : Int) < ((x3_5.length : Int) : Int) := of_decide_eq_true (by first | (with_reducible assumption) | assumption)
                            obtain ⟨go34, co34, eo34, gb34, gl34, cl34, HG34⟩ := Kd.R_form HO_3.out (by omega)
                            (first | cases eo34 | (injection eo34 with ea_ en_ ec_; (first | subst ea_ | (injection ea_ with ea_; subst ea_)); subst ec_; clear en_))
                            have GB34 := Aside0.mk gb34
                            have GG34 := Aside0.mk HG34
                            clear gb34 gl34 HG34
                            have HMgo34 := Aside0.mk (show (P3_ go34 ∨ w.heap.size ≤ go34) from (HO_3.out.1 _ rfl))
                            obtain ⟨hx34_0, hf34_0⟩ := Kd.R_celln false HO_3.out (x15_5 : Int) p34 q34
                            replace p34 := eq_true p34
                            replace q34 := eq_true q34
                            have HP35 := Kd.R_putg HO_3.out (x15_5 : Int) true
                            go_wp2_with (first | ((with_reducible refine gate_store (t := 4) (p := 102) rfl ?_); refine store_event (t := 4) (p := 102) (v := ?vo_w36) (w1 := (wr.setCell ⟨go34, (x15_5 : Int).toNat, none⟩ (.bool true))) ?hg ?ho ?hn ?hr ?_; (case ho => rfl); (case hg => rfl); (case hn => rfl); (case hr => first | (go_simp; done) | (go_simp; rfl)); intro w36 hw; have hg : wr.grownBy w36 (some go34) := (by rw [hw]; exact HP35.2); have hp_ : Kd.R Kd.bool 4 w36 w0.heap.size (fun k_ => (P3_ k_ ∨ w.heap.size ≤ k_)) (.slice (some ⟨go34, 0, none⟩) x3_5.length co34) y152 := (by rw [hw, Ny152.out]; exact HP35.1); clear HP35; have n0_ := Aside0.mk (hp_); have n1_ := Aside0.mk ((by rw [hw]; exact below_set (HB.out) GB34.out : Below w0.heap.size w0 w36)); have n2_ := Aside0.mk (Kept.of_grown (S := (fun k_ => P3_ k_)) hg (by repeat (first | (with_reducible first | exact HK.out | apply Kept.alloc | apply Kept.drewN | apply Kept.drew) | exact HK.out)) (fun k_ e_ => (HO_3.out.1 k_ e_))); clear HO_3; clear HB; clear HK; have HO_3 := n0_; have HB := n1_; have HK := n2_; clear n0_ n1_ n2_; clear hg hw hp_))
                            go_roundg k5
                            case measure => have := HJ6.out; have := HJ10.out; have := HJ21.out; have := HJ26.out; have := HK5.out; omega
                            case rel => exact ⟨(y152), (wrap64 (x15_5 + x12_26)), (by first | rfl | (simp; done) | (simp [*]; done)), H', ⟨by have := HJ6.out; have := HJ10.out; have := HJ21.out; have := HJ26.out; have := HK5.out; omega⟩, ⟨by (with_reducible repeat (first | apply Kd.R_alloc | apply Kd.R_drewN | apply Kd.R_drew)); exact HO_3.out⟩, ⟨by repeat (first | (with_reducible first | exact HK.out | apply Kept.alloc | apply Kept.drewN | apply Kept.drew) | exact HK.out)⟩, ⟨by repeat (first | (with_reducible first | exact HB.out | apply below_alloc | apply pw_below_drewN | apply below_drew1) | exact HB.out)⟩⟩
                          · rw [if_neg c33] at H
                            exact absurd H (by simp)
                        · rw [if_neg c32] at H
                          exact absurd H (by simp)
                      · rw [if_neg c31] at H
                        have c31b0 : decide (x15_5 ≤ x11_10) = false := decide_eq_false c31
                        clear c31
                        simp only [Option.some.injEq, Prod.mk.injEq] at H
                        obtain ⟨rfl, rfl, rfl⟩ := H
                        go_wp2
                        go_ret2
                        exact ⟨by first | rfl | (simp [errW_none, errW_some] <;> rfl) | (simp [*, errW_none, errW_some] <;> rfl), by (with_reducible repeat (first | apply Kd.R_alloc | apply Kd.R_drewN | apply Kd.R_drew)); exact HO_3.out, by repeat (first | (with_reducible first | exact HB.out | apply below_alloc | apply pw_below_drewN | apply below_drew1) | exact HB.out), by repeat (first | (with_reducible first | exact HK.out | apply Kept.alloc | apply Kept.drewN | apply Kept.drew) | exact HK.out)⟩



/-! ### capstanref04_bitsOf: function 24 -/
def capstanref04_bitsOf.l0 : Nat → List Bool → Int → Int → Option (Int)
  | 0, _, _, _ => none
  | k + 1, x0, x3, x4 => if x4 < (x0.length : Int) then (if 0 ≤ x4 then (if rdOf false x0 x4 = true then (if 0 ≤ (IntKind.u64.wrap (x4)) then (capstanref04_bitsOf.l0 k x0 (IntKind.u64.wrap (x3 + (shl .u64 1 (IntKind.u64.wrap (x4))))) (wrap64 (x4 + 1))) else (none)) else (capstanref04_bitsOf.l0 k x0 x3 (wrap64 (x4 + 1)))) else (none)) else (some x3)
def capstanref04_bitsOf.f (k : Nat) (l0 : List Bool) : Option (Int) := capstanref04_bitsOf.l0 k l0 0 0
theorem capstanref04_bitsOf.mono_l : ∀ k, (∀ y0 y1 y2, LeO (capstanref04_bitsOf.l0 k y0 y1 y2) (capstanref04_bitsOf.l0 (k + 1) y0 y1 y2))
  | 0 => fun _ _ _ r h => by simp [capstanref04_bitsOf.l0] at h
  | k + 1 => by
    have ih0 := capstanref04_bitsOf.mono_l k
    · intro y0 y1 y2
      unfold capstanref04_bitsOf.l0
      repeat' first
      | (with_reducible exact ih0 _ _ _)
      | (with_reducible exact LeO.refl _)
      | (with_reducible exact LeO.none _)
      | (with_reducible refine LeO.ite ?_ ?_)
      | (with_reducible refine LeO.bind ?_ (fun _ => ?_))
      | exact ih0 _ _ _
      | exact LeO.none _
      | refine LeO.ite ?_ ?_
      | refine LeO.bind ?_ (fun _ => ?_)
theorem capstanref04_bitsOf.mono : ∀ a0 k, LeO (capstanref04_bitsOf.f k a0) (capstanref04_bitsOf.f (k + 1) a0) := by
  intro a0 k
  have ih0 := capstanref04_bitsOf.mono_l k
  unfold capstanref04_bitsOf.f
  repeat' first
      | (with_reducible exact ih0 _ _ _)
      | (with_reducible exact LeO.refl _)
      | (with_reducible exact LeO.none _)
      | (with_reducible refine LeO.ite ?_ ?_)
      | (with_reducible refine LeO.bind ?_ (fun _ => ?_))
      | exact ih0 _ _ _
      | exact LeO.none _
      | refine LeO.ite ?_ ?_
      | refine LeO.bind ?_ (fun _ => ?_)
set_option maxHeartbeats 8000000 in
set_option maxRecDepth 100000 in
theorem capstanref04_bitsOf.calls (k : Nat) (A0 : Option Addr) (c0 : Nat) (l0 : List Bool) (r : Int) (w : World) (hr0 : Kd.C Kd.bool w A0 l0.length l0) (hc0 : l0.length ≤ c0) (h : capstanref04_bitsOf.f k l0 = some r) :
    Calls Tryd.prog 24 #[.slice A0 l0.length c0] w fun e w' => e = .returned (.int .u64 r) ∧ Drawn0 w w' := by
  have HR0 := Aside0.mk hr0
  have HC0 := Aside0.mk hc0
  clear hr0 hc0
  have H : (capstanref04_bitsOf.l0 k l0 0 0) = some r := h
  clear h
  have H' := Aside0.mk H
  clear H
  go_enter Tryd.func24, Tryd.ntmps24
  go_wp2
  go_loopg [3, 4] k (fun kq v3 v4 w' => ∃ (x3_1 : Int) (x4_1 : Int), v3 = .int .u64 x3_1 ∧ v4 = .int .i64 x4_1 ∧ Aside0 (capstanref04_bitsOf.l0 kq l0 x3_1 x4_1 = some r) ∧ Aside0 (kq ≤ k) ∧ Drawn0 w w')
  case atStart => exact ⟨(0), (0), (by first | rfl | (simp; done) | (simp [*]; done)), (by first | rfl | (simp; done) | (simp [*]; done)), H', ⟨Nat.le_refl _⟩, by repeat (first | exact Drawn0.refl _ | apply Drawn0.step)⟩
  case round =>
    clear H'
    obtain ⟨x3_1, x4_1, rfl, rfl, HA, HK1, ⟨m1, rfl⟩⟩ := hrel
    cases gk with
    | zero => exact absurd HA.out (by simp [capstanref04_bitsOf.l0])
    | succ k1 =>
      have H := HA.out
      clear HA
      simp only [capstanref04_bitsOf.l0] at H
      by_cases c2 : x4_1 < (l0.length : Int)
      · rw [if_pos c2] at H
        have c2b0 : decide (x4_1 < (l0.length : Int)) = true := decide_eq_true c2
        clear c2
        by_cases c3 : 0 ≤ x4_1
        · rw [if_pos c3] at H
          have c3b0 : decide (0 ≤ x4_1) = true := decide_eq_true c3
          clear c3
          obtain ⟨bq4, hbq4⟩ : ∃ b_ : Bool, b_ = (rdOf false l0 x4_1) := ⟨_, rfl⟩
          replace H : (if bq4 = true then (if 0 ≤ (IntKind.u64.wrap (x4_1)) then (capstanref04_bitsOf.l0 k1 l0 (IntKind.u64.wrap (x3_1 + (shl .u64 1 (IntKind.u64.wrap (x4_1))))) (wrap64 (x4_1 + 1))) else (none)) else (capstanref04_bitsOf.l0 k1 l0 x3_1 (wrap64 (x4_1 + 1)))) = some r := by rw [← hbq4] at H; exact H
          have Nbq4 := Aside0.mk hbq4
          clear hbq4
          by_cases c5 : bq4 = true
          · subst c5
            have H1 : (if 0 ≤ (IntKind.u64.wrap (x4_1)) then (capstanref04_bitsOf.l0 k1 l0 (IntKind.u64.wrap (x3_1 + (shl .u64 1 (IntKind.u64.wrap (x4_1))))) (wrap64 (x4_1 + 1))) else (none)) = some r := by rw [if_pos rfl] at H; exact H
            clear H
            have H := H1
            clear H1
            obtain ⟨ji6, hji6⟩ : ∃ j_ : Int, (IntKind.u64.wrap (x4_1)) = j_ := ⟨_, rfl⟩
            replace H : (if 0 ≤ (ji6) then (capstanref04_bitsOf.l0 k1 l0 (IntKind.u64.wrap (x3_1 + (shl .u64 1 (ji6)))) (wrap64 (x4_1 + 1))) else (none)) = some r := by first | (rw [hji6] at H; exact H) | (simp only [hji6] at H ⊢; exact H)
            by_cases c7 : 0 ≤ (ji6)
            · rw [if_pos c7] at H
              have c7b0 := eq_true c7
              have c7b1 : decide (0 ≤ (ji6)) = true := decide_eq_true c7
              clear c7
              obtain ⟨ji8, hji8⟩ : ∃ j_ : Int, (shl .u64 1 (ji6)) = j_ := ⟨_, rfl⟩
              replace H : (capstanref04_bitsOf.l0 k1 l0 (IntKind.u64.wrap (x3_1 + (ji8))) (wrap64 (x4_1 + 1))) = some r := by first | (rw [hji8] at H; exact H) | (simp only [hji8] at H ⊢; exact H)
              have hji8_ : (IntKind.u64.wrap (1 * 2 ^ min (ji6).toNat 64)) = ji8 := hji8
              have hji8z : (ji6) ≤ 64 → (IntKind.u64.wrap (1 * 2 ^ (ji6).toNat)) = ji8 := shl_small hji8
              have hji8u : (IntKind.u64.wrap (2 ^ min (ji6).toNat 64)) = ji8 := by have h_ := hji8_; rw [Int.one_mul] at h_; exact h_
              have hji8v : (ji6) ≤ 64 → (IntKind.u64.wrap (2 ^ (ji6).toNat)) = ji8 := fun hle_ => by have h_ := hji8z hle_; rw [Int.one_mul] at h_; exact h_
              have H' := Aside0.mk H
              clear H
              have p163 : 0 ≤ (x4_1 : Int) := of_decide_eq_true (by first | (with_reducible assumption) | assumption)
              have q163 : x4_1 < (l0.length : Int) := of_decide_eq_true (by first | (with_reducible assumption) | assumption)
              obtain ⟨ad163, e163, hx163_0⟩ := Kd.at_bool HR0.out x4_1 p163 q163
              (try rw [← Nbq4.out] at hx163_0)
              cases e163
              replace p163 := eq_true p163
              replace q163 := eq_true q163
              go_wp2
              go_roundg k1
              case measure => have := HK1.out; omega
              case rel => exact ⟨(IntKind.u64.wrap (x3_1 + (ji8))), (wrap64 (x4_1 + 1)), (by first | rfl | (simp; done) | (simp only [← hji8] <;> (first | rfl | simp)) | (simp [*]; done)), (by first | rfl | (simp; done) | (simp [*]; done)), H', ⟨by have := HK1.out; omega⟩, by repeat (first | exact Drawn0.refl _ | apply Drawn0.step)⟩
            · rw [if_neg c7] at H
              exact absurd H (by simp)
          · replace c5 := Bool.eq_false_iff.mpr c5
            subst c5
            have H1 : (capstanref04_bitsOf.l0 k1 l0 x3_1 (wrap64 (x4_1 + 1))) = some r := by rw [if_neg (show ¬ (false = true) by decide)] at H; exact H
            clear H
            have H := H1
            clear H1
            have H' := Aside0.mk H
            clear H
            have p163 : 0 ≤ (x4_1 : Int) := of_decide_eq_true (by first | (with_reducible assumption) | assumption)
            have q163 : x4_1 < (l0.length : Int) := of_decide_eq_true (by first | (with_reducible assumption) | assumption)
            obtain ⟨ad163, e163, hx163_0⟩ := Kd.at_bool HR0.out x4_1 p163 q163
            (try rw [← Nbq4.out] at hx163_0)
            cases e163
            replace p163 := eq_true p163
            replace q163 := eq_true q163
            go_wp2
            go_roundg k1
            case measure => have := HK1.out; omega
            case rel => exact ⟨(x3_1), (wrap64 (x4_1 + 1)), (by first | rfl | (simp; done) | (simp [*]; done)), (by first | rfl | (simp; done) | (simp [*]; done)), H', ⟨by have := HK1.out; omega⟩, by repeat (first | exact Drawn0.refl _ | apply Drawn0.step)⟩
        · rw [if_neg c3] at H
          exact absurd H (by simp)
      · rw [if_neg c2] at H
        have c2b0 : decide (x4_1 < (l0.length : Int)) = false := decide_eq_false c2
        clear c2
        obtain rfl := Option.some.inj H
        go_wp2
        go_ret
        exact ⟨by first | rfl | (simp; done) | (simp [*]; done), by repeat (first | exact Drawn0.refl _ | apply Drawn0.step)⟩

end Go.Proofs.YtkmcmgfmahildaaDoor.OA
