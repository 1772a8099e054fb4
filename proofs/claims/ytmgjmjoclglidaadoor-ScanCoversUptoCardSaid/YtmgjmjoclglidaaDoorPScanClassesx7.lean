-- PRINTED BY print.sh 35421559b90ae4d0a3588c463048766b98c2df88dd9212a6774a882060cdf62d: not written by this session
import Derived.Test.YtmgjmjoclglidaaDoorPScanClassesx0
namespace Go.Proofs.YtmgjmjoclglidaaDoor.PScanClasses
open Go.RowKit Go.Proofs.YtmgjmjoclglidaaDoorW.PrintWords Go.Proofs.YtmgjmjoclglidaaDoorW.PrintLast Go.Proofs.YtmgjmjoclglidaaDoorW.PrintMore
attribute [local go_sem] max2_int min2_int max_two min_two max_three min_three max_four min_four   -- for this text's walks alone
set_option linter.unusedVariables false
set_option linter.unusedSimpArgs false

/-! ### capstanref09_Is: function 16 -/
mutual
def capstanref09_Is.j0 : Nat → Int → Int → Bool → Option (Bool)
  | 0, _, _, _ => none
  | k + 1, x0, x1, x5 => if x5 = true then (capstanref09_Is.j1 k x0 x1 true) else (if x0 ≥ 192 then (if x0 ≤ 591 then (if x0 = 215 then (capstanref09_Is.j1 k x0 x1 false) else (capstanref09_Is.j1 k x0 x1 (x0 != 247))) else (capstanref09_Is.j1 k x0 x1 false)) else (capstanref09_Is.j1 k x0 x1 false))
def capstanref09_Is.j1 : Nat → Int → Int → Bool → Option (Bool)
  | 0, _, _, _ => none
  | k + 1, x0, x1, x6 => if x0 ≥ 48 then (capstanref09_Is.j2 k x0 x1 x6 (decide (x0 ≤ 57))) else (capstanref09_Is.j2 k x0 x1 x6 false)
def capstanref09_Is.j2 : Nat → Int → Int → Bool → Bool → Option (Bool)
  | 0, _, _, _, _ => none
  | k + 1, x0, x1, x6, x7 => if x1 = 1 then (some x6) else (if x1 = 2 then (some x7) else (if x1 = 3 then (if x6 = true then (some true) else (some x7)) else (if x1 = 4 then (if x0 = 32 then (some true) else (if x0 = 9 then (some true) else (if x0 = 10 then (some true) else (some (x0 == 13))))) else (some false))))
end
def capstanref09_Is.f (k : Nat) (a0 : Int) (a1 : Int) : Option (Bool) := if a0 ≥ 97 then (if a0 ≤ 122 then (capstanref09_Is.j0 k a0 a1 true) else (if a0 ≥ 65 then (if a0 ≤ 90 then (capstanref09_Is.j0 k a0 a1 true) else (capstanref09_Is.j0 k a0 a1 (a0 == 95))) else (capstanref09_Is.j0 k a0 a1 (a0 == 95)))) else (if a0 ≥ 65 then (if a0 ≤ 90 then (capstanref09_Is.j0 k a0 a1 true) else (capstanref09_Is.j0 k a0 a1 (a0 == 95))) else (capstanref09_Is.j0 k a0 a1 (a0 == 95)))
theorem capstanref09_Is.mono_l : ∀ k, (∀ y0 y1 y2, LeO (capstanref09_Is.j0 k y0 y1 y2) (capstanref09_Is.j0 (k + 1) y0 y1 y2)) ∧ (∀ y0 y1 y2, LeO (capstanref09_Is.j1 k y0 y1 y2) (capstanref09_Is.j1 (k + 1) y0 y1 y2)) ∧ (∀ y0 y1 y2 y3, LeO (capstanref09_Is.j2 k y0 y1 y2 y3) (capstanref09_Is.j2 (k + 1) y0 y1 y2 y3))
  | 0 => ⟨fun _ _ _ r h => by simp [capstanref09_Is.j0] at h, fun _ _ _ r h => by simp [capstanref09_Is.j1] at h, fun _ _ _ _ r h => by simp [capstanref09_Is.j2] at h⟩
  | k + 1 => by
    obtain ⟨ih0, ih1, ih2⟩ := capstanref09_Is.mono_l k
    refine ⟨?_, ?_, ?_⟩
    · intro y0 y1 y2
      unfold capstanref09_Is.j0
      repeat' first
      | (with_reducible exact ih0 _ _ _)
      | (with_reducible exact ih1 _ _ _)
      | (with_reducible exact ih2 _ _ _ _)
      | (with_reducible exact LeO.refl _)
      | (with_reducible exact LeO.none _)
      | (with_reducible refine LeO.ite ?_ ?_)
      | (with_reducible refine LeO.bind ?_ (fun _ => ?_))
      | exact ih0 _ _ _
      | exact ih1 _ _ _
      | exact ih2 _ _ _ _
      | exact LeO.none _
      | refine LeO.ite ?_ ?_
      | refine LeO.bind ?_ (fun _ => ?_)
    · intro y0 y1 y2
      unfold capstanref09_Is.j1
      repeat' first
      | (with_reducible exact ih0 _ _ _)
      | (with_reducible exact ih1 _ _ _)
      | (with_reducible exact ih2 _ _ _ _)
      | (with_reducible exact LeO.refl _)
      | (with_reducible exact LeO.none _)
      | (with_reducible refine LeO.ite ?_ ?_)
      | (with_reducible refine LeO.bind ?_ (fun _ => ?_))
      | exact ih0 _ _ _
      | exact ih1 _ _ _
      | exact ih2 _ _ _ _
      | exact LeO.none _
      | refine LeO.ite ?_ ?_
      | refine LeO.bind ?_ (fun _ => ?_)
    · intro y0 y1 y2 y3
      unfold capstanref09_Is.j2
      repeat' first
      | (with_reducible exact ih0 _ _ _)
      | (with_reducible exact ih1 _ _ _)
      | (with_reducible exact ih2 _ _ _ _)
      | (with_reducible exact LeO.refl _)
      | (with_reducible exact LeO.none _)
      | (with_reducible refine LeO.ite ?_ ?_)
      | (with_reducible refine LeO.bind ?_ (fun _ => ?_))
      | exact ih0 _ _ _
      | exact ih1 _ _ _
      | exact ih2 _ _ _ _
      | exact LeO.none _
      | refine LeO.ite ?_ ?_
      | refine LeO.bind ?_ (fun _ => ?_)
theorem capstanref09_Is.mono : ∀ a0 a1 k, LeO (capstanref09_Is.f k a0 a1) (capstanref09_Is.f (k + 1) a0 a1) := by
  intro a0 a1 k
  obtain ⟨ih0, ih1, ih2⟩ := capstanref09_Is.mono_l k
  unfold capstanref09_Is.f
  repeat' first
      | (with_reducible exact ih0 _ _ _)
      | (with_reducible exact ih1 _ _ _)
      | (with_reducible exact ih2 _ _ _ _)
      | (with_reducible exact LeO.refl _)
      | (with_reducible exact LeO.none _)
      | (with_reducible refine LeO.ite ?_ ?_)
      | (with_reducible refine LeO.bind ?_ (fun _ => ?_))
      | exact ih0 _ _ _
      | exact ih1 _ _ _
      | exact ih2 _ _ _ _
      | exact LeO.none _
      | refine LeO.ite ?_ ?_
      | refine LeO.bind ?_ (fun _ => ?_)
set_option maxHeartbeats 8000000 in
set_option maxRecDepth 100000 in
theorem capstanref09_Is.calls (k : Nat) (a0 : Int) (a1 : Int) (r : Bool) (w : World) (h : capstanref09_Is.f k a0 a1 = some r) :
    Calls Tryd.prog 16 #[.int .i64 a0, .int .i64 a1] w fun e w' => e = .returned (.bool r) ∧ Drawn0 w w' := by
  have H : (if a0 ≥ 97 then (if a0 ≤ 122 then (capstanref09_Is.j0 k a0 a1 true) else (if a0 ≥ 65 then (if a0 ≤ 90 then (capstanref09_Is.j0 k a0 a1 true) else (capstanref09_Is.j0 k a0 a1 (a0 == 95))) else (capstanref09_Is.j0 k a0 a1 (a0 == 95)))) else (if a0 ≥ 65 then (if a0 ≤ 90 then (capstanref09_Is.j0 k a0 a1 true) else (capstanref09_Is.j0 k a0 a1 (a0 == 95))) else (capstanref09_Is.j0 k a0 a1 (a0 == 95)))) = some r := h
  clear h
  have HC3 := Aside0.mk H
  clear H
  go_enter Tryd.func16, Tryd.ntmps16
  go_upto_region 1 with (fail)
  go_cut [5] (fun v5 wc => ∃ (kq : Nat) (x5_2 : Bool), v5 = .bool x5_2 ∧ Aside0 (capstanref09_Is.j0 kq a0 a1 x5_2 = some r) ∧ Aside0 (kq ≤ k) ∧ Drawn0 w wc)
  case first =>
    have H := HC3.out
    clear HC3
    by_cases c4 : a0 ≥ 97
    · rw [if_pos c4] at H
      have c4b0 : decide (97 ≤ a0) = true := decide_eq_true c4
      clear c4
      (first | rw [c4b0] | (simp only [i64_w, i32_w]; rw [c4b0]) | skip)
      by_cases c5 : a0 ≤ 122
      · rw [if_pos c5] at H
        have c5b0 : decide (a0 ≤ 122) = true := decide_eq_true c5
        clear c5
        have H' := Aside0.mk H
        clear H
        go_wp2
        go_meet
        case rel => exact ⟨_, (true), (by first | rfl | (simp; done) | (simp [*]; done)), H', ⟨by first | omega | exact Nat.le_refl _⟩, by repeat (first | exact Drawn0.refl _ | apply Drawn0.step)⟩
      · rw [if_neg c5] at H
        have c5b0 : decide (a0 ≤ 122) = false := decide_eq_false c5
        clear c5
        by_cases c6 : a0 ≥ 65
        · rw [if_pos c6] at H
          have c6b0 : decide (65 ≤ a0) = true := decide_eq_true c6
          clear c6
          by_cases c7 : a0 ≤ 90
          · rw [if_pos c7] at H
            have c7b0 : decide (a0 ≤ 90) = true := decide_eq_true c7
            clear c7
            have H' := Aside0.mk H
            clear H
            go_wp2
            go_meet
            case rel => exact ⟨_, (true), (by first | rfl | (simp; done) | (simp [*]; done)), H', ⟨by first | omega | exact Nat.le_refl _⟩, by repeat (first | exact Drawn0.refl _ | apply Drawn0.step)⟩
          · rw [if_neg c7] at H
            have c7b0 : decide (a0 ≤ 90) = false := decide_eq_false c7
            clear c7
            have H' := Aside0.mk H
            clear H
            go_wp2
            go_meet
            case rel => exact ⟨_, ((a0 == 95)), (by first | rfl | (simp; done) | (simp [*]; done)), H', ⟨by first | omega | exact Nat.le_refl _⟩, by repeat (first | exact Drawn0.refl _ | apply Drawn0.step)⟩
        · rw [if_neg c6] at H
          have c6b0 : decide (65 ≤ a0) = false := decide_eq_false c6
          clear c6
          have H' := Aside0.mk H
          clear H
          go_wp2
          go_meet
          case rel => exact ⟨_, ((a0 == 95)), (by first | rfl | (simp; done) | (simp [*]; done)), H', ⟨by first | omega | exact Nat.le_refl _⟩, by repeat (first | exact Drawn0.refl _ | apply Drawn0.step)⟩
    · rw [if_neg c4] at H
      have c4b0 : decide (97 ≤ a0) = false := decide_eq_false c4
      clear c4
      (first | rw [c4b0] | (simp only [i64_w, i32_w]; rw [c4b0]) | skip)
      by_cases c8 : a0 ≥ 65
      · rw [if_pos c8] at H
        have c8b0 : decide (65 ≤ a0) = true := decide_eq_true c8
        clear c8
        by_cases c9 : a0 ≤ 90
        · rw [if_pos c9] at H
          have c9b0 : decide (a0 ≤ 90) = true := decide_eq_true c9
          clear c9
          have H' := Aside0.mk H
          clear H
          go_wp2
          go_meet
          case rel => exact ⟨_, (true), (by first | rfl | (simp; done) | (simp [*]; done)), H', ⟨by first | omega | exact Nat.le_refl _⟩, by repeat (first | exact Drawn0.refl _ | apply Drawn0.step)⟩
        · rw [if_neg c9] at H
          have c9b0 : decide (a0 ≤ 90) = false := decide_eq_false c9
          clear c9
          have H' := Aside0.mk H
          clear H
          go_wp2
          go_meet
          case rel => exact ⟨_, ((a0 == 95)), (by first | rfl | (simp; done) | (simp [*]; done)), H', ⟨by first | omega | exact Nat.le_refl _⟩, by repeat (first | exact Drawn0.refl _ | apply Drawn0.step)⟩
      · rw [if_neg c8] at H
        have c8b0 : decide (65 ≤ a0) = false := decide_eq_false c8
        clear c8
        have H' := Aside0.mk H
        clear H
        go_wp2
        go_meet
        case rel => exact ⟨_, ((a0 == 95)), (by first | rfl | (simp; done) | (simp [*]; done)), H', ⟨by first | omega | exact Nat.le_refl _⟩, by repeat (first | exact Drawn0.refl _ | apply Drawn0.step)⟩
  case rest =>
    clear HC3
    try clear c1
    try clear p2
    try clear c4
    try clear c4b0
    try clear c5
    try clear c5b0
    try clear c6
    try clear c6b0
    try clear c7
    try clear c7b0
    try clear c8
    try clear c8b0
    try clear c9
    try clear c9b0
    obtain ⟨kq, x5_2, rfl, HA, HJ2, ⟨mc2, rfl⟩⟩ := hcut
    cases kq with
    | zero => exact absurd HA.out (by simp [capstanref09_Is.j0])
    | succ kj2 =>
      have H := HA.out
      clear HA
      simp only [capstanref09_Is.j0] at H
      have HC10 := Aside0.mk H
      clear H
      go_upto_region 2 with (fail)
      go_cut [6] (fun v6 wc => ∃ (kq : Nat) (x6_9 : Bool), v6 = .bool x6_9 ∧ Aside0 (capstanref09_Is.j1 kq a0 a1 x6_9 = some r) ∧ Aside0 (kq ≤ kj2) ∧ Drawn0 w wc)
      case first =>
        have H := HC10.out
        clear HC10
        by_cases c11 : x5_2 = true
        · subst c11
          have H1 : (capstanref09_Is.j1 kj2 a0 a1 true) = some r := by rw [if_pos rfl] at H; exact H
          clear H
          have H := H1
          clear H1
          have H' := Aside0.mk H
          clear H
          go_wp2
          go_meet
          case rel => exact ⟨_, (true), (by first | rfl | (simp; done) | (simp [*]; done)), H', ⟨by have := HJ2.out; first | omega | exact Nat.le_refl _⟩, by repeat (first | exact Drawn0.refl _ | apply Drawn0.step)⟩
        · replace c11 := Bool.eq_false_iff.mpr c11
          subst c11
          have H1 : (if a0 ≥ 192 then (if a0 ≤ 591 then (if a0 = 215 then (capstanref09_Is.j1 kj2 a0 a1 false) else (capstanref09_Is.j1 kj2 a0 a1 (a0 != 247))) else (capstanref09_Is.j1 kj2 a0 a1 false)) else (capstanref09_Is.j1 kj2 a0 a1 false)) = some r := by rw [if_neg (show ¬ (false = true) by decide)] at H; exact H
          clear H
          have H := H1
          clear H1
          by_cases c12 : a0 ≥ 192
          · rw [if_pos c12] at H
            have c12b0 : decide (192 ≤ a0) = true := decide_eq_true c12
            clear c12
            (first | rw [c12b0] | (simp only [i64_w, i32_w]; rw [c12b0]) | skip)
            by_cases c13 : a0 ≤ 591
            · rw [if_pos c13] at H
              have c13b0 : decide (a0 ≤ 591) = true := decide_eq_true c13
              clear c13
              by_cases c14 : a0 = 215
              · rw [if_pos c14] at H
                have c14b0 : (a0 == 215) = true := beq_iff_eq.mpr c14
                have c14b1 : (a0 != 215) = false := bne_eq_false_iff_eq.mpr c14
                clear c14
                have H' := Aside0.mk H
                clear H
                go_wp2
                go_meet
                case rel => exact ⟨_, (false), (by first | rfl | (simp; done) | (simp [*]; done)), H', ⟨by have := HJ2.out; first | omega | exact Nat.le_refl _⟩, by repeat (first | exact Drawn0.refl _ | apply Drawn0.step)⟩
              · rw [if_neg c14] at H
                have c14b0 : (a0 == 215) = false := beq_eq_false_iff_ne.mpr c14
                have c14b1 : (a0 != 215) = true := bne_iff_ne.mpr c14
                have H' := Aside0.mk H
                clear H
                go_wp2
                go_meet
                case rel => exact ⟨_, ((a0 != 247)), (by first | rfl | (simp; done) | (simp [*]; done)), H', ⟨by have := HJ2.out; first | omega | exact Nat.le_refl _⟩, by repeat (first | exact Drawn0.refl _ | apply Drawn0.step)⟩
            · rw [if_neg c13] at H
              have c13b0 : decide (a0 ≤ 591) = false := decide_eq_false c13
              clear c13
              have H' := Aside0.mk H
              clear H
              go_wp2
              go_meet
              case rel => exact ⟨_, (false), (by first | rfl | (simp; done) | (simp [*]; done)), H', ⟨by have := HJ2.out; first | omega | exact Nat.le_refl _⟩, by repeat (first | exact Drawn0.refl _ | apply Drawn0.step)⟩
          · rw [if_neg c12] at H
            have c12b0 : decide (192 ≤ a0) = false := decide_eq_false c12
            clear c12
            (first | rw [c12b0] | (simp only [i64_w, i32_w]; rw [c12b0]) | skip)
            have H' := Aside0.mk H
            clear H
            go_wp2
            go_meet
            case rel => exact ⟨_, (false), (by first | rfl | (simp; done) | (simp [*]; done)), H', ⟨by have := HJ2.out; first | omega | exact Nat.le_refl _⟩, by repeat (first | exact Drawn0.refl _ | apply Drawn0.step)⟩
      case rest =>
        clear HC10
        try clear c1
        try clear c2
        try clear p2
        try clear c4
        try clear c4b0
        try clear c5
        try clear c5b0
        try clear c6
        try clear c6b0
        try clear c7
        try clear c7b0
        try clear c8
        try clear c8b0
        try clear c9
        try clear c9b0
        try clear c11
        try clear c12
        try clear c12b0
        try clear c13
        try clear c13b0
        try clear c14
        try clear c14b0
        try clear c14b1
        try clear p2
        obtain ⟨kq, x6_9, rfl, HA, HJ9, ⟨mc9, rfl⟩⟩ := hcut
        cases kq with
        | zero => exact absurd HA.out (by simp [capstanref09_Is.j1])
        | succ kj9 =>
          have H := HA.out
          clear HA
          simp only [capstanref09_Is.j1] at H
          have HC15 := Aside0.mk H
          clear H
          go_upto_region 3 with (fail)
          go_cut [7] (fun v7 wc => ∃ (kq : Nat) (x7_14 : Bool), v7 = .bool x7_14 ∧ Aside0 (capstanref09_Is.j2 kq a0 a1 x6_9 x7_14 = some r) ∧ Aside0 (kq ≤ kj9) ∧ Drawn0 w wc)
          case first =>
            have H := HC15.out
            clear HC15
            by_cases c16 : a0 ≥ 48
            · rw [if_pos c16] at H
              have c16b0 : decide (48 ≤ a0) = true := decide_eq_true c16
              clear c16
              (first | rw [c16b0] | (simp only [i64_w, i32_w]; rw [c16b0]) | skip)
              have H' := Aside0.mk H
              clear H
              go_wp2
              go_meet
              case rel => exact ⟨_, (decide (a0 ≤ 57)), (by first | rfl | (simp; done) | (simp [*]; done)), H', ⟨by have := HJ2.out; have := HJ9.out; first | omega | exact Nat.le_refl _⟩, by repeat (first | exact Drawn0.refl _ | apply Drawn0.step)⟩
            · rw [if_neg c16] at H
              have c16b0 : decide (48 ≤ a0) = false := decide_eq_false c16
              clear c16
              (first | rw [c16b0] | (simp only [i64_w, i32_w]; rw [c16b0]) | skip)
              have H' := Aside0.mk H
              clear H
              go_wp2
              go_meet
              case rel => exact ⟨_, (false), (by first | rfl | (simp; done) | (simp [*]; done)), H', ⟨by have := HJ2.out; have := HJ9.out; first | omega | exact Nat.le_refl _⟩, by repeat (first | exact Drawn0.refl _ | apply Drawn0.step)⟩
          case rest =>
            clear HC15
            try clear c1
            try clear c2
            try clear p2
            try clear c4
            try clear c4b0
            try clear c5
            try clear c5b0
            try clear c6
            try clear c6b0
            try clear c7
            try clear c7b0
            try clear c8
            try clear c8b0
            try clear c9
            try clear c9b0
            try clear c11
            try clear c12
            try clear c12b0
            try clear c13
            try clear c13b0
            try clear c14
            try clear c14b0
            try clear c14b1
            try clear c16
            try clear c16b0
            try clear p2
            obtain ⟨kq, x7_14, rfl, HA, HJ14, ⟨mc14, rfl⟩⟩ := hcut
            cases kq with
            | zero => exact absurd HA.out (by simp [capstanref09_Is.j2])
            | succ kj14 =>
              have H := HA.out
              clear HA
              simp only [capstanref09_Is.j2] at H
              by_cases c17 : a1 = 1
              · rw [if_pos c17] at H
                have c17b0 : (a1 == 1) = true := beq_iff_eq.mpr c17
                have c17b1 : (a1 != 1) = false := bne_eq_false_iff_eq.mpr c17
                clear c17
                obtain rfl := Option.some.inj H
                go_wp2
                go_ret
                exact ⟨by first | rfl | (simp; done) | (simp [*]; done), by repeat (first | exact Drawn0.refl _ | apply Drawn0.step)⟩
              · rw [if_neg c17] at H
                have c17b0 : (a1 == 1) = false := beq_eq_false_iff_ne.mpr c17
                have c17b1 : (a1 != 1) = true := bne_iff_ne.mpr c17
                by_cases c18 : a1 = 2
                · rw [if_pos c18] at H
                  have c18b0 : (a1 == 2) = true := beq_iff_eq.mpr c18
                  have c18b1 : (a1 != 2) = false := bne_eq_false_iff_eq.mpr c18
                  clear c18
                  obtain rfl := Option.some.inj H
                  go_wp2
                  go_ret
                  exact ⟨by first | rfl | (simp; done) | (simp [*]; done), by repeat (first | exact Drawn0.refl _ | apply Drawn0.step)⟩
                · rw [if_neg c18] at H
                  have c18b0 : (a1 == 2) = false := beq_eq_false_iff_ne.mpr c18
                  have c18b1 : (a1 != 2) = true := bne_iff_ne.mpr c18
                  by_cases c19 : a1 = 3
                  · rw [if_pos c19] at H
                    have c19b0 : (a1 == 3) = true := beq_iff_eq.mpr c19
                    have c19b1 : (a1 != 3) = false := bne_eq_false_iff_eq.mpr c19
                    clear c19
                    by_cases c20 : x6_9 = true
                    · subst c20
                      have H1 : (some true) = some r := by rw [if_pos rfl] at H; exact H
                      clear H
                      have H := H1
                      clear H1
                      obtain rfl := Option.some.inj H
                      go_wp2
                      go_ret
                      exact ⟨by first | rfl | (simp; done) | (simp [*]; done), by repeat (first | exact Drawn0.refl _ | apply Drawn0.step)⟩
                    · replace c20 := Bool.eq_false_iff.mpr c20
                      subst c20
                      have H1 : (some x7_14) = some r := by rw [if_neg (show ¬ (false = true) by decide)] at H; exact H
                      clear H
                      have H := H1
                      clear H1
                      obtain rfl := Option.some.inj H
                      go_wp2
                      go_ret
                      exact ⟨by first | rfl | (simp; done) | (simp [*]; done), by repeat (first | exact Drawn0.refl _ | apply Drawn0.step)⟩
                  · rw [if_neg c19] at H
                    have c19b0 : (a1 == 3) = false := beq_eq_false_iff_ne.mpr c19
                    have c19b1 : (a1 != 3) = true := bne_iff_ne.mpr c19
                    by_cases c21 : a1 = 4
                    · rw [if_pos c21] at H
                      have c21b0 : (a1 == 4) = true := beq_iff_eq.mpr c21
                      have c21b1 : (a1 != 4) = false := bne_eq_false_iff_eq.mpr c21
                      clear c21
                      by_cases c22 : a0 = 32
                      · rw [if_pos c22] at H
                        have c22b0 : (a0 == 32) = true := beq_iff_eq.mpr c22
                        have c22b1 : (a0 != 32) = false := bne_eq_false_iff_eq.mpr c22
                        clear c22
                        obtain rfl := Option.some.inj H
                        go_wp2
                        go_ret
                        exact ⟨by first | rfl | (simp; done) | (simp [*]; done), by repeat (first | exact Drawn0.refl _ | apply Drawn0.step)⟩
                      · rw [if_neg c22] at H
                        have c22b0 : (a0 == 32) = false := beq_eq_false_iff_ne.mpr c22
                        have c22b1 : (a0 != 32) = true := bne_iff_ne.mpr c22
                        by_cases c23 : a0 = 9
                        · rw [if_pos c23] at H
                          have c23b0 : (a0 == 9) = true := beq_iff_eq.mpr c23
                          have c23b1 : (a0 != 9) = false := bne_eq_false_iff_eq.mpr c23
                          clear c23
                          obtain rfl := Option.some.inj H
                          go_wp2
                          go_ret
                          exact ⟨by first | rfl | (simp; done) | (simp [*]; done), by repeat (first | exact Drawn0.refl _ | apply Drawn0.step)⟩
                        · rw [if_neg c23] at H
                          have c23b0 : (a0 == 9) = false := beq_eq_false_iff_ne.mpr c23
                          have c23b1 : (a0 != 9) = true := bne_iff_ne.mpr c23
                          by_cases c24 : a0 = 10
                          · rw [if_pos c24] at H
                            have c24b0 : (a0 == 10) = true := beq_iff_eq.mpr c24
                            have c24b1 : (a0 != 10) = false := bne_eq_false_iff_eq.mpr c24
                            clear c24
                            obtain rfl := Option.some.inj H
                            go_wp2
                            go_ret
                            exact ⟨by first | rfl | (simp; done) | (simp [*]; done), by repeat (first | exact Drawn0.refl _ | apply Drawn0.step)⟩
                          · rw [if_neg c24] at H
                            have c24b0 : (a0 == 10) = false := beq_eq_false_iff_ne.mpr c24
                            have c24b1 : (a0 != 10) = true := bne_iff_ne.mpr c24
                            obtain rfl := Option.some.inj H
                            go_wp2
                            go_ret
                            exact ⟨by first | rfl | (simp; done) | (simp [*]; done), by repeat (first | exact Drawn0.refl _ | apply Drawn0.step)⟩
                    · rw [if_neg c21] at H
                      have c21b0 : (a1 == 4) = false := beq_eq_false_iff_ne.mpr c21
                      have c21b1 : (a1 != 4) = true := bne_iff_ne.mpr c21
                      obtain rfl := Option.some.inj H
                      go_wp2
                      go_ret
                      exact ⟨by first | rfl | (simp; done) | (simp [*]; done), by repeat (first | exact Drawn0.refl _ | apply Drawn0.step)⟩

end Go.Proofs.YtmgjmjoclglidaaDoor.PScanClasses
