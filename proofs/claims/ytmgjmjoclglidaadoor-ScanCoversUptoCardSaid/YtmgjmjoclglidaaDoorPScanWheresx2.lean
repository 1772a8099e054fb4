-- PRINTED BY print.sh 35421559b90ae4d0a3588c463048766b98c2df88dd9212a6774a882060cdf62d: not written by this session
import Derived.Test.YtmgjmjoclglidaaDoorPScanWheresx0
namespace Go.Proofs.YtmgjmjoclglidaaDoor.PScanWheres
open Go.RowKit Go.Proofs.YtmgjmjoclglidaaDoorW.PrintWords Go.Proofs.YtmgjmjoclglidaaDoorW.PrintLast Go.Proofs.YtmgjmjoclglidaaDoorW.PrintMore
attribute [local go_sem] max2_int min2_int max_two min_two max_three min_three max_four min_four   -- for this text's walks alone
set_option linter.unusedVariables false
set_option linter.unusedSimpArgs false

/-! ### scan_letIn: function 20 -/
def scan_letIn.j0 : Nat → Int → Bool → Option (Bool)
  | 0, _, _ => none
  | k + 1, x0, x3 => if x3 = true then (some true) else (if x0 < 32 then (some false) else (if x0 ≥ 127 then (if x0 ≤ 159 then (some false) else (if x0 = 65279 then (some false) else (some true))) else (if x0 = 65279 then (some false) else (some true))))
def scan_letIn.f (k : Nat) (a0 : Int) : Option (Bool) := if a0 = 9 then (scan_letIn.j0 k a0 true) else (if a0 = 10 then (scan_letIn.j0 k a0 true) else (scan_letIn.j0 k a0 (a0 == 13)))
theorem scan_letIn.mono_l : ∀ k, (∀ y0 y1, LeO (scan_letIn.j0 k y0 y1) (scan_letIn.j0 (k + 1) y0 y1))
  | 0 => fun _ _ r h => by simp [scan_letIn.j0] at h
  | k + 1 => by
    have ih0 := scan_letIn.mono_l k
    · intro y0 y1
      unfold scan_letIn.j0
      repeat' first
      | (with_reducible exact ih0 _ _)
      | (with_reducible exact LeO.refl _)
      | (with_reducible exact LeO.none _)
      | (with_reducible refine LeO.ite ?_ ?_)
      | (with_reducible refine LeO.bind ?_ (fun _ => ?_))
      | exact ih0 _ _
      | exact LeO.none _
      | refine LeO.ite ?_ ?_
      | refine LeO.bind ?_ (fun _ => ?_)
theorem scan_letIn.mono : ∀ a0 k, LeO (scan_letIn.f k a0) (scan_letIn.f (k + 1) a0) := by
  intro a0 k
  have ih0 := scan_letIn.mono_l k
  unfold scan_letIn.f
  repeat' first
      | (with_reducible exact ih0 _ _)
      | (with_reducible exact LeO.refl _)
      | (with_reducible exact LeO.none _)
      | (with_reducible refine LeO.ite ?_ ?_)
      | (with_reducible refine LeO.bind ?_ (fun _ => ?_))
      | exact ih0 _ _
      | exact LeO.none _
      | refine LeO.ite ?_ ?_
      | refine LeO.bind ?_ (fun _ => ?_)
set_option maxHeartbeats 8000000 in
set_option maxRecDepth 100000 in
theorem scan_letIn.calls (k : Nat) (a0 : Int) (r : Bool) (w : World) (h : scan_letIn.f k a0 = some r) :
    Calls Tryd.prog 20 #[.int .i32 a0] w fun e w' => e = .returned (.bool r) ∧ Drawn0 w w' := by
  have H : (if a0 = 9 then (scan_letIn.j0 k a0 true) else (if a0 = 10 then (scan_letIn.j0 k a0 true) else (scan_letIn.j0 k a0 (a0 == 13)))) = some r := h
  clear h
  have HC2 := Aside0.mk H
  clear H
  go_enter Tryd.func20, Tryd.ntmps20
  go_upto_region 1 with (fail)
  go_cut [3] (fun v3 wc => ∃ (kq : Nat) (x3_1 : Bool), v3 = .bool x3_1 ∧ Aside0 (scan_letIn.j0 kq a0 x3_1 = some r) ∧ Aside0 (kq ≤ k) ∧ Drawn0 w wc)
  case first =>
    have H := HC2.out
    clear HC2
    by_cases c3 : a0 = 9
    · rw [if_pos c3] at H
      have c3b0 : (a0 == 9) = true := beq_iff_eq.mpr c3
      have c3b1 : (a0 != 9) = false := bne_eq_false_iff_eq.mpr c3
      clear c3
      (first | rw [c3b0] | (simp only [i64_w, i32_w]; rw [c3b0]) | skip)
      have H' := Aside0.mk H
      clear H
      go_wp2
      go_meet
      case rel => exact ⟨_, (true), (by first | rfl | (simp; done) | (simp [*]; done)), H', ⟨by first | omega | exact Nat.le_refl _⟩, by repeat (first | exact Drawn0.refl _ | apply Drawn0.step)⟩
    · rw [if_neg c3] at H
      have c3b0 : (a0 == 9) = false := beq_eq_false_iff_ne.mpr c3
      have c3b1 : (a0 != 9) = true := bne_iff_ne.mpr c3
      (first | rw [c3b0] | (simp only [i64_w, i32_w]; rw [c3b0]) | skip)
      by_cases c4 : a0 = 10
      · rw [if_pos c4] at H
        have c4b0 : (a0 == 10) = true := beq_iff_eq.mpr c4
        have c4b1 : (a0 != 10) = false := bne_eq_false_iff_eq.mpr c4
        clear c4
        have H' := Aside0.mk H
        clear H
        go_wp2
        go_meet
        case rel => exact ⟨_, (true), (by first | rfl | (simp; done) | (simp [*]; done)), H', ⟨by first | omega | exact Nat.le_refl _⟩, by repeat (first | exact Drawn0.refl _ | apply Drawn0.step)⟩
      · rw [if_neg c4] at H
        have c4b0 : (a0 == 10) = false := beq_eq_false_iff_ne.mpr c4
        have c4b1 : (a0 != 10) = true := bne_iff_ne.mpr c4
        have H' := Aside0.mk H
        clear H
        go_wp2
        go_meet
        case rel => exact ⟨_, ((a0 == 13)), (by first | rfl | (simp; done) | (simp [*]; done)), H', ⟨by first | omega | exact Nat.le_refl _⟩, by repeat (first | exact Drawn0.refl _ | apply Drawn0.step)⟩
  case rest =>
    clear HC2
    try clear c2
    try clear p2
    try clear c3
    try clear c3b0
    try clear c3b1
    try clear c4
    try clear c4b0
    try clear c4b1
    obtain ⟨kq, x3_1, rfl, HA, HJ1, ⟨mc1, rfl⟩⟩ := hcut
    cases kq with
    | zero => exact absurd HA.out (by simp [scan_letIn.j0])
    | succ kj1 =>
      have H := HA.out
      clear HA
      simp only [scan_letIn.j0] at H
      by_cases c5 : x3_1 = true
      · subst c5
        have H1 : (some true) = some r := by rw [if_pos rfl] at H; exact H
        clear H
        have H := H1
        clear H1
        obtain rfl := Option.some.inj H
        go_wp2
        go_ret
        exact ⟨by first | rfl | (simp; done) | (simp [*]; done), by repeat (first | exact Drawn0.refl _ | apply Drawn0.step)⟩
      · replace c5 := Bool.eq_false_iff.mpr c5
        subst c5
        have H1 : (if a0 < 32 then (some false) else (if a0 ≥ 127 then (if a0 ≤ 159 then (some false) else (if a0 = 65279 then (some false) else (some true))) else (if a0 = 65279 then (some false) else (some true)))) = some r := by rw [if_neg (show ¬ (false = true) by decide)] at H; exact H
        clear H
        have H := H1
        clear H1
        by_cases c6 : a0 < 32
        · rw [if_pos c6] at H
          have c6b0 : decide (a0 < 32) = true := decide_eq_true c6
          clear c6
          obtain rfl := Option.some.inj H
          go_wp2
          go_ret
          exact ⟨by first | rfl | (simp; done) | (simp [*]; done), by repeat (first | exact Drawn0.refl _ | apply Drawn0.step)⟩
        · rw [if_neg c6] at H
          have c6b0 : decide (a0 < 32) = false := decide_eq_false c6
          clear c6
          by_cases c7 : a0 ≥ 127
          · rw [if_pos c7] at H
            have c7b0 : decide (127 ≤ a0) = true := decide_eq_true c7
            clear c7
            by_cases c8 : a0 ≤ 159
            · rw [if_pos c8] at H
              have c8b0 : decide (a0 ≤ 159) = true := decide_eq_true c8
              clear c8
              obtain rfl := Option.some.inj H
              go_wp2
              go_ret
              exact ⟨by first | rfl | (simp; done) | (simp [*]; done), by repeat (first | exact Drawn0.refl _ | apply Drawn0.step)⟩
            · rw [if_neg c8] at H
              have c8b0 : decide (a0 ≤ 159) = false := decide_eq_false c8
              clear c8
              by_cases c9 : a0 = 65279
              · rw [if_pos c9] at H
                have c9b0 : (a0 == 65279) = true := beq_iff_eq.mpr c9
                have c9b1 : (a0 != 65279) = false := bne_eq_false_iff_eq.mpr c9
                clear c9
                obtain rfl := Option.some.inj H
                go_wp2
                go_ret
                exact ⟨by first | rfl | (simp; done) | (simp [*]; done), by repeat (first | exact Drawn0.refl _ | apply Drawn0.step)⟩
              · rw [if_neg c9] at H
                have c9b0 : (a0 == 65279) = false := beq_eq_false_iff_ne.mpr c9
                have c9b1 : (a0 != 65279) = true := bne_iff_ne.mpr c9
                obtain rfl := Option.some.inj H
                go_wp2
                go_ret
                exact ⟨by first | rfl | (simp; done) | (simp [*]; done), by repeat (first | exact Drawn0.refl _ | apply Drawn0.step)⟩
          · rw [if_neg c7] at H
            have c7b0 : decide (127 ≤ a0) = false := decide_eq_false c7
            clear c7
            by_cases c10 : a0 = 65279
            · rw [if_pos c10] at H
              have c10b0 : (a0 == 65279) = true := beq_iff_eq.mpr c10
              have c10b1 : (a0 != 65279) = false := bne_eq_false_iff_eq.mpr c10
              clear c10
              obtain rfl := Option.some.inj H
              go_wp2
              go_ret
              exact ⟨by first | rfl | (simp; done) | (simp [*]; done), by repeat (first | exact Drawn0.refl _ | apply Drawn0.step)⟩
            · rw [if_neg c10] at H
              have c10b0 : (a0 == 65279) = false := beq_eq_false_iff_ne.mpr c10
              have c10b1 : (a0 != 65279) = true := bne_iff_ne.mpr c10
              obtain rfl := Option.some.inj H
              go_wp2
              go_ret
              exact ⟨by first | rfl | (simp; done) | (simp [*]; done), by repeat (first | exact Drawn0.refl _ | apply Drawn0.step)⟩

end Go.Proofs.YtmgjmjoclglidaaDoor.PScanWheres
