/- Walks of functions, written by a program (wip/tools/own.py) over hand contracts; conditions: as each theorem states. -/
import Derived.Test.YtdplfphgomckfaaDoorOPx0
namespace Go.Proofs.YtdplfphgomckfaaDoor.OP
open Go.RowKit Go.Proofs.YtdplfphgomckfaaDoorW.PrintWords Go.Proofs.YtdplfphgomckfaaDoorW.PrintLast Go.Proofs.YtdplfphgomckfaaDoorW.PrintMore
attribute [local go_sem] max2_int min2_int max_two min_two max_three min_three max_four min_four   -- for this text's walks alone
set_option linter.unusedVariables false
set_option linter.unusedSimpArgs false

/-! ### capstanref02_upTo: function 39 -/
def capstanref02_upTo.l0 : Nat → ByteArray → Int → Bool → Option (Int)
 | 0, _, _, _ => none
 | k + 1, x0, x1, x2 => if x1 < (x0.size : Int) then (if 0 ≤ x1 then (if (bt x0 x1) ≥ 97 then (if (bt x0 x1) ≤ 122 then (if x2 = true then (if (bt x0 x1) < 48 then (some x1) else (if (bt x0 x1) > 57 then (some x1) else (capstanref02_upTo.l0 k x0 (wrap64 (x1 + 1)) x2))) else (capstanref02_upTo.l0 k x0 (wrap64 (x1 + 1)) x2)) else (if (bt x0 x1) ≥ 65 then (if x2 = true then (if (bt x0 x1) < 48 then (some x1) else (if (bt x0 x1) > 57 then (some x1) else (capstanref02_upTo.l0 k x0 (wrap64 (x1 + 1)) x2))) else (if ((bt x0 x1) ≤ 90) then (capstanref02_upTo.l0 k x0 (wrap64 (x1 + 1)) x2) else (some x1))) else (if x2 = true then (if (bt x0 x1) < 48 then (some x1) else (if (bt x0 x1) > 57 then (some x1) else (capstanref02_upTo.l0 k x0 (wrap64 (x1 + 1)) x2))) else (some x1)))) else (if (bt x0 x1) ≥ 65 then (if x2 = true then (if (bt x0 x1) < 48 then (some x1) else (if (bt x0 x1) > 57 then (some x1) else (capstanref02_upTo.l0 k x0 (wrap64 (x1 + 1)) x2))) else (if ((bt x0 x1) ≤ 90) then (capstanref02_upTo.l0 k x0 (wrap64 (x1 + 1)) x2) else (some x1))) else (if x2 = true then (if (bt x0 x1) < 48 then (some x1) else (if (bt x0 x1) > 57 then (some x1) else (capstanref02_upTo.l0 k x0 (wrap64 (x1 + 1)) x2))) else (some x1)))) else (none)) else (some x1)
def capstanref02_upTo.f (k : Nat) (a0 : ByteArray) (a1 : Int) (a2 : Bool) : Option (Int) := capstanref02_upTo.l0 k a0 a1 a2
theorem capstanref02_upTo.mono_l : ∀ k, (∀ y0 y1 y2, LeO (capstanref02_upTo.l0 k y0 y1 y2) (capstanref02_upTo.l0 (k + 1) y0 y1 y2))
 | 0 => fun _ _ _ r h => by simp [capstanref02_upTo.l0] at h
 | k + 1 => by
  have ih0 := capstanref02_upTo.mono_l k
  ·intro y0 y1 y2
   unfold capstanref02_upTo.l0
   repeat' first
   | (with_reducible exact ih0 _ _ _)
   | (with_reducible exact LeO.refl _)
   | (with_reducible exact LeO.none _)
   | (with_reducible refine LeO.ite ?_ ?_)
   | (with_reducible refine LeO.bind ?_ (fun _ => ?_))
   | exact ih0 _ _ _
   | exact LeO.none _
   | refine LeO.ite ?_ ?_
   | refine LeO.bind ?_ (fun _ => ?_)
theorem capstanref02_upTo.mono : ∀ a0 a1 a2 k, LeO (capstanref02_upTo.f k a0 a1 a2) (capstanref02_upTo.f (k + 1) a0 a1 a2) := by
 intro a0 a1 a2 k
 have ih0 := capstanref02_upTo.mono_l k
 unfold capstanref02_upTo.f
 repeat' first
   | (with_reducible exact ih0 _ _ _)
   | (with_reducible exact LeO.refl _)
   | (with_reducible exact LeO.none _)
   | (with_reducible refine LeO.ite ?_ ?_)
   | (with_reducible refine LeO.bind ?_ (fun _ => ?_))
   | exact ih0 _ _ _
   | exact LeO.none _
   | refine LeO.ite ?_ ?_
   | refine LeO.bind ?_ (fun _ => ?_)
set_option maxHeartbeats 8000000 in
set_option maxRecDepth 100000 in
theorem capstanref02_upTo.calls (k : Nat) (a0 : ByteArray) (a1 : Int) (a2 : Bool) (r : Int) (w : World) (h : capstanref02_upTo.f k a0 a1 a2 = some r) :
  Calls Tryd.prog 39 #[.string a0, .int .i64 a1, .bool a2] w fun e w' => e = .returned (.int .i64 r) ∧ Drawn0 w w' := by
 have H : (capstanref02_upTo.l0 k a0 a1 a2) = some r := h
 clear h
 have H' := Aside0.mk H
 clear H
 go_enter Tryd.func39, Tryd.ntmps39
 go_wp2
 go_loopg [1] k (fun kq v1 w' => ∃ (x1_1 : Int), v1 = .int .i64 x1_1 ∧ Aside0 (capstanref02_upTo.l0 kq a0 x1_1 a2 = some r) ∧ Aside0 (kq ≤ k) ∧ Drawn0 w w')
 case atStart => exact ⟨(a1), (by first | rfl | (simp; done) | (simp [*]; done)), H', ⟨Nat.le_refl _⟩, by repeat (first | exact Drawn0.refl _ | apply Drawn0.step)⟩
 case round =>
  clear H'
  obtain ⟨x1_1, rfl, HA, HK1, ⟨m1, rfl⟩⟩ := hrel
  cases gk with
  | zero => exact absurd HA.out (by simp [capstanref02_upTo.l0])
  | succ k1 =>
   have H := HA.out
   clear HA
   simp only [capstanref02_upTo.l0] at H
   by_cases c4 : x1_1 < (a0.size : Int)
   ·rw [if_pos c4] at H
    have c4b0 : decide (x1_1 < (a0.size : Int)) = true := decide_eq_true c4
    clear c4
    by_cases c5 : 0 ≤ x1_1
    ·rw [if_pos c5] at H
     have c5b0 : decide (0 ≤ x1_1) = true := decide_eq_true c5
     clear c5
     by_cases c7 : (bt a0 x1_1) ≥ 97
     ·rw [if_pos c7] at H
      have c7b0 : decide (97 ≤ (bt a0 x1_1)) = true := decide_eq_true c7
      clear c7
      by_cases c8 : (bt a0 x1_1) ≤ 122
      ·rw [if_pos c8] at H
       have c8b0 : decide ((bt a0 x1_1) ≤ 122) = true := decide_eq_true c8
       clear c8
       by_cases c9 : a2 = true
       ·subst c9
        have H1 : (if (bt a0 x1_1) < 48 then (some x1_1) else (if (bt a0 x1_1) > 57 then (some x1_1) else (capstanref02_upTo.l0 k1 a0 (wrap64 (x1_1 + 1)) true))) = some r := by rw [if_pos rfl] at H; exact H
        clear H
        have H := H1
        clear H1
        by_cases c10 : (bt a0 x1_1) < 48
        ·rw [if_pos c10] at H
         have c10b0 : decide ((bt a0 x1_1) < 48) = true := decide_eq_true c10
         clear c10
         obtain rfl := Option.some.inj H
         have p6 : 0 ≤ (x1_1 : Int) := of_decide_eq_true (by first | (with_reducible assumption) | assumption)
         have q6 : x1_1 < (a0.size : Int) := of_decide_eq_true (by first | (with_reducible assumption) | assumption)
         have hx6 := bt_at a0 x1_1
         replace p6 := eq_true p6
         replace q6 := eq_true q6
         go_wp2
         go_ret
         exact ⟨by first | rfl | (simp; done) | (simp [*]; done), by repeat (first | exact Drawn0.refl _ | apply Drawn0.step)⟩
        ·rw [if_neg c10] at H
         have c10b0 : decide ((bt a0 x1_1) < 48) = false := decide_eq_false c10
         clear c10
         by_cases c11 : (bt a0 x1_1) > 57
         ·rw [if_pos c11] at H
          have c11b0 : decide (57 < (bt a0 x1_1)) = true := decide_eq_true c11
          clear c11
          obtain rfl := Option.some.inj H
          have p6 : 0 ≤ (x1_1 : Int) := of_decide_eq_true (by first | (with_reducible assumption) | assumption)
          have q6 : x1_1 < (a0.size : Int) := of_decide_eq_true (by first | (with_reducible assumption) | assumption)
          have hx6 := bt_at a0 x1_1
          replace p6 := eq_true p6
          replace q6 := eq_true q6
          go_wp2
          go_ret
          exact ⟨by first | rfl | (simp; done) | (simp [*]; done), by repeat (first | exact Drawn0.refl _ | apply Drawn0.step)⟩
         ·rw [if_neg c11] at H
          have c11b0 : decide (57 < (bt a0 x1_1)) = false := decide_eq_false c11
          clear c11
          have H' := Aside0.mk H
          clear H
          have p6 : 0 ≤ (x1_1 : Int) := of_decide_eq_true (by first | (with_reducible assumption) | assumption)
          have q6 : x1_1 < (a0.size : Int) := of_decide_eq_true (by first | (with_reducible assumption) | assumption)
          have hx6 := bt_at a0 x1_1
          replace p6 := eq_true p6
          replace q6 := eq_true q6
          go_wp2
          go_roundg k1
          case measure => have := HK1.out; omega
          case rel => exact ⟨(wrap64 (x1_1 + 1)), (by first | rfl | (simp; done) | (simp [*]; done)), H', ⟨by have := HK1.out; omega⟩, by repeat (first | exact Drawn0.refl _ | apply Drawn0.step)⟩
       ·replace c9 := Bool.eq_false_iff.mpr c9
        subst c9
        have H1 : (capstanref02_upTo.l0 k1 a0 (wrap64 (x1_1 + 1)) false) = some r := by rw [if_neg (show ¬ (false = true) by decide)] at H; exact H
        clear H
        have H := H1
        clear H1
        have H' := Aside0.mk H
        clear H
        have p6 : 0 ≤ (x1_1 : Int) := of_decide_eq_true (by first | (with_reducible assumption) | assumption)
        have q6 : x1_1 < (a0.size : Int) := of_decide_eq_true (by first | (with_reducible assumption) | assumption)
        have hx6 := bt_at a0 x1_1
        replace p6 := eq_true p6
        replace q6 := eq_true q6
        go_wp2
        go_roundg k1
        case measure => have := HK1.out; omega
        case rel => exact ⟨(wrap64 (x1_1 + 1)), (by first | rfl | (simp; done) | (simp [*]; done)), H', ⟨by have := HK1.out; omega⟩, by repeat (first | exact Drawn0.refl _ | apply Drawn0.step)⟩
      ·rw [if_neg c8] at H
       have c8b0 : decide ((bt a0 x1_1) ≤ 122) = false := decide_eq_false c8
       clear c8
       by_cases c12 : (bt a0 x1_1) ≥ 65
       ·rw [if_pos c12] at H
        have c12b0 : decide (65 ≤ (bt a0 x1_1)) = true := decide_eq_true c12
        clear c12
        by_cases c13 : a2 = true
        ·subst c13
         have H1 : (if (bt a0 x1_1) < 48 then (some x1_1) else (if (bt a0 x1_1) > 57 then (some x1_1) else (capstanref02_upTo.l0 k1 a0 (wrap64 (x1_1 + 1)) true))) = some r := by rw [if_pos rfl] at H; exact H
         clear H
         have H := H1
         clear H1
         by_cases c14 : (bt a0 x1_1) < 48
         ·rw [if_pos c14] at H
          have c14b0 : decide ((bt a0 x1_1) < 48) = true := decide_eq_true c14
          clear c14
          obtain rfl := Option.some.inj H
          have p6 : 0 ≤ (x1_1 : Int) := of_decide_eq_true (by first | (with_reducible assumption) | assumption)
          have q6 : x1_1 < (a0.size : Int) := of_decide_eq_true (by first | (with_reducible assumption) | assumption)
          have hx6 := bt_at a0 x1_1
          replace p6 := eq_true p6
          replace q6 := eq_true q6
          go_wp2
          go_ret
          exact ⟨by first | rfl | (simp; done) | (simp [*]; done), by repeat (first | exact Drawn0.refl _ | apply Drawn0.step)⟩
         ·rw [if_neg c14] at H
          have c14b0 : decide ((bt a0 x1_1) < 48) = false := decide_eq_false c14
          clear c14
          by_cases c15 : (bt a0 x1_1) > 57
          ·rw [if_pos c15] at H
           have c15b0 : decide (57 < (bt a0 x1_1)) = true := decide_eq_true c15
           clear c15
           obtain rfl := Option.some.inj H
           have p6 : 0 ≤ (x1_1 : Int) := of_decide_eq_true (by first | (with_reducible assumption) | assumption)
           have q6 : x1_1 < (a0.size : Int) := of_decide_eq_true (by first | (with_reducible assumption) | assumption)
           have hx6 := bt_at a0 x1_1
           replace p6 := eq_true p6
           replace q6 := eq_true q6
           go_wp2
           go_ret
           exact ⟨by first | rfl | (simp; done) | (simp [*]; done), by repeat (first | exact Drawn0.refl _ | apply Drawn0.step)⟩
          ·rw [if_neg c15] at H
           have c15b0 : decide (57 < (bt a0 x1_1)) = false := decide_eq_false c15
           clear c15
           have H' := Aside0.mk H
           clear H
           have p6 : 0 ≤ (x1_1 : Int) := of_decide_eq_true (by first | (with_reducible assumption) | assumption)
           have q6 : x1_1 < (a0.size : Int) := of_decide_eq_true (by first | (with_reducible assumption) | assumption)
           have hx6 := bt_at a0 x1_1
           replace p6 := eq_true p6
           replace q6 := eq_true q6
           go_wp2
           go_roundg k1
           case measure => have := HK1.out; omega
           case rel => exact ⟨(wrap64 (x1_1 + 1)), (by first | rfl | (simp; done) | (simp [*]; done)), H', ⟨by have := HK1.out; omega⟩, by repeat (first | exact Drawn0.refl _ | apply Drawn0.step)⟩
        ·replace c13 := Bool.eq_false_iff.mpr c13
         subst c13
         have H1 : (if ((bt a0 x1_1) ≤ 90) then (capstanref02_upTo.l0 k1 a0 (wrap64 (x1_1 + 1)) false) else (some x1_1)) = some r := by rw [if_neg (show ¬ (false = true) by decide)] at H; exact H
         clear H
         have H := H1
         clear H1
         by_cases c16 : ((bt a0 x1_1) ≤ 90)
         ·rw [if_pos c16] at H
          have c16b0 : decide ((bt a0 x1_1) ≤ 90) = true := decide_eq_true c16
          clear c16
          have H' := Aside0.mk H
          clear H
          have p6 : 0 ≤ (x1_1 : Int) := of_decide_eq_true (by first | (with_reducible assumption) | assumption)
          have q6 : x1_1 < (a0.size : Int) := of_decide_eq_true (by first | (with_reducible assumption) | assumption)
          have hx6 := bt_at a0 x1_1
          replace p6 := eq_true p6
          replace q6 := eq_true q6
          go_wp2
          go_roundg k1
          case measure => have := HK1.out; omega
          case rel => exact ⟨(wrap64 (x1_1 + 1)), (by first | rfl | (simp; done) | (simp [*]; done)), H', ⟨by have := HK1.out; omega⟩, by repeat (first | exact Drawn0.refl _ | apply Drawn0.step)⟩
         ·rw [if_neg c16] at H
          have c16b0 : decide ((bt a0 x1_1) ≤ 90) = false := decide_eq_false c16
          clear c16
          obtain rfl := Option.some.inj H
          have p6 : 0 ≤ (x1_1 : Int) := of_decide_eq_true (by first | (with_reducible assumption) | assumption)
          have q6 : x1_1 < (a0.size : Int) := of_decide_eq_true (by first | (with_reducible assumption) | assumption)
          have hx6 := bt_at a0 x1_1
          replace p6 := eq_true p6
          replace q6 := eq_true q6
          go_wp2
          go_ret
          exact ⟨by first | rfl | (simp; done) | (simp [*]; done), by repeat (first | exact Drawn0.refl _ | apply Drawn0.step)⟩
       ·rw [if_neg c12] at H
        have c12b0 : decide (65 ≤ (bt a0 x1_1)) = false := decide_eq_false c12
        clear c12
        by_cases c17 : a2 = true
        ·subst c17
         have H1 : (if (bt a0 x1_1) < 48 then (some x1_1) else (if (bt a0 x1_1) > 57 then (some x1_1) else (capstanref02_upTo.l0 k1 a0 (wrap64 (x1_1 + 1)) true))) = some r := by rw [if_pos rfl] at H; exact H
         clear H
         have H := H1
         clear H1
         by_cases c18 : (bt a0 x1_1) < 48
         ·rw [if_pos c18] at H
          have c18b0 : decide ((bt a0 x1_1) < 48) = true := decide_eq_true c18
          clear c18
          obtain rfl := Option.some.inj H
          have p6 : 0 ≤ (x1_1 : Int) := of_decide_eq_true (by first | (with_reducible assumption) | assumption)
          have q6 : x1_1 < (a0.size : Int) := of_decide_eq_true (by first | (with_reducible assumption) | assumption)
          have hx6 := bt_at a0 x1_1
          replace p6 := eq_true p6
          replace q6 := eq_true q6
          go_wp2
          go_ret
          exact ⟨by first | rfl | (simp; done) | (simp [*]; done), by repeat (first | exact Drawn0.refl _ | apply Drawn0.step)⟩
         ·rw [if_neg c18] at H
          have c18b0 : decide ((bt a0 x1_1) < 48) = false := decide_eq_false c18
          clear c18
          by_cases c19 : (bt a0 x1_1) > 57
          ·rw [if_pos c19] at H
           have c19b0 : decide (57 < (bt a0 x1_1)) = true := decide_eq_true c19
           clear c19
           obtain rfl := Option.some.inj H
           have p6 : 0 ≤ (x1_1 : Int) := of_decide_eq_true (by first | (with_reducible assumption) | assumption)
           have q6 : x1_1 < (a0.size : Int) := of_decide_eq_true (by first | (with_reducible assumption) | assumption)
           have hx6 := bt_at a0 x1_1
           replace p6 := eq_true p6
           replace q6 := eq_true q6
           go_wp2
           go_ret
           exact ⟨by first | rfl | (simp; done) | (simp [*]; done), by repeat (first | exact Drawn0.refl _ | apply Drawn0.step)⟩
          ·rw [if_neg c19] at H
           have c19b0 : decide (57 < (bt a0 x1_1)) = false := decide_eq_false c19
           clear c19
           have H' := Aside0.mk H
           clear H
           have p6 : 0 ≤ (x1_1 : Int) := of_decide_eq_true (by first | (with_reducible assumption) | assumption)
           have q6 : x1_1 < (a0.size : Int) := of_decide_eq_true (by first | (with_reducible assumption) | assumption)
           have hx6 := bt_at a0 x1_1
           replace p6 := eq_true p6
           replace q6 := eq_true q6
           go_wp2
           go_roundg k1
           case measure => have := HK1.out; omega
           case rel => exact ⟨(wrap64 (x1_1 + 1)), (by first | rfl | (simp; done) | (simp [*]; done)), H', ⟨by have := HK1.out; omega⟩, by repeat (first | exact Drawn0.refl _ | apply Drawn0.step)⟩
        ·replace c17 := Bool.eq_false_iff.mpr c17
         subst c17
         have H1 : (some x1_1) = some r := by rw [if_neg (show ¬ (false = true) by decide)] at H; exact H
         clear H
         have H := H1
         clear H1
         obtain rfl := Option.some.inj H
         have p6 : 0 ≤ (x1_1 : Int) := of_decide_eq_true (by first | (with_reducible assumption) | assumption)
         have q6 : x1_1 < (a0.size : Int) := of_decide_eq_true (by first | (with_reducible assumption) | assumption)
         have hx6 := bt_at a0 x1_1
         replace p6 := eq_true p6
         replace q6 := eq_true q6
         go_wp2
         go_ret
         exact ⟨by first | rfl | (simp; done) | (simp [*]; done), by repeat (first | exact Drawn0.refl _ | apply Drawn0.step)⟩
     ·rw [if_neg c7] at H
      have c7b0 : decide (97 ≤ (bt a0 x1_1)) = false := decide_eq_false c7
      clear c7
      by_cases c20 : (bt a0 x1_1) ≥ 65
      ·rw [if_pos c20] at H
       have c20b0 : decide (65 ≤ (bt a0 x1_1)) = true := decide_eq_true c20
       clear c20
       by_cases c21 : a2 = true
       ·subst c21
        have H1 : (if (bt a0 x1_1) < 48 then (some x1_1) else (if (bt a0 x1_1) > 57 then (some x1_1) else (capstanref02_upTo.l0 k1 a0 (wrap64 (x1_1 + 1)) true))) = some r := by rw [if_pos rfl] at H; exact H
        clear H
        have H := H1
        clear H1
        by_cases c22 : (bt a0 x1_1) < 48
        ·rw [if_pos c22] at H
         have c22b0 : decide ((bt a0 x1_1) < 48) = true := decide_eq_true c22
         clear c22
         obtain rfl := Option.some.inj H
         have p6 : 0 ≤ (x1_1 : Int) := of_decide_eq_true (by first | (with_reducible assumption) | assumption)
         have q6 : x1_1 < (a0.size : Int) := of_decide_eq_true (by first | (with_reducible assumption) | assumption)
         have hx6 := bt_at a0 x1_1
         replace p6 := eq_true p6
         replace q6 := eq_true q6
         go_wp2
         go_ret
         exact ⟨by first | rfl | (simp; done) | (simp [*]; done), by repeat (first | exact Drawn0.refl _ | apply Drawn0.step)⟩
        ·rw [if_neg c22] at H
         have c22b0 : decide ((bt a0 x1_1) < 48) = false := decide_eq_false c22
         clear c22
         by_cases c23 : (bt a0 x1_1) > 57
         ·rw [if_pos c23] at H
          have c23b0 : decide (57 < (bt a0 x1_1)) = true := decide_eq_true c23
          clear c23
          obtain rfl := Option.some.inj H
          have p6 : 0 ≤ (x1_1 : Int) := of_decide_eq_true (by first | (with_reducible assumption) | assumption)
          have q6 : x1_1 < (a0.size : Int) := of_decide_eq_true (by first | (with_reducible assumption) | assumption)
          have hx6 := bt_at a0 x1_1
          replace p6 := eq_true p6
          replace q6 := eq_true q6
          go_wp2
          go_ret
          exact ⟨by first | rfl | (simp; done) | (simp [*]; done), by repeat (first | exact Drawn0.refl _ | apply Drawn0.step)⟩
         ·rw [if_neg c23] at H
          have c23b0 : decide (57 < (bt a0 x1_1)) = false := decide_eq_false c23
          clear c23
          have H' := Aside0.mk H
          clear H
          have p6 : 0 ≤ (x1_1 : Int) := of_decide_eq_true (by first | (with_reducible assumption) | assumption)
          have q6 : x1_1 < (a0.size : Int) := of_decide_eq_true (by first | (with_reducible assumption) | assumption)
          have hx6 := bt_at a0 x1_1
          replace p6 := eq_true p6
          replace q6 := eq_true q6
          go_wp2
          go_roundg k1
          case measure => have := HK1.out; omega
          case rel => exact ⟨(wrap64 (x1_1 + 1)), (by first | rfl | (simp; done) | (simp [*]; done)), H', ⟨by have := HK1.out; omega⟩, by repeat (first | exact Drawn0.refl _ | apply Drawn0.step)⟩
       ·replace c21 := Bool.eq_false_iff.mpr c21
        subst c21
        have H1 : (if ((bt a0 x1_1) ≤ 90) then (capstanref02_upTo.l0 k1 a0 (wrap64 (x1_1 + 1)) false) else (some x1_1)) = some r := by rw [if_neg (show ¬ (false = true) by decide)] at H; exact H
        clear H
        have H := H1
        clear H1
        by_cases c24 : ((bt a0 x1_1) ≤ 90)
        ·rw [if_pos c24] at H
         have c24b0 : decide ((bt a0 x1_1) ≤ 90) = true := decide_eq_true c24
         clear c24
         have H' := Aside0.mk H
         clear H
         have p6 : 0 ≤ (x1_1 : Int) := of_decide_eq_true (by first | (with_reducible assumption) | assumption)
         have q6 : x1_1 < (a0.size : Int) := of_decide_eq_true (by first | (with_reducible assumption) | assumption)
         have hx6 := bt_at a0 x1_1
         replace p6 := eq_true p6
         replace q6 := eq_true q6
         go_wp2
         go_roundg k1
         case measure => have := HK1.out; omega
         case rel => exact ⟨(wrap64 (x1_1 + 1)), (by first | rfl | (simp; done) | (simp [*]; done)), H', ⟨by have := HK1.out; omega⟩, by repeat (first | exact Drawn0.refl _ | apply Drawn0.step)⟩
        ·rw [if_neg c24] at H
         have c24b0 : decide ((bt a0 x1_1) ≤ 90) = false := decide_eq_false c24
         clear c24
         obtain rfl := Option.some.inj H
         have p6 : 0 ≤ (x1_1 : Int) := of_decide_eq_true (by first | (with_reducible assumption) | assumption)
         have q6 : x1_1 < (a0.size : Int) := of_decide_eq_true (by first | (with_reducible assumption) | assumption)
         have hx6 := bt_at a0 x1_1
         replace p6 := eq_true p6
         replace q6 := eq_true q6
         go_wp2
         go_ret
         exact ⟨by first | rfl | (simp; done) | (simp [*]; done), by repeat (first | exact Drawn0.refl _ | apply Drawn0.step)⟩
      ·rw [if_neg c20] at H
       have c20b0 : decide (65 ≤ (bt a0 x1_1)) = false := decide_eq_false c20
       clear c20
       by_cases c25 : a2 = true
       ·subst c25
        have H1 : (if (bt a0 x1_1) < 48 then (some x1_1) else (if (bt a0 x1_1) > 57 then (some x1_1) else (capstanref02_upTo.l0 k1 a0 (wrap64 (x1_1 + 1)) true))) = some r := by rw [if_pos rfl] at H; exact H
        clear H
        have H := H1
        clear H1
        by_cases c26 : (bt a0 x1_1) < 48
        ·rw [if_pos c26] at H
         have c26b0 : decide ((bt a0 x1_1) < 48) = true := decide_eq_true c26
         clear c26
         obtain rfl := Option.some.inj H
         have p6 : 0 ≤ (x1_1 : Int) := of_decide_eq_true (by first | (with_reducible assumption) | assumption)
         have q6 : x1_1 < (a0.size : Int) := of_decide_eq_true (by first | (with_reducible assumption) | assumption)
         have hx6 := bt_at a0 x1_1
         replace p6 := eq_true p6
         replace q6 := eq_true q6
         go_wp2
         go_ret
         exact ⟨by first | rfl | (simp; done) | (simp [*]; done), by repeat (first | exact Drawn0.refl _ | apply Drawn0.step)⟩
        ·rw [if_neg c26] at H
         have c26b0 : decide ((bt a0 x1_1) < 48) = false := decide_eq_false c26
         clear c26
         by_cases c27 : (bt a0 x1_1) > 57
         ·rw [if_pos c27] at H
          have c27b0 : decide (57 < (bt a0 x1_1)) = true := decide_eq_true c27
          clear c27
          obtain rfl := Option.some.inj H
          have p6 : 0 ≤ (x1_1 : Int) := of_decide_eq_true (by first | (with_reducible assumption) | assumption)
          have q6 : x1_1 < (a0.size : Int) := of_decide_eq_true (by first | (with_reducible assumption) | assumption)
          have hx6 := bt_at a0 x1_1
          replace p6 := eq_true p6
          replace q6 := eq_true q6
          go_wp2
          go_ret
          exact ⟨by first | rfl | (simp; done) | (simp [*]; done), by repeat (first | exact Drawn0.refl _ | apply Drawn0.step)⟩
         ·rw [if_neg c27] at H
          have c27b0 : decide (57 < (bt a0 x1_1)) = false := decide_eq_false c27
          clear c27
          have H' := Aside0.mk H
          clear H
          have p6 : 0 ≤ (x1_1 : Int) := of_decide_eq_true (by first | (with_reducible assumption) | assumption)
          have q6 : x1_1 < (a0.size : Int) := of_decide_eq_true (by first | (with_reducible assumption) | assumption)
          have hx6 := bt_at a0 x1_1
          replace p6 := eq_true p6
          replace q6 := eq_true q6
          go_wp2
          go_roundg k1
          case measure => have := HK1.out; omega
          case rel => exact ⟨(wrap64 (x1_1 + 1)), (by first | rfl | (simp; done) | (simp [*]; done)), H', ⟨by have := HK1.out; omega⟩, by repeat (first | exact Drawn0.refl _ | apply Drawn0.step)⟩
       ·replace c25 := Bool.eq_false_iff.mpr c25
        subst c25
        have H1 : (some x1_1) = some r := by rw [if_neg (show ¬ (false = true) by decide)] at H; exact H
        clear H
        have H := H1
        clear H1
        obtain rfl := Option.some.inj H
        have p6 : 0 ≤ (x1_1 : Int) := of_decide_eq_true (by first | (with_reducible assumption) | assumption)
        have q6 : x1_1 < (a0.size : Int) := of_decide_eq_true (by first | (with_reducible assumption) | assumption)
        have hx6 := bt_at a0 x1_1
        replace p6 := eq_true p6
        replace q6 := eq_true q6
        go_wp2
        go_ret
        exact ⟨by first | rfl | (simp; done) | (simp [*]; done), by repeat (first | exact Drawn0.refl _ | apply Drawn0.step)⟩
    ·rw [if_neg c5] at H
     exact absurd H (by simp)
   ·rw [if_neg c4] at H
    have c4b0 : decide (x1_1 < (a0.size : Int)) = false := decide_eq_false c4
    clear c4
    obtain rfl := Option.some.inj H
    go_wp2
    go_ret
    exact ⟨by first | rfl | (simp; done) | (simp [*]; done), by repeat (first | exact Drawn0.refl _ | apply Drawn0.step)⟩



/-! ### capstanref02_Names: function 22 -/
def capstanref02_Names.f  : Option ((List (S52))) := some (([(⟨(⟨#[111, 110, 101]⟩ : ByteArray), (⟨0, 0, 0⟩ : S46), (-1)⟩ : S52), (⟨(⟨#[112, 99, 116]⟩ : ByteArray), (⟨(-2), 0, (-2)⟩ : S46), (-1)⟩ : S52), (⟨(⟨#[115]⟩ : ByteArray), (⟨0, 0, 0⟩ : S46), 0⟩ : S52), (⟨(⟨#[109, 115]⟩ : ByteArray), (⟨(-3), 0, (-3)⟩ : S46), 0⟩ : S52), (⟨(⟨#[109, 105, 110]⟩ : ByteArray), (⟨2, 1, 1⟩ : S46), 0⟩ : S52), (⟨(⟨#[104]⟩ : ByteArray), (⟨4, 2, 2⟩ : S46), 0⟩ : S52), (⟨(⟨#[100]⟩ : ByteArray), (⟨7, 3, 2⟩ : S46), 0⟩ : S52), (⟨(⟨#[114, 101, 113]⟩ : ByteArray), (⟨0, 0, 0⟩ : S46), 1⟩ : S52), (⟨(⟨#[107, 114, 101, 113]⟩ : ByteArray), (⟨3, 0, 3⟩ : S46), 1⟩ : S52), (⟨(⟨#[66]⟩ : ByteArray), (⟨0, 0, 0⟩ : S46), 2⟩ : S52), (⟨(⟨#[107, 66]⟩ : ByteArray), (⟨3, 0, 3⟩ : S46), 2⟩ : S52), (⟨(⟨#[77, 66]⟩ : ByteArray), (⟨6, 0, 6⟩ : S46), 2⟩ : S52), (⟨(⟨#[75, 105, 66]⟩ : ByteArray), (⟨10, 0, 0⟩ : S46), 2⟩ : S52), (⟨(⟨#[77, 105, 66]⟩ : ByteArray), (⟨20, 0, 0⟩ : S46), 2⟩ : S52), (⟨(⟨#[71, 105, 66]⟩ : ByteArray), (⟨30, 0, 0⟩ : S46), 2⟩ : S52), (⟨(⟨#[114, 101, 112]⟩ : ByteArray), (⟨0, 0, 0⟩ : S46), 3⟩ : S52), (⟨(⟨#[99, 111, 114, 101]⟩ : ByteArray), (⟨0, 0, 0⟩ : S46), 4⟩ : S52), (⟨(⟨#[109, 99, 111, 114, 101]⟩ : ByteArray), (⟨(-3), 0, (-3)⟩ : S46), 4⟩ : S52)] : List (S52)))
set_option maxHeartbeats 8000000 in
set_option maxRecDepth 100000 in
theorem capstanref02_Names.calls  (r : List (S52)) (w : World) (h : capstanref02_Names.f  = some r) :
  Calls Tryd.prog 22 #[] w fun e w' => ∃ v0_ : Value, e = .returned (v0_) ∧ Kd.R k52 52 w' w.heap.size (fun _ => True) v0_ r ∧ Below w.heap.size w w' := by
 have hu46 := Tryd.underlying46
 have hu52 := Tryd.underlying52
 have HB := Aside0.mk (Below.refl w.heap.size w)
 have H : (some (([(⟨(⟨#[111, 110, 101]⟩ : ByteArray), (⟨0, 0, 0⟩ : S46), (-1)⟩ : S52), (⟨(⟨#[112, 99, 116]⟩ : ByteArray), (⟨(-2), 0, (-2)⟩ : S46), (-1)⟩ : S52), (⟨(⟨#[115]⟩ : ByteArray), (⟨0, 0, 0⟩ : S46), 0⟩ : S52), (⟨(⟨#[109, 115]⟩ : ByteArray), (⟨(-3), 0, (-3)⟩ : S46), 0⟩ : S52), (⟨(⟨#[109, 105, 110]⟩ : ByteArray), (⟨2, 1, 1⟩ : S46), 0⟩ : S52), (⟨(⟨#[104]⟩ : ByteArray), (⟨4, 2, 2⟩ : S46), 0⟩ : S52), (⟨(⟨#[100]⟩ : ByteArray), (⟨7, 3, 2⟩ : S46), 0⟩ : S52), (⟨(⟨#[114, 101, 113]⟩ : ByteArray), (⟨0, 0, 0⟩ : S46), 1⟩ : S52), (⟨(⟨#[107, 114, 101, 113]⟩ : ByteArray), (⟨3, 0, 3⟩ : S46), 1⟩ : S52), (⟨(⟨#[66]⟩ : ByteArray), (⟨0, 0, 0⟩ : S46), 2⟩ : S52), (⟨(⟨#[107, 66]⟩ : ByteArray), (⟨3, 0, 3⟩ : S46), 2⟩ : S52), (⟨(⟨#[77, 66]⟩ : ByteArray), (⟨6, 0, 6⟩ : S46), 2⟩ : S52), (⟨(⟨#[75, 105, 66]⟩ : ByteArray), (⟨10, 0, 0⟩ : S46), 2⟩ : S52), (⟨(⟨#[77, 105, 66]⟩ : ByteArray), (⟨20, 0, 0⟩ : S46), 2⟩ : S52), (⟨(⟨#[71, 105, 66]⟩ : ByteArray), (⟨30, 0, 0⟩ : S46), 2⟩ : S52), (⟨(⟨#[114, 101, 112]⟩ : ByteArray), (⟨0, 0, 0⟩ : S46), 3⟩ : S52), (⟨(⟨#[99, 111, 114, 101]⟩ : ByteArray), (⟨0, 0, 0⟩ : S46), 4⟩ : S52), (⟨(⟨#[109, 99, 111, 114, 101]⟩ : ByteArray), (⟨(-3), 0, (-3)⟩ : S46), 4⟩ : S52)] : List (S52)))) = some r := h
 clear h
 obtain ⟨y101, hy101⟩ : ∃ y_ : List (S52), y_ = (([(⟨(⟨#[111, 110, 101]⟩ : ByteArray), (⟨0, 0, 0⟩ : S46), (-1)⟩ : S52), (⟨(⟨#[112, 99, 116]⟩ : ByteArray), (⟨(-2), 0, (-2)⟩ : S46), (-1)⟩ : S52), (⟨(⟨#[115]⟩ : ByteArray), (⟨0, 0, 0⟩ : S46), 0⟩ : S52), (⟨(⟨#[109, 115]⟩ : ByteArray), (⟨(-3), 0, (-3)⟩ : S46), 0⟩ : S52), (⟨(⟨#[109, 105, 110]⟩ : ByteArray), (⟨2, 1, 1⟩ : S46), 0⟩ : S52), (⟨(⟨#[104]⟩ : ByteArray), (⟨4, 2, 2⟩ : S46), 0⟩ : S52), (⟨(⟨#[100]⟩ : ByteArray), (⟨7, 3, 2⟩ : S46), 0⟩ : S52), (⟨(⟨#[114, 101, 113]⟩ : ByteArray), (⟨0, 0, 0⟩ : S46), 1⟩ : S52), (⟨(⟨#[107, 114, 101, 113]⟩ : ByteArray), (⟨3, 0, 3⟩ : S46), 1⟩ : S52), (⟨(⟨#[66]⟩ : ByteArray), (⟨0, 0, 0⟩ : S46), 2⟩ : S52), (⟨(⟨#[107, 66]⟩ : ByteArray), (⟨3, 0, 3⟩ : S46), 2⟩ : S52), (⟨(⟨#[77, 66]⟩ : ByteArray), (⟨6, 0, 6⟩ : S46), 2⟩ : S52), (⟨(⟨#[75, 105, 66]⟩ : ByteArray), (⟨10, 0, 0⟩ : S46), 2⟩ : S52), (⟨(⟨#[77, 105, 66]⟩ : ByteArray), (⟨20, 0, 0⟩ : S46), 2⟩ : S52), (⟨(⟨#[71, 105, 66]⟩ : ByteArray), (⟨30, 0, 0⟩ : S46), 2⟩ : S52), (⟨(⟨#[114, 101, 112]⟩ : ByteArray), (⟨0, 0, 0⟩ : S46), 3⟩ : S52), (⟨(⟨#[99, 111, 114, 101]⟩ : ByteArray), (⟨0, 0, 0⟩ : S46), 4⟩ : S52), (⟨(⟨#[109, 99, 111, 114, 101]⟩ : ByteArray), (⟨(-3), 0, (-3)⟩ : S46), 4⟩ : S52)] : List (S52))) := ⟨_, rfl⟩
 replace H : (some y101) = some r := by first | (rw [hy101]; with_reducible exact H) | (have H2_ := (Option.bind_some _ _).symm.trans H; rw [hy101]; with_reducible exact H2_) | (have H2_ := (Option.bind_some _ _).symm.trans H; with_reducible exact H2_) | with_reducible exact H | (rw [hy101]; exact H) | exact H
 have Ny101 := Aside0.mk hy101
 clear hy101
 obtain rfl := Option.some.inj H
 go_enter Tryd.func22, Tryd.ntmps22
 go_wp2_with (first | ((with_reducible refine gate_dst (N := 37) rfl ?_); refine Kd.R_lit k52 _ 52 ?hg (N := 37) ?hd (xs := ([(⟨(⟨#[111, 110, 101]⟩ : ByteArray), (⟨0, 0, 0⟩ : S46), (-1)⟩ : S52), (⟨(⟨#[112, 99, 116]⟩ : ByteArray), (⟨(-2), 0, (-2)⟩ : S46), (-1)⟩ : S52), (⟨(⟨#[115]⟩ : ByteArray), (⟨0, 0, 0⟩ : S46), 0⟩ : S52), (⟨(⟨#[109, 115]⟩ : ByteArray), (⟨(-3), 0, (-3)⟩ : S46), 0⟩ : S52), (⟨(⟨#[109, 105, 110]⟩ : ByteArray), (⟨2, 1, 1⟩ : S46), 0⟩ : S52), (⟨(⟨#[104]⟩ : ByteArray), (⟨4, 2, 2⟩ : S46), 0⟩ : S52), (⟨(⟨#[100]⟩ : ByteArray), (⟨7, 3, 2⟩ : S46), 0⟩ : S52), (⟨(⟨#[114, 101, 113]⟩ : ByteArray), (⟨0, 0, 0⟩ : S46), 1⟩ : S52), (⟨(⟨#[107, 114, 101, 113]⟩ : ByteArray), (⟨3, 0, 3⟩ : S46), 1⟩ : S52), (⟨(⟨#[66]⟩ : ByteArray), (⟨0, 0, 0⟩ : S46), 2⟩ : S52), (⟨(⟨#[107, 66]⟩ : ByteArray), (⟨3, 0, 3⟩ : S46), 2⟩ : S52), (⟨(⟨#[77, 66]⟩ : ByteArray), (⟨6, 0, 6⟩ : S46), 2⟩ : S52), (⟨(⟨#[75, 105, 66]⟩ : ByteArray), (⟨10, 0, 0⟩ : S46), 2⟩ : S52), (⟨(⟨#[77, 105, 66]⟩ : ByteArray), (⟨20, 0, 0⟩ : S46), 2⟩ : S52), (⟨(⟨#[71, 105, 66]⟩ : ByteArray), (⟨30, 0, 0⟩ : S46), 2⟩ : S52), (⟨(⟨#[114, 101, 112]⟩ : ByteArray), (⟨0, 0, 0⟩ : S46), 3⟩ : S52), (⟨(⟨#[99, 111, 114, 101]⟩ : ByteArray), (⟨0, 0, 0⟩ : S46), 4⟩ : S52), (⟨(⟨#[109, 99, 111, 114, 101]⟩ : ByteArray), (⟨(-3), 0, (-3)⟩ : S46), 4⟩ : S52)] : List (S52))) (inner := [.string (⟨#[111, 110, 101]⟩ : ByteArray), .int .i64 0, .int .i64 0, .int .i64 0, .int .i64 (-1), .string (⟨#[112, 99, 116]⟩ : ByteArray), .int .i64 (-2), .int .i64 0, .int .i64 (-2), .int .i64 (-1), .string (⟨#[115]⟩ : ByteArray), .int .i64 0, .int .i64 0, .int .i64 0, .int .i64 0, .string (⟨#[109, 115]⟩ : ByteArray), .int .i64 (-3), .int .i64 0, .int .i64 (-3), .int .i64 0, .string (⟨#[109, 105, 110]⟩ : ByteArray), .int .i64 2, .int .i64 1, .int .i64 1, .int .i64 0, .string (⟨#[104]⟩ : ByteArray), .int .i64 4, .int .i64 2, .int .i64 2, .int .i64 0, .string (⟨#[100]⟩ : ByteArray), .int .i64 7, .int .i64 3, .int .i64 2, .int .i64 0, .string (⟨#[114, 101, 113]⟩ : ByteArray), .int .i64 0, .int .i64 0, .int .i64 0, .int .i64 1, .string (⟨#[107, 114, 101, 113]⟩ : ByteArray), .int .i64 3, .int .i64 0, .int .i64 3, .int .i64 1, .string (⟨#[66]⟩ : ByteArray), .int .i64 0, .int .i64 0, .int .i64 0, .int .i64 2, .string (⟨#[107, 66]⟩ : ByteArray), .int .i64 3, .int .i64 0, .int .i64 3, .int .i64 2, .string (⟨#[77, 66]⟩ : ByteArray), .int .i64 6, .int .i64 0, .int .i64 6, .int .i64 2, .string (⟨#[75, 105, 66]⟩ : ByteArray), .int .i64 10, .int .i64 0, .int .i64 0, .int .i64 2, .string (⟨#[77, 105, 66]⟩ : ByteArray), .int .i64 20, .int .i64 0, .int .i64 0, .int .i64 2, .string (⟨#[71, 105, 66]⟩ : ByteArray), .int .i64 30, .int .i64 0, .int .i64 0, .int .i64 2, .string (⟨#[114, 101, 112]⟩ : ByteArray), .int .i64 0, .int .i64 0, .int .i64 0, .int .i64 3, .string (⟨#[99, 111, 114, 101]⟩ : ByteArray), .int .i64 0, .int .i64 0, .int .i64 0, .int .i64 4, .string (⟨#[109, 99, 111, 114, 101]⟩ : ByteArray), .int .i64 (-3), .int .i64 0, .int .i64 (-3), .int .i64 4]) (ok := fun _ => True) (okp := fun _ => True) ?hr ?hp (fun _ hk => hk) trivial (Below.refl _ _) (Nat.le_refl _) (by simp) ?_; (case hd => rfl); (case hg => rfl); (case hr => first | (go_simp; done) | (go_simp; rfl)); (case hp => exact (Reps.c5 (show Kd.M k52 _ _ _ (⟨(⟨#[111, 110, 101]⟩ : ByteArray), (⟨0, 0, 0⟩ : S46), (-1)⟩ : S52) [.string (⟨#[111, 110, 101]⟩ : ByteArray), .int .i64 0, .int .i64 0, .int .i64 0, .int .i64 (-1)] from (k52_mkM _ _ _ (⟨(⟨#[111, 110, 101]⟩ : ByteArray), (⟨0, 0, 0⟩ : S46), (-1)⟩ : S52) )) (Reps.c5 (show Kd.M k52 _ _ _ (⟨(⟨#[112, 99, 116]⟩ : ByteArray), (⟨(-2), 0, (-2)⟩ : S46), (-1)⟩ : S52) [.string (⟨#[112, 99, 116]⟩ : ByteArray), .int .i64 (-2), .int .i64 0, .int .i64 (-2), .int .i64 (-1)] from (k52_mkM _ _ _ (⟨(⟨#[112, 99, 116]⟩ : ByteArray), (⟨(-2), 0, (-2)⟩ : S46), (-1)⟩ : S52) )) (Reps.c5 (show Kd.M k52 _ _ _ (⟨(⟨#[115]⟩ : ByteArray), (⟨0, 0, 0⟩ : S46), 0⟩ : S52) [.string (⟨#[115]⟩ : ByteArray), .int .i64 0, .int .i64 0, .int .i64 0, .int .i64 0] from (k52_mkM _ _ _ (⟨(⟨#[115]⟩ : ByteArray), (⟨0, 0, 0⟩ : S46), 0⟩ : S52) )) (Reps.c5 (show Kd.M k52 _ _ _ (⟨(⟨#[109, 115]⟩ : ByteArray), (⟨(-3), 0, (-3)⟩ : S46), 0⟩ : S52) [.string (⟨#[109, 115]⟩ : ByteArray), .int .i64 (-3), .int .i64 0, .int .i64 (-3), .int .i64 0] from (k52_mkM _ _ _ (⟨(⟨#[109, 115]⟩ : ByteArray), (⟨(-3), 0, (-3)⟩ : S46), 0⟩ : S52) )) (Reps.c5 (show Kd.M k52 _ _ _ (⟨(⟨#[109, 105, 110]⟩ : ByteArray), (⟨2, 1, 1⟩ : S46), 0⟩ : S52) [.string (⟨#[109, 105, 110]⟩ : ByteArray), .int .i64 2, .int .i64 1, .int .i64 1, .int .i64 0] from (k52_mkM _ _ _ (⟨(⟨#[109, 105, 110]⟩ : ByteArray), (⟨2, 1, 1⟩ : S46), 0⟩ : S52) )) (Reps.c5 (show Kd.M k52 _ _ _ (⟨(⟨#[104]⟩ : ByteArray), (⟨4, 2, 2⟩ : S46), 0⟩ : S52) [.string (⟨#[104]⟩ : ByteArray), .int .i64 4, .int .i64 2, .int .i64 2, .int .i64 0] from (k52_mkM _ _ _ (⟨(⟨#[104]⟩ : ByteArray), (⟨4, 2, 2⟩ : S46), 0⟩ : S52) )) (Reps.c5 (show Kd.M k52 _ _ _ (⟨(⟨#[100]⟩ : ByteArray), (⟨7, 3, 2⟩ : S46), 0⟩ : S52) [.string (⟨#[100]⟩ : ByteArray), .int .i64 7, .int .i64 3, .int .i64 2, .int .i64 0] from (k52_mkM _ _ _ (⟨(⟨#[100]⟩ : ByteArray), (⟨7, 3, 2⟩ : S46), 0⟩ : S52) )) (Reps.c5 (show Kd.M k52 _ _ _ (⟨(⟨#[114, 101, 113]⟩ : ByteArray), (⟨0, 0, 0⟩ : S46), 1⟩ : S52) [.string (⟨#[114, 101, 113]⟩ : ByteArray), .int .i64 0, .int .i64 0, .int .i64 0, .int .i64 1] from (k52_mkM _ _ _ (⟨(⟨#[114, 101, 113]⟩ : ByteArray), (⟨0, 0, 0⟩ : S46), 1⟩ : S52) )) (Reps.c5 (show Kd.M k52 _ _ _ (⟨(⟨#[107, 114, 101, 113]⟩ : ByteArray), (⟨3, 0, 3⟩ : S46), 1⟩ : S52) [.string (⟨#[107, 114, 101, 113]⟩ : ByteArray), .int .i64 3, .int .i64 0, .int .i64 3, .int .i64 1] from (k52_mkM _ _ _ (⟨(⟨#[107, 114, 101, 113]⟩ : ByteArray), (⟨3, 0, 3⟩ : S46), 1⟩ : S52) )) (Reps.c5 (show Kd.M k52 _ _ _ (⟨(⟨#[66]⟩ : ByteArray), (⟨0, 0, 0⟩ : S46), 2⟩ : S52) [.string (⟨#[66]⟩ : ByteArray), .int .i64 0, .int .i64 0, .int .i64 0, .int .i64 2] from (k52_mkM _ _ _ (⟨(⟨#[66]⟩ : ByteArray), (⟨0, 0, 0⟩ : S46), 2⟩ : S52) )) (Reps.c5 (show Kd.M k52 _ _ _ (⟨(⟨#[107, 66]⟩ : ByteArray), (⟨3, 0, 3⟩ : S46), 2⟩ : S52) [.string (⟨#[107, 66]⟩ : ByteArray), .int .i64 3, .int .i64 0, .int .i64 3, .int .i64 2] from (k52_mkM _ _ _ (⟨(⟨#[107, 66]⟩ : ByteArray), (⟨3, 0, 3⟩ : S46), 2⟩ : S52) )) (Reps.c5 (show Kd.M k52 _ _ _ (⟨(⟨#[77, 66]⟩ : ByteArray), (⟨6, 0, 6⟩ : S46), 2⟩ : S52) [.string (⟨#[77, 66]⟩ : ByteArray), .int .i64 6, .int .i64 0, .int .i64 6, .int .i64 2] from (k52_mkM _ _ _ (⟨(⟨#[77, 66]⟩ : ByteArray), (⟨6, 0, 6⟩ : S46), 2⟩ : S52) )) (Reps.c5 (show Kd.M k52 _ _ _ (⟨(⟨#[75, 105, 66]⟩ : ByteArray), (⟨10, 0, 0⟩ : S46), 2⟩ : S52) [.string (⟨#[75, 105, 66]⟩ : ByteArray), .int .i64 10, .int .i64 0, .int .i64 0, .int .i64 2] from (k52_mkM _ _ _ (⟨(⟨#[75, 105, 66]⟩ : ByteArray), (⟨10, 0, 0⟩ : S46), 2⟩ : S52) )) (Reps.c5 (show Kd.M k52 _ _ _ (⟨(⟨#[77, 105, 66]⟩ : ByteArray), (⟨20, 0, 0⟩ : S46), 2⟩ : S52) [.string (⟨#[77, 105, 66]⟩ : ByteArray), .int .i64 20, .int .i64 0, .int .i64 0, .int .i64 2] from (k52_mkM _ _ _ (⟨(⟨#[77, 105, 66]⟩ : ByteArray), (⟨20, 0, 0⟩ : S46), 2⟩ : S52) )) (Reps.c5 (show Kd.M k52 _ _ _ (⟨(⟨#[71, 105, 66]⟩ : ByteArray), (⟨30, 0, 0⟩ : S46), 2⟩ : S52) [.string (⟨#[71, 105, 66]⟩ : ByteArray), .int .i64 30, .int .i64 0, .int .i64 0, .int .i64 2] from (k52_mkM _ _ _ (⟨(⟨#[71, 105, 66]⟩ : ByteArray), (⟨30, 0, 0⟩ : S46), 2⟩ : S52) )) (Reps.c5 (show Kd.M k52 _ _ _ (⟨(⟨#[114, 101, 112]⟩ : ByteArray), (⟨0, 0, 0⟩ : S46), 3⟩ : S52) [.string (⟨#[114, 101, 112]⟩ : ByteArray), .int .i64 0, .int .i64 0, .int .i64 0, .int .i64 3] from (k52_mkM _ _ _ (⟨(⟨#[114, 101, 112]⟩ : ByteArray), (⟨0, 0, 0⟩ : S46), 3⟩ : S52) )) (Reps.c5 (show Kd.M k52 _ _ _ (⟨(⟨#[99, 111, 114, 101]⟩ : ByteArray), (⟨0, 0, 0⟩ : S46), 4⟩ : S52) [.string (⟨#[99, 111, 114, 101]⟩ : ByteArray), .int .i64 0, .int .i64 0, .int .i64 0, .int .i64 4] from (k52_mkM _ _ _ (⟨(⟨#[99, 111, 114, 101]⟩ : ByteArray), (⟨0, 0, 0⟩ : S46), 4⟩ : S52) )) (Reps.c5 (show Kd.M k52 _ _ _ (⟨(⟨#[109, 99, 111, 114, 101]⟩ : ByteArray), (⟨(-3), 0, (-3)⟩ : S46), 4⟩ : S52) [.string (⟨#[109, 99, 111, 114, 101]⟩ : ByteArray), .int .i64 (-3), .int .i64 0, .int .i64 (-3), .int .i64 4] from (k52_mkM _ _ _ (⟨(⟨#[109, 99, 111, 114, 101]⟩ : ByteArray), (⟨(-3), 0, (-3)⟩ : S46), 4⟩ : S52) )) (Reps.none _ _)))))))))))))))))))); intro v102 w1 ho2 hb hg_ hnew_; clear hg_ hnew_; (first | rw [← Ny101.out] at ho2 | (simp only [Int.reduceToNat] at ho2; rw [← Ny101.out] at ho2)); have n0_ := Aside0.mk (Kd.R_lower ho2 (below_size (by repeat (first | (with_reducible first | exact HB.out | apply below_alloc | apply pw_below_drewN | apply below_drew1) | exact HB.out)))); have n1_ := Aside0.mk (below_step (by repeat (first | (with_reducible first | exact HB.out | apply below_alloc | apply pw_below_drewN | apply below_drew1) | exact HB.out)) hb); clear HB; have HO103 := n0_; have HB := n1_; clear n0_ n1_; clear hb ho2))
 go_ret
 exact ⟨_, by first | rfl | (simp [errW_none, errW_some] <;> rfl) | (simp [*, errW_none, errW_some] <;> rfl), by (with_reducible repeat (first | apply Kd.R_alloc | apply Kd.R_drewN | apply Kd.R_drew)); exact HO103.out, by repeat (first | (with_reducible first | exact HB.out | apply below_alloc | apply pw_below_drewN | apply below_drew1) | exact HB.out)⟩



/-! ### capstanref02_Find: function 40 -/
def capstanref02_Find.l0 : Nat → ByteArray → List (S52) → Int → Option (Int)
 | 0, _, _, _ => none
 | k + 1, x0, x3, x4 => if x4 < (x3.length : Int) then (if 0 ≤ x4 then (if ((rd_T52 x3 x4).f0).toList = x0.toList then (some x4) else (capstanref02_Find.l0 k x0 x3 (wrap64 (x4 + 1)))) else (none)) else (some (-1))
def capstanref02_Find.f (k : Nat) (a0 : ByteArray) : Option (Int) := (capstanref02_Names.f).bind fun t104 => (capstanref02_Find.l0 k a0 t104 0)
theorem capstanref02_Find.mono_l : ∀ k, (∀ y0 y1 y2, LeO (capstanref02_Find.l0 k y0 y1 y2) (capstanref02_Find.l0 (k + 1) y0 y1 y2))
 | 0 => fun _ _ _ r h => by simp [capstanref02_Find.l0] at h
 | k + 1 => by
  have ih0 := capstanref02_Find.mono_l k
  ·intro y0 y1 y2
   unfold capstanref02_Find.l0
   repeat' first
   | (with_reducible exact ih0 _ _ _)
   | (with_reducible exact LeO.refl _)
   | (with_reducible exact LeO.none _)
   | (with_reducible refine LeO.ite ?_ ?_)
   | (with_reducible refine LeO.bind ?_ (fun _ => ?_))
   | exact ih0 _ _ _
   | exact LeO.none _
   | refine LeO.ite ?_ ?_
   | refine LeO.bind ?_ (fun _ => ?_)
theorem capstanref02_Find.mono : ∀ a0 k, LeO (capstanref02_Find.f k a0) (capstanref02_Find.f (k + 1) a0) := by
 intro a0 k
 have ih0 := capstanref02_Find.mono_l k
 unfold capstanref02_Find.f
 repeat' first
   | (with_reducible exact ih0 _ _ _)
   | (with_reducible exact LeO.refl _)
   | (with_reducible exact LeO.none _)
   | (with_reducible refine LeO.ite ?_ ?_)
   | (with_reducible refine LeO.bind ?_ (fun _ => ?_))
   | exact ih0 _ _ _
   | exact LeO.none _
   | refine LeO.ite ?_ ?_
   | refine LeO.bind ?_ (fun _ => ?_)
set_option maxHeartbeats 8000000 in
set_option maxRecDepth 100000 in
theorem capstanref02_Find.calls (k : Nat) (a0 : ByteArray) (r : Int) (w : World) (h : capstanref02_Find.f k a0 = some r) :
  Calls Tryd.prog 40 #[.string a0] w fun e w' => e = .returned (.int .i64 r) ∧ Below w.heap.size w w' := by
 have HB := Aside0.mk (Below.refl w.heap.size w)
 have H : ((capstanref02_Names.f).bind fun t104 => (capstanref02_Find.l0 k a0 t104 0)) = some r := h
 clear h
 replace H := Option.bind_eq_some_iff.mp H
 obtain ⟨t104, A20, H⟩ := H
 replace H : (capstanref02_Find.l0 k a0 t104 0) = some r := H
 have A2 := Aside0.mk A20
 clear A20
 have H' := Aside0.mk H
 clear H
 go_enter Tryd.func40, Tryd.ntmps40
 go_wp2_with (first | ((with_reducible refine gate_callee (f := 22) rfl ?_); refine goesL_ (some 5) rfl rfl Tryd.func22 (by kernel_rfl) rfl #[] rfl (by (try simp only [List.map_toArray, List.map_cons, List.map_nil]); first | done | rfl | (simp only [List.length_drop, List.length_take]; rfl)) ?_; (with_reducible refine (capstanref02_Names.calls  t104 _ A2.out).mono ?_); rintro e w3 ⟨v105, rfl, ho0, hb⟩; refine ⟨_, rfl, ?_⟩; have n0_ := Aside0.mk (Kd.R_lower ho0 (below_size (by repeat (first | (with_reducible first | exact HB.out | apply below_alloc | apply pw_below_drewN | apply below_drew1) | exact HB.out)))); have n1_ := Aside0.mk (below_step (by repeat (first | (with_reducible first | exact HB.out | apply below_alloc | apply pw_below_drewN | apply below_drew1) | exact HB.out)) hb); clear HB; have HO106 := n0_; have HB := n1_; clear n0_ n1_; (try clear hb); (try clear hb2); (try clear hk); (try clear hi); (try clear ho0)))
 go_loopg [4] k (fun kq v4 w' => ∃ (x4_1 : Int), v4 = .int .i64 x4_1 ∧ Aside0 (capstanref02_Find.l0 kq a0 t104 x4_1 = some r) ∧ Aside0 (kq ≤ k) ∧ Aside0 (Kd.R k52 52 w' w.heap.size (fun _ => True) v105 t104) ∧ Aside0 (Below w.heap.size w w'))
 case atStart => exact ⟨(0), (by first | rfl | (simp; done) | (simp [*]; done)), H', ⟨Nat.le_refl _⟩, ⟨by (with_reducible repeat (first | apply Kd.R_alloc | apply Kd.R_drewN | apply Kd.R_drew)); exact HO106.out⟩, ⟨by repeat (first | (with_reducible first | exact HB.out | apply below_alloc | apply pw_below_drewN | apply below_drew1) | exact HB.out)⟩⟩
 case round =>
  clear H'
  obtain ⟨x4_1, rfl, HA, HK1, HO_3, HB⟩ := hrel
  cases gk with
  | zero => exact absurd HA.out (by simp [capstanref02_Find.l0])
  | succ k1 =>
   have H := HA.out
   clear HA
   simp only [capstanref02_Find.l0] at H
   by_cases c4 : x4_1 < (t104.length : Int)
   ·rw [if_pos c4] at H
    have c4b0 : decide (x4_1 < (t104.length : Int)) = true := decide_eq_true c4
    clear c4
    by_cases c5 : 0 ≤ x4_1
    ·rw [if_pos c5] at H
     have c5b0 : decide (0 ≤ x4_1) = true := decide_eq_true c5
     clear c5
     by_cases c6 : ((rd_T52 t104 x4_1).f0).toList = a0.toList
     ·rw [if_pos c6] at H
      have c6b0 : (((rd_T52 t104 x4_1).f0).toList == a0.toList) = true := beq_iff_eq.mpr c6
      have c6b1 : (((rd_T52 t104 x4_1).f0).toList != a0.toList) = false := bne_eq_false_iff_eq.mpr c6
      clear c6
      obtain rfl := Option.some.inj H
      obtain ⟨Ao7, co7, eo7⟩ := Kd.R_slice HO_3.out
      subst eo7
      have p107 : 0 ≤ (x4_1 : Int) := of_decide_eq_true (by first | (with_reducible assumption) | assumption)
      have q107 : x4_1 < (t104.length : Int) := of_decide_eq_true (by first | (with_reducible assumption) | assumption)
      obtain ⟨ad107, e107, hx107_0, hx107_1, hx107_2, hx107_3, hx107_4⟩ := at_T52 (Kd.R_reads' HO_3.out).2.2 x4_1 p107 q107
      cases e107
      replace p107 := eq_true p107
      replace q107 := eq_true q107
      go_wp2
      go_ret
      exact ⟨by first | rfl | (simp [errW_none, errW_some] <;> rfl) | (simp [*, errW_none, errW_some] <;> rfl), by repeat (first | (with_reducible first | exact HB.out | apply below_alloc | apply pw_below_drewN | apply below_drew1) | exact HB.out)⟩
     ·rw [if_neg c6] at H
      have c6b0 : (((rd_T52 t104 x4_1).f0).toList == a0.toList) = false := beq_eq_false_iff_ne.mpr c6
      have c6b1 : (((rd_T52 t104 x4_1).f0).toList != a0.toList) = true := bne_iff_ne.mpr c6
      have H' := Aside0.mk H
      clear H
      obtain ⟨Ao8, co8, eo8⟩ := Kd.R_slice HO_3.out
      subst eo8
      have p107 : 0 ≤ (x4_1 : Int) := of_decide_eq_true (by first | (with_reducible assumption) | assumption)
      have q107 : x4_1 < (t104.length : Int) := of_decide_eq_true (by first | (with_reducible assumption) | assumption)
      obtain ⟨ad107, e107, hx107_0, hx107_1, hx107_2, hx107_3, hx107_4⟩ := at_T52 (Kd.R_reads' HO_3.out).2.2 x4_1 p107 q107
      cases e107
      replace p107 := eq_true p107
      replace q107 := eq_true q107
      go_wp2
      go_roundg k1
      case measure => have := HK1.out; omega
      case rel => exact ⟨(wrap64 (x4_1 + 1)), (by first | rfl | (simp; done) | (simp [*]; done)), H', ⟨by have := HK1.out; omega⟩, ⟨by (with_reducible repeat (first | apply Kd.R_alloc | apply Kd.R_drewN | apply Kd.R_drew)); exact HO_3.out⟩, ⟨by repeat (first | (with_reducible first | exact HB.out | apply below_alloc | apply pw_below_drewN | apply below_drew1) | exact HB.out)⟩⟩
    ·rw [if_neg c5] at H
     exact absurd H (by simp)
   ·rw [if_neg c4] at H
    have c4b0 : decide (x4_1 < (t104.length : Int)) = false := decide_eq_false c4
    clear c4
    obtain rfl := Option.some.inj H
    obtain ⟨Ao9, co9, eo9⟩ := Kd.R_slice HO_3.out
    subst eo9
    go_wp2
    go_ret
    exact ⟨by first | rfl | (simp [errW_none, errW_some] <;> rfl) | (simp [*, errW_none, errW_some] <;> rfl), by repeat (first | (with_reducible first | exact HB.out | apply below_alloc | apply pw_below_drewN | apply below_drew1) | exact HB.out)⟩



/-! ### capstanref02_part: function 21 -/
mutual
def capstanref02_part.j0 : Nat → ByteArray → Int → Int → Int → Bool → Option (Int × Int × Int × Int × Int × Bool)
 | 0, _, _, _, _, _ => none
 | k + 1, x0, x1, x7, x8, x34 => if x34 = true then (some (x8, 1, x1, x7, 0, true)) else ((capstanref02_upTo.f k x0 (wrap64 (x7 + 1)) true).bind fun t111 => (if t111 = (wrap64 (x7 + 1)) then (capstanref02_part.j1 k x0 x1 x8 (wrap64 (x7 + 1)) t111 true) else (if t111 > (wrap64 ((wrap64 (x7 + 1)) + 3)) then (capstanref02_part.j1 k x0 x1 x8 (wrap64 (x7 + 1)) t111 true) else (if 0 ≤ (wrap64 (x7 + 1)) then (if (wrap64 (x7 + 1)) < (x0.size : Int) then (capstanref02_part.j1 k x0 x1 x8 (wrap64 (x7 + 1)) t111 ((bt x0 (wrap64 (x7 + 1))) == 48)) else (none)) else (none)))))
def capstanref02_part.j1 : Nat → ByteArray → Int → Int → Int → Int → Bool → Option (Int × Int × Int × Int × Int × Bool)
 | 0, _, _, _, _, _, _ => none
 | k + 1, x0, x1, x8, x9, x10, x58 => if x58 = true then (some (0, 0, 0, 0, x9, false)) else (capstanref02_part.l0 k x0 x1 x8 x10 0 x9)
def capstanref02_part.l0 : Nat → ByteArray → Int → Int → Int → Int → Int → Option (Int × Int × Int × Int × Int × Bool)
 | 0, _, _, _, _, _, _ => none
 | k + 1, x0, x1, x8, x10, x11, x12 => if x12 < x10 then (if 0 ≤ x12 then (if x12 < (x0.size : Int) then (capstanref02_part.l0 k x0 x1 x8 x10 (wrap64 ((wrap64 (10 * x11)) + (((bt x0 x12) - 48) % 256))) (wrap64 (x12 + 1))) else (none)) else (none)) else (some (x8, x11, x1, x10, 0, true))
end
def capstanref02_part.f (k : Nat) (a0 : ByteArray) (a1 : Int) : Option (Int × Int × Int × Int × Int × Bool) := (capstanref02_upTo.f k a0 a1 false).bind fun t109 => (if 0 ≤ a1 then (if a1 ≤ t109 then (if t109 ≤ (a0.size : Int) then ((capstanref02_Find.f k (a0.extract (a1 : Int).toNat (t109 : Int).toNat)).bind fun t110 => (if t110 < 0 then (some (0, 0, 0, 0, a1, false)) else (if t109 = (a0.size : Int) then (capstanref02_part.j0 k a0 a1 t109 t110 true) else (if 0 ≤ t109 then (if t109 < (a0.size : Int) then (capstanref02_part.j0 k a0 a1 t109 t110 ((bt a0 t109) != 94)) else (none)) else (none))))) else (none)) else (none)) else (none))
theorem capstanref02_part.mono_l : ∀ k, (∀ y0 y1 y2 y3 y4, LeO (capstanref02_part.j0 k y0 y1 y2 y3 y4) (capstanref02_part.j0 (k + 1) y0 y1 y2 y3 y4)) ∧ (∀ y0 y1 y2 y3 y4 y5, LeO (capstanref02_part.j1 k y0 y1 y2 y3 y4 y5) (capstanref02_part.j1 (k + 1) y0 y1 y2 y3 y4 y5)) ∧ (∀ y0 y1 y2 y3 y4 y5, LeO (capstanref02_part.l0 k y0 y1 y2 y3 y4 y5) (capstanref02_part.l0 (k + 1) y0 y1 y2 y3 y4 y5))
 | 0 => ⟨fun _ _ _ _ _ r h => by simp [capstanref02_part.j0] at h, fun _ _ _ _ _ _ r h => by simp [capstanref02_part.j1] at h, fun _ _ _ _ _ _ r h => by simp [capstanref02_part.l0] at h⟩
 | k + 1 => by
  obtain ⟨ih0, ih1, ih2⟩ := capstanref02_part.mono_l k
  refine ⟨?_, ?_, ?_⟩
  ·intro y0 y1 y2 y3 y4
   unfold capstanref02_part.j0
   repeat' first
   | (with_reducible exact ih0 _ _ _ _ _)
   | (with_reducible exact ih1 _ _ _ _ _ _)
   | (with_reducible exact ih2 _ _ _ _ _ _)
   | (with_reducible exact capstanref02_Find.mono _ _)
   | (with_reducible exact capstanref02_upTo.mono _ _ _ _)
   | (with_reducible exact LeO.refl _)
   | (with_reducible exact LeO.none _)
   | (with_reducible refine LeO.ite ?_ ?_)
   | (with_reducible refine LeO.bind ?_ (fun _ => ?_))
   | exact ih0 _ _ _ _ _
   | exact ih1 _ _ _ _ _ _
   | exact ih2 _ _ _ _ _ _
   | exact capstanref02_Find.mono _ _
   | exact capstanref02_upTo.mono _ _ _ _
   | exact LeO.none _
   | refine LeO.ite ?_ ?_
   | refine LeO.bind ?_ (fun _ => ?_)
  ·intro y0 y1 y2 y3 y4 y5
   unfold capstanref02_part.j1
   repeat' first
   | (with_reducible exact ih0 _ _ _ _ _)
   | (with_reducible exact ih1 _ _ _ _ _ _)
   | (with_reducible exact ih2 _ _ _ _ _ _)
   | (with_reducible exact capstanref02_Find.mono _ _)
   | (with_reducible exact capstanref02_upTo.mono _ _ _ _)
   | (with_reducible exact LeO.refl _)
   | (with_reducible exact LeO.none _)
   | (with_reducible refine LeO.ite ?_ ?_)
   | (with_reducible refine LeO.bind ?_ (fun _ => ?_))
   | exact ih0 _ _ _ _ _
   | exact ih1 _ _ _ _ _ _
   | exact ih2 _ _ _ _ _ _
   | exact capstanref02_Find.mono _ _
   | exact capstanref02_upTo.mono _ _ _ _
   | exact LeO.none _
   | refine LeO.ite ?_ ?_
   | refine LeO.bind ?_ (fun _ => ?_)
  ·intro y0 y1 y2 y3 y4 y5
   unfold capstanref02_part.l0
   repeat' first
   | (with_reducible exact ih0 _ _ _ _ _)
   | (with_reducible exact ih1 _ _ _ _ _ _)
   | (with_reducible exact ih2 _ _ _ _ _ _)
   | (with_reducible exact capstanref02_Find.mono _ _)
   | (with_reducible exact capstanref02_upTo.mono _ _ _ _)
   | (with_reducible exact LeO.refl _)
   | (with_reducible exact LeO.none _)
   | (with_reducible refine LeO.ite ?_ ?_)
   | (with_reducible refine LeO.bind ?_ (fun _ => ?_))
   | exact ih0 _ _ _ _ _
   | exact ih1 _ _ _ _ _ _
   | exact ih2 _ _ _ _ _ _
   | exact capstanref02_Find.mono _ _
   | exact capstanref02_upTo.mono _ _ _ _
   | exact LeO.none _
   | refine LeO.ite ?_ ?_
   | refine LeO.bind ?_ (fun _ => ?_)
theorem capstanref02_part.mono : ∀ a0 a1 k, LeO (capstanref02_part.f k a0 a1) (capstanref02_part.f (k + 1) a0 a1) := by
 intro a0 a1 k
 obtain ⟨ih0, ih1, ih2⟩ := capstanref02_part.mono_l k
 unfold capstanref02_part.f
 repeat' first
   | (with_reducible exact ih0 _ _ _ _ _)
   | (with_reducible exact ih1 _ _ _ _ _ _)
   | (with_reducible exact ih2 _ _ _ _ _ _)
   | (with_reducible exact capstanref02_Find.mono _ _)
   | (with_reducible exact capstanref02_upTo.mono _ _ _ _)
   | (with_reducible exact LeO.refl _)
   | (with_reducible exact LeO.none _)
   | (with_reducible refine LeO.ite ?_ ?_)
   | (with_reducible refine LeO.bind ?_ (fun _ => ?_))
   | exact ih0 _ _ _ _ _
   | exact ih1 _ _ _ _ _ _
   | exact ih2 _ _ _ _ _ _
   | exact capstanref02_Find.mono _ _
   | exact capstanref02_upTo.mono _ _ _ _
   | exact LeO.none _
   | refine LeO.ite ?_ ?_
   | refine LeO.bind ?_ (fun _ => ?_)
set_option maxHeartbeats 8000000 in
set_option maxRecDepth 100000 in
theorem capstanref02_part.calls (k : Nat) (a0 : ByteArray) (a1 : Int) (r1 : Int) (r2 : Int) (r3 : Int) (r4 : Int) (r5 : Int) (r6 : Bool) (w : World) (h : capstanref02_part.f k a0 a1 = some (r1, r2, r3, r4, r5, r6)) :
  Calls Tryd.prog 21 #[.string a0, .int .i64 a1] w fun e w' => e = .returned (.tuple #[.agg #[.int .i64 r1, .int .i64 r2, .int .i64 r3, .int .i64 r4], .int .i64 r5, .bool r6]) ∧ Below w.heap.size w w' := by
 have hu48 := Tryd.underlying48
 have HB := Aside0.mk (Below.refl w.heap.size w)
 have H : ((capstanref02_upTo.f k a0 a1 false).bind fun t109 => (if 0 ≤ a1 then (if a1 ≤ t109 then (if t109 ≤ (a0.size : Int) then ((capstanref02_Find.f k (a0.extract (a1 : Int).toNat (t109 : Int).toNat)).bind fun t110 => (if t110 < 0 then (some (0, 0, 0, 0, a1, false)) else (if t109 = (a0.size : Int) then (capstanref02_part.j0 k a0 a1 t109 t110 true) else (if 0 ≤ t109 then (if t109 < (a0.size : Int) then (capstanref02_part.j0 k a0 a1 t109 t110 ((bt a0 t109) != 94)) else (none)) else (none))))) else (none)) else (none)) else (none))) = some (r1, r2, r3, r4, r5, r6) := h
 clear h
 replace H := Option.bind_eq_some_iff.mp H
 obtain ⟨t109, A30, H⟩ := H
 replace H : (if 0 ≤ a1 then (if a1 ≤ t109 then (if t109 ≤ (a0.size : Int) then ((capstanref02_Find.f k (a0.extract (a1 : Int).toNat (t109 : Int).toNat)).bind fun t110 => (if t110 < 0 then (some (0, 0, 0, 0, a1, false)) else (if t109 = (a0.size : Int) then (capstanref02_part.j0 k a0 a1 t109 t110 true) else (if 0 ≤ t109 then (if t109 < (a0.size : Int) then (capstanref02_part.j0 k a0 a1 t109 t110 ((bt a0 t109) != 94)) else (none)) else (none))))) else (none)) else (none)) else (none)) = some (r1, r2, r3, r4, r5, r6) := H
 have A3 := Aside0.mk A30
 clear A30
 by_cases c4 : 0 ≤ a1
 ·rw [if_pos c4] at H
  have c4b0 := eq_true c4
  have c4b1 : decide (0 ≤ a1) = true := decide_eq_true c4
  clear c4
  by_cases c5 : a1 ≤ t109
  ·rw [if_pos c5] at H
   have c5b0 := eq_true c5
   have c5b1 : decide (a1 ≤ t109) = true := decide_eq_true c5
   clear c5
   by_cases c6 : t109 ≤ (a0.size : Int)
   ·rw [if_pos c6] at H
    have c6b0 := eq_true c6
    have c6b1 : decide (t109 ≤ (a0.size : Int)) = true := decide_eq_true c6
    clear c6
    replace H := Option.bind_eq_some_iff.mp H
    obtain ⟨t110, A70, H⟩ := H
    replace H : (if t110 < 0 then (some (0, 0, 0, 0, a1, false)) else (if t109 = (a0.size : Int) then (capstanref02_part.j0 k a0 a1 t109 t110 true) else (if 0 ≤ t109 then (if t109 < (a0.size : Int) then (capstanref02_part.j0 k a0 a1 t109 t110 ((bt a0 t109) != 94)) else (none)) else (none)))) = some (r1, r2, r3, r4, r5, r6) := H
    have A7 := Aside0.mk A70
    clear A70
    by_cases c8 : t110 < 0
    ·rw [if_pos c8] at H
     have c8b0 : decide (t110 < 0) = true := decide_eq_true c8
     clear c8
     simp only [Option.some.injEq, Prod.mk.injEq] at H
     obtain ⟨rfl, rfl, rfl, rfl, rfl, rfl⟩ := H
     go_enter Tryd.func21, Tryd.ntmps21
     go_wp2_with (first | ((with_reducible refine gate_dst (N := 4) rfl ?_); refine box_event ?hg (N := 4) ?hd (cs := #[.int .i64 0, .int .i64 0, .int .i64 0, .int .i64 0]) (t := 48) ?hr ?_; (case hd => rfl); (case hg => rfl); (case hr => first | (go_simp; done) | (go_simp; rfl)); intro gb108 hg w9 hbox hb; have n0_ := Aside0.mk (below_step (by repeat (first | (with_reducible first | exact HB.out | apply below_alloc | apply pw_below_drewN | apply below_drew1) | exact HB.out)) hb); have n1_ := Aside0.mk (hbox); have n2_ := Aside0.mk ((by rw [hg]; exact (below_size (by repeat (first | (with_reducible first | exact HB.out | apply below_alloc | apply pw_below_drewN | apply below_drew1) | exact HB.out))) : w.heap.size ≤ gb108)); have n3_ := Aside0.mk ((by rw [hg]; exact (below_size (by repeat (first | (with_reducible first | exact HB.out | apply below_alloc | apply pw_below_drewN | apply below_drew1) | exact HB.out))) : w.heap.size ≤ gb108)); clear HB; have HB := n0_; have BK108 := n1_; have GW108 := n2_; have GE108 := n3_; clear n0_ n1_ n2_ n3_; clear hb hbox hg) | ((with_reducible refine gate_callee (f := 39) rfl ?_); refine goesL_ (some 15) rfl rfl Tryd.func39 (by kernel_rfl) rfl #[.string a0, .int .i64 a1, .bool false] rfl (by (try simp only [List.map_toArray, List.map_cons, List.map_nil]); first | done | rfl | (simp only [List.length_drop, List.length_take]; rfl)) ?_; (with_reducible refine (capstanref02_upTo.calls k a0 a1 false t109 _ A3.out).mono ?_); rintro e w' ⟨rfl, ⟨nd, rfl⟩⟩; refine ⟨_, rfl, ?_⟩; (try (rw [drewN_self w9]; generalize hq_ : World.drewN w9 _ = w9; have n0_ : Aside0 (w9.heap[gb108]? = some (.cells #[.int .i64 0, .int .i64 0, .int .i64 0, .int .i64 0] 48 (0, 0))) := ⟨by rw [← hq_]; exact (by (with_reducible repeat (first | refine blk_drewN ?_ _ | refine blk_drew ?_ | refine blk_alloc ?_ _)); exact BK108.out)⟩; have n1_ : Aside0 (Below w.heap.size w w9) := ⟨by rw [← hq_]; exact (by repeat (first | (with_reducible first | exact HB.out | apply below_alloc | apply pw_below_drewN | apply below_drew1 | refine below_set ?_ GE108.out) | exact HB.out))⟩; clear BK108 HB hq_; have BK108 := n0_; have HB := n1_; clear n0_ n1_))) | ((with_reducible refine gate_callee (f := 40) rfl ?_); refine goesL_ (some 20) rfl rfl Tryd.func40 (by kernel_rfl) rfl #[.string (a0.extract (a1 : Int).toNat (t109 : Int).toNat)] rfl (by (try simp only [List.map_toArray, List.map_cons, List.map_nil]); first | done | rfl | (simp only [List.length_drop, List.length_take]; rfl)) ?_; (with_reducible refine (capstanref02_Find.calls k (a0.extract (a1 : Int).toNat (t109 : Int).toNat) t110 _ A7.out).mono ?_); rintro e w10 ⟨rfl, hb⟩; refine ⟨_, rfl, ?_⟩; have n0_ := Aside0.mk (blk_below (g := gb108) (o := .cells #[.int .i64 0, .int .i64 0, .int .i64 0, .int .i64 0] 48 (0, 0)) (by (with_reducible repeat (first | refine blk_drewN ?_ _ | refine blk_drew ?_ | refine blk_alloc ?_ _)); exact BK108.out) hb); have n1_ := Aside0.mk (below_step (by repeat (first | (with_reducible first | exact HB.out | apply below_alloc | apply pw_below_drewN | apply below_drew1 | refine below_set ?_ GE108.out) | exact HB.out)) hb); clear BK108; clear HB; have BK108 := n0_; have HB := n1_; clear n0_ n1_; (try clear hb); (try clear hb2); (try clear hk); (try clear hi); have hcz11_0 : w10.cell? ⟨gb108, 0, none⟩ = some (.int .i64 0) := (blk_cell BK108.out 0).trans rfl; have hcz11_1 : w10.cell? ⟨gb108, 1, none⟩ = some (.int .i64 0) := (blk_cell BK108.out 1).trans rfl; have hcz11_2 : w10.cell? ⟨gb108, 2, none⟩ = some (.int .i64 0) := (blk_cell BK108.out 2).trans rfl; have hcz11_3 : w10.cell? ⟨gb108, 3, none⟩ = some (.int .i64 0) := (blk_cell BK108.out 3).trans rfl; have hfz11_0 := blk_frozen BK108.out 0; have hfz11_1 := blk_frozen BK108.out 1; have hfz11_2 := blk_frozen BK108.out 2; have hfz11_3 := blk_frozen BK108.out 3))
     refine bodyPost_ret (results_ctt rfl _ _ gb108 48 #[.int .i64 0, .int .i64 0, .int .i64 0, .int .i64 0] (0, 0) _ rfl (by (with_reducible repeat (first | refine blk_drewN ?_ _ | refine blk_drew ?_ | refine blk_alloc ?_ _)); refine blk_put (cs := #[.int .i64 0, .int .i64 0, .int .i64 0, .int .i64 0]) ?_ 3 _ rfl; (with_reducible repeat (first | refine blk_drewN ?_ _ | refine blk_drew ?_ | refine blk_alloc ?_ _)); refine blk_put (cs := #[.int .i64 0, .int .i64 0, .int .i64 0, .int .i64 0]) ?_ 2 _ rfl; (with_reducible repeat (first | refine blk_drewN ?_ _ | refine blk_drew ?_ | refine blk_alloc ?_ _)); refine blk_put (cs := #[.int .i64 0, .int .i64 0, .int .i64 0, .int .i64 0]) ?_ 1 _ rfl; (with_reducible repeat (first | refine blk_drewN ?_ _ | refine blk_drew ?_ | refine blk_alloc ?_ _)); refine blk_put (cs := #[.int .i64 0, .int .i64 0, .int .i64 0, .int .i64 0]) ?_ 0 _ rfl; (with_reducible repeat (first | refine blk_drewN ?_ _ | refine blk_drew ?_ | refine blk_alloc ?_ _)); exact BK108.out) Tryd.underlying48 rfl (by kernel_rfl)) rfl ?_
     exact ⟨by first | rfl | (simp [errW_none, errW_some] <;> rfl) | (simp [*, errW_none, errW_some] <;> rfl), by repeat (first | (with_reducible first | exact HB.out | apply below_alloc | apply pw_below_drewN | apply below_drew1 | refine below_set ?_ GE108.out) | exact HB.out)⟩
    ·rw [if_neg c8] at H
     have c8b0 : decide (t110 < 0) = false := decide_eq_false c8
     clear c8
     have HC12 := Aside0.mk H
     clear H
     go_enter Tryd.func21, Tryd.ntmps21
     go_upto_region 5 with (first | ((with_reducible refine gate_dst (N := 4) rfl ?_); refine box_event ?hg (N := 4) ?hd (cs := #[.int .i64 0, .int .i64 0, .int .i64 0, .int .i64 0]) (t := 48) ?hr ?_; (case hd => rfl); (case hg => rfl); (case hr => first | (go_simp; done) | (go_simp; rfl)); intro gb108 hg w13 hbox hb; have n0_ := Aside0.mk (below_step (by repeat (first | (with_reducible first | exact HB.out | apply below_alloc | apply pw_below_drewN | apply below_drew1) | exact HB.out)) hb); have n1_ := Aside0.mk (hbox); have n2_ := Aside0.mk ((by rw [hg]; exact (below_size (by repeat (first | (with_reducible first | exact HB.out | apply below_alloc | apply pw_below_drewN | apply below_drew1) | exact HB.out))) : w.heap.size ≤ gb108)); have n3_ := Aside0.mk ((by rw [hg]; exact (below_size (by repeat (first | (with_reducible first | exact HB.out | apply below_alloc | apply pw_below_drewN | apply below_drew1) | exact HB.out))) : w.heap.size ≤ gb108)); clear HB; have HB := n0_; have BK108 := n1_; have GW108 := n2_; have GE108 := n3_; clear n0_ n1_ n2_ n3_; clear hb hbox hg) | ((with_reducible refine gate_callee (f := 39) rfl ?_); refine goesL_ (some 15) rfl rfl Tryd.func39 (by kernel_rfl) rfl #[.string a0, .int .i64 a1, .bool false] rfl (by (try simp only [List.map_toArray, List.map_cons, List.map_nil]); first | done | rfl | (simp only [List.length_drop, List.length_take]; rfl)) ?_; (with_reducible refine (capstanref02_upTo.calls k a0 a1 false t109 _ A3.out).mono ?_); rintro e w' ⟨rfl, ⟨nd, rfl⟩⟩; refine ⟨_, rfl, ?_⟩) | ((with_reducible refine gate_callee (f := 40) rfl ?_); refine goesL_ (some 20) rfl rfl Tryd.func40 (by kernel_rfl) rfl #[.string (a0.extract (a1 : Int).toNat (t109 : Int).toNat)] rfl (by (try simp only [List.map_toArray, List.map_cons, List.map_nil]); first | done | rfl | (simp only [List.length_drop, List.length_take]; rfl)) ?_; (with_reducible refine (capstanref02_Find.calls k (a0.extract (a1 : Int).toNat (t109 : Int).toNat) t110 _ A7.out).mono ?_); rintro e w14 ⟨rfl, hb⟩; refine ⟨_, rfl, ?_⟩; have n0_ := Aside0.mk (blk_below (g := gb108) (o := .cells #[.int .i64 0, .int .i64 0, .int .i64 0, .int .i64 0] 48 (0, 0)) (by (with_reducible repeat (first | refine blk_drewN ?_ _ | refine blk_drew ?_ | refine blk_alloc ?_ _)); exact BK108.out) hb); have n1_ := Aside0.mk (below_step (by repeat (first | (with_reducible first | exact HB.out | apply below_alloc | apply pw_below_drewN | apply below_drew1 | refine below_set ?_ GE108.out) | exact HB.out)) hb); clear BK108; clear HB; have BK108 := n0_; have HB := n1_; clear n0_ n1_; (try clear hb); (try clear hb2); (try clear hk); (try clear hi)))
     (try simp only [Act.put, List.setIfInBounds_toArray, List.set_cons_zero, List.set_cons_succ])
     go_cut [34] (fun v34 wc => ∃ (kq : Nat) (x34_11 : Bool), v34 = .bool x34_11 ∧ Aside0 (capstanref02_part.j0 kq a0 a1 t109 t110 x34_11 = some (r1, r2, r3, r4, r5, r6)) ∧ Aside0 (kq ≤ k) ∧ Aside0 (wc.heap[gb108]? = some (.cells #[.int .i64 0, .int .i64 0, .int .i64 0, .int .i64 0] 48 (0, 0))) ∧ Aside0 (Below w.heap.size w wc))
     case first =>
      have H := HC12.out
      clear HC12
      by_cases c15 : t109 = (a0.size : Int)
      ·rw [if_pos c15] at H
       have c15b0 : (t109 == (a0.size : Int)) = true := beq_iff_eq.mpr c15
       have c15b1 : (t109 != (a0.size : Int)) = false := bne_eq_false_iff_eq.mpr c15
       clear c15
       (first | rw [c15b0] | (simp only [i64_w, i32_w]; rw [c15b0]) | skip)
       have H' := Aside0.mk H
       clear H
       go_wp2
       go_meet
       case rel => exact ⟨_, (true), (by first | rfl | (simp; done) | (simp [*]; done)), H', ⟨by first | omega | exact Nat.le_refl _⟩, ⟨by (with_reducible repeat (first | refine blk_drewN ?_ _ | refine blk_drew ?_ | refine blk_alloc ?_ _)); exact BK108.out⟩, ⟨by repeat (first | (with_reducible first | exact HB.out | apply below_alloc | apply pw_below_drewN | apply below_drew1 | refine below_set ?_ GE108.out) | exact HB.out)⟩⟩
      ·rw [if_neg c15] at H
       have c15b0 : (t109 == (a0.size : Int)) = false := beq_eq_false_iff_ne.mpr c15
       have c15b1 : (t109 != (a0.size : Int)) = true := bne_iff_ne.mpr c15
       (first | rw [c15b0] | (simp only [i64_w, i32_w]; rw [c15b0]) | skip)
       by_cases c16 : 0 ≤ t109
       ·rw [if_pos c16] at H
        have c16b0 : decide (0 ≤ t109) = true := decide_eq_true c16
        clear c16
        by_cases c17 : t109 < (a0.size : Int)
        ·rw [if_pos c17] at H
         have c17b0 : decide (t109 < (a0.size : Int)) = true := decide_eq_true c17
         clear c17
         have H' := Aside0.mk H
         clear H
         have p18 : 0 ≤ (t109 : Int) := of_decide_eq_true (by first | (with_reducible assumption) | assumption)
         have q18 : t109 < (a0.size : Int) := of_decide_eq_true (by first | (with_reducible assumption) | assumption)
         have hx18 := bt_at a0 t109
         replace p18 := eq_true p18
         replace q18 := eq_true q18
         go_wp2
         go_meet
         case rel => exact ⟨_, (((bt a0 t109) != 94)), (by first | rfl | (simp; done) | (simp [*]; done)), H', ⟨by first | omega | exact Nat.le_refl _⟩, ⟨by (with_reducible repeat (first | refine blk_drewN ?_ _ | refine blk_drew ?_ | refine blk_alloc ?_ _)); exact BK108.out⟩, ⟨by repeat (first | (with_reducible first | exact HB.out | apply below_alloc | apply pw_below_drewN | apply below_drew1 | refine below_set ?_ GE108.out) | exact HB.out)⟩⟩
        ·rw [if_neg c17] at H
         exact absurd H (by simp)
       ·rw [if_neg c16] at H
        exact absurd H (by simp)
     case rest =>
      clear HC12
      try clear c4
      try clear c4b0
      try clear c4b1
      try clear c5
      try clear c5b0
      try clear c5b1
      try clear c6
      try clear c6b0
      try clear c6b1
      try clear c8
      try clear c8b0
      obtain ⟨kq, x34_11, rfl, HA, HJ11, BK108, HB⟩ := hcut
      cases kq with
      | zero => exact absurd HA.out (by simp [capstanref02_part.j0])
      | succ kj11 =>
       have H := HA.out
       clear HA
       simp only [capstanref02_part.j0] at H
       by_cases c19 : x34_11 = true
       ·subst c19
        have H1 : (some (t110, 1, a1, t109, 0, true)) = some (r1, r2, r3, r4, r5, r6) := by rw [if_pos rfl] at H; exact H
        clear H
        have H := H1
        clear H1
        simp only [Option.some.injEq, Prod.mk.injEq] at H
        obtain ⟨rfl, rfl, rfl, rfl, rfl, rfl⟩ := H
        have hcz20_0 : wc.cell? ⟨gb108, 0, none⟩ = some (.int .i64 0) := (blk_cell BK108.out 0).trans rfl
        have hcz20_1 : wc.cell? ⟨gb108, 1, none⟩ = some (.int .i64 0) := (blk_cell BK108.out 1).trans rfl
        have hcz20_2 : wc.cell? ⟨gb108, 2, none⟩ = some (.int .i64 0) := (blk_cell BK108.out 2).trans rfl
        have hcz20_3 : wc.cell? ⟨gb108, 3, none⟩ = some (.int .i64 0) := (blk_cell BK108.out 3).trans rfl
        have hfz20_0 := blk_frozen BK108.out 0
        have hfz20_1 := blk_frozen BK108.out 1
        have hfz20_2 := blk_frozen BK108.out 2
        have hfz20_3 := blk_frozen BK108.out 3
        go_wp2
        refine bodyPost_ret (results_ctt rfl _ _ gb108 48 #[.int .i64 t110, .int .i64 1, .int .i64 a1, .int .i64 t109] (0, 0) _ rfl (by (with_reducible repeat (first | refine blk_drewN ?_ _ | refine blk_drew ?_ | refine blk_alloc ?_ _)); refine blk_put (cs := #[.int .i64 t110, .int .i64 1, .int .i64 a1, .int .i64 0]) ?_ 3 _ rfl; (with_reducible repeat (first | refine blk_drewN ?_ _ | refine blk_drew ?_ | refine blk_alloc ?_ _)); refine blk_put (cs := #[.int .i64 t110, .int .i64 1, .int .i64 0, .int .i64 0]) ?_ 2 _ rfl; (with_reducible repeat (first | refine blk_drewN ?_ _ | refine blk_drew ?_ | refine blk_alloc ?_ _)); refine blk_put (cs := #[.int .i64 t110, .int .i64 0, .int .i64 0, .int .i64 0]) ?_ 1 _ rfl; (with_reducible repeat (first | refine blk_drewN ?_ _ | refine blk_drew ?_ | refine blk_alloc ?_ _)); refine blk_put (cs := #[.int .i64 0, .int .i64 0, .int .i64 0, .int .i64 0]) ?_ 0 _ rfl; (with_reducible repeat (first | refine blk_drewN ?_ _ | refine blk_drew ?_ | refine blk_alloc ?_ _)); exact BK108.out) Tryd.underlying48 rfl (by kernel_rfl)) rfl ?_
        exact ⟨by first | rfl | (simp [errW_none, errW_some] <;> rfl) | (simp [*, errW_none, errW_some] <;> rfl), by repeat (first | (with_reducible first | exact HB.out | apply below_alloc | apply pw_below_drewN | apply below_drew1 | refine below_set ?_ GE108.out) | exact HB.out)⟩
       ·replace c19 := Bool.eq_false_iff.mpr c19
        subst c19
        have H1 : ((capstanref02_upTo.f kj11 a0 (wrap64 (t109 + 1)) true).bind fun t111 => (if t111 = (wrap64 (t109 + 1)) then (capstanref02_part.j1 kj11 a0 a1 t110 (wrap64 (t109 + 1)) t111 true) else (if t111 > (wrap64 ((wrap64 (t109 + 1)) + 3)) then (capstanref02_part.j1 kj11 a0 a1 t110 (wrap64 (t109 + 1)) t111 true) else (if 0 ≤ (wrap64 (t109 + 1)) then (if (wrap64 (t109 + 1)) < (a0.size : Int) then (capstanref02_part.j1 kj11 a0 a1 t110 (wrap64 (t109 + 1)) t111 ((bt a0 (wrap64 (t109 + 1))) == 48)) else (none)) else (none))))) = some (r1, r2, r3, r4, r5, r6) := by rw [if_neg (show ¬ (false = true) by decide)] at H; exact H
        clear H
        have H := H1
        clear H1
        replace H := Option.bind_eq_some_iff.mp H
        obtain ⟨t111, A210, H⟩ := H
        replace H : (if t111 = (wrap64 (t109 + 1)) then (capstanref02_part.j1 kj11 a0 a1 t110 (wrap64 (t109 + 1)) t111 true) else (if t111 > (wrap64 ((wrap64 (t109 + 1)) + 3)) then (capstanref02_part.j1 kj11 a0 a1 t110 (wrap64 (t109 + 1)) t111 true) else (if 0 ≤ (wrap64 (t109 + 1)) then (if (wrap64 (t109 + 1)) < (a0.size : Int) then (capstanref02_part.j1 kj11 a0 a1 t110 (wrap64 (t109 + 1)) t111 ((bt a0 (wrap64 (t109 + 1))) == 48)) else (none)) else (none)))) = some (r1, r2, r3, r4, r5, r6) := H
        have A21 := Aside0.mk A210
        clear A210
        have HC22 := Aside0.mk H
        clear H
        go_upto_region 9 with (first | ((with_reducible refine gate_callee (f := 39) rfl ?_); refine goesL_ (some 43) rfl rfl Tryd.func39 (by kernel_rfl) rfl #[.string a0, .int .i64 (wrap64 (t109 + 1)), .bool true] rfl (by (try simp only [List.map_toArray, List.map_cons, List.map_nil]); first | done | rfl | (simp only [List.length_drop, List.length_take]; rfl)) ?_; (with_reducible refine (capstanref02_upTo.calls kj11 a0 (wrap64 (t109 + 1)) true t111 _ A21.out).mono ?_); rintro e w' ⟨rfl, ⟨nd, rfl⟩⟩; refine ⟨_, rfl, ?_⟩))
        (try simp only [Act.put, List.setIfInBounds_toArray, List.set_cons_zero, List.set_cons_succ])
        go_cut [58] (fun v58 wc => ∃ (kq : Nat) (x58_21 : Bool), v58 = .bool x58_21 ∧ Aside0 (capstanref02_part.j1 kq a0 a1 t110 (wrap64 (t109 + 1)) t111 x58_21 = some (r1, r2, r3, r4, r5, r6)) ∧ Aside0 (kq ≤ kj11) ∧ Aside0 (wc.heap[gb108]? = some (.cells #[.int .i64 0, .int .i64 0, .int .i64 0, .int .i64 0] 48 (0, 0))) ∧ Aside0 (Below w.heap.size w wc))
        case first =>
         have H := HC22.out
         clear HC22
         by_cases c23 : t111 = (wrap64 (t109 + 1))
         ·rw [if_pos c23] at H
          have c23b0 : (t111 == (wrap64 (t109 + 1))) = true := beq_iff_eq.mpr c23
          have c23b1 : (t111 != (wrap64 (t109 + 1))) = false := bne_eq_false_iff_eq.mpr c23
          clear c23
          (first | rw [c23b0] | (simp only [i64_w, i32_w]; rw [c23b0]) | skip)
          have H' := Aside0.mk H
          clear H
          go_wp2
          go_meet
          case rel => exact ⟨_, (true), (by first | rfl | (simp; done) | (simp [*]; done)), H', ⟨by have := HJ11.out; first | omega | exact Nat.le_refl _⟩, ⟨by (with_reducible repeat (first | refine blk_drewN ?_ _ | refine blk_drew ?_ | refine blk_alloc ?_ _)); exact BK108.out⟩, ⟨by repeat (first | (with_reducible first | exact HB.out | apply below_alloc | apply pw_below_drewN | apply below_drew1 | refine below_set ?_ GE108.out) | exact HB.out)⟩⟩
         ·rw [if_neg c23] at H
          have c23b0 : (t111 == (wrap64 (t109 + 1))) = false := beq_eq_false_iff_ne.mpr c23
          have c23b1 : (t111 != (wrap64 (t109 + 1))) = true := bne_iff_ne.mpr c23
          (first | rw [c23b0] | (simp only [i64_w, i32_w]; rw [c23b0]) | skip)
          by_cases c24 : t111 > (wrap64 ((wrap64 (t109 + 1)) + 3))
          ·rw [if_pos c24] at H
           have c24b0 : decide ((wrap64 ((wrap64 (t109 + 1)) + 3)) < t111) = true := decide_eq_true c24
           clear c24
           have H' := Aside0.mk H
           clear H
           go_wp2
           go_meet
           case rel => exact ⟨_, (true), (by first | rfl | (simp; done) | (simp [*]; done)), H', ⟨by have := HJ11.out; first | omega | exact Nat.le_refl _⟩, ⟨by (with_reducible repeat (first | refine blk_drewN ?_ _ | refine blk_drew ?_ | refine blk_alloc ?_ _)); exact BK108.out⟩, ⟨by repeat (first | (with_reducible first | exact HB.out | apply below_alloc | apply pw_below_drewN | apply below_drew1 | refine below_set ?_ GE108.out) | exact HB.out)⟩⟩
          ·rw [if_neg c24] at H
           have c24b0 : decide ((wrap64 ((wrap64 (t109 + 1)) + 3)) < t111) = false := decide_eq_false c24
           clear c24
           obtain ⟨ji25, hji25⟩ : ∃ j_ : Int, (wrap64 (t109 + 1)) = j_ := ⟨_, rfl⟩
           replace H : (if 0 ≤ (ji25) then (if (ji25) < (a0.size : Int) then (capstanref02_part.j1 kj11 a0 a1 t110 ji25 t111 ((bt a0 (ji25)) == 48)) else (none)) else (none)) = some (r1, r2, r3, r4, r5, r6) := by first | (rw [hji25] at H; exact H) | (simp only [hji25] at H ⊢; exact H)
           (try rw [hji25] at c23b0)
           (try rw [hji25] at c23b1)
           (try rw [hji25] at c24b0)
           have hji25w : (IntKind.i64.wrap (t109 + 1)) = ji25 := (i64_w _).trans hji25
           by_cases c26 : 0 ≤ (ji25)
           ·rw [if_pos c26] at H
            have c26b0 : decide (0 ≤ (ji25)) = true := decide_eq_true c26
            clear c26
            by_cases c27 : (ji25) < (a0.size : Int)
            ·rw [if_pos c27] at H
             have c27b0 : decide ((ji25) < (a0.size : Int)) = true := decide_eq_true c27
             clear c27
             have H' := Aside0.mk H
             clear H
             have p28 : 0 ≤ ((ji25) : Int) := of_decide_eq_true (by first | (with_reducible assumption) | assumption)
             have q28 : (ji25) < (a0.size : Int) := of_decide_eq_true (by first | (with_reducible assumption) | assumption)
             have hx28 := bt_at a0 (ji25)
             replace p28 := eq_true p28
             replace q28 := eq_true q28
             go_wp2
             go_meet
             case rel => exact ⟨_, (((bt a0 (ji25)) == 48)), (by first | rfl | (simp; done) | (simp only [← hji25] <;> (first | rfl | simp)) | (simp [*]; done)), (by first | exact H' | (rw [hji25]; exact H')), ⟨by have := HJ11.out; first | omega | exact Nat.le_refl _⟩, ⟨by (with_reducible repeat (first | refine blk_drewN ?_ _ | refine blk_drew ?_ | refine blk_alloc ?_ _)); exact BK108.out⟩, ⟨by repeat (first | (with_reducible first | exact HB.out | apply below_alloc | apply pw_below_drewN | apply below_drew1 | refine below_set ?_ GE108.out) | exact HB.out)⟩⟩
            ·rw [if_neg c27] at H
             exact absurd H (by simp)
           ·rw [if_neg c26] at H
            exact absurd H (by simp)
        case rest =>
         clear HC22
         try clear c4
         try clear c4b0
         try clear c4b1
         try clear c5
         try clear c5b0
         try clear c5b1
         try clear c6
         try clear c6b0
         try clear c6b1
         try clear c8
         try clear c8b0
         try clear c19
         obtain ⟨kq, x58_21, rfl, HA, HJ21, BK108, HB⟩ := hcut
         cases kq with
         | zero => exact absurd HA.out (by simp [capstanref02_part.j1])
         | succ kj21 =>
          have H := HA.out
          clear HA
          simp only [capstanref02_part.j1] at H
          by_cases c29 : x58_21 = true
          ·subst c29
           have H1 : (some (0, 0, 0, 0, (wrap64 (t109 + 1)), false)) = some (r1, r2, r3, r4, r5, r6) := by rw [if_pos rfl] at H; exact H
           clear H
           have H := H1
           clear H1
           simp only [Option.some.injEq, Prod.mk.injEq] at H
           obtain ⟨rfl, rfl, rfl, rfl, rfl, rfl⟩ := H
           have hcz30_0 : wc.cell? ⟨gb108, 0, none⟩ = some (.int .i64 0) := (blk_cell BK108.out 0).trans rfl
           have hcz30_1 : wc.cell? ⟨gb108, 1, none⟩ = some (.int .i64 0) := (blk_cell BK108.out 1).trans rfl
           have hcz30_2 : wc.cell? ⟨gb108, 2, none⟩ = some (.int .i64 0) := (blk_cell BK108.out 2).trans rfl
           have hcz30_3 : wc.cell? ⟨gb108, 3, none⟩ = some (.int .i64 0) := (blk_cell BK108.out 3).trans rfl
           have hfz30_0 := blk_frozen BK108.out 0
           have hfz30_1 := blk_frozen BK108.out 1
           have hfz30_2 := blk_frozen BK108.out 2
           have hfz30_3 := blk_frozen BK108.out 3
           go_wp2
           refine bodyPost_ret (results_ctt rfl _ _ gb108 48 #[.int .i64 0, .int .i64 0, .int .i64 0, .int .i64 0] (0, 0) _ rfl (by (with_reducible repeat (first | refine blk_drewN ?_ _ | refine blk_drew ?_ | refine blk_alloc ?_ _)); refine blk_put (cs := #[.int .i64 0, .int .i64 0, .int .i64 0, .int .i64 0]) ?_ 3 _ rfl; (with_reducible repeat (first | refine blk_drewN ?_ _ | refine blk_drew ?_ | refine blk_alloc ?_ _)); refine blk_put (cs := #[.int .i64 0, .int .i64 0, .int .i64 0, .int .i64 0]) ?_ 2 _ rfl; (with_reducible repeat (first | refine blk_drewN ?_ _ | refine blk_drew ?_ | refine blk_alloc ?_ _)); refine blk_put (cs := #[.int .i64 0, .int .i64 0, .int .i64 0, .int .i64 0]) ?_ 1 _ rfl; (with_reducible repeat (first | refine blk_drewN ?_ _ | refine blk_drew ?_ | refine blk_alloc ?_ _)); refine blk_put (cs := #[.int .i64 0, .int .i64 0, .int .i64 0, .int .i64 0]) ?_ 0 _ rfl; (with_reducible repeat (first | refine blk_drewN ?_ _ | refine blk_drew ?_ | refine blk_alloc ?_ _)); exact BK108.out) Tryd.underlying48 rfl (by kernel_rfl)) rfl ?_
           exact ⟨by first | rfl | (simp [errW_none, errW_some] <;> rfl) | (simp [*, errW_none, errW_some] <;> rfl), by repeat (first | (with_reducible first | exact HB.out | apply below_alloc | apply pw_below_drewN | apply below_drew1 | refine below_set ?_ GE108.out) | exact HB.out)⟩
          ·replace c29 := Bool.eq_false_iff.mpr c29
           subst c29
           have H1 : (capstanref02_part.l0 kj21 a0 a1 t110 t111 0 (wrap64 (t109 + 1))) = some (r1, r2, r3, r4, r5, r6) := by rw [if_neg (show ¬ (false = true) by decide)] at H; exact H
           clear H
           have H := H1
           clear H1
           have H' := Aside0.mk H
           clear H
           go_wp2
           go_loopg [11, 12] kj21 (fun kq v11 v12 w' => ∃ (x11_3 : Int) (x12_3 : Int), v11 = .int .i64 x11_3 ∧ v12 = .int .i64 x12_3 ∧ Aside0 (capstanref02_part.l0 kq a0 a1 t110 t111 x11_3 x12_3 = some (r1, r2, r3, r4, r5, r6)) ∧ Aside0 (kq ≤ kj21) ∧ Aside0 (w'.heap[gb108]? = some (.cells #[.int .i64 0, .int .i64 0, .int .i64 0, .int .i64 0] 48 (0, 0))) ∧ Aside0 (Below w.heap.size w w'))
           case atStart => exact ⟨(0), ((wrap64 (t109 + 1))), (by first | rfl | (simp; done) | (simp [*]; done)), (by first | rfl | (simp; done) | (simp [*]; done)), H', ⟨Nat.le_refl _⟩, ⟨by (with_reducible repeat (first | refine blk_drewN ?_ _ | refine blk_drew ?_ | refine blk_alloc ?_ _)); exact BK108.out⟩, ⟨by repeat (first | (with_reducible first | exact HB.out | apply below_alloc | apply pw_below_drewN | apply below_drew1 | refine below_set ?_ GE108.out) | exact HB.out)⟩⟩
           case round =>
            clear H'
            try clear c4
            try clear c4b0
            try clear c4b1
            try clear c5
            try clear c5b0
            try clear c5b1
            try clear c6
            try clear c6b0
            try clear c6b1
            try clear c8
            try clear c8b0
            try clear c19
            try clear c29
            obtain ⟨x11_3, x12_3, rfl, rfl, HA, HK3, BK108, HB⟩ := hrel
            cases gk with
            | zero => exact absurd HA.out (by simp [capstanref02_part.l0])
            | succ k3 =>
             have H := HA.out
             clear HA
             simp only [capstanref02_part.l0] at H
             by_cases c31 : x12_3 < t111
             ·rw [if_pos c31] at H
              have c31b0 : decide (x12_3 < t111) = true := decide_eq_true c31
              clear c31
              by_cases c32 : 0 ≤ x12_3
              ·rw [if_pos c32] at H
               have c32b0 : decide (0 ≤ x12_3) = true := decide_eq_true c32
               clear c32
               by_cases c33 : x12_3 < (a0.size : Int)
               ·rw [if_pos c33] at H
                have c33b0 : decide (x12_3 < (a0.size : Int)) = true := decide_eq_true c33
                clear c33
                have H' := Aside0.mk H
                clear H
                have p34 : 0 ≤ (x12_3 : Int) := of_decide_eq_true (by first | (with_reducible assumption) | assumption)
                have q34 : x12_3 < (a0.size : Int) := of_decide_eq_true (by first | (with_reducible assumption) | assumption)
                have hx34 := bt_at a0 x12_3
                replace p34 := eq_true p34
                replace q34 := eq_true q34
                go_wp2
                go_roundg k3
                case measure => have := HJ11.out; have := HJ21.out; have := HK3.out; omega
                case rel => exact ⟨(wrap64 ((wrap64 (10 * x11_3)) + (((bt a0 x12_3) - 48) % 256))), (wrap64 (x12_3 + 1)), (by first | rfl | (simp; done) | (simp [*]; done)), (by first | rfl | (simp; done) | (simp [*]; done)), H', ⟨by have := HJ11.out; have := HJ21.out; have := HK3.out; omega⟩, ⟨by (with_reducible repeat (first | refine blk_drewN ?_ _ | refine blk_drew ?_ | refine blk_alloc ?_ _)); exact BK108.out⟩, ⟨by repeat (first | (with_reducible first | exact HB.out | apply below_alloc | apply pw_below_drewN | apply below_drew1 | refine below_set ?_ GE108.out) | exact HB.out)⟩⟩
               ·rw [if_neg c33] at H
                exact absurd H (by simp)
              ·rw [if_neg c32] at H
               exact absurd H (by simp)
             ·rw [if_neg c31] at H
              have c31b0 : decide (x12_3 < t111) = false := decide_eq_false c31
              clear c31
              simp only [Option.some.injEq, Prod.mk.injEq] at H
              obtain ⟨rfl, rfl, rfl, rfl, rfl, rfl⟩ := H
              have hcz35_0 : wr.cell? ⟨gb108, 0, none⟩ = some (.int .i64 0) := (blk_cell BK108.out 0).trans rfl
              have hcz35_1 : wr.cell? ⟨gb108, 1, none⟩ = some (.int .i64 0) := (blk_cell BK108.out 1).trans rfl
              have hcz35_2 : wr.cell? ⟨gb108, 2, none⟩ = some (.int .i64 0) := (blk_cell BK108.out 2).trans rfl
              have hcz35_3 : wr.cell? ⟨gb108, 3, none⟩ = some (.int .i64 0) := (blk_cell BK108.out 3).trans rfl
              have hfz35_0 := blk_frozen BK108.out 0
              have hfz35_1 := blk_frozen BK108.out 1
              have hfz35_2 := blk_frozen BK108.out 2
              have hfz35_3 := blk_frozen BK108.out 3
              go_wp2
              refine bodyPost_ret (results_ctt rfl _ _ gb108 48 #[.int .i64 t110, .int .i64 x11_3, .int .i64 a1, .int .i64 t111] (0, 0) _ rfl (by (with_reducible repeat (first | refine blk_drewN ?_ _ | refine blk_drew ?_ | refine blk_alloc ?_ _)); refine blk_put (cs := #[.int .i64 t110, .int .i64 x11_3, .int .i64 a1, .int .i64 0]) ?_ 3 _ rfl; (with_reducible repeat (first | refine blk_drewN ?_ _ | refine blk_drew ?_ | refine blk_alloc ?_ _)); refine blk_put (cs := #[.int .i64 t110, .int .i64 x11_3, .int .i64 0, .int .i64 0]) ?_ 2 _ rfl; (with_reducible repeat (first | refine blk_drewN ?_ _ | refine blk_drew ?_ | refine blk_alloc ?_ _)); refine blk_put (cs := #[.int .i64 t110, .int .i64 0, .int .i64 0, .int .i64 0]) ?_ 1 _ rfl; (with_reducible repeat (first | refine blk_drewN ?_ _ | refine blk_drew ?_ | refine blk_alloc ?_ _)); refine blk_put (cs := #[.int .i64 0, .int .i64 0, .int .i64 0, .int .i64 0]) ?_ 0 _ rfl; (with_reducible repeat (first | refine blk_drewN ?_ _ | refine blk_drew ?_ | refine blk_alloc ?_ _)); exact BK108.out) Tryd.underlying48 rfl (by kernel_rfl)) rfl ?_
              exact ⟨by first | rfl | (simp [errW_none, errW_some] <;> rfl) | (simp [*, errW_none, errW_some] <;> rfl), by repeat (first | (with_reducible first | exact HB.out | apply below_alloc | apply pw_below_drewN | apply below_drew1 | refine below_set ?_ GE108.out) | exact HB.out)⟩
   ·rw [if_neg c6] at H
    exact absurd H (by simp)
  ·rw [if_neg c5] at H
   exact absurd H (by simp)
 ·rw [if_neg c4] at H
  exact absurd H (by simp)

end Go.Proofs.YtdplfphgomckfaaDoor.OP
