/- Walks of functions, written by a program (wip/tools/own.py) over hand contracts; conditions: as each theorem states. -/
import Derived.Test.YtekcdokgpjmbgaaDoorOAx0
import Derived.Test.YtekcdokgpjmbgaaDoorOAx7
import Derived.Test.YtekcdokgpjmbgaaDoorOAx8
namespace Go.Proofs.YtekcdokgpjmbgaaDoor.OA
open Go.RowKit Go.Proofs.YtekcdokgpjmbgaaDoorW.PrintWords Go.Proofs.YtekcdokgpjmbgaaDoorW.PrintLast Go.Proofs.YtekcdokgpjmbgaaDoorW.PrintMore
attribute [local go_sem] max2_int min2_int max_two min_two max_three min_three max_four min_four   -- for this text's walks alone
set_option linter.unusedVariables false
set_option linter.unusedSimpArgs false

/-! ### capstanref10_Read: function 15 -/
mutual
def capstanref10_Read.j0 : Nat → ByteArray → Int → Bool → Option (Int × Int)
  | 0, _, _, _ => none
  | k + 1, x0, x4, x22 => if x22 = true then (some (0, 13)) else (if x4 < (x0.size : Int) then ((capstanref10_run.f k x0 (wrap64 (x4 + 1))).bind fun t116 => (if 0 ≤ x4 then (if (bt x0 x4) = 46 then (if t116 < 1 then (some (0, 13)) else (if t116 > 6 then (some (0, 13)) else (if (wrap64 ((wrap64 (x4 + 1)) + t116)) = (x0.size : Int) then (capstanref10_Read.j1 k x0 x4 t116) else (some (0, 13))))) else (some (0, 13))) else (none))) else (capstanref10_Read.j1 k x0 x4 0))
def capstanref10_Read.j1 : Nat → ByteArray → Int → Int → Option (Int × Int)
  | 0, _, _, _ => none
  | k + 1, x0, x4, x5 => capstanref10_Read.l0 k x0 x4 x5 0 true 0
def capstanref10_Read.l0 : Nat → ByteArray → Int → Int → Int → Bool → Int → Option (Int × Int)
  | 0, _, _, _, _, _, _ => none
  | k + 1, x0, x4, x5, x6, x7, x8 => if x8 < (wrap64 (x4 + 6)) then (capstanref10_Read.j3 k x0 x4 x5 x6 x7 x8 x7) else (capstanref10_Read.j3 k x0 x4 x5 x6 x7 x8 false)
def capstanref10_Read.j3 : Nat → ByteArray → Int → Int → Int → Bool → Int → Bool → Option (Int × Int)
  | 0, _, _, _, _, _, _, _ => none
  | k + 1, x0, x4, x5, x6, x7, x8, x58 => if x58 = true then (if x8 < x4 then (if 0 ≤ x8 then (if x8 < (x0.size : Int) then ((capstanref10_more.f x6 (bt x0 x8)).bind fun bt117 => (capstanref10_Read.l0 k x0 x4 x5 bt117.1 bt117.2 (wrap64 (x8 + 1)))) else (none)) else (none)) else (if (wrap64 (x8 - x4)) < x5 then (if 0 ≤ (wrap64 (x8 + 1)) then (if (wrap64 (x8 + 1)) < (x0.size : Int) then ((capstanref10_more.f x6 (bt x0 (wrap64 (x8 + 1)))).bind fun bt119 => (capstanref10_Read.l0 k x0 x4 x5 bt119.1 bt119.2 (wrap64 (x8 + 1)))) else (none)) else (none)) else ((capstanref10_more.f x6 48).bind fun bt121 => (capstanref10_Read.l0 k x0 x4 x5 bt121.1 bt121.2 (wrap64 (x8 + 1)))))) else (if x7 = true then (some (x6, 0)) else (some (0, 13)))
end
def capstanref10_Read.f (k : Nat) (a0 : ByteArray) : Option (Int × Int) := (capstanref10_run.f k a0 0).bind fun t115 => (if t115 = 0 then (capstanref10_Read.j0 k a0 t115 true) else (if t115 > 1 then (if 0 < (a0.size : Int) then (capstanref10_Read.j0 k a0 t115 ((bt a0 0) == 48)) else (none)) else (capstanref10_Read.j0 k a0 t115 false)))
theorem capstanref10_Read.mono_l : ∀ k, (∀ y0 y1 y2, LeO (capstanref10_Read.j0 k y0 y1 y2) (capstanref10_Read.j0 (k + 1) y0 y1 y2)) ∧ (∀ y0 y1 y2, LeO (capstanref10_Read.j1 k y0 y1 y2) (capstanref10_Read.j1 (k + 1) y0 y1 y2)) ∧ (∀ y0 y1 y2 y3 y4 y5, LeO (capstanref10_Read.l0 k y0 y1 y2 y3 y4 y5) (capstanref10_Read.l0 (k + 1) y0 y1 y2 y3 y4 y5)) ∧ (∀ y0 y1 y2 y3 y4 y5 y6, LeO (capstanref10_Read.j3 k y0 y1 y2 y3 y4 y5 y6) (capstanref10_Read.j3 (k + 1) y0 y1 y2 y3 y4 y5 y6))
  | 0 => ⟨fun _ _ _ r h => by simp [capstanref10_Read.j0] at h, fun _ _ _ r h => by simp [capstanref10_Read.j1] at h, fun _ _ _ _ _ _ r h => by simp [capstanref10_Read.l0] at h, fun _ _ _ _ _ _ _ r h => by simp [capstanref10_Read.j3] at h⟩
  | k + 1 => by
    obtain ⟨ih0, ih1, ih2, ih3⟩ := capstanref10_Read.mono_l k
    refine ⟨?_, ?_, ?_, ?_⟩
    · intro y0 y1 y2
      unfold capstanref10_Read.j0
      repeat' first
      | (with_reducible exact ih0 _ _ _)
      | (with_reducible exact ih1 _ _ _)
      | (with_reducible exact ih2 _ _ _ _ _ _)
      | (with_reducible exact ih3 _ _ _ _ _ _ _)
      | (with_reducible exact capstanref10_run.mono _ _ _)
      | (with_reducible exact LeO.refl _)
      | (with_reducible exact LeO.none _)
      | (with_reducible refine LeO.ite ?_ ?_)
      | (with_reducible refine LeO.bind ?_ (fun _ => ?_))
      | exact ih0 _ _ _
      | exact ih1 _ _ _
      | exact ih2 _ _ _ _ _ _
      | exact ih3 _ _ _ _ _ _ _
      | exact capstanref10_run.mono _ _ _
      | exact LeO.none _
      | refine LeO.ite ?_ ?_
      | refine LeO.bind ?_ (fun _ => ?_)
    · intro y0 y1 y2
      unfold capstanref10_Read.j1
      repeat' first
      | (with_reducible exact ih0 _ _ _)
      | (with_reducible exact ih1 _ _ _)
      | (with_reducible exact ih2 _ _ _ _ _ _)
      | (with_reducible exact ih3 _ _ _ _ _ _ _)
      | (with_reducible exact capstanref10_run.mono _ _ _)
      | (with_reducible exact LeO.refl _)
      | (with_reducible exact LeO.none _)
      | (with_reducible refine LeO.ite ?_ ?_)
      | (with_reducible refine LeO.bind ?_ (fun _ => ?_))
      | exact ih0 _ _ _
      | exact ih1 _ _ _
      | exact ih2 _ _ _ _ _ _
      | exact ih3 _ _ _ _ _ _ _
      | exact capstanref10_run.mono _ _ _
      | exact LeO.none _
      | refine LeO.ite ?_ ?_
      | refine LeO.bind ?_ (fun _ => ?_)
    · intro y0 y1 y2 y3 y4 y5
      unfold capstanref10_Read.l0
      repeat' first
      | (with_reducible exact ih0 _ _ _)
      | (with_reducible exact ih1 _ _ _)
      | (with_reducible exact ih2 _ _ _ _ _ _)
      | (with_reducible exact ih3 _ _ _ _ _ _ _)
      | (with_reducible exact capstanref10_run.mono _ _ _)
      | (with_reducible exact LeO.refl _)
      | (with_reducible exact LeO.none _)
      | (with_reducible refine LeO.ite ?_ ?_)
      | (with_reducible refine LeO.bind ?_ (fun _ => ?_))
      | exact ih0 _ _ _
      | exact ih1 _ _ _
      | exact ih2 _ _ _ _ _ _
      | exact ih3 _ _ _ _ _ _ _
      | exact capstanref10_run.mono _ _ _
      | exact LeO.none _
      | refine LeO.ite ?_ ?_
      | refine LeO.bind ?_ (fun _ => ?_)
    · intro y0 y1 y2 y3 y4 y5 y6
      unfold capstanref10_Read.j3
      repeat' first
      | (with_reducible exact ih0 _ _ _)
      | (with_reducible exact ih1 _ _ _)
      | (with_reducible exact ih2 _ _ _ _ _ _)
      | (with_reducible exact ih3 _ _ _ _ _ _ _)
      | (with_reducible exact capstanref10_run.mono _ _ _)
      | (with_reducible exact LeO.refl _)
      | (with_reducible exact LeO.none _)
      | (with_reducible refine LeO.ite ?_ ?_)
      | (with_reducible refine LeO.bind ?_ (fun _ => ?_))
      | exact ih0 _ _ _
      | exact ih1 _ _ _
      | exact ih2 _ _ _ _ _ _
      | exact ih3 _ _ _ _ _ _ _
      | exact capstanref10_run.mono _ _ _
      | exact LeO.none _
      | refine LeO.ite ?_ ?_
      | refine LeO.bind ?_ (fun _ => ?_)
theorem capstanref10_Read.mono : ∀ a0 k, LeO (capstanref10_Read.f k a0) (capstanref10_Read.f (k + 1) a0) := by
  intro a0 k
  obtain ⟨ih0, ih1, ih2, ih3⟩ := capstanref10_Read.mono_l k
  unfold capstanref10_Read.f
  repeat' first
      | (with_reducible exact ih0 _ _ _)
      | (with_reducible exact ih1 _ _ _)
      | (with_reducible exact ih2 _ _ _ _ _ _)
      | (with_reducible exact ih3 _ _ _ _ _ _ _)
      | (with_reducible exact capstanref10_run.mono _ _ _)
      | (with_reducible exact LeO.refl _)
      | (with_reducible exact LeO.none _)
      | (with_reducible refine LeO.ite ?_ ?_)
      | (with_reducible refine LeO.bind ?_ (fun _ => ?_))
      | exact ih0 _ _ _
      | exact ih1 _ _ _
      | exact ih2 _ _ _ _ _ _
      | exact ih3 _ _ _ _ _ _ _
      | exact capstanref10_run.mono _ _ _
      | exact LeO.none _
      | refine LeO.ite ?_ ?_
      | refine LeO.bind ?_ (fun _ => ?_)
set_option maxHeartbeats 8000000 in
set_option maxRecDepth 100000 in
theorem capstanref10_Read.calls (k : Nat) (a0 : ByteArray) (r1 : Int) (r2 : Int) (w : World) (h : capstanref10_Read.f k a0 = some (r1, r2)) :
    Calls Tryd.prog 15 #[.string a0] w fun e w' => e = .returned (.tuple #[.int .i64 r1, .int .i64 r2]) ∧ Drawn0 w w' := by
  have H : ((capstanref10_run.f k a0 0).bind fun t115 => (if t115 = 0 then (capstanref10_Read.j0 k a0 t115 true) else (if t115 > 1 then (if 0 < (a0.size : Int) then (capstanref10_Read.j0 k a0 t115 ((bt a0 0) == 48)) else (none)) else (capstanref10_Read.j0 k a0 t115 false)))) = some (r1, r2) := h
  clear h
  replace H := Option.bind_eq_some_iff.mp H
  obtain ⟨t115, A20, H⟩ := H
  replace H : (if t115 = 0 then (capstanref10_Read.j0 k a0 t115 true) else (if t115 > 1 then (if 0 < (a0.size : Int) then (capstanref10_Read.j0 k a0 t115 ((bt a0 0) == 48)) else (none)) else (capstanref10_Read.j0 k a0 t115 false))) = some (r1, r2) := H
  have A2 := Aside0.mk A20
  clear A20
  have HC3 := Aside0.mk H
  clear H
  go_enter Tryd.func15, Tryd.ntmps15
  go_upto_region 2 with (first | ((with_reducible refine gate_callee (f := 21) rfl ?_); refine goesL_ (some 11) rfl rfl Tryd.func21 (by kernel_rfl) rfl #[.string a0, .int .i64 0] rfl (by (try simp only [List.map_toArray, List.map_cons, List.map_nil]); first | done | rfl | (simp only [List.length_drop, List.length_take]; rfl)) ?_; (with_reducible refine (capstanref10_run.calls k a0 0 t115 _ A2.out).mono ?_); rintro e w' ⟨rfl, ⟨nd, rfl⟩⟩; refine ⟨_, rfl, ?_⟩))
  (try simp only [Act.put, List.setIfInBounds_toArray, List.set_cons_zero, List.set_cons_succ])
  go_cut [22] (fun v22 wc => ∃ (kq : Nat) (x22_2 : Bool), v22 = .bool x22_2 ∧ Aside0 (capstanref10_Read.j0 kq a0 t115 x22_2 = some (r1, r2)) ∧ Aside0 (kq ≤ k) ∧ Drawn0 w wc)
  case first =>
    have H := HC3.out
    clear HC3
    by_cases c4 : t115 = 0
    · rw [if_pos c4] at H
      have c4b0 : (t115 == 0) = true := beq_iff_eq.mpr c4
      have c4b1 : (t115 != 0) = false := bne_eq_false_iff_eq.mpr c4
      clear c4
      (first | rw [c4b0] | (simp only [i64_w, i32_w]; rw [c4b0]) | skip)
      have H' := Aside0.mk H
      clear H
      go_wp2
      go_meet
      case rel => exact ⟨_, (true), (by first | rfl | (simp; done) | (simp [*]; done)), H', ⟨by first | omega | exact Nat.le_refl _⟩, by repeat (first | exact Drawn0.refl _ | apply Drawn0.step)⟩
    · rw [if_neg c4] at H
      have c4b0 : (t115 == 0) = false := beq_eq_false_iff_ne.mpr c4
      have c4b1 : (t115 != 0) = true := bne_iff_ne.mpr c4
      (first | rw [c4b0] | (simp only [i64_w, i32_w]; rw [c4b0]) | skip)
      by_cases c5 : t115 > 1
      · rw [if_pos c5] at H
        have c5b0 : decide (1 < t115) = true := decide_eq_true c5
        clear c5
        by_cases c6 : 0 < (a0.size : Int)
        · rw [if_pos c6] at H
          have c6b0 : decide (0 < (a0.size : Int)) = true := decide_eq_true c6
          have c6b1 : decide (0 < a0.size) = true := decide_eq_true (by omega)
          clear c6
          have H' := Aside0.mk H
          clear H
          have p7 : 0 ≤ (0 : Int) := (by omega)
          have q7 : 0 < a0.size := (by have : (0 : Int) < (a0.size : Int) := of_decide_eq_true (by first | (with_reducible assumption) | assumption); omega)
          have hx7 : ∀ h : 0 < a0.size, ((a0[0]'h).toNat : Int) = bt a0 0 := bt_at a0 0
          clear p7
          have qi7 : (0 < (a0.size : Int)) = True := eq_true (of_decide_eq_true (by first | (with_reducible assumption) | assumption))
          replace q7 := eq_true q7
          go_wp2
          go_meet
          case rel => exact ⟨_, (((bt a0 0) == 48)), (by first | rfl | (simp; done) | (simp [*]; done)), H', ⟨by first | omega | exact Nat.le_refl _⟩, by repeat (first | exact Drawn0.refl _ | apply Drawn0.step)⟩
        · rw [if_neg c6] at H
          exact absurd H (by simp)
      · rw [if_neg c5] at H
        have c5b0 : decide (1 < t115) = false := decide_eq_false c5
        clear c5
        have H' := Aside0.mk H
        clear H
        go_wp2
        go_meet
        case rel => exact ⟨_, (false), (by first | rfl | (simp; done) | (simp [*]; done)), H', ⟨by first | omega | exact Nat.le_refl _⟩, by repeat (first | exact Drawn0.refl _ | apply Drawn0.step)⟩
  case rest =>
    clear HC3
    try clear c1
    try clear c2
    try clear p2
    try clear c4
    try clear c4b0
    try clear c4b1
    try clear c5
    try clear c5b0
    try clear c6
    try clear c6b0
    try clear c6b1
    try clear p7
    try clear q7
    try clear hx7
    try clear qi7
    try clear p7
    try clear q7
    obtain ⟨kq, x22_2, rfl, HA, HJ2, ⟨mc2, rfl⟩⟩ := hcut
    cases kq with
    | zero => exact absurd HA.out (by simp [capstanref10_Read.j0])
    | succ kj2 =>
      have H := HA.out
      clear HA
      simp only [capstanref10_Read.j0] at H
      by_cases c8 : x22_2 = true
      · subst c8
        have H1 : (some (0, 13)) = some (r1, r2) := by rw [if_pos rfl] at H; exact H
        clear H
        have H := H1
        clear H1
        simp only [Option.some.injEq, Prod.mk.injEq] at H
        obtain ⟨rfl, rfl⟩ := H
        go_wp2
        go_ret2
        exact ⟨by first | rfl | (simp; done) | (simp [*]; done), by repeat (first | exact Drawn0.refl _ | apply Drawn0.step)⟩
      · replace c8 := Bool.eq_false_iff.mpr c8
        subst c8
        have H1 : (if t115 < (a0.size : Int) then ((capstanref10_run.f kj2 a0 (wrap64 (t115 + 1))).bind fun t116 => (if 0 ≤ t115 then (if (bt a0 t115) = 46 then (if t116 < 1 then (some (0, 13)) else (if t116 > 6 then (some (0, 13)) else (if (wrap64 ((wrap64 (t115 + 1)) + t116)) = (a0.size : Int) then (capstanref10_Read.j1 kj2 a0 t115 t116) else (some (0, 13))))) else (some (0, 13))) else (none))) else (capstanref10_Read.j1 kj2 a0 t115 0)) = some (r1, r2) := by rw [if_neg (show ¬ (false = true) by decide)] at H; exact H
        clear H
        have H := H1
        clear H1
        have HC9 := Aside0.mk H
        clear H
        go_upto_if 26 with (fail)
        go_cut [5] (fun v5 wc => ∃ (kq : Nat) (x5_8 : Int), v5 = .int .i64 x5_8 ∧ Aside0 (capstanref10_Read.j1 kq a0 t115 x5_8 = some (r1, r2)) ∧ Aside0 (kq ≤ kj2) ∧ Drawn0 w wc)
        case first =>
          have H := HC9.out
          clear HC9
          by_cases c10 : t115 < (a0.size : Int)
          · rw [if_pos c10] at H
            have c10b0 : decide (t115 < (a0.size : Int)) = true := decide_eq_true c10
            clear c10
            (first | rw [c10b0] | (simp only [i64_w, i32_w]; rw [c10b0]) | skip)
            replace H := Option.bind_eq_some_iff.mp H
            obtain ⟨t116, A110, H⟩ := H
            replace H : (if 0 ≤ t115 then (if (bt a0 t115) = 46 then (if t116 < 1 then (some (0, 13)) else (if t116 > 6 then (some (0, 13)) else (if (wrap64 ((wrap64 (t115 + 1)) + t116)) = (a0.size : Int) then (capstanref10_Read.j1 kj2 a0 t115 t116) else (some (0, 13))))) else (some (0, 13))) else (none)) = some (r1, r2) := H
            have A11 := Aside0.mk A110
            clear A110
            by_cases c12 : 0 ≤ t115
            · rw [if_pos c12] at H
              have c12b0 : decide (0 ≤ t115) = true := decide_eq_true c12
              clear c12
              by_cases c14 : (bt a0 t115) = 46
              · rw [if_pos c14] at H
                have c14b0 : ((bt a0 t115) == 46) = true := beq_iff_eq.mpr c14
                have c14b1 : ((bt a0 t115) != 46) = false := bne_eq_false_iff_eq.mpr c14
                clear c14
                by_cases c15 : t116 < 1
                · rw [if_pos c15] at H
                  have c15b0 : decide (t116 < 1) = true := decide_eq_true c15
                  clear c15
                  simp only [Option.some.injEq, Prod.mk.injEq] at H
                  obtain ⟨rfl, rfl⟩ := H
                  go_wp2_with (first | ((with_reducible refine gate_callee (f := 21) rfl ?_); refine goesL_ (some 30) rfl rfl Tryd.func21 (by kernel_rfl) rfl #[.string a0, .int .i64 (wrap64 (t115 + 1))] rfl (by (try simp only [List.map_toArray, List.map_cons, List.map_nil]); first | done | rfl | (simp only [List.length_drop, List.length_take]; rfl)) ?_; (with_reducible refine (capstanref10_run.calls kj2 a0 (wrap64 (t115 + 1)) t116 _ A11.out).mono ?_); rintro e w' ⟨rfl, ⟨nd, rfl⟩⟩; refine ⟨_, rfl, ?_⟩; have p13 : 0 ≤ (t115 : Int) := of_decide_eq_true (by first | (with_reducible assumption) | assumption); have q13 : t115 < (a0.size : Int) := of_decide_eq_true (by first | (with_reducible assumption) | assumption); have hx13 := bt_at a0 t115; replace p13 := eq_true p13; replace q13 := eq_true q13))
                  go_ret2
                  exact ⟨by first | rfl | (simp; done) | (simp [*]; done), by repeat (first | exact Drawn0.refl _ | apply Drawn0.step)⟩
                · rw [if_neg c15] at H
                  have c15b0 : decide (t116 < 1) = false := decide_eq_false c15
                  clear c15
                  by_cases c16 : t116 > 6
                  · rw [if_pos c16] at H
                    have c16b0 : decide (6 < t116) = true := decide_eq_true c16
                    clear c16
                    simp only [Option.some.injEq, Prod.mk.injEq] at H
                    obtain ⟨rfl, rfl⟩ := H
                    go_wp2_with (first | ((with_reducible refine gate_callee (f := 21) rfl ?_); refine goesL_ (some 30) rfl rfl Tryd.func21 (by kernel_rfl) rfl #[.string a0, .int .i64 (wrap64 (t115 + 1))] rfl (by (try simp only [List.map_toArray, List.map_cons, List.map_nil]); first | done | rfl | (simp only [List.length_drop, List.length_take]; rfl)) ?_; (with_reducible refine (capstanref10_run.calls kj2 a0 (wrap64 (t115 + 1)) t116 _ A11.out).mono ?_); rintro e w' ⟨rfl, ⟨nd, rfl⟩⟩; refine ⟨_, rfl, ?_⟩; have p13 : 0 ≤ (t115 : Int) := of_decide_eq_true (by first | (with_reducible assumption) | assumption); have q13 : t115 < (a0.size : Int) := of_decide_eq_true (by first | (with_reducible assumption) | assumption); have hx13 := bt_at a0 t115; replace p13 := eq_true p13; replace q13 := eq_true q13))
                    go_ret2
                    exact ⟨by first | rfl | (simp; done) | (simp [*]; done), by repeat (first | exact Drawn0.refl _ | apply Drawn0.step)⟩
                  · rw [if_neg c16] at H
                    have c16b0 : decide (6 < t116) = false := decide_eq_false c16
                    clear c16
                    by_cases c17 : (wrap64 ((wrap64 (t115 + 1)) + t116)) = (a0.size : Int)
                    · rw [if_pos c17] at H
                      have c17b0 : ((wrap64 ((wrap64 (t115 + 1)) + t116)) == (a0.size : Int)) = true := beq_iff_eq.mpr c17
                      have c17b1 : ((wrap64 ((wrap64 (t115 + 1)) + t116)) != (a0.size : Int)) = false := bne_eq_false_iff_eq.mpr c17
                      clear c17
                      have H' := Aside0.mk H
                      clear H
                      go_wp2_with (first | ((with_reducible refine gate_callee (f := 21) rfl ?_); refine goesL_ (some 30) rfl rfl Tryd.func21 (by kernel_rfl) rfl #[.string a0, .int .i64 (wrap64 (t115 + 1))] rfl (by (try simp only [List.map_toArray, List.map_cons, List.map_nil]); first | done | rfl | (simp only [List.length_drop, List.length_take]; rfl)) ?_; (with_reducible refine (capstanref10_run.calls kj2 a0 (wrap64 (t115 + 1)) t116 _ A11.out).mono ?_); rintro e w' ⟨rfl, ⟨nd, rfl⟩⟩; refine ⟨_, rfl, ?_⟩; have p13 : 0 ≤ (t115 : Int) := of_decide_eq_true (by first | (with_reducible assumption) | assumption); have q13 : t115 < (a0.size : Int) := of_decide_eq_true (by first | (with_reducible assumption) | assumption); have hx13 := bt_at a0 t115; replace p13 := eq_true p13; replace q13 := eq_true q13))
                      go_meet
                      case rel => exact ⟨_, (t116), (by first | rfl | (simp; done) | (simp [*]; done)), H', ⟨by have := HJ2.out; first | omega | exact Nat.le_refl _⟩, by repeat (first | exact Drawn0.refl _ | apply Drawn0.step)⟩
                    · rw [if_neg c17] at H
                      have c17b0 : ((wrap64 ((wrap64 (t115 + 1)) + t116)) == (a0.size : Int)) = false := beq_eq_false_iff_ne.mpr c17
                      have c17b1 : ((wrap64 ((wrap64 (t115 + 1)) + t116)) != (a0.size : Int)) = true := bne_iff_ne.mpr c17
                      simp only [Option.some.injEq, Prod.mk.injEq] at H
                      obtain ⟨rfl, rfl⟩ := H
                      go_wp2_with (first | ((with_reducible refine gate_callee (f := 21) rfl ?_); refine goesL_ (some 30) rfl rfl Tryd.func21 (by kernel_rfl) rfl #[.string a0, .int .i64 (wrap64 (t115 + 1))] rfl (by (try simp only [List.map_toArray, List.map_cons, List.map_nil]); first | done | rfl | (simp only [List.length_drop, List.length_take]; rfl)) ?_; (with_reducible refine (capstanref10_run.calls kj2 a0 (wrap64 (t115 + 1)) t116 _ A11.out).mono ?_); rintro e w' ⟨rfl, ⟨nd, rfl⟩⟩; refine ⟨_, rfl, ?_⟩; have p13 : 0 ≤ (t115 : Int) := of_decide_eq_true (by first | (with_reducible assumption) | assumption); have q13 : t115 < (a0.size : Int) := of_decide_eq_true (by first | (with_reducible assumption) | assumption); have hx13 := bt_at a0 t115; replace p13 := eq_true p13; replace q13 := eq_true q13))
                      go_ret2
                      exact ⟨by first | rfl | (simp; done) | (simp [*]; done), by repeat (first | exact Drawn0.refl _ | apply Drawn0.step)⟩
              · rw [if_neg c14] at H
                have c14b0 : ((bt a0 t115) == 46) = false := beq_eq_false_iff_ne.mpr c14
                have c14b1 : ((bt a0 t115) != 46) = true := bne_iff_ne.mpr c14
                simp only [Option.some.injEq, Prod.mk.injEq] at H
                obtain ⟨rfl, rfl⟩ := H
                go_wp2_with (first | ((with_reducible refine gate_callee (f := 21) rfl ?_); refine goesL_ (some 30) rfl rfl Tryd.func21 (by kernel_rfl) rfl #[.string a0, .int .i64 (wrap64 (t115 + 1))] rfl (by (try simp only [List.map_toArray, List.map_cons, List.map_nil]); first | done | rfl | (simp only [List.length_drop, List.length_take]; rfl)) ?_; (with_reducible refine (capstanref10_run.calls kj2 a0 (wrap64 (t115 + 1)) t116 _ A11.out).mono ?_); rintro e w' ⟨rfl, ⟨nd, rfl⟩⟩; refine ⟨_, rfl, ?_⟩; have p13 : 0 ≤ (t115 : Int) := of_decide_eq_true (by first | (with_reducible assumption) | assumption); have q13 : t115 < (a0.size : Int) := of_decide_eq_true (by first | (with_reducible assumption) | assumption); have hx13 := bt_at a0 t115; replace p13 := eq_true p13; replace q13 := eq_true q13))
                go_ret2
                exact ⟨by first | rfl | (simp; done) | (simp [*]; done), by repeat (first | exact Drawn0.refl _ | apply Drawn0.step)⟩
            · rw [if_neg c12] at H
              exact absurd H (by simp)
          · rw [if_neg c10] at H
            have c10b0 : decide (t115 < (a0.size : Int)) = false := decide_eq_false c10
            clear c10
            (first | rw [c10b0] | (simp only [i64_w, i32_w]; rw [c10b0]) | skip)
            have H' := Aside0.mk H
            clear H
            go_wp2
            go_meet
            case rel => exact ⟨_, (0), (by first | rfl | (simp; done) | (simp [*]; done)), H', ⟨by have := HJ2.out; first | omega | exact Nat.le_refl _⟩, by repeat (first | exact Drawn0.refl _ | apply Drawn0.step)⟩
        case rest =>
          clear HC9
          try clear c1
          try clear p1
          try clear q1
          try clear hx1
          try clear c2
          try clear p2
          try clear c4
          try clear c4b0
          try clear c4b1
          try clear c5
          try clear c5b0
          try clear c6
          try clear c6b0
          try clear c6b1
          try clear p6
          try clear p7
          try clear q7
          try clear hx7
          try clear qi7
          try clear c8
          try clear c10
          try clear c10b0
          try clear c12
          try clear c12b0
          try clear p13
          try clear q13
          try clear hx13
          try clear c14
          try clear c14b0
          try clear c14b1
          try clear c15
          try clear c15b0
          try clear c16
          try clear c16b0
          try clear c17
          try clear c17b0
          try clear c17b1
          try clear p13
          try clear p2
          try clear p7
          try clear q13
          try clear q7
          obtain ⟨kq, x5_8, rfl, HA, HJ8, ⟨mc8, rfl⟩⟩ := hcut
          cases kq with
          | zero => exact absurd HA.out (by simp [capstanref10_Read.j1])
          | succ kj8 =>
            have H := HA.out
            clear HA
            simp only [capstanref10_Read.j1] at H
            have H' := Aside0.mk H
            clear H
            go_wp2
            go_loopg [6, 7, 8] kj8 (fun kq v6 v7 v8 w' => ∃ (x6_3 : Int) (x7_3 : Bool) (x8_3 : Int), v6 = .int .i64 x6_3 ∧ v7 = .bool x7_3 ∧ v8 = .int .i64 x8_3 ∧ Aside0 (capstanref10_Read.l0 kq a0 t115 x5_8 x6_3 x7_3 x8_3 = some (r1, r2)) ∧ Aside0 (kq ≤ kj8) ∧ Drawn0 w w')
            case atStart => exact ⟨(0), (true), (0), (by first | rfl | (simp; done) | (simp [*]; done)), (by first | rfl | (simp; done) | (simp [*]; done)), (by first | rfl | (simp; done) | (simp [*]; done)), H', ⟨Nat.le_refl _⟩, by repeat (first | exact Drawn0.refl _ | apply Drawn0.step)⟩
            case round =>
              clear H'
              try clear c1
              try clear p1
              try clear q1
              try clear hx1
              try clear c2
              try clear p2
              try clear c4
              try clear c4b0
              try clear c4b1
              try clear c5
              try clear c5b0
              try clear c6
              try clear c6b0
              try clear c6b1
              try clear p6
              try clear p7
              try clear q7
              try clear hx7
              try clear qi7
              try clear c8
              try clear c10
              try clear c10b0
              try clear c12
              try clear c12b0
              try clear p13
              try clear q13
              try clear hx13
              try clear c14
              try clear c14b0
              try clear c14b1
              try clear c15
              try clear c15b0
              try clear c16
              try clear c16b0
              try clear c17
              try clear c17b0
              try clear c17b1
              try clear p1
              try clear p13
              try clear p2
              try clear p6
              try clear p7
              try clear q1
              try clear q13
              try clear q7
              obtain ⟨x6_3, x7_3, x8_3, rfl, rfl, rfl, HA, HK3, ⟨m3, rfl⟩⟩ := hrel
              cases gk with
              | zero => exact absurd HA.out (by simp [capstanref10_Read.l0])
              | succ k3 =>
                have H := HA.out
                clear HA
                simp only [capstanref10_Read.l0] at H
                have HC18 := Aside0.mk H
                clear H
                go_upto_region 12 with (fail)
                go_cut [58] (fun v58 wc => ∃ (kq : Nat) (x58_17 : Bool), v58 = .bool x58_17 ∧ Aside0 (capstanref10_Read.j3 kq a0 t115 x5_8 x6_3 x7_3 x8_3 x58_17 = some (r1, r2)) ∧ Aside0 (kq ≤ k3) ∧ Drawn0 w wc)
                case first =>
                  have H := HC18.out
                  clear HC18
                  by_cases c19 : x8_3 < (wrap64 (t115 + 6))
                  · rw [if_pos c19] at H
                    have c19b0 : decide (x8_3 < (wrap64 (t115 + 6))) = true := decide_eq_true c19
                    clear c19
                    (first | rw [c19b0] | (simp only [i64_w, i32_w]; rw [c19b0]) | skip)
                    have H' := Aside0.mk H
                    clear H
                    go_wp2
                    go_meet
                    case rel => exact ⟨_, (x7_3), (by first | rfl | (simp; done) | (simp [*]; done)), H', ⟨by have := HJ2.out; have := HJ8.out; have := HK3.out; first | omega | exact Nat.le_refl _⟩, by repeat (first | exact Drawn0.refl _ | apply Drawn0.step)⟩
                  · rw [if_neg c19] at H
                    have c19b0 : decide (x8_3 < (wrap64 (t115 + 6))) = false := decide_eq_false c19
                    clear c19
                    (first | rw [c19b0] | (simp only [i64_w, i32_w]; rw [c19b0]) | skip)
                    have H' := Aside0.mk H
                    clear H
                    go_wp2
                    go_meet
                    case rel => exact ⟨_, (false), (by first | rfl | (simp; done) | (simp [*]; done)), H', ⟨by have := HJ2.out; have := HJ8.out; have := HK3.out; first | omega | exact Nat.le_refl _⟩, by repeat (first | exact Drawn0.refl _ | apply Drawn0.step)⟩
                case rest =>
                  clear HC18
                  try clear c1
                  try clear p1
                  try clear q1
                  try clear hx1
                  try clear c2
                  try clear p2
                  try clear c4
                  try clear c4b0
                  try clear c4b1
                  try clear c5
                  try clear c5b0
                  try clear c6
                  try clear c6b0
                  try clear c6b1
                  try clear p6
                  try clear p7
                  try clear q7
                  try clear hx7
                  try clear qi7
                  try clear c8
                  try clear c10
                  try clear c10b0
                  try clear c12
                  try clear c12b0
                  try clear p13
                  try clear q13
                  try clear hx13
                  try clear c14
                  try clear c14b0
                  try clear c14b1
                  try clear c15
                  try clear c15b0
                  try clear c16
                  try clear c16b0
                  try clear c17
                  try clear c17b0
                  try clear c17b1
                  try clear c19
                  try clear c19b0
                  try clear p1
                  try clear p13
                  try clear p2
                  try clear p6
                  try clear p7
                  try clear q1
                  try clear q13
                  try clear q7
                  obtain ⟨kq, x58_17, rfl, HA, HJ17, ⟨mc17, rfl⟩⟩ := hcut
                  cases kq with
                  | zero => exact absurd HA.out (by simp [capstanref10_Read.j3])
                  | succ kj17 =>
                    have H := HA.out
                    clear HA
                    simp only [capstanref10_Read.j3] at H
                    by_cases c20 : x58_17 = true
                    · subst c20
                      have H1 : (if x8_3 < t115 then (if 0 ≤ x8_3 then (if x8_3 < (a0.size : Int) then ((capstanref10_more.f x6_3 (bt a0 x8_3)).bind fun bt117 => (capstanref10_Read.l0 kj17 a0 t115 x5_8 bt117.1 bt117.2 (wrap64 (x8_3 + 1)))) else (none)) else (none)) else (if (wrap64 (x8_3 - t115)) < x5_8 then (if 0 ≤ (wrap64 (x8_3 + 1)) then (if (wrap64 (x8_3 + 1)) < (a0.size : Int) then ((capstanref10_more.f x6_3 (bt a0 (wrap64 (x8_3 + 1)))).bind fun bt119 => (capstanref10_Read.l0 kj17 a0 t115 x5_8 bt119.1 bt119.2 (wrap64 (x8_3 + 1)))) else (none)) else (none)) else ((capstanref10_more.f x6_3 48).bind fun bt121 => (capstanref10_Read.l0 kj17 a0 t115 x5_8 bt121.1 bt121.2 (wrap64 (x8_3 + 1)))))) = some (r1, r2) := by rw [if_pos rfl] at H; exact H
                      clear H
                      have H := H1
                      clear H1
                      by_cases c21 : x8_3 < t115
                      · rw [if_pos c21] at H
                        have c21b0 : decide (x8_3 < t115) = true := decide_eq_true c21
                        clear c21
                        by_cases c22 : 0 ≤ x8_3
                        · rw [if_pos c22] at H
                          have c22b0 : decide (0 ≤ x8_3) = true := decide_eq_true c22
                          clear c22
                          by_cases c23 : x8_3 < (a0.size : Int)
                          · rw [if_pos c23] at H
                            have c23b0 : decide (x8_3 < (a0.size : Int)) = true := decide_eq_true c23
                            clear c23
                            replace H := Option.bind_eq_some_iff.mp H
                            obtain ⟨⟨t117, t118⟩, A250, H⟩ := H
                            replace H : (capstanref10_Read.l0 kj17 a0 t115 x5_8 t117 t118 (wrap64 (x8_3 + 1))) = some (r1, r2) := H
                            have A25 := Aside0.mk A250
                            clear A250
                            have H' := Aside0.mk H
                            clear H
                            have p24 : 0 ≤ (x8_3 : Int) := of_decide_eq_true (by first | (with_reducible assumption) | assumption)
                            have q24 : x8_3 < (a0.size : Int) := of_decide_eq_true (by first | (with_reducible assumption) | assumption)
                            have hx24 := bt_at a0 x8_3
                            replace p24 := eq_true p24
                            replace q24 := eq_true q24
                            go_wp2_with (first | ((with_reducible refine gate_callee (f := 27) rfl ?_); refine goesL_ (some 79) rfl rfl Tryd.func27 (by kernel_rfl) rfl #[.int .i64 x6_3, .int .u8 (bt a0 x8_3)] rfl (by (try simp only [List.map_toArray, List.map_cons, List.map_nil]); first | done | rfl | (simp only [List.length_drop, List.length_take]; rfl)) ?_; (with_reducible refine (capstanref10_more.calls x6_3 (bt a0 x8_3) t117 t118 _ A25.out).mono ?_); rintro e w' ⟨rfl, ⟨nd, rfl⟩⟩; refine ⟨_, rfl, ?_⟩))
                            go_roundg kj17
                            case measure => have := HJ2.out; have := HJ8.out; have := HK3.out; have := HJ17.out; omega
                            case rel => exact ⟨(t117), (t118), (wrap64 (x8_3 + 1)), (by first | rfl | (simp; done) | (simp [*]; done)), (by first | rfl | (simp; done) | (simp [*]; done)), (by first | rfl | (simp; done) | (simp [*]; done)), H', ⟨by have := HJ2.out; have := HJ8.out; have := HK3.out; have := HJ17.out; omega⟩, by repeat (first | exact Drawn0.refl _ | apply Drawn0.step)⟩
                          · rw [if_neg c23] at H
                            exact absurd H (by simp)
                        · rw [if_neg c22] at H
                          exact absurd H (by simp)
                      · rw [if_neg c21] at H
                        have c21b0 : decide (x8_3 < t115) = false := decide_eq_false c21
                        clear c21
                        by_cases c26 : (wrap64 (x8_3 - t115)) < x5_8
                        · rw [if_pos c26] at H
                          have c26b0 : decide ((wrap64 (x8_3 - t115)) < x5_8) = true := decide_eq_true c26
                          clear c26
                          obtain ⟨ji27, hji27⟩ : ∃ j_ : Int, (wrap64 (x8_3 + 1)) = j_ := ⟨_, rfl⟩
                          replace H : (if 0 ≤ (ji27) then (if (ji27) < (a0.size : Int) then ((capstanref10_more.f x6_3 (bt a0 (ji27))).bind fun bt119 => (capstanref10_Read.l0 kj17 a0 t115 x5_8 bt119.1 bt119.2 ji27)) else (none)) else (none)) = some (r1, r2) := by first | (rw [hji27] at H; exact H) | (simp only [hji27] at H ⊢; exact H)
                          have hji27w : (IntKind.i64.wrap (x8_3 + 1)) = ji27 := (i64_w _).trans hji27
                          by_cases c28 : 0 ≤ (ji27)
                          · rw [if_pos c28] at H
                            have c28b0 : decide (0 ≤ (ji27)) = true := decide_eq_true c28
                            clear c28
                            by_cases c29 : (ji27) < (a0.size : Int)
                            · rw [if_pos c29] at H
                              have c29b0 : decide ((ji27) < (a0.size : Int)) = true := decide_eq_true c29
                              clear c29
                              replace H := Option.bind_eq_some_iff.mp H
                              obtain ⟨⟨t119, t120⟩, A310, H⟩ := H
                              replace H : (capstanref10_Read.l0 kj17 a0 t115 x5_8 t119 t120 ji27) = some (r1, r2) := H
                              have A31 := Aside0.mk A310
                              clear A310
                              have H' := Aside0.mk H
                              clear H
                              have p30 : 0 ≤ ((ji27) : Int) := of_decide_eq_true (by first | (with_reducible assumption) | assumption)
                              have q30 : (ji27) < (a0.size : Int) := of_decide_eq_true (by first | (with_reducible assumption) | assumption)
                              have hx30 := bt_at a0 (ji27)
                              replace p30 := eq_true p30
                              replace q30 := eq_true q30
                              go_wp2_with (first | ((with_reducible refine gate_callee (f := 27) rfl ?_); refine goesL_ (some 79) rfl rfl Tryd.func27 (by kernel_rfl) rfl #[.int .i64 x6_3, .int .u8 (bt a0 (ji27))] rfl (by (try simp only [List.map_toArray, List.map_cons, List.map_nil]); first | done | (simp only [hji27]; rfl) | rfl | (simp only [List.length_drop, List.length_take]; rfl)) ?_; (with_reducible refine (capstanref10_more.calls x6_3 (bt a0 (ji27)) t119 t120 _ A31.out).mono ?_); rintro e w' ⟨rfl, ⟨nd, rfl⟩⟩; refine ⟨_, rfl, ?_⟩))
                              go_roundg kj17
                              case measure => have := HJ2.out; have := HJ8.out; have := HK3.out; have := HJ17.out; omega
                              case rel => exact ⟨(t119), (t120), (ji27), (by first | rfl | (simp; done) | (simp [*]; done)), (by first | rfl | (simp; done) | (simp [*]; done)), (by first | rfl | (simp; done) | (simp only [← hji27] <;> (first | rfl | simp)) | (simp [*]; done)), H', ⟨by have := HJ2.out; have := HJ8.out; have := HK3.out; have := HJ17.out; omega⟩, by repeat (first | exact Drawn0.refl _ | apply Drawn0.step)⟩
                            · rw [if_neg c29] at H
                              exact absurd H (by simp)
                          · rw [if_neg c28] at H
                            exact absurd H (by simp)
                        · rw [if_neg c26] at H
                          have c26b0 : decide ((wrap64 (x8_3 - t115)) < x5_8) = false := decide_eq_false c26
                          clear c26
                          replace H := Option.bind_eq_some_iff.mp H
                          obtain ⟨⟨t121, t122⟩, A320, H⟩ := H
                          replace H : (capstanref10_Read.l0 kj17 a0 t115 x5_8 t121 t122 (wrap64 (x8_3 + 1))) = some (r1, r2) := H
                          have A32 := Aside0.mk A320
                          clear A320
                          have H' := Aside0.mk H
                          clear H
                          go_wp2_with (first | ((with_reducible refine gate_callee (f := 27) rfl ?_); refine goesL_ (some 79) rfl rfl Tryd.func27 (by kernel_rfl) rfl #[.int .i64 x6_3, .int .u8 48] rfl (by (try simp only [List.map_toArray, List.map_cons, List.map_nil]); first | done | rfl | (simp only [List.length_drop, List.length_take]; rfl)) ?_; (with_reducible refine (capstanref10_more.calls x6_3 48 t121 t122 _ A32.out).mono ?_); rintro e w' ⟨rfl, ⟨nd, rfl⟩⟩; refine ⟨_, rfl, ?_⟩))
                          go_roundg kj17
                          case measure => have := HJ2.out; have := HJ8.out; have := HK3.out; have := HJ17.out; omega
                          case rel => exact ⟨(t121), (t122), (wrap64 (x8_3 + 1)), (by first | rfl | (simp; done) | (simp [*]; done)), (by first | rfl | (simp; done) | (simp [*]; done)), (by first | rfl | (simp; done) | (simp [*]; done)), H', ⟨by have := HJ2.out; have := HJ8.out; have := HK3.out; have := HJ17.out; omega⟩, by repeat (first | exact Drawn0.refl _ | apply Drawn0.step)⟩
                    · replace c20 := Bool.eq_false_iff.mpr c20
                      subst c20
                      have H1 : (if x7_3 = true then (some (x6_3, 0)) else (some (0, 13))) = some (r1, r2) := by rw [if_neg (show ¬ (false = true) by decide)] at H; exact H
                      clear H
                      have H := H1
                      clear H1
                      by_cases c33 : x7_3 = true
                      · subst c33
                        have H1 : (some (x6_3, 0)) = some (r1, r2) := by rw [if_pos rfl] at H; exact H
                        clear H
                        have H := H1
                        clear H1
                        simp only [Option.some.injEq, Prod.mk.injEq] at H
                        obtain ⟨rfl, rfl⟩ := H
                        go_wp2
                        go_ret2
                        exact ⟨by first | rfl | (simp; done) | (simp [*]; done), by repeat (first | exact Drawn0.refl _ | apply Drawn0.step)⟩
                      · replace c33 := Bool.eq_false_iff.mpr c33
                        subst c33
                        have H1 : (some (0, 13)) = some (r1, r2) := by rw [if_neg (show ¬ (false = true) by decide)] at H; exact H
                        clear H
                        have H := H1
                        clear H1
                        simp only [Option.some.injEq, Prod.mk.injEq] at H
                        obtain ⟨rfl, rfl⟩ := H
                        go_wp2
                        go_ret2
                        exact ⟨by first | rfl | (simp; done) | (simp [*]; done), by repeat (first | exact Drawn0.refl _ | apply Drawn0.step)⟩

end Go.Proofs.YtekcdokgpjmbgaaDoor.OA
