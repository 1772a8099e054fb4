-- PRINTED BY print.sh 35421559b90ae4d0a3588c463048766b98c2df88dd9212a6774a882060cdf62d: not written by this session
import Derived.Test.YtmgjmjoclglidaaDoorPScanRunsx0
import Derived.Test.YtmgjmjoclglidaaDoorPScanRunsx8
import Derived.Test.YtmgjmjoclglidaaDoorPScanRunsx9
namespace Go.Proofs.YtmgjmjoclglidaaDoor.PScanRuns
open Go.RowKit Go.Proofs.YtmgjmjoclglidaaDoorW.PrintWords Go.Proofs.YtmgjmjoclglidaaDoorW.PrintLast Go.Proofs.YtmgjmjoclglidaaDoorW.PrintMore
attribute [local go_sem] max2_int min2_int max_two min_two max_three min_three max_four min_four   -- for this text's walks alone
set_option linter.unusedVariables false
set_option linter.unusedSimpArgs false

/-! ### capstanref09_Run: function 18 -/
mutual
def capstanref09_Run.j0 : Nat → ByteArray → Int → Int → Bool → Option (Int)
  | 0, _, _, _, _ => none
  | k + 1, x0, x1, x2, x16 => if x16 = true then (some x1) else (capstanref09_Run.l0 k x0 x1 x2)
def capstanref09_Run.l0 : Nat → ByteArray → Int → Int → Option (Int)
  | 0, _, _, _ => none
  | k + 1, x0, x1, x2 => if x1 < (x0.size : Int) then ((capstanref09_Sequence.f k x0 x1).bind fun bt105 => (if bt105.2 = 0 then (some x1) else ((capstanref09_Is.f k bt105.1 x2).bind fun t107 => (if t107 = true then (capstanref09_Run.l0 k x0 (wrap64 (x1 + bt105.2)) x2) else (some x1))))) else (some x1)
end
def capstanref09_Run.f (k : Nat) (a0 : ByteArray) (a1 : Int) (a2 : Int) : Option (Int) := if a1 < 0 then (capstanref09_Run.j0 k a0 a1 a2 true) else (capstanref09_Run.j0 k a0 a1 a2 (decide (a1 > (a0.size : Int))))
theorem capstanref09_Run.mono_l : ∀ k, (∀ y0 y1 y2 y3, LeO (capstanref09_Run.j0 k y0 y1 y2 y3) (capstanref09_Run.j0 (k + 1) y0 y1 y2 y3)) ∧ (∀ y0 y1 y2, LeO (capstanref09_Run.l0 k y0 y1 y2) (capstanref09_Run.l0 (k + 1) y0 y1 y2))
  | 0 => ⟨fun _ _ _ _ r h => by simp [capstanref09_Run.j0] at h, fun _ _ _ r h => by simp [capstanref09_Run.l0] at h⟩
  | k + 1 => by
    obtain ⟨ih0, ih1⟩ := capstanref09_Run.mono_l k
    refine ⟨?_, ?_⟩
    · intro y0 y1 y2 y3
      unfold capstanref09_Run.j0
      repeat' first
      | (with_reducible exact ih0 _ _ _ _)
      | (with_reducible exact ih1 _ _ _)
      | (with_reducible exact capstanref09_Is.mono _ _ _)
      | (with_reducible exact capstanref09_Sequence.mono _ _ _)
      | (with_reducible exact LeO.refl _)
      | (with_reducible exact LeO.none _)
      | (with_reducible refine LeO.ite ?_ ?_)
      | (with_reducible refine LeO.bind ?_ (fun _ => ?_))
      | exact ih0 _ _ _ _
      | exact ih1 _ _ _
      | exact capstanref09_Is.mono _ _ _
      | exact capstanref09_Sequence.mono _ _ _
      | exact LeO.none _
      | refine LeO.ite ?_ ?_
      | refine LeO.bind ?_ (fun _ => ?_)
    · intro y0 y1 y2
      unfold capstanref09_Run.l0
      repeat' first
      | (with_reducible exact ih0 _ _ _ _)
      | (with_reducible exact ih1 _ _ _)
      | (with_reducible exact capstanref09_Is.mono _ _ _)
      | (with_reducible exact capstanref09_Sequence.mono _ _ _)
      | (with_reducible exact LeO.refl _)
      | (with_reducible exact LeO.none _)
      | (with_reducible refine LeO.ite ?_ ?_)
      | (with_reducible refine LeO.bind ?_ (fun _ => ?_))
      | exact ih0 _ _ _ _
      | exact ih1 _ _ _
      | exact capstanref09_Is.mono _ _ _
      | exact capstanref09_Sequence.mono _ _ _
      | exact LeO.none _
      | refine LeO.ite ?_ ?_
      | refine LeO.bind ?_ (fun _ => ?_)
theorem capstanref09_Run.mono : ∀ a0 a1 a2 k, LeO (capstanref09_Run.f k a0 a1 a2) (capstanref09_Run.f (k + 1) a0 a1 a2) := by
  intro a0 a1 a2 k
  obtain ⟨ih0, ih1⟩ := capstanref09_Run.mono_l k
  unfold capstanref09_Run.f
  repeat' first
      | (with_reducible exact ih0 _ _ _ _)
      | (with_reducible exact ih1 _ _ _)
      | (with_reducible exact capstanref09_Is.mono _ _ _)
      | (with_reducible exact capstanref09_Sequence.mono _ _ _)
      | (with_reducible exact LeO.refl _)
      | (with_reducible exact LeO.none _)
      | (with_reducible refine LeO.ite ?_ ?_)
      | (with_reducible refine LeO.bind ?_ (fun _ => ?_))
      | exact ih0 _ _ _ _
      | exact ih1 _ _ _
      | exact capstanref09_Is.mono _ _ _
      | exact capstanref09_Sequence.mono _ _ _
      | exact LeO.none _
      | refine LeO.ite ?_ ?_
      | refine LeO.bind ?_ (fun _ => ?_)
set_option maxHeartbeats 8000000 in
set_option maxRecDepth 100000 in
theorem capstanref09_Run.calls (k : Nat) (a0 : ByteArray) (a1 : Int) (a2 : Int) (r : Int) (w : World) (h : capstanref09_Run.f k a0 a1 a2 = some r) :
    Calls Tryd.prog 18 #[.string a0, .int .i64 a1, .int .i64 a2] w fun e w' => e = .returned (.int .i64 r) ∧ Drawn0 w w' := by
  have H : (if a1 < 0 then (capstanref09_Run.j0 k a0 a1 a2 true) else (capstanref09_Run.j0 k a0 a1 a2 (decide (a1 > (a0.size : Int))))) = some r := h
  clear h
  have HC4 := Aside0.mk H
  clear H
  go_enter Tryd.func18, Tryd.ntmps18
  go_upto_region 1 with (fail)
  go_cut [16] (fun v16 wc => ∃ (kq : Nat) (x16_3 : Bool), v16 = .bool x16_3 ∧ Aside0 (capstanref09_Run.j0 kq a0 a1 a2 x16_3 = some r) ∧ Aside0 (kq ≤ k) ∧ Drawn0 w wc)
  case first =>
    have H := HC4.out
    clear HC4
    by_cases c5 : a1 < 0
    · rw [if_pos c5] at H
      have c5b0 : decide (a1 < 0) = true := decide_eq_true c5
      clear c5
      (first | rw [c5b0] | (simp only [i64_w, i32_w]; rw [c5b0]) | skip)
      have H' := Aside0.mk H
      clear H
      go_wp2
      go_meet
      case rel => exact ⟨_, (true), (by first | rfl | (simp; done) | (simp [*]; done)), H', ⟨by first | omega | exact Nat.le_refl _⟩, by repeat (first | exact Drawn0.refl _ | apply Drawn0.step)⟩
    · rw [if_neg c5] at H
      have c5b0 : decide (a1 < 0) = false := decide_eq_false c5
      clear c5
      (first | rw [c5b0] | (simp only [i64_w, i32_w]; rw [c5b0]) | skip)
      have H' := Aside0.mk H
      clear H
      go_wp2
      go_meet
      case rel => exact ⟨_, (decide (a1 > (a0.size : Int))), (by first | rfl | (simp; done) | (simp [*]; done)), H', ⟨by first | omega | exact Nat.le_refl _⟩, by repeat (first | exact Drawn0.refl _ | apply Drawn0.step)⟩
  case rest =>
    clear HC4
    try clear c1
    try clear p2
    try clear c5
    try clear c5b0
    obtain ⟨kq, x16_3, rfl, HA, HJ3, ⟨mc3, rfl⟩⟩ := hcut
    cases kq with
    | zero => exact absurd HA.out (by simp [capstanref09_Run.j0])
    | succ kj3 =>
      have H := HA.out
      clear HA
      simp only [capstanref09_Run.j0] at H
      by_cases c6 : x16_3 = true
      · subst c6
        have H1 : (some a1) = some r := by rw [if_pos rfl] at H; exact H
        clear H
        have H := H1
        clear H1
        obtain rfl := Option.some.inj H
        go_wp2
        go_ret
        exact ⟨by first | rfl | (simp; done) | (simp [*]; done), by repeat (first | exact Drawn0.refl _ | apply Drawn0.step)⟩
      · replace c6 := Bool.eq_false_iff.mpr c6
        subst c6
        have H1 : (capstanref09_Run.l0 kj3 a0 a1 a2) = some r := by rw [if_neg (show ¬ (false = true) by decide)] at H; exact H
        clear H
        have H := H1
        clear H1
        have H' := Aside0.mk H
        clear H
        go_wp2
        go_loopg [1] kj3 (fun kq v1 w' => ∃ (x1_2 : Int), v1 = .int .i64 x1_2 ∧ Aside0 (capstanref09_Run.l0 kq a0 x1_2 a2 = some r) ∧ Aside0 (kq ≤ kj3) ∧ Drawn0 w w')
        case atStart => exact ⟨(a1), (by first | rfl | (simp; done) | (simp [*]; done)), H', ⟨Nat.le_refl _⟩, by repeat (first | exact Drawn0.refl _ | apply Drawn0.step)⟩
        case round =>
          clear H'
          try clear c1
          try clear p2
          try clear c3
          try clear c5
          try clear c5b0
          try clear c6
          try clear p2
          obtain ⟨x1_2, rfl, HA, HK2, ⟨m2, rfl⟩⟩ := hrel
          cases gk with
          | zero => exact absurd HA.out (by simp [capstanref09_Run.l0])
          | succ k2 =>
            have H := HA.out
            clear HA
            simp only [capstanref09_Run.l0] at H
            by_cases c7 : x1_2 < (a0.size : Int)
            · rw [if_pos c7] at H
              have c7b0 : decide (x1_2 < (a0.size : Int)) = true := decide_eq_true c7
              clear c7
              replace H := Option.bind_eq_some_iff.mp H
              obtain ⟨⟨t105, t106⟩, A80, H⟩ := H
              replace H : (if t106 = 0 then (some x1_2) else ((capstanref09_Is.f k2 t105 a2).bind fun t107 => (if t107 = true then (capstanref09_Run.l0 k2 a0 (wrap64 (x1_2 + t106)) a2) else (some x1_2)))) = some r := H
              have A8 := Aside0.mk A80
              clear A80
              by_cases c9 : t106 = 0
              · rw [if_pos c9] at H
                have c9b0 : (t106 == 0) = true := beq_iff_eq.mpr c9
                have c9b1 : (t106 != 0) = false := bne_eq_false_iff_eq.mpr c9
                clear c9
                obtain rfl := Option.some.inj H
                go_wp2_with (first | ((with_reducible refine gate_callee (f := 21) rfl ?_); refine goesL_ (some 25) rfl rfl Tryd.func21 (by kernel_rfl) rfl #[.string a0, .int .i64 x1_2] rfl (by (try simp only [List.map_toArray, List.map_cons, List.map_nil]); first | done | rfl | (simp only [List.length_drop, List.length_take]; rfl)) ?_; (with_reducible refine (capstanref09_Sequence.calls k2 a0 x1_2 t105 t106 _ A8.out).mono ?_); rintro e w' ⟨rfl, ⟨nd, rfl⟩⟩; refine ⟨_, rfl, ?_⟩))
                go_ret
                exact ⟨by first | rfl | (simp; done) | (simp [*]; done), by repeat (first | exact Drawn0.refl _ | apply Drawn0.step)⟩
              · rw [if_neg c9] at H
                have c9b0 : (t106 == 0) = false := beq_eq_false_iff_ne.mpr c9
                have c9b1 : (t106 != 0) = true := bne_iff_ne.mpr c9
                replace H := Option.bind_eq_some_iff.mp H
                obtain ⟨t107, A100, H⟩ := H
                replace H : (if t107 = true then (capstanref09_Run.l0 k2 a0 (wrap64 (x1_2 + t106)) a2) else (some x1_2)) = some r := H
                have A10 := Aside0.mk A100
                clear A100
                by_cases c11 : t107 = true
                · subst c11
                  have H1 : (capstanref09_Run.l0 k2 a0 (wrap64 (x1_2 + t106)) a2) = some r := by rw [if_pos rfl] at H; exact H
                  clear H
                  have H := H1
                  clear H1
                  have H' := Aside0.mk H
                  clear H
                  go_wp2_with (first | ((with_reducible refine gate_callee (f := 21) rfl ?_); refine goesL_ (some 25) rfl rfl Tryd.func21 (by kernel_rfl) rfl #[.string a0, .int .i64 x1_2] rfl (by (try simp only [List.map_toArray, List.map_cons, List.map_nil]); first | done | rfl | (simp only [List.length_drop, List.length_take]; rfl)) ?_; (with_reducible refine (capstanref09_Sequence.calls k2 a0 x1_2 t105 t106 _ A8.out).mono ?_); rintro e w' ⟨rfl, ⟨nd, rfl⟩⟩; refine ⟨_, rfl, ?_⟩) | (go_at_call 16; (with_reducible refine (capstanref09_Is.calls k2 t105 a2 true _ A10.out).mono ?_); rintro e w' ⟨rfl, ⟨nd, rfl⟩⟩))
                  go_roundg k2
                  case measure => have := HJ3.out; have := HK2.out; omega
                  case rel => exact ⟨(wrap64 (x1_2 + t106)), (by first | rfl | (simp; done) | (simp [*]; done)), H', ⟨by have := HJ3.out; have := HK2.out; omega⟩, by repeat (first | exact Drawn0.refl _ | apply Drawn0.step)⟩
                · replace c11 := Bool.eq_false_iff.mpr c11
                  subst c11
                  have H1 : (some x1_2) = some r := by rw [if_neg (show ¬ (false = true) by decide)] at H; exact H
                  clear H
                  have H := H1
                  clear H1
                  obtain rfl := Option.some.inj H
                  go_wp2_with (first | ((with_reducible refine gate_callee (f := 21) rfl ?_); refine goesL_ (some 25) rfl rfl Tryd.func21 (by kernel_rfl) rfl #[.string a0, .int .i64 x1_2] rfl (by (try simp only [List.map_toArray, List.map_cons, List.map_nil]); first | done | rfl | (simp only [List.length_drop, List.length_take]; rfl)) ?_; (with_reducible refine (capstanref09_Sequence.calls k2 a0 x1_2 t105 t106 _ A8.out).mono ?_); rintro e w' ⟨rfl, ⟨nd, rfl⟩⟩; refine ⟨_, rfl, ?_⟩) | (go_at_call 16; (with_reducible refine (capstanref09_Is.calls k2 t105 a2 false _ A10.out).mono ?_); rintro e w' ⟨rfl, ⟨nd, rfl⟩⟩))
                  go_ret
                  exact ⟨by first | rfl | (simp; done) | (simp [*]; done), by repeat (first | exact Drawn0.refl _ | apply Drawn0.step)⟩
            · rw [if_neg c7] at H
              have c7b0 : decide (x1_2 < (a0.size : Int)) = false := decide_eq_false c7
              clear c7
              obtain rfl := Option.some.inj H
              go_wp2
              go_ret
              exact ⟨by first | rfl | (simp; done) | (simp [*]; done), by repeat (first | exact Drawn0.refl _ | apply Drawn0.step)⟩

end Go.Proofs.YtmgjmjoclglidaaDoor.PScanRuns
