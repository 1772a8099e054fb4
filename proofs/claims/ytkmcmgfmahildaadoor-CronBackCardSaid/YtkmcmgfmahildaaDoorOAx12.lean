/- Walks of functions, written by a program (wip/tools/own.py) over hand contracts; conditions: as each theorem states. -/
import Derived.Test.YtkmcmgfmahildaaDoorOAx0
import Derived.Test.YtkmcmgfmahildaaDoorOAx11
namespace Go.Proofs.YtkmcmgfmahildaaDoor.OA
open Go.RowKit Go.Proofs.YtkmcmgfmahildaaDoorW.PrintWords Go.Proofs.YtkmcmgfmahildaaDoorW.PrintLast Go.Proofs.YtkmcmgfmahildaaDoorW.PrintMore
attribute [local go_sem] max2_int min2_int max_two min_two max_three min_three max_four min_four   -- for this text's walks alone
set_option linter.unusedVariables false
set_option linter.unusedSimpArgs false

/-! ### capstanref04_told: function 28 -/
mutual
def capstanref04_told.l0 : Nat → Int → Int → ByteArray → Bool → Int → Option (ByteArray)
  | 0, _, _, _, _, _ => none
  | k + 1, x0, x1, x5, x6, x7 => (Ca.high.f x1).bind fun t154 => (if x7 ≤ t154 then (if x6 = true then ((capstanref04_Has.f x0 x7).bind fun t155 => (capstanref04_told.j1 k x0 x1 x5 t155 x7)) else (capstanref04_told.j1 k x0 x1 x5 false x7)) else (if x6 = true then (some (⟨#[42]⟩ : ByteArray)) else (some x5)))
def capstanref04_told.j1 : Nat → Int → Int → ByteArray → Bool → Int → Option (ByteArray)
  | 0, _, _, _, _, _ => none
  | k + 1, x0, x1, x5, x6, x7 => (capstanref04_Has.f x0 x7).bind fun t156 => (if t156 = true then ((capstanref04_Has.f x0 (wrap64 (x7 - 1))).bind fun t157 => (capstanref04_told.j2 k x0 x1 x5 x6 x7 t157)) else (capstanref04_told.j2 k x0 x1 x5 x6 x7 true))
def capstanref04_told.j2 : Nat → Int → Int → ByteArray → Bool → Int → Bool → Option (ByteArray)
  | 0, _, _, _, _, _, _ => none
  | k + 1, x0, x1, x5, x6, x7, x32 => if x32 = true then (capstanref04_told.l0 k x0 x1 x5 x6 (wrap64 (x7 + 1))) else (capstanref04_told.l1 k x0 x1 x5 x6 x7 x7)
def capstanref04_told.l1 : Nat → Int → Int → ByteArray → Bool → Int → Int → Option (ByteArray)
  | 0, _, _, _, _, _, _ => none
  | k + 1, x0, x1, x5, x6, x7, x8 => (capstanref04_Has.f x0 (wrap64 (x8 + 1))).bind fun t158 => (if t158 = true then (capstanref04_told.l1 k x0 x1 x5 x6 x7 (wrap64 (x8 + 1))) else (if x5.toList = ([] : List UInt8) then (capstanref04_told.j4 k x0 x1 x5 x6 x7 x8) else (if x5.size + 1 ≤ 9223372036854775807 then (capstanref04_told.j4 k x0 x1 (x5 ++ (⟨#[44]⟩ : ByteArray)) x6 x7 x8) else (none))))
def capstanref04_told.j4 : Nat → Int → Int → ByteArray → Bool → Int → Int → Option (ByteArray)
  | 0, _, _, _, _, _, _ => none
  | k + 1, x0, x1, x5, x6, x7, x8 => (Ca.itoa.f x7).bind fun t159 => (if x5.size + t159.size ≤ 9223372036854775807 then (if x8 = (wrap64 (x7 + 1)) then ((Ca.itoa.f x8).bind fun t160 => (if 1 + t160.size ≤ 9223372036854775807 then (if (x5 ++ t159).size + ((⟨#[44]⟩ : ByteArray) ++ t160).size ≤ 9223372036854775807 then (if x8 > (wrap64 (x7 + 1)) then ((Ca.itoa.f x8).bind fun t161 => (if 1 + t161.size ≤ 9223372036854775807 then (if ((x5 ++ t159) ++ ((⟨#[44]⟩ : ByteArray) ++ t160)).size + ((⟨#[45]⟩ : ByteArray) ++ t161).size ≤ 9223372036854775807 then (capstanref04_told.l0 k x0 x1 (((x5 ++ t159) ++ ((⟨#[44]⟩ : ByteArray) ++ t160)) ++ ((⟨#[45]⟩ : ByteArray) ++ t161)) x6 (wrap64 (x7 + 1))) else (none)) else (none))) else (capstanref04_told.l0 k x0 x1 ((x5 ++ t159) ++ ((⟨#[44]⟩ : ByteArray) ++ t160)) x6 (wrap64 (x7 + 1)))) else (none)) else (none))) else (if x8 > (wrap64 (x7 + 1)) then ((Ca.itoa.f x8).bind fun t162 => (if 1 + t162.size ≤ 9223372036854775807 then (if (x5 ++ t159).size + ((⟨#[45]⟩ : ByteArray) ++ t162).size ≤ 9223372036854775807 then (capstanref04_told.l0 k x0 x1 ((x5 ++ t159) ++ ((⟨#[45]⟩ : ByteArray) ++ t162)) x6 (wrap64 (x7 + 1))) else (none)) else (none))) else (capstanref04_told.l0 k x0 x1 (x5 ++ t159) x6 (wrap64 (x7 + 1))))) else (none))
end
def capstanref04_told.f (k : Nat) (a0 : Int) (a1 : Int) : Option (ByteArray) := (Ca.low.f a1).bind fun t153 => (capstanref04_told.l0 k a0 a1 (⟨#[]⟩ : ByteArray) true t153)
theorem capstanref04_told.mono_l : ∀ k, (∀ y0 y1 y2 y3 y4, LeO (capstanref04_told.l0 k y0 y1 y2 y3 y4) (capstanref04_told.l0 (k + 1) y0 y1 y2 y3 y4)) ∧ (∀ y0 y1 y2 y3 y4, LeO (capstanref04_told.j1 k y0 y1 y2 y3 y4) (capstanref04_told.j1 (k + 1) y0 y1 y2 y3 y4)) ∧ (∀ y0 y1 y2 y3 y4 y5, LeO (capstanref04_told.j2 k y0 y1 y2 y3 y4 y5) (capstanref04_told.j2 (k + 1) y0 y1 y2 y3 y4 y5)) ∧ (∀ y0 y1 y2 y3 y4 y5, LeO (capstanref04_told.l1 k y0 y1 y2 y3 y4 y5) (capstanref04_told.l1 (k + 1) y0 y1 y2 y3 y4 y5)) ∧ (∀ y0 y1 y2 y3 y4 y5, LeO (capstanref04_told.j4 k y0 y1 y2 y3 y4 y5) (capstanref04_told.j4 (k + 1) y0 y1 y2 y3 y4 y5))
  | 0 => ⟨fun _ _ _ _ _ r h => by simp [capstanref04_told.l0] at h, fun _ _ _ _ _ r h => by simp [capstanref04_told.j1] at h, fun _ _ _ _ _ _ r h => by simp [capstanref04_told.j2] at h, fun _ _ _ _ _ _ r h => by simp [capstanref04_told.l1] at h, fun _ _ _ _ _ _ r h => by simp [capstanref04_told.j4] at h⟩
  | k + 1 => by
    obtain ⟨ih0, ih1, ih2, ih3, ih4⟩ := capstanref04_told.mono_l k
    refine ⟨?_, ?_, ?_, ?_, ?_⟩
    · intro y0 y1 y2 y3 y4
      unfold capstanref04_told.l0
      repeat' first
      | (with_reducible exact ih0 _ _ _ _ _)
      | (with_reducible exact ih1 _ _ _ _ _)
      | (with_reducible exact ih2 _ _ _ _ _ _)
      | (with_reducible exact ih3 _ _ _ _ _ _)
      | (with_reducible exact ih4 _ _ _ _ _ _)
      | (with_reducible exact LeO.refl _)
      | (with_reducible exact LeO.none _)
      | (with_reducible refine LeO.ite ?_ ?_)
      | (with_reducible refine LeO.bind ?_ (fun _ => ?_))
      | exact ih0 _ _ _ _ _
      | exact ih1 _ _ _ _ _
      | exact ih2 _ _ _ _ _ _
      | exact ih3 _ _ _ _ _ _
      | exact ih4 _ _ _ _ _ _
      | exact LeO.none _
      | refine LeO.ite ?_ ?_
      | refine LeO.bind ?_ (fun _ => ?_)
    · intro y0 y1 y2 y3 y4
      unfold capstanref04_told.j1
      repeat' first
      | (with_reducible exact ih0 _ _ _ _ _)
      | (with_reducible exact ih1 _ _ _ _ _)
      | (with_reducible exact ih2 _ _ _ _ _ _)
      | (with_reducible exact ih3 _ _ _ _ _ _)
      | (with_reducible exact ih4 _ _ _ _ _ _)
      | (with_reducible exact LeO.refl _)
      | (with_reducible exact LeO.none _)
      | (with_reducible refine LeO.ite ?_ ?_)
      | (with_reducible refine LeO.bind ?_ (fun _ => ?_))
      | exact ih0 _ _ _ _ _
      | exact ih1 _ _ _ _ _
      | exact ih2 _ _ _ _ _ _
      | exact ih3 _ _ _ _ _ _
      | exact ih4 _ _ _ _ _ _
      | exact LeO.none _
      | refine LeO.ite ?_ ?_
      | refine LeO.bind ?_ (fun _ => ?_)
    · intro y0 y1 y2 y3 y4 y5
      unfold capstanref04_told.j2
      repeat' first
      | (with_reducible exact ih0 _ _ _ _ _)
      | (with_reducible exact ih1 _ _ _ _ _)
      | (with_reducible exact ih2 _ _ _ _ _ _)
      | (with_reducible exact ih3 _ _ _ _ _ _)
      | (with_reducible exact ih4 _ _ _ _ _ _)
      | (with_reducible exact LeO.refl _)
      | (with_reducible exact LeO.none _)
      | (with_reducible refine LeO.ite ?_ ?_)
      | (with_reducible refine LeO.bind ?_ (fun _ => ?_))
      | exact ih0 _ _ _ _ _
      | exact ih1 _ _ _ _ _
      | exact ih2 _ _ _ _ _ _
      | exact ih3 _ _ _ _ _ _
      | exact ih4 _ _ _ _ _ _
      | exact LeO.none _
      | refine LeO.ite ?_ ?_
      | refine LeO.bind ?_ (fun _ => ?_)
    · intro y0 y1 y2 y3 y4 y5
      unfold capstanref04_told.l1
      repeat' first
      | (with_reducible exact ih0 _ _ _ _ _)
      | (with_reducible exact ih1 _ _ _ _ _)
      | (with_reducible exact ih2 _ _ _ _ _ _)
      | (with_reducible exact ih3 _ _ _ _ _ _)
      | (with_reducible exact ih4 _ _ _ _ _ _)
      | (with_reducible exact LeO.refl _)
      | (with_reducible exact LeO.none _)
      | (with_reducible refine LeO.ite ?_ ?_)
      | (with_reducible refine LeO.bind ?_ (fun _ => ?_))
      | exact ih0 _ _ _ _ _
      | exact ih1 _ _ _ _ _
      | exact ih2 _ _ _ _ _ _
      | exact ih3 _ _ _ _ _ _
      | exact ih4 _ _ _ _ _ _
      | exact LeO.none _
      | refine LeO.ite ?_ ?_
      | refine LeO.bind ?_ (fun _ => ?_)
    · intro y0 y1 y2 y3 y4 y5
      unfold capstanref04_told.j4
      repeat' first
      | (with_reducible exact ih0 _ _ _ _ _)
      | (with_reducible exact ih1 _ _ _ _ _)
      | (with_reducible exact ih2 _ _ _ _ _ _)
      | (with_reducible exact ih3 _ _ _ _ _ _)
      | (with_reducible exact ih4 _ _ _ _ _ _)
      | (with_reducible exact LeO.refl _)
      | (with_reducible exact LeO.none _)
      | (with_reducible refine LeO.ite ?_ ?_)
      | (with_reducible refine LeO.bind ?_ (fun _ => ?_))
      | exact ih0 _ _ _ _ _
      | exact ih1 _ _ _ _ _
      | exact ih2 _ _ _ _ _ _
      | exact ih3 _ _ _ _ _ _
      | exact ih4 _ _ _ _ _ _
      | exact LeO.none _
      | refine LeO.ite ?_ ?_
      | refine LeO.bind ?_ (fun _ => ?_)
theorem capstanref04_told.mono : ∀ a0 a1 k, LeO (capstanref04_told.f k a0 a1) (capstanref04_told.f (k + 1) a0 a1) := by
  intro a0 a1 k
  obtain ⟨ih0, ih1, ih2, ih3, ih4⟩ := capstanref04_told.mono_l k
  unfold capstanref04_told.f
  repeat' first
      | (with_reducible exact ih0 _ _ _ _ _)
      | (with_reducible exact ih1 _ _ _ _ _)
      | (with_reducible exact ih2 _ _ _ _ _ _)
      | (with_reducible exact ih3 _ _ _ _ _ _)
      | (with_reducible exact ih4 _ _ _ _ _ _)
      | (with_reducible exact LeO.refl _)
      | (with_reducible exact LeO.none _)
      | (with_reducible refine LeO.ite ?_ ?_)
      | (with_reducible refine LeO.bind ?_ (fun _ => ?_))
      | exact ih0 _ _ _ _ _
      | exact ih1 _ _ _ _ _
      | exact ih2 _ _ _ _ _ _
      | exact ih3 _ _ _ _ _ _
      | exact ih4 _ _ _ _ _ _
      | exact LeO.none _
      | refine LeO.ite ?_ ?_
      | refine LeO.bind ?_ (fun _ => ?_)
set_option maxHeartbeats 8000000 in
set_option maxRecDepth 100000 in
theorem capstanref04_told.calls (k : Nat) (a0 : Int) (a1 : Int) (r : ByteArray) (w : World) (h : capstanref04_told.f k a0 a1 = some r) :
    Calls Tryd.prog 28 #[.int .u64 a0, .int .i64 a1] w fun e w' => e = .returned (.string r) ∧ Drawn0 w w' := by
  have H : ((Ca.low.f a1).bind fun t153 => (capstanref04_told.l0 k a0 a1 (⟨#[]⟩ : ByteArray) true t153)) = some r := h
  clear h
  replace H := Option.bind_eq_some_iff.mp H
  obtain ⟨t153, A30, H⟩ := H
  replace H : (capstanref04_told.l0 k a0 a1 (⟨#[]⟩ : ByteArray) true t153) = some r := H
  have A3 := Aside0.mk A30
  clear A30
  have H' := Aside0.mk H
  clear H
  go_enter Tryd.func28, Tryd.ntmps28
  go_wp2_with (first | ((with_reducible refine gate_callee (f := 31) rfl ?_); refine goesL_ (some 10) rfl rfl Tryd.func31 (by kernel_rfl) rfl #[.int .i64 a1] rfl (by (try simp only [List.map_toArray, List.map_cons, List.map_nil]); first | done | rfl | (simp only [List.length_drop, List.length_take]; rfl)) ?_; (with_reducible refine (Ca.low.calls a1 t153 _ A3.out).mono ?_); rintro e w' ⟨rfl, ⟨nd, rfl⟩⟩; refine ⟨_, rfl, ?_⟩))
  go_loopg [5, 6, 7] k (fun kq v5 v6 v7 w' => ∃ (x5_1 : ByteArray) (x6_1 : Bool) (x7_1 : Int), v5 = .string x5_1 ∧ v6 = .bool x6_1 ∧ v7 = .int .i64 x7_1 ∧ Aside0 (capstanref04_told.l0 kq a0 a1 x5_1 x6_1 x7_1 = some r) ∧ Aside0 (kq ≤ k) ∧ Drawn0 w w')
  case atStart => exact ⟨((⟨#[]⟩ : ByteArray)), (true), (t153), (by first | rfl | (simp; done) | (simp [*]; done)), (by first | rfl | (simp; done) | (simp [*]; done)), (by first | rfl | (simp; done) | (simp [*]; done)), H', ⟨Nat.le_refl _⟩, by repeat (first | exact Drawn0.refl _ | apply Drawn0.step)⟩
  case round =>
    clear H'
    try clear c2
    try clear p2
    try clear c3
    obtain ⟨x5_1, x6_1, x7_1, rfl, rfl, rfl, HA, HK1, ⟨m1, rfl⟩⟩ := hrel
    cases gk with
    | zero => exact absurd HA.out (by simp [capstanref04_told.l0])
    | succ k1 =>
      have H := HA.out
      clear HA
      simp only [capstanref04_told.l0] at H
      replace H := Option.bind_eq_some_iff.mp H
      obtain ⟨t154, A40, H⟩ := H
      replace H : (if x7_1 ≤ t154 then (if x6_1 = true then ((capstanref04_Has.f a0 x7_1).bind fun t155 => (capstanref04_told.j1 k1 a0 a1 x5_1 t155 x7_1)) else (capstanref04_told.j1 k1 a0 a1 x5_1 false x7_1)) else (if x6_1 = true then (some (⟨#[42]⟩ : ByteArray)) else (some x5_1))) = some r := H
      have A4 := Aside0.mk A40
      clear A40
      by_cases c5 : x7_1 ≤ t154
      · rw [if_pos c5] at H
        have c5b0 : decide (x7_1 ≤ t154) = true := decide_eq_true c5
        clear c5
        have HC6 := Aside0.mk H
        clear H
        go_upto_region 6 with (first | ((with_reducible refine gate_callee (f := 32) rfl ?_); refine goesL_ (some 13) rfl rfl Tryd.func32 (by kernel_rfl) rfl #[.int .i64 a1] rfl (by (try simp only [List.map_toArray, List.map_cons, List.map_nil]); first | done | rfl | (simp only [List.length_drop, List.length_take]; rfl)) ?_; (with_reducible refine (Ca.high.calls a1 t154 _ A4.out).mono ?_); rintro e w' ⟨rfl, ⟨nd, rfl⟩⟩; refine ⟨_, rfl, ?_⟩))
        (try simp only [Act.put, List.setIfInBounds_toArray, List.set_cons_zero, List.set_cons_succ])
        go_cut [6] (fun v6 wc => ∃ (kq : Nat) (x6_5 : Bool), v6 = .bool x6_5 ∧ Aside0 (capstanref04_told.j1 kq a0 a1 x5_1 x6_5 x7_1 = some r) ∧ Aside0 (kq ≤ k1) ∧ Drawn0 w wc)
        case first =>
          have H := HC6.out
          clear HC6
          by_cases c7 : x6_1 = true
          · subst c7
            have H1 : ((capstanref04_Has.f a0 x7_1).bind fun t155 => (capstanref04_told.j1 k1 a0 a1 x5_1 t155 x7_1)) = some r := by rw [if_pos rfl] at H; exact H
            clear H
            have H := H1
            clear H1
            replace H := Option.bind_eq_some_iff.mp H
            obtain ⟨t155, A80, H⟩ := H
            replace H : (capstanref04_told.j1 k1 a0 a1 x5_1 t155 x7_1) = some r := H
            have A8 := Aside0.mk A80
            clear A80
            have H' := Aside0.mk H
            clear H
            go_wp2_with (first | (go_at_call 30; (with_reducible refine (capstanref04_Has.calls a0 x7_1 t155 _ A8.out).mono ?_); rintro e w' ⟨rfl, ⟨nd, rfl⟩⟩))
            go_meet
            case rel => exact ⟨_, (t155), (by first | rfl | (simp; done) | (simp [*]; done)), H', ⟨by have := HK1.out; first | omega | exact Nat.le_refl _⟩, by repeat (first | exact Drawn0.refl _ | apply Drawn0.step)⟩
          · replace c7 := Bool.eq_false_iff.mpr c7
            subst c7
            have H1 : (capstanref04_told.j1 k1 a0 a1 x5_1 false x7_1) = some r := by rw [if_neg (show ¬ (false = true) by decide)] at H; exact H
            clear H
            have H := H1
            clear H1
            have H' := Aside0.mk H
            clear H
            go_wp2
            go_meet
            case rel => exact ⟨_, (false), (by first | rfl | (simp; done) | (simp [*]; done)), H', ⟨by have := HK1.out; first | omega | exact Nat.le_refl _⟩, by repeat (first | exact Drawn0.refl _ | apply Drawn0.step)⟩
        case rest =>
          clear HC6
          try clear c2
          try clear p2
          try clear c3
          try clear c5
          try clear c5b0
          try clear c7
          try clear p2
          obtain ⟨kq, x6_5, rfl, HA, HJ5, ⟨mc5, rfl⟩⟩ := hcut
          cases kq with
          | zero => exact absurd HA.out (by simp [capstanref04_told.j1])
          | succ kj5 =>
            have H := HA.out
            clear HA
            simp only [capstanref04_told.j1] at H
            have HC9 := Aside0.mk H
            clear H
            go_upto_region 7 with (fail)
            go_cut [32] (fun v32 wc => ∃ (kq : Nat) (x32_8 : Bool), v32 = .bool x32_8 ∧ Aside0 (capstanref04_told.j2 kq a0 a1 x5_1 x6_5 x7_1 x32_8 = some r) ∧ Aside0 (kq ≤ kj5) ∧ Drawn0 w wc)
            case first =>
              have H := HC9.out
              clear HC9
              replace H := Option.bind_eq_some_iff.mp H
              obtain ⟨t156, A100, H⟩ := H
              replace H : (if t156 = true then ((capstanref04_Has.f a0 (wrap64 (x7_1 - 1))).bind fun t157 => (capstanref04_told.j2 kj5 a0 a1 x5_1 x6_5 x7_1 t157)) else (capstanref04_told.j2 kj5 a0 a1 x5_1 x6_5 x7_1 true)) = some r := H
              have A10 := Aside0.mk A100
              clear A100
              by_cases c11 : t156 = true
              · subst c11
                have H1 : ((capstanref04_Has.f a0 (wrap64 (x7_1 - 1))).bind fun t157 => (capstanref04_told.j2 kj5 a0 a1 x5_1 x6_5 x7_1 t157)) = some r := by rw [if_pos rfl] at H; exact H
                clear H
                have H := H1
                clear H1
                replace H := Option.bind_eq_some_iff.mp H
                obtain ⟨t157, A120, H⟩ := H
                replace H : (capstanref04_told.j2 kj5 a0 a1 x5_1 x6_5 x7_1 t157) = some r := H
                have A12 := Aside0.mk A120
                clear A120
                have H' := Aside0.mk H
                clear H
                go_wp2_with (first | ((with_reducible refine gate_callee (f := 30) rfl ?_); refine goesL_ (some 25) rfl rfl Tryd.func30 (by kernel_rfl) rfl #[.int .u64 a0, .int .i64 x7_1] rfl (by (try simp only [List.map_toArray, List.map_cons, List.map_nil]); first | done | rfl | (simp only [List.length_drop, List.length_take]; rfl)) ?_; (with_reducible refine (capstanref04_Has.calls a0 x7_1 true _ A10.out).mono ?_); rintro e w' ⟨rfl, ⟨nd, rfl⟩⟩; refine ⟨_, rfl, ?_⟩) | (go_at_call 30; (with_reducible refine (capstanref04_Has.calls a0 (wrap64 (x7_1 - 1)) t157 _ A12.out).mono ?_); rintro e w' ⟨rfl, ⟨nd, rfl⟩⟩))
                go_meet
                case rel => exact ⟨_, (t157), (by first | rfl | (simp; done) | (simp [*]; done)), H', ⟨by have := HK1.out; have := HJ5.out; first | omega | exact Nat.le_refl _⟩, by repeat (first | exact Drawn0.refl _ | apply Drawn0.step)⟩
              · replace c11 := Bool.eq_false_iff.mpr c11
                subst c11
                have H1 : (capstanref04_told.j2 kj5 a0 a1 x5_1 x6_5 x7_1 true) = some r := by rw [if_neg (show ¬ (false = true) by decide)] at H; exact H
                clear H
                have H := H1
                clear H1
                have H' := Aside0.mk H
                clear H
                go_wp2_with (first | ((with_reducible refine gate_callee (f := 30) rfl ?_); refine goesL_ (some 25) rfl rfl Tryd.func30 (by kernel_rfl) rfl #[.int .u64 a0, .int .i64 x7_1] rfl (by (try simp only [List.map_toArray, List.map_cons, List.map_nil]); first | done | rfl | (simp only [List.length_drop, List.length_take]; rfl)) ?_; (with_reducible refine (capstanref04_Has.calls a0 x7_1 false _ A10.out).mono ?_); rintro e w' ⟨rfl, ⟨nd, rfl⟩⟩; refine ⟨_, rfl, ?_⟩))
                go_meet
                case rel => exact ⟨_, (true), (by first | rfl | (simp; done) | (simp [*]; done)), H', ⟨by have := HK1.out; have := HJ5.out; first | omega | exact Nat.le_refl _⟩, by repeat (first | exact Drawn0.refl _ | apply Drawn0.step)⟩
            case rest =>
              clear HC9
              try clear c1
              try clear c2
              try clear p2
              try clear c3
              try clear c5
              try clear c5b0
              try clear p6
              try clear c7
              try clear c11
              try clear p2
              obtain ⟨kq, x32_8, rfl, HA, HJ8, ⟨mc8, rfl⟩⟩ := hcut
              cases kq with
              | zero => exact absurd HA.out (by simp [capstanref04_told.j2])
              | succ kj8 =>
                have H := HA.out
                clear HA
                simp only [capstanref04_told.j2] at H
                by_cases c13 : x32_8 = true
                · subst c13
                  have H1 : (capstanref04_told.l0 kj8 a0 a1 x5_1 x6_5 (wrap64 (x7_1 + 1))) = some r := by rw [if_pos rfl] at H; exact H
                  clear H
                  have H := H1
                  clear H1
                  have H' := Aside0.mk H
                  clear H
                  go_wp2
                  go_roundg kj8
                  case measure => have := HK1.out; have := HJ5.out; have := HJ8.out; omega
                  case rel => exact ⟨(x5_1), (x6_5), (wrap64 (x7_1 + 1)), (by first | rfl | (simp; done) | (simp [*]; done)), (by first | rfl | (simp; done) | (simp [*]; done)), (by first | rfl | (simp; done) | (simp [*]; done)), H', ⟨by have := HK1.out; have := HJ5.out; have := HJ8.out; omega⟩, by repeat (first | exact Drawn0.refl _ | apply Drawn0.step)⟩
                · replace c13 := Bool.eq_false_iff.mpr c13
                  subst c13
                  have H1 : (capstanref04_told.l1 kj8 a0 a1 x5_1 x6_5 x7_1 x7_1) = some r := by rw [if_neg (show ¬ (false = true) by decide)] at H; exact H
                  clear H
                  have H := H1
                  clear H1
                  have H' := Aside0.mk H
                  clear H
                  go_wp2
                  go_loopg [8] kj8 (fun kq v8 w' => ∃ (x8_4 : Int), v8 = .int .i64 x8_4 ∧ Aside0 (capstanref04_told.l1 kq a0 a1 x5_1 x6_5 x7_1 x8_4 = some r) ∧ Aside0 (kq ≤ kj8) ∧ Drawn0 w w')
                  case atStart => exact ⟨(x7_1), (by first | rfl | (simp; done) | (simp [*]; done)), H', ⟨Nat.le_refl _⟩, by repeat (first | exact Drawn0.refl _ | apply Drawn0.step)⟩
                  case round =>
                    clear H'
                    try clear c1
                    try clear c2
                    try clear p2
                    try clear c3
                    try clear c5
                    try clear c5b0
                    try clear p6
                    try clear c7
                    try clear c8
                    try clear c11
                    try clear c13
                    try clear p2
                    try clear p6
                    obtain ⟨x8_4, rfl, HA, HK4, ⟨m4, rfl⟩⟩ := hrel
                    cases gk with
                    | zero => exact absurd HA.out (by simp [capstanref04_told.l1])
                    | succ k4 =>
                      have H := HA.out
                      clear HA
                      simp only [capstanref04_told.l1] at H
                      replace H := Option.bind_eq_some_iff.mp H
                      obtain ⟨t158, A140, H⟩ := H
                      replace H : (if t158 = true then (capstanref04_told.l1 k4 a0 a1 x5_1 x6_5 x7_1 (wrap64 (x8_4 + 1))) else (if x5_1.toList = ([] : List UInt8) then (capstanref04_told.j4 k4 a0 a1 x5_1 x6_5 x7_1 x8_4) else (if x5_1.size + 1 ≤ 9223372036854775807 then (capstanref04_told.j4 k4 a0 a1 (x5_1 ++ (⟨#[44]⟩ : ByteArray)) x6_5 x7_1 x8_4) else (none)))) = some r := H
                      have A14 := Aside0.mk A140
                      clear A140
                      by_cases c15 : t158 = true
                      · subst c15
                        have H1 : (capstanref04_told.l1 k4 a0 a1 x5_1 x6_5 x7_1 (wrap64 (x8_4 + 1))) = some r := by rw [if_pos rfl] at H; exact H
                        clear H
                        have H := H1
                        clear H1
                        have H' := Aside0.mk H
                        clear H
                        go_wp2_with (first | ((with_reducible refine gate_callee (f := 30) rfl ?_); refine goesL_ (some 37) rfl rfl Tryd.func30 (by kernel_rfl) rfl #[.int .u64 a0, .int .i64 (wrap64 (x8_4 + 1))] rfl (by (try simp only [List.map_toArray, List.map_cons, List.map_nil]); first | done | rfl | (simp only [List.length_drop, List.length_take]; rfl)) ?_; (with_reducible refine (capstanref04_Has.calls a0 (wrap64 (x8_4 + 1)) true _ A14.out).mono ?_); rintro e w' ⟨rfl, ⟨nd, rfl⟩⟩; refine ⟨_, rfl, ?_⟩))
                        go_roundg k4
                        case measure => have := HK1.out; have := HJ5.out; have := HJ8.out; have := HK4.out; omega
                        case rel => exact ⟨(wrap64 (x8_4 + 1)), (by first | rfl | (simp; done) | (simp [*]; done)), H', ⟨by have := HK1.out; have := HJ5.out; have := HJ8.out; have := HK4.out; omega⟩, by repeat (first | exact Drawn0.refl _ | apply Drawn0.step)⟩
                      · replace c15 := Bool.eq_false_iff.mpr c15
                        subst c15
                        have H1 : (if x5_1.toList = ([] : List UInt8) then (capstanref04_told.j4 k4 a0 a1 x5_1 x6_5 x7_1 x8_4) else (if x5_1.size + 1 ≤ 9223372036854775807 then (capstanref04_told.j4 k4 a0 a1 (x5_1 ++ (⟨#[44]⟩ : ByteArray)) x6_5 x7_1 x8_4) else (none))) = some r := by rw [if_neg (show ¬ (false = true) by decide)] at H; exact H
                        clear H
                        have H := H1
                        clear H1
                        have HC16 := Aside0.mk H
                        clear H
                        go_upto_if 41 with (first | ((with_reducible refine gate_callee (f := 30) rfl ?_); refine goesL_ (some 37) rfl rfl Tryd.func30 (by kernel_rfl) rfl #[.int .u64 a0, .int .i64 (wrap64 (x8_4 + 1))] rfl (by (try simp only [List.map_toArray, List.map_cons, List.map_nil]); first | done | rfl | (simp only [List.length_drop, List.length_take]; rfl)) ?_; (with_reducible refine (capstanref04_Has.calls a0 (wrap64 (x8_4 + 1)) false _ A14.out).mono ?_); rintro e w' ⟨rfl, ⟨nd, rfl⟩⟩; refine ⟨_, rfl, ?_⟩))
                        (try simp only [Act.put, List.setIfInBounds_toArray, List.set_cons_zero, List.set_cons_succ])
                        go_cut [5] (fun v5 wc => ∃ (kq : Nat) (x5_15 : ByteArray), v5 = .string x5_15 ∧ Aside0 (capstanref04_told.j4 kq a0 a1 x5_15 x6_5 x7_1 x8_4 = some r) ∧ Aside0 (kq ≤ k4) ∧ Drawn0 w wc)
                        case first =>
                          have H := HC16.out
                          clear HC16
                          by_cases c17 : x5_1.toList = ([] : List UInt8)
                          · rw [if_pos c17] at H
                            have c17b0 : (x5_1.toList == ([] : List UInt8)) = true := beq_iff_eq.mpr c17
                            have c17b1 : (x5_1.toList != ([] : List UInt8)) = false := bne_eq_false_iff_eq.mpr c17
                            have c17e0 : x5_1.toList.isEmpty = true := by first | (rw [c17]; rfl) | (simpa using c17)
                            have c17e1 : (!x5_1.toList.isEmpty) = false := by rw [c17e0]; rfl
                            clear c17
                            (first | rw [c17b0] | (simp only [i64_w, i32_w]; rw [c17b0]) | rw [c17e1] | rw [c17e0] | skip)
                            have H' := Aside0.mk H
                            clear H
                            go_wp2
                            go_meet
                            case rel => exact ⟨_, (x5_1), (by first | rfl | (simp; done) | (simp [*]; done)), H', ⟨by have := HK1.out; have := HJ5.out; have := HJ8.out; have := HK4.out; first | omega | exact Nat.le_refl _⟩, by repeat (first | exact Drawn0.refl _ | apply Drawn0.step)⟩
                          · rw [if_neg c17] at H
                            have c17b0 : (x5_1.toList == ([] : List UInt8)) = false := beq_eq_false_iff_ne.mpr c17
                            have c17b1 : (x5_1.toList != ([] : List UInt8)) = true := bne_iff_ne.mpr c17
                            have c17e0 : x5_1.toList.isEmpty = false := by first | (rw [c17]; rfl) | (simpa using c17)
                            have c17e1 : (!x5_1.toList.isEmpty) = true := by rw [c17e0]; rfl
                            (first | rw [c17b0] | (simp only [i64_w, i32_w]; rw [c17b0]) | rw [c17e1] | rw [c17e0] | skip)
                            by_cases c18 : x5_1.size + 1 ≤ 9223372036854775807
                            · rw [if_pos c18] at H
                              have c18b0 := eq_true c18
                              have c18b1 : decide (x5_1.size + 1 ≤ 9223372036854775807) = true := decide_eq_true c18
                              try have c18b2 : (9223372036854775807 < x5_1.size + 1) = False := eq_false (Nat.not_lt.2 c18)
                              have H' := Aside0.mk H
                              clear H
                              go_wp2
                              go_meet
                              case rel => exact ⟨_, (x5_1 ++ (⟨#[44]⟩ : ByteArray)), (by first | rfl | (simp; done) | (simp [*]; done)), H', ⟨by have := HK1.out; have := HJ5.out; have := HJ8.out; have := HK4.out; first | omega | exact Nat.le_refl _⟩, by repeat (first | exact Drawn0.refl _ | apply Drawn0.step)⟩
                            · rw [if_neg c18] at H
                              exact absurd H (by simp)
                        case rest =>
                          clear HC16
                          try clear c1
                          try clear c2
                          try clear p2
                          try clear c3
                          try clear c5
                          try clear c5b0
                          try clear p6
                          try clear c7
                          try clear c8
                          try clear c11
                          try clear c13
                          try clear c15
                          try clear c17
                          try clear c17b0
                          try clear c17b1
                          try clear c18
                          try clear c18b0
                          try clear c18b1
                          try clear c18b2
                          try clear p2
                          try clear p6
                          obtain ⟨kq, x5_15, rfl, HA, HJ15, ⟨mc15, rfl⟩⟩ := hcut
                          cases kq with
                          | zero => exact absurd HA.out (by simp [capstanref04_told.j4])
                          | succ kj15 =>
                            have H := HA.out
                            clear HA
                            simp only [capstanref04_told.j4] at H
                            replace H := Option.bind_eq_some_iff.mp H
                            obtain ⟨t159, A190, H⟩ := H
                            replace H : (if x5_15.size + t159.size ≤ 9223372036854775807 then (if x8_4 = (wrap64 (x7_1 + 1)) then ((Ca.itoa.f x8_4).bind fun t160 => (if 1 + t160.size ≤ 9223372036854775807 then (if (x5_15 ++ t159).size + ((⟨#[44]⟩ : ByteArray) ++ t160).size ≤ 9223372036854775807 then (if x8_4 > (wrap64 (x7_1 + 1)) then ((Ca.itoa.f x8_4).bind fun t161 => (if 1 + t161.size ≤ 9223372036854775807 then (if ((x5_15 ++ t159) ++ ((⟨#[44]⟩ : ByteArray) ++ t160)).size + ((⟨#[45]⟩ : ByteArray) ++ t161).size ≤ 9223372036854775807 then (capstanref04_told.l0 kj15 a0 a1 (((x5_15 ++ t159) ++ ((⟨#[44]⟩ : ByteArray) ++ t160)) ++ ((⟨#[45]⟩ : ByteArray) ++ t161)) x6_5 (wrap64 (x7_1 + 1))) else (none)) else (none))) else (capstanref04_told.l0 kj15 a0 a1 ((x5_15 ++ t159) ++ ((⟨#[44]⟩ : ByteArray) ++ t160)) x6_5 (wrap64 (x7_1 + 1)))) else (none)) else (none))) else (if x8_4 > (wrap64 (x7_1 + 1)) then ((Ca.itoa.f x8_4).bind fun t162 => (if 1 + t162.size ≤ 9223372036854775807 then (if (x5_15 ++ t159).size + ((⟨#[45]⟩ : ByteArray) ++ t162).size ≤ 9223372036854775807 then (capstanref04_told.l0 kj15 a0 a1 ((x5_15 ++ t159) ++ ((⟨#[45]⟩ : ByteArray) ++ t162)) x6_5 (wrap64 (x7_1 + 1))) else (none)) else (none))) else (capstanref04_told.l0 kj15 a0 a1 (x5_15 ++ t159) x6_5 (wrap64 (x7_1 + 1))))) else (none)) = some r := H
                            have A19 := Aside0.mk A190
                            clear A190
                            by_cases c20 : x5_15.size + t159.size ≤ 9223372036854775807
                            · rw [if_pos c20] at H
                              have c20b0 := eq_true c20
                              have c20b1 : decide (x5_15.size + t159.size ≤ 9223372036854775807) = true := decide_eq_true c20
                              try have c20b2 : (9223372036854775807 < x5_15.size + t159.size) = False := eq_false (Nat.not_lt.2 c20)
                              by_cases c21 : x8_4 = (wrap64 (x7_1 + 1))
                              · rw [if_pos c21] at H
                                have c21b0 : (x8_4 == (wrap64 (x7_1 + 1))) = true := beq_iff_eq.mpr c21
                                have c21b1 : (x8_4 != (wrap64 (x7_1 + 1))) = false := bne_eq_false_iff_eq.mpr c21
                                clear c21
                                replace H := Option.bind_eq_some_iff.mp H
                                obtain ⟨t160, A220, H⟩ := H
                                replace H : (if 1 + t160.size ≤ 9223372036854775807 then (if (x5_15 ++ t159).size + ((⟨#[44]⟩ : ByteArray) ++ t160).size ≤ 9223372036854775807 then (if x8_4 > (wrap64 (x7_1 + 1)) then ((Ca.itoa.f x8_4).bind fun t161 => (if 1 + t161.size ≤ 9223372036854775807 then (if ((x5_15 ++ t159) ++ ((⟨#[44]⟩ : ByteArray) ++ t160)).size + ((⟨#[45]⟩ : ByteArray) ++ t161).size ≤ 9223372036854775807 then (capstanref04_told.l0 kj15 a0 a1 (((x5_15 ++ t159) ++ ((⟨#[44]⟩ : ByteArray) ++ t160)) ++ ((⟨#[45]⟩ : ByteArray) ++ t161)) x6_5 (wrap64 (x7_1 + 1))) else (none)) else (none))) else (capstanref04_told.l0 kj15 a0 a1 ((x5_15 ++ t159) ++ ((⟨#[44]⟩ : ByteArray) ++ t160)) x6_5 (wrap64 (x7_1 + 1)))) else (none)) else (none)) = some r := H
                                have A22 := Aside0.mk A220
                                clear A220
                                by_cases c23 : 1 + t160.size ≤ 9223372036854775807
                                · rw [if_pos c23] at H
                                  have c23b0 := eq_true c23
                                  have c23b1 : decide (1 + t160.size ≤ 9223372036854775807) = true := decide_eq_true c23
                                  try have c23b2 : (9223372036854775807 < 1 + t160.size) = False := eq_false (Nat.not_lt.2 c23)
                                  by_cases c24 : (x5_15 ++ t159).size + ((⟨#[44]⟩ : ByteArray) ++ t160).size ≤ 9223372036854775807
                                  · rw [if_pos c24] at H
                                    have c24b0 := eq_true c24
                                    have c24b1 : decide ((x5_15 ++ t159).size + ((⟨#[44]⟩ : ByteArray) ++ t160).size ≤ 9223372036854775807) = true := decide_eq_true c24
                                    try have c24b2 : (9223372036854775807 < (x5_15 ++ t159).size + ((⟨#[44]⟩ : ByteArray) ++ t160).size) = False := eq_false (Nat.not_lt.2 c24)
                                    by_cases c25 : x8_4 > (wrap64 (x7_1 + 1))
                                    · rw [if_pos c25] at H
                                      have c25b0 : decide ((wrap64 (x7_1 + 1)) < x8_4) = true := decide_eq_true c25
                                      clear c25
                                      replace H := Option.bind_eq_some_iff.mp H
                                      obtain ⟨t161, A260, H⟩ := H
                                      replace H : (if 1 + t161.size ≤ 9223372036854775807 then (if ((x5_15 ++ t159) ++ ((⟨#[44]⟩ : ByteArray) ++ t160)).size + ((⟨#[45]⟩ : ByteArray) ++ t161).size ≤ 9223372036854775807 then (capstanref04_told.l0 kj15 a0 a1 (((x5_15 ++ t159) ++ ((⟨#[44]⟩ : ByteArray) ++ t160)) ++ ((⟨#[45]⟩ : ByteArray) ++ t161)) x6_5 (wrap64 (x7_1 + 1))) else (none)) else (none)) = some r := H
                                      have A26 := Aside0.mk A260
                                      clear A260
                                      by_cases c27 : 1 + t161.size ≤ 9223372036854775807
                                      · rw [if_pos c27] at H
                                        have c27b0 := eq_true c27
                                        have c27b1 : decide (1 + t161.size ≤ 9223372036854775807) = true := decide_eq_true c27
                                        try have c27b2 : (9223372036854775807 < 1 + t161.size) = False := eq_false (Nat.not_lt.2 c27)
                                        by_cases c28 : ((x5_15 ++ t159) ++ ((⟨#[44]⟩ : ByteArray) ++ t160)).size + ((⟨#[45]⟩ : ByteArray) ++ t161).size ≤ 9223372036854775807
                                        · rw [if_pos c28] at H
                                          have c28b0 := eq_true c28
                                          have c28b1 : decide (((x5_15 ++ t159) ++ ((⟨#[44]⟩ : ByteArray) ++ t160)).size + ((⟨#[45]⟩ : ByteArray) ++ t161).size ≤ 9223372036854775807) = true := decide_eq_true c28
                                          try have c28b2 : (9223372036854775807 < ((x5_15 ++ t159) ++ ((⟨#[44]⟩ : ByteArray) ++ t160)).size + ((⟨#[45]⟩ : ByteArray) ++ t161).size) = False := eq_false (Nat.not_lt.2 c28)
                                          have H' := Aside0.mk H
                                          clear H
                                          go_wp2_with (first | ((with_reducible refine gate_callee (f := 44) rfl ?_); refine goesL_ (some 46) rfl rfl Tryd.func44 (by kernel_rfl) rfl #[.int .i64 x7_1] rfl (by (try simp only [List.map_toArray, List.map_cons, List.map_nil]); first | done | rfl | (simp only [List.length_drop, List.length_take]; rfl)) ?_; (with_reducible refine (Ca.itoa.calls x7_1 t159 _ A19.out).mono ?_); rintro e w' ⟨rfl, ⟨nd, rfl⟩⟩; refine ⟨_, rfl, ?_⟩) | ((with_reducible refine gate_callee (f := 44) rfl ?_); refine goesL_ (some 54) rfl rfl Tryd.func44 (by kernel_rfl) rfl #[.int .i64 x8_4] rfl (by (try simp only [List.map_toArray, List.map_cons, List.map_nil]); first | done | rfl | (simp only [List.length_drop, List.length_take]; rfl)) ?_; (with_reducible refine (Ca.itoa.calls x8_4 t160 _ A22.out).mono ?_); rintro e w' ⟨rfl, ⟨nd, rfl⟩⟩; refine ⟨_, rfl, ?_⟩) | ((with_reducible refine gate_callee (f := 44) rfl ?_); refine goesL_ (some 63) rfl rfl Tryd.func44 (by kernel_rfl) rfl #[.int .i64 x8_4] rfl (by (try simp only [List.map_toArray, List.map_cons, List.map_nil]); first | done | rfl | (simp only [List.length_drop, List.length_take]; rfl)) ?_; (with_reducible refine (Ca.itoa.calls x8_4 t161 _ A26.out).mono ?_); rintro e w' ⟨rfl, ⟨nd, rfl⟩⟩; refine ⟨_, rfl, ?_⟩))
                                          go_roundg kj15
                                          case measure => have := HK1.out; have := HJ5.out; have := HJ8.out; have := HK4.out; have := HJ15.out; omega
                                          case rel => exact ⟨(((x5_15 ++ t159) ++ ((⟨#[44]⟩ : ByteArray) ++ t160)) ++ ((⟨#[45]⟩ : ByteArray) ++ t161)), (x6_5), (wrap64 (x7_1 + 1)), (by first | rfl | (simp; done) | (simp [*]; done)), (by first | rfl | (simp; done) | (simp [*]; done)), (by first | rfl | (simp; done) | (simp [*]; done)), H', ⟨by have := HK1.out; have := HJ5.out; have := HJ8.out; have := HK4.out; have := HJ15.out; omega⟩, by repeat (first | exact Drawn0.refl _ | apply Drawn0.step)⟩
                                        · rw [if_neg c28] at H
                                          exact absurd H (by simp)
                                      · rw [if_neg c27] at H
                                        exact absurd H (by simp)
                                    · rw [if_neg c25] at H
                                      have c25b0 : decide ((wrap64 (x7_1 + 1)) < x8_4) = false := decide_eq_false c25
                                      clear c25
                                      have H' := Aside0.mk H
                                      clear H
                                      go_wp2_with (first | ((with_reducible refine gate_callee (f := 44) rfl ?_); refine goesL_ (some 46) rfl rfl Tryd.func44 (by kernel_rfl) rfl #[.int .i64 x7_1] rfl (by (try simp only [List.map_toArray, List.map_cons, List.map_nil]); first | done | rfl | (simp only [List.length_drop, List.length_take]; rfl)) ?_; (with_reducible refine (Ca.itoa.calls x7_1 t159 _ A19.out).mono ?_); rintro e w' ⟨rfl, ⟨nd, rfl⟩⟩; refine ⟨_, rfl, ?_⟩) | ((with_reducible refine gate_callee (f := 44) rfl ?_); refine goesL_ (some 54) rfl rfl Tryd.func44 (by kernel_rfl) rfl #[.int .i64 x8_4] rfl (by (try simp only [List.map_toArray, List.map_cons, List.map_nil]); first | done | rfl | (simp only [List.length_drop, List.length_take]; rfl)) ?_; (with_reducible refine (Ca.itoa.calls x8_4 t160 _ A22.out).mono ?_); rintro e w' ⟨rfl, ⟨nd, rfl⟩⟩; refine ⟨_, rfl, ?_⟩))
                                      go_roundg kj15
                                      case measure => have := HK1.out; have := HJ5.out; have := HJ8.out; have := HK4.out; have := HJ15.out; omega
                                      case rel => exact ⟨((x5_15 ++ t159) ++ ((⟨#[44]⟩ : ByteArray) ++ t160)), (x6_5), (wrap64 (x7_1 + 1)), (by first | rfl | (simp; done) | (simp [*]; done)), (by first | rfl | (simp; done) | (simp [*]; done)), (by first | rfl | (simp; done) | (simp [*]; done)), H', ⟨by have := HK1.out; have := HJ5.out; have := HJ8.out; have := HK4.out; have := HJ15.out; omega⟩, by repeat (first | exact Drawn0.refl _ | apply Drawn0.step)⟩
                                  · rw [if_neg c24] at H
                                    exact absurd H (by simp)
                                · rw [if_neg c23] at H
                                  exact absurd H (by simp)
                              · rw [if_neg c21] at H
                                have c21b0 : (x8_4 == (wrap64 (x7_1 + 1))) = false := beq_eq_false_iff_ne.mpr c21
                                have c21b1 : (x8_4 != (wrap64 (x7_1 + 1))) = true := bne_iff_ne.mpr c21
                                by_cases c29 : x8_4 > (wrap64 (x7_1 + 1))
                                · rw [if_pos c29] at H
                                  have c29b0 : decide ((wrap64 (x7_1 + 1)) < x8_4) = true := decide_eq_true c29
                                  clear c29
                                  replace H := Option.bind_eq_some_iff.mp H
                                  obtain ⟨t162, A300, H⟩ := H
                                  replace H : (if 1 + t162.size ≤ 9223372036854775807 then (if (x5_15 ++ t159).size + ((⟨#[45]⟩ : ByteArray) ++ t162).size ≤ 9223372036854775807 then (capstanref04_told.l0 kj15 a0 a1 ((x5_15 ++ t159) ++ ((⟨#[45]⟩ : ByteArray) ++ t162)) x6_5 (wrap64 (x7_1 + 1))) else (none)) else (none)) = some r := H
                                  have A30 := Aside0.mk A300
                                  clear A300
                                  by_cases c31 : 1 + t162.size ≤ 9223372036854775807
                                  · rw [if_pos c31] at H
                                    have c31b0 := eq_true c31
                                    have c31b1 : decide (1 + t162.size ≤ 9223372036854775807) = true := decide_eq_true c31
                                    try have c31b2 : (9223372036854775807 < 1 + t162.size) = False := eq_false (Nat.not_lt.2 c31)
                                    by_cases c32 : (x5_15 ++ t159).size + ((⟨#[45]⟩ : ByteArray) ++ t162).size ≤ 9223372036854775807
                                    · rw [if_pos c32] at H
                                      have c32b0 := eq_true c32
                                      have c32b1 : decide ((x5_15 ++ t159).size + ((⟨#[45]⟩ : ByteArray) ++ t162).size ≤ 9223372036854775807) = true := decide_eq_true c32
                                      try have c32b2 : (9223372036854775807 < (x5_15 ++ t159).size + ((⟨#[45]⟩ : ByteArray) ++ t162).size) = False := eq_false (Nat.not_lt.2 c32)
                                      have H' := Aside0.mk H
                                      clear H
                                      go_wp2_with (first | ((with_reducible refine gate_callee (f := 44) rfl ?_); refine goesL_ (some 46) rfl rfl Tryd.func44 (by kernel_rfl) rfl #[.int .i64 x7_1] rfl (by (try simp only [List.map_toArray, List.map_cons, List.map_nil]); first | done | rfl | (simp only [List.length_drop, List.length_take]; rfl)) ?_; (with_reducible refine (Ca.itoa.calls x7_1 t159 _ A19.out).mono ?_); rintro e w' ⟨rfl, ⟨nd, rfl⟩⟩; refine ⟨_, rfl, ?_⟩) | ((with_reducible refine gate_callee (f := 44) rfl ?_); refine goesL_ (some 63) rfl rfl Tryd.func44 (by kernel_rfl) rfl #[.int .i64 x8_4] rfl (by (try simp only [List.map_toArray, List.map_cons, List.map_nil]); first | done | rfl | (simp only [List.length_drop, List.length_take]; rfl)) ?_; (with_reducible refine (Ca.itoa.calls x8_4 t162 _ A30.out).mono ?_); rintro e w' ⟨rfl, ⟨nd, rfl⟩⟩; refine ⟨_, rfl, ?_⟩))
                                      go_roundg kj15
                                      case measure => have := HK1.out; have := HJ5.out; have := HJ8.out; have := HK4.out; have := HJ15.out; omega
                                      case rel => exact ⟨((x5_15 ++ t159) ++ ((⟨#[45]⟩ : ByteArray) ++ t162)), (x6_5), (wrap64 (x7_1 + 1)), (by first | rfl | (simp; done) | (simp [*]; done)), (by first | rfl | (simp; done) | (simp [*]; done)), (by first | rfl | (simp; done) | (simp [*]; done)), H', ⟨by have := HK1.out; have := HJ5.out; have := HJ8.out; have := HK4.out; have := HJ15.out; omega⟩, by repeat (first | exact Drawn0.refl _ | apply Drawn0.step)⟩
                                    · rw [if_neg c32] at H
                                      exact absurd H (by simp)
                                  · rw [if_neg c31] at H
                                    exact absurd H (by simp)
                                · rw [if_neg c29] at H
                                  have c29b0 : decide ((wrap64 (x7_1 + 1)) < x8_4) = false := decide_eq_false c29
                                  clear c29
                                  have H' := Aside0.mk H
                                  clear H
                                  go_wp2_with (first | ((with_reducible refine gate_callee (f := 44) rfl ?_); refine goesL_ (some 46) rfl rfl Tryd.func44 (by kernel_rfl) rfl #[.int .i64 x7_1] rfl (by (try simp only [List.map_toArray, List.map_cons, List.map_nil]); first | done | rfl | (simp only [List.length_drop, List.length_take]; rfl)) ?_; (with_reducible refine (Ca.itoa.calls x7_1 t159 _ A19.out).mono ?_); rintro e w' ⟨rfl, ⟨nd, rfl⟩⟩; refine ⟨_, rfl, ?_⟩))
                                  go_roundg kj15
                                  case measure => have := HK1.out; have := HJ5.out; have := HJ8.out; have := HK4.out; have := HJ15.out; omega
                                  case rel => exact ⟨(x5_15 ++ t159), (x6_5), (wrap64 (x7_1 + 1)), (by first | rfl | (simp; done) | (simp [*]; done)), (by first | rfl | (simp; done) | (simp [*]; done)), (by first | rfl | (simp; done) | (simp [*]; done)), H', ⟨by have := HK1.out; have := HJ5.out; have := HJ8.out; have := HK4.out; have := HJ15.out; omega⟩, by repeat (first | exact Drawn0.refl _ | apply Drawn0.step)⟩
                            · rw [if_neg c20] at H
                              exact absurd H (by simp)
      · rw [if_neg c5] at H
        have c5b0 : decide (x7_1 ≤ t154) = false := decide_eq_false c5
        clear c5
        by_cases c33 : x6_1 = true
        · subst c33
          have H1 : (some (⟨#[42]⟩ : ByteArray)) = some r := by rw [if_pos rfl] at H; exact H
          clear H
          have H := H1
          clear H1
          obtain rfl := Option.some.inj H
          go_wp2_with (first | ((with_reducible refine gate_callee (f := 32) rfl ?_); refine goesL_ (some 13) rfl rfl Tryd.func32 (by kernel_rfl) rfl #[.int .i64 a1] rfl (by (try simp only [List.map_toArray, List.map_cons, List.map_nil]); first | done | rfl | (simp only [List.length_drop, List.length_take]; rfl)) ?_; (with_reducible refine (Ca.high.calls a1 t154 _ A4.out).mono ?_); rintro e w' ⟨rfl, ⟨nd, rfl⟩⟩; refine ⟨_, rfl, ?_⟩))
          go_ret
          exact ⟨by first | rfl | (simp; done) | (simp [*]; done), by repeat (first | exact Drawn0.refl _ | apply Drawn0.step)⟩
        · replace c33 := Bool.eq_false_iff.mpr c33
          subst c33
          have H1 : (some x5_1) = some r := by rw [if_neg (show ¬ (false = true) by decide)] at H; exact H
          clear H
          have H := H1
          clear H1
          obtain rfl := Option.some.inj H
          go_wp2_with (first | ((with_reducible refine gate_callee (f := 32) rfl ?_); refine goesL_ (some 13) rfl rfl Tryd.func32 (by kernel_rfl) rfl #[.int .i64 a1] rfl (by (try simp only [List.map_toArray, List.map_cons, List.map_nil]); first | done | rfl | (simp only [List.length_drop, List.length_take]; rfl)) ?_; (with_reducible refine (Ca.high.calls a1 t154 _ A4.out).mono ?_); rintro e w' ⟨rfl, ⟨nd, rfl⟩⟩; refine ⟨_, rfl, ?_⟩))
          go_ret
          exact ⟨by first | rfl | (simp; done) | (simp [*]; done), by repeat (first | exact Drawn0.refl _ | apply Drawn0.step)⟩

end Go.Proofs.YtkmcmgfmahildaaDoor.OA
