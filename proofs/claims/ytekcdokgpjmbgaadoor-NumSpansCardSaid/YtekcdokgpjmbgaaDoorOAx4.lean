/- Walks of functions, written by a program (wip/tools/own.py) over hand contracts; conditions: as each theorem states. -/
import Derived.Test.YtekcdokgpjmbgaaDoorOAx0
import Derived.Test.YtekcdokgpjmbgaaDoorOAx2
namespace Go.Proofs.YtekcdokgpjmbgaaDoor.OA
open Go.RowKit Go.Proofs.YtekcdokgpjmbgaaDoorW.PrintWords Go.Proofs.YtekcdokgpjmbgaaDoorW.PrintLast Go.Proofs.YtekcdokgpjmbgaaDoorW.PrintMore
attribute [local go_sem] max2_int min2_int max_two min_two max_three min_three max_four min_four   -- for this text's walks alone
set_option linter.unusedVariables false
set_option linter.unusedSimpArgs false

/-! ### num_Read: function 14 -/
mutual
def num_Read.j0 : Nat → ByteArray → ByteArray → Bool → Option (Int × Int)
  | 0, _, _, _ => none
  | k + 1, x4, x5, x42 => if x42 = true then (some (0, 13)) else ((Na.pu.f x4 10 64).bind fun bt107 => (if bt107.2.isNone = true then (num_Read.j1 k x5 bt107.1 (decide (bt107.1 > 9223372036854))) else (num_Read.j1 k x5 bt107.1 true)))
def num_Read.j1 : Nat → ByteArray → Int → Bool → Option (Int × Int)
  | 0, _, _, _ => none
  | k + 1, x5, x7, x53 => if x53 = true then (some (0, 13)) else (if x5.size + 6 ≤ 9223372036854775807 then (if 0 ≤ 6 then (if 6 ≤ ((x5 ++ (⟨#[48, 48, 48, 48, 48, 48]⟩ : ByteArray)).size : Int) then ((Na.pu.f ((x5 ++ (⟨#[48, 48, 48, 48, 48, 48]⟩ : ByteArray)).extract 0 6) 10 64).bind fun bt110 => (if (IntKind.u64.wrap ((IntKind.u64.wrap (x7 * 1000000)) + bt110.1)) > 9223372036854775807 then (some (0, 13)) else (some (wrap64 (IntKind.u64.wrap ((IntKind.u64.wrap (x7 * 1000000)) + bt110.1)), 0)))) else (none)) else (none)) else (none))
end
def num_Read.f (k : Nat) (a0 : ByteArray) : Option (Int × Int) := (Na.cut.f a0 (⟨#[46]⟩ : ByteArray)).bind fun bt101 => ((num_digits.f k bt101.1).bind fun t104 => (if t104 = true then (if (bt101.1.size : Int) > 1 then (if 0 < (bt101.1.size : Int) then (if (bt bt101.1 0) = 48 then (num_Read.j0 k bt101.1 bt101.2.1 true) else (if bt101.2.2 = true then ((num_digits.f k bt101.2.1).bind fun t105 => (if t105 = true then (num_Read.j0 k bt101.1 bt101.2.1 (decide ((bt101.2.1.size : Int) > 6))) else (num_Read.j0 k bt101.1 bt101.2.1 true))) else (num_Read.j0 k bt101.1 bt101.2.1 false))) else (none)) else (if bt101.2.2 = true then ((num_digits.f k bt101.2.1).bind fun t106 => (if t106 = true then (num_Read.j0 k bt101.1 bt101.2.1 (decide ((bt101.2.1.size : Int) > 6))) else (num_Read.j0 k bt101.1 bt101.2.1 true))) else (num_Read.j0 k bt101.1 bt101.2.1 false))) else (num_Read.j0 k bt101.1 bt101.2.1 true)))
theorem num_Read.mono_l : ∀ k, (∀ y0 y1 y2, LeO (num_Read.j0 k y0 y1 y2) (num_Read.j0 (k + 1) y0 y1 y2)) ∧ (∀ y0 y1 y2, LeO (num_Read.j1 k y0 y1 y2) (num_Read.j1 (k + 1) y0 y1 y2))
  | 0 => ⟨fun _ _ _ r h => by simp [num_Read.j0] at h, fun _ _ _ r h => by simp [num_Read.j1] at h⟩
  | k + 1 => by
    obtain ⟨ih0, ih1⟩ := num_Read.mono_l k
    refine ⟨?_, ?_⟩
    · intro y0 y1 y2
      unfold num_Read.j0
      repeat' first
      | (with_reducible exact ih0 _ _ _)
      | (with_reducible exact ih1 _ _ _)
      | (with_reducible exact num_digits.mono _ _)
      | (with_reducible exact LeO.refl _)
      | (with_reducible exact LeO.none _)
      | (with_reducible refine LeO.ite ?_ ?_)
      | (with_reducible refine LeO.bind ?_ (fun _ => ?_))
      | exact ih0 _ _ _
      | exact ih1 _ _ _
      | exact num_digits.mono _ _
      | exact LeO.none _
      | refine LeO.ite ?_ ?_
      | refine LeO.bind ?_ (fun _ => ?_)
    · intro y0 y1 y2
      unfold num_Read.j1
      repeat' first
      | (with_reducible exact ih0 _ _ _)
      | (with_reducible exact ih1 _ _ _)
      | (with_reducible exact num_digits.mono _ _)
      | (with_reducible exact LeO.refl _)
      | (with_reducible exact LeO.none _)
      | (with_reducible refine LeO.ite ?_ ?_)
      | (with_reducible refine LeO.bind ?_ (fun _ => ?_))
      | exact ih0 _ _ _
      | exact ih1 _ _ _
      | exact num_digits.mono _ _
      | exact LeO.none _
      | refine LeO.ite ?_ ?_
      | refine LeO.bind ?_ (fun _ => ?_)
theorem num_Read.mono : ∀ a0 k, LeO (num_Read.f k a0) (num_Read.f (k + 1) a0) := by
  intro a0 k
  obtain ⟨ih0, ih1⟩ := num_Read.mono_l k
  unfold num_Read.f
  repeat' first
      | (with_reducible exact ih0 _ _ _)
      | (with_reducible exact ih1 _ _ _)
      | (with_reducible exact num_digits.mono _ _)
      | (with_reducible exact LeO.refl _)
      | (with_reducible exact LeO.none _)
      | (with_reducible refine LeO.ite ?_ ?_)
      | (with_reducible refine LeO.bind ?_ (fun _ => ?_))
      | exact ih0 _ _ _
      | exact ih1 _ _ _
      | exact num_digits.mono _ _
      | exact LeO.none _
      | refine LeO.ite ?_ ?_
      | refine LeO.bind ?_ (fun _ => ?_)
set_option maxHeartbeats 8000000 in
set_option maxRecDepth 100000 in
theorem num_Read.calls (k : Nat) (a0 : ByteArray) (r1 : Int) (r2 : Int) (w : World) (h : num_Read.f k a0 = some (r1, r2)) :
    Calls Tryd.prog 14 #[.string a0] w fun e w' => e = .returned (.tuple #[.int .i64 r1, .int .i64 r2]) ∧ Below w.heap.size w w' := by
  have hu43 := Tryd.underlying43
  have HB := Aside0.mk (Below.refl w.heap.size w)
  have H : ((Na.cut.f a0 (⟨#[46]⟩ : ByteArray)).bind fun bt101 => ((num_digits.f k bt101.1).bind fun t104 => (if t104 = true then (if (bt101.1.size : Int) > 1 then (if 0 < (bt101.1.size : Int) then (if (bt bt101.1 0) = 48 then (num_Read.j0 k bt101.1 bt101.2.1 true) else (if bt101.2.2 = true then ((num_digits.f k bt101.2.1).bind fun t105 => (if t105 = true then (num_Read.j0 k bt101.1 bt101.2.1 (decide ((bt101.2.1.size : Int) > 6))) else (num_Read.j0 k bt101.1 bt101.2.1 true))) else (num_Read.j0 k bt101.1 bt101.2.1 false))) else (none)) else (if bt101.2.2 = true then ((num_digits.f k bt101.2.1).bind fun t106 => (if t106 = true then (num_Read.j0 k bt101.1 bt101.2.1 (decide ((bt101.2.1.size : Int) > 6))) else (num_Read.j0 k bt101.1 bt101.2.1 true))) else (num_Read.j0 k bt101.1 bt101.2.1 false))) else (num_Read.j0 k bt101.1 bt101.2.1 true)))) = some (r1, r2) := h
  clear h
  replace H := Option.bind_eq_some_iff.mp H
  obtain ⟨⟨t101, t102, t103⟩, A20, H⟩ := H
  replace H : ((num_digits.f k t101).bind fun t104 => (if t104 = true then (if (t101.size : Int) > 1 then (if 0 < (t101.size : Int) then (if (bt t101 0) = 48 then (num_Read.j0 k t101 t102 true) else (if t103 = true then ((num_digits.f k t102).bind fun t105 => (if t105 = true then (num_Read.j0 k t101 t102 (decide ((t102.size : Int) > 6))) else (num_Read.j0 k t101 t102 true))) else (num_Read.j0 k t101 t102 false))) else (none)) else (if t103 = true then ((num_digits.f k t102).bind fun t106 => (if t106 = true then (num_Read.j0 k t101 t102 (decide ((t102.size : Int) > 6))) else (num_Read.j0 k t101 t102 true))) else (num_Read.j0 k t101 t102 false))) else (num_Read.j0 k t101 t102 true))) = some (r1, r2) := H
  have A2 := Aside0.mk A20
  clear A20
  have HC3 := Aside0.mk H
  clear H
  go_enter Tryd.func14, Tryd.ntmps14
  go_upto_region 2 with (first | ((with_reducible refine gate_callee (f := 24) rfl ?_); refine goesL_ (some 13) rfl rfl Tryd.func24 (by kernel_rfl) rfl #[.string a0, .string (⟨#[46]⟩ : ByteArray)] rfl (by (try simp only [List.map_toArray, List.map_cons, List.map_nil]); first | done | rfl | (simp only [List.length_drop, List.length_take]; rfl)) ?_; (with_reducible refine (Na.cut.calls a0 (⟨#[46]⟩ : ByteArray) t101 t102 t103 _ A2.out).mono ?_); rintro e w' ⟨rfl, ⟨nd, rfl⟩⟩; refine ⟨_, rfl, ?_⟩))
  (try simp only [Act.put, List.setIfInBounds_toArray, List.set_cons_zero, List.set_cons_succ])
  go_cut [42] (fun v42 wc => ∃ (kq : Nat) (x42_2 : Bool), v42 = .bool x42_2 ∧ Aside0 (num_Read.j0 kq t101 t102 x42_2 = some (r1, r2)) ∧ Aside0 (kq ≤ k) ∧ Aside0 (Below w.heap.size w wc))
  case first =>
    have H := HC3.out
    clear HC3
    replace H := Option.bind_eq_some_iff.mp H
    obtain ⟨t104, A40, H⟩ := H
    replace H : (if t104 = true then (if (t101.size : Int) > 1 then (if 0 < (t101.size : Int) then (if (bt t101 0) = 48 then (num_Read.j0 k t101 t102 true) else (if t103 = true then ((num_digits.f k t102).bind fun t105 => (if t105 = true then (num_Read.j0 k t101 t102 (decide ((t102.size : Int) > 6))) else (num_Read.j0 k t101 t102 true))) else (num_Read.j0 k t101 t102 false))) else (none)) else (if t103 = true then ((num_digits.f k t102).bind fun t106 => (if t106 = true then (num_Read.j0 k t101 t102 (decide ((t102.size : Int) > 6))) else (num_Read.j0 k t101 t102 true))) else (num_Read.j0 k t101 t102 false))) else (num_Read.j0 k t101 t102 true)) = some (r1, r2) := H
    have A4 := Aside0.mk A40
    clear A40
    by_cases c5 : t104 = true
    · subst c5
      have H1 : (if (t101.size : Int) > 1 then (if 0 < (t101.size : Int) then (if (bt t101 0) = 48 then (num_Read.j0 k t101 t102 true) else (if t103 = true then ((num_digits.f k t102).bind fun t105 => (if t105 = true then (num_Read.j0 k t101 t102 (decide ((t102.size : Int) > 6))) else (num_Read.j0 k t101 t102 true))) else (num_Read.j0 k t101 t102 false))) else (none)) else (if t103 = true then ((num_digits.f k t102).bind fun t106 => (if t106 = true then (num_Read.j0 k t101 t102 (decide ((t102.size : Int) > 6))) else (num_Read.j0 k t101 t102 true))) else (num_Read.j0 k t101 t102 false))) = some (r1, r2) := by rw [if_pos rfl] at H; exact H
      clear H
      have H := H1
      clear H1
      by_cases c6 : (t101.size : Int) > 1
      · rw [if_pos c6] at H
        have c6b0 : decide (1 < (t101.size : Int)) = true := decide_eq_true c6
        have c6b1 : decide (1 < t101.size) = true := decide_eq_true (by omega)
        clear c6
        (first | rw [c6b0] | (simp only [i64_w, i32_w]; rw [c6b0]) | skip)
        by_cases c7 : 0 < (t101.size : Int)
        · rw [if_pos c7] at H
          have c7b0 : decide (0 < (t101.size : Int)) = true := decide_eq_true c7
          have c7b1 : decide (0 < t101.size) = true := decide_eq_true (by omega)
          clear c7
          by_cases c9 : (bt t101 0) = 48
          · rw [if_pos c9] at H
            have c9b0 : ((bt t101 0) == 48) = true := beq_iff_eq.mpr c9
            have c9b1 : ((bt t101 0) != 48) = false := bne_eq_false_iff_eq.mpr c9
            clear c9
            have H' := Aside0.mk H
            clear H
            go_wp2_with (first | ((with_reducible refine gate_callee (f := 25) rfl ?_); refine goesL_ (some 18) rfl rfl Tryd.func25 (by kernel_rfl) rfl #[.string t101] rfl (by (try simp only [List.map_toArray, List.map_cons, List.map_nil]); first | done | rfl | (simp only [List.length_drop, List.length_take]; rfl)) ?_; (with_reducible refine (num_digits.calls k t101 true _ A4.out).mono ?_); rintro e w' ⟨rfl, ⟨nd, rfl⟩⟩; refine ⟨_, rfl, ?_⟩; have p8 : 0 ≤ (0 : Int) := (by omega); have q8 : 0 < t101.size := (by have : (0 : Int) < (t101.size : Int) := of_decide_eq_true (by first | (with_reducible assumption) | assumption); omega); have hx8 : ∀ h : 0 < t101.size, ((t101[0]'h).toNat : Int) = bt t101 0 := bt_at t101 0; clear p8; have qi8 : (0 < (t101.size : Int)) = True := eq_true (of_decide_eq_true (by first | (with_reducible assumption) | assumption)); replace q8 := eq_true q8))
            go_meet
            case rel => exact ⟨_, (true), (by first | rfl | (simp; done) | (simp [*]; done)), H', ⟨by first | omega | exact Nat.le_refl _⟩, ⟨by repeat (first | (with_reducible first | exact HB.out | apply below_alloc | apply pw_below_drewN | apply below_drew1) | exact HB.out)⟩⟩
          · rw [if_neg c9] at H
            have c9b0 : ((bt t101 0) == 48) = false := beq_eq_false_iff_ne.mpr c9
            have c9b1 : ((bt t101 0) != 48) = true := bne_iff_ne.mpr c9
            by_cases c10 : t103 = true
            · subst c10
              have H1 : ((num_digits.f k t102).bind fun t105 => (if t105 = true then (num_Read.j0 k t101 t102 (decide ((t102.size : Int) > 6))) else (num_Read.j0 k t101 t102 true))) = some (r1, r2) := by rw [if_pos rfl] at H; exact H
              clear H
              have H := H1
              clear H1
              replace H := Option.bind_eq_some_iff.mp H
              obtain ⟨t105, A110, H⟩ := H
              replace H : (if t105 = true then (num_Read.j0 k t101 t102 (decide ((t102.size : Int) > 6))) else (num_Read.j0 k t101 t102 true)) = some (r1, r2) := H
              have A11 := Aside0.mk A110
              clear A110
              by_cases c12 : t105 = true
              · subst c12
                have H1 : (num_Read.j0 k t101 t102 (decide ((t102.size : Int) > 6))) = some (r1, r2) := by rw [if_pos rfl] at H; exact H
                clear H
                have H := H1
                clear H1
                have H' := Aside0.mk H
                clear H
                go_wp2_with (first | ((with_reducible refine gate_callee (f := 25) rfl ?_); refine goesL_ (some 18) rfl rfl Tryd.func25 (by kernel_rfl) rfl #[.string t101] rfl (by (try simp only [List.map_toArray, List.map_cons, List.map_nil]); first | done | rfl | (simp only [List.length_drop, List.length_take]; rfl)) ?_; (with_reducible refine (num_digits.calls k t101 true _ A4.out).mono ?_); rintro e w' ⟨rfl, ⟨nd, rfl⟩⟩; refine ⟨_, rfl, ?_⟩; have p8 : 0 ≤ (0 : Int) := (by omega); have q8 : 0 < t101.size := (by have : (0 : Int) < (t101.size : Int) := of_decide_eq_true (by first | (with_reducible assumption) | assumption); omega); have hx8 : ∀ h : 0 < t101.size, ((t101[0]'h).toNat : Int) = bt t101 0 := bt_at t101 0; clear p8; have qi8 : (0 < (t101.size : Int)) = True := eq_true (of_decide_eq_true (by first | (with_reducible assumption) | assumption)); replace q8 := eq_true q8) | (go_at_call 25; (with_reducible refine (num_digits.calls k t102 true _ A11.out).mono ?_); rintro e w' ⟨rfl, ⟨nd, rfl⟩⟩))
                go_meet
                case rel => exact ⟨_, (decide ((t102.size : Int) > 6)), (by first | rfl | (simp; done) | (simp [*]; done)), H', ⟨by first | omega | exact Nat.le_refl _⟩, ⟨by repeat (first | (with_reducible first | exact HB.out | apply below_alloc | apply pw_below_drewN | apply below_drew1) | exact HB.out)⟩⟩
              · replace c12 := Bool.eq_false_iff.mpr c12
                subst c12
                have H1 : (num_Read.j0 k t101 t102 true) = some (r1, r2) := by rw [if_neg (show ¬ (false = true) by decide)] at H; exact H
                clear H
                have H := H1
                clear H1
                have H' := Aside0.mk H
                clear H
                go_wp2_with (first | ((with_reducible refine gate_callee (f := 25) rfl ?_); refine goesL_ (some 18) rfl rfl Tryd.func25 (by kernel_rfl) rfl #[.string t101] rfl (by (try simp only [List.map_toArray, List.map_cons, List.map_nil]); first | done | rfl | (simp only [List.length_drop, List.length_take]; rfl)) ?_; (with_reducible refine (num_digits.calls k t101 true _ A4.out).mono ?_); rintro e w' ⟨rfl, ⟨nd, rfl⟩⟩; refine ⟨_, rfl, ?_⟩; have p8 : 0 ≤ (0 : Int) := (by omega); have q8 : 0 < t101.size := (by have : (0 : Int) < (t101.size : Int) := of_decide_eq_true (by first | (with_reducible assumption) | assumption); omega); have hx8 : ∀ h : 0 < t101.size, ((t101[0]'h).toNat : Int) = bt t101 0 := bt_at t101 0; clear p8; have qi8 : (0 < (t101.size : Int)) = True := eq_true (of_decide_eq_true (by first | (with_reducible assumption) | assumption)); replace q8 := eq_true q8) | (go_at_call 25; (with_reducible refine (num_digits.calls k t102 false _ A11.out).mono ?_); rintro e w' ⟨rfl, ⟨nd, rfl⟩⟩))
                go_meet
                case rel => exact ⟨_, (true), (by first | rfl | (simp; done) | (simp [*]; done)), H', ⟨by first | omega | exact Nat.le_refl _⟩, ⟨by repeat (first | (with_reducible first | exact HB.out | apply below_alloc | apply pw_below_drewN | apply below_drew1) | exact HB.out)⟩⟩
            · replace c10 := Bool.eq_false_iff.mpr c10
              subst c10
              have H1 : (num_Read.j0 k t101 t102 false) = some (r1, r2) := by rw [if_neg (show ¬ (false = true) by decide)] at H; exact H
              clear H
              have H := H1
              clear H1
              have H' := Aside0.mk H
              clear H
              go_wp2_with (first | ((with_reducible refine gate_callee (f := 25) rfl ?_); refine goesL_ (some 18) rfl rfl Tryd.func25 (by kernel_rfl) rfl #[.string t101] rfl (by (try simp only [List.map_toArray, List.map_cons, List.map_nil]); first | done | rfl | (simp only [List.length_drop, List.length_take]; rfl)) ?_; (with_reducible refine (num_digits.calls k t101 true _ A4.out).mono ?_); rintro e w' ⟨rfl, ⟨nd, rfl⟩⟩; refine ⟨_, rfl, ?_⟩; have p8 : 0 ≤ (0 : Int) := (by omega); have q8 : 0 < t101.size := (by have : (0 : Int) < (t101.size : Int) := of_decide_eq_true (by first | (with_reducible assumption) | assumption); omega); have hx8 : ∀ h : 0 < t101.size, ((t101[0]'h).toNat : Int) = bt t101 0 := bt_at t101 0; clear p8; have qi8 : (0 < (t101.size : Int)) = True := eq_true (of_decide_eq_true (by first | (with_reducible assumption) | assumption)); replace q8 := eq_true q8))
              go_meet
              case rel => exact ⟨_, (false), (by first | rfl | (simp; done) | (simp [*]; done)), H', ⟨by first | omega | exact Nat.le_refl _⟩, ⟨by repeat (first | (with_reducible first | exact HB.out | apply below_alloc | apply pw_below_drewN | apply below_drew1) | exact HB.out)⟩⟩
        · rw [if_neg c7] at H
          exact absurd H (by simp)
      · rw [if_neg c6] at H
        have c6b0 : decide (1 < (t101.size : Int)) = false := decide_eq_false c6
        have c6b1 : decide (1 < t101.size) = false := decide_eq_false (by omega)
        clear c6
        (first | rw [c6b0] | (simp only [i64_w, i32_w]; rw [c6b0]) | skip)
        by_cases c13 : t103 = true
        · subst c13
          have H1 : ((num_digits.f k t102).bind fun t106 => (if t106 = true then (num_Read.j0 k t101 t102 (decide ((t102.size : Int) > 6))) else (num_Read.j0 k t101 t102 true))) = some (r1, r2) := by rw [if_pos rfl] at H; exact H
          clear H
          have H := H1
          clear H1
          replace H := Option.bind_eq_some_iff.mp H
          obtain ⟨t106, A140, H⟩ := H
          replace H : (if t106 = true then (num_Read.j0 k t101 t102 (decide ((t102.size : Int) > 6))) else (num_Read.j0 k t101 t102 true)) = some (r1, r2) := H
          have A14 := Aside0.mk A140
          clear A140
          by_cases c15 : t106 = true
          · subst c15
            have H1 : (num_Read.j0 k t101 t102 (decide ((t102.size : Int) > 6))) = some (r1, r2) := by rw [if_pos rfl] at H; exact H
            clear H
            have H := H1
            clear H1
            have H' := Aside0.mk H
            clear H
            go_wp2_with (first | ((with_reducible refine gate_callee (f := 25) rfl ?_); refine goesL_ (some 18) rfl rfl Tryd.func25 (by kernel_rfl) rfl #[.string t101] rfl (by (try simp only [List.map_toArray, List.map_cons, List.map_nil]); first | done | rfl | (simp only [List.length_drop, List.length_take]; rfl)) ?_; (with_reducible refine (num_digits.calls k t101 true _ A4.out).mono ?_); rintro e w' ⟨rfl, ⟨nd, rfl⟩⟩; refine ⟨_, rfl, ?_⟩) | (go_at_call 25; (with_reducible refine (num_digits.calls k t102 true _ A14.out).mono ?_); rintro e w' ⟨rfl, ⟨nd, rfl⟩⟩))
            go_meet
            case rel => exact ⟨_, (decide ((t102.size : Int) > 6)), (by first | rfl | (simp; done) | (simp [*]; done)), H', ⟨by first | omega | exact Nat.le_refl _⟩, ⟨by repeat (first | (with_reducible first | exact HB.out | apply below_alloc | apply pw_below_drewN | apply below_drew1) | exact HB.out)⟩⟩
          · replace c15 := Bool.eq_false_iff.mpr c15
            subst c15
            have H1 : (num_Read.j0 k t101 t102 true) = some (r1, r2) := by rw [if_neg (show ¬ (false = true) by decide)] at H; exact H
            clear H
            have H := H1
            clear H1
            have H' := Aside0.mk H
            clear H
            go_wp2_with (first | ((with_reducible refine gate_callee (f := 25) rfl ?_); refine goesL_ (some 18) rfl rfl Tryd.func25 (by kernel_rfl) rfl #[.string t101] rfl (by (try simp only [List.map_toArray, List.map_cons, List.map_nil]); first | done | rfl | (simp only [List.length_drop, List.length_take]; rfl)) ?_; (with_reducible refine (num_digits.calls k t101 true _ A4.out).mono ?_); rintro e w' ⟨rfl, ⟨nd, rfl⟩⟩; refine ⟨_, rfl, ?_⟩) | (go_at_call 25; (with_reducible refine (num_digits.calls k t102 false _ A14.out).mono ?_); rintro e w' ⟨rfl, ⟨nd, rfl⟩⟩))
            go_meet
            case rel => exact ⟨_, (true), (by first | rfl | (simp; done) | (simp [*]; done)), H', ⟨by first | omega | exact Nat.le_refl _⟩, ⟨by repeat (first | (with_reducible first | exact HB.out | apply below_alloc | apply pw_below_drewN | apply below_drew1) | exact HB.out)⟩⟩
        · replace c13 := Bool.eq_false_iff.mpr c13
          subst c13
          have H1 : (num_Read.j0 k t101 t102 false) = some (r1, r2) := by rw [if_neg (show ¬ (false = true) by decide)] at H; exact H
          clear H
          have H := H1
          clear H1
          have H' := Aside0.mk H
          clear H
          go_wp2_with (first | ((with_reducible refine gate_callee (f := 25) rfl ?_); refine goesL_ (some 18) rfl rfl Tryd.func25 (by kernel_rfl) rfl #[.string t101] rfl (by (try simp only [List.map_toArray, List.map_cons, List.map_nil]); first | done | rfl | (simp only [List.length_drop, List.length_take]; rfl)) ?_; (with_reducible refine (num_digits.calls k t101 true _ A4.out).mono ?_); rintro e w' ⟨rfl, ⟨nd, rfl⟩⟩; refine ⟨_, rfl, ?_⟩))
          go_meet
          case rel => exact ⟨_, (false), (by first | rfl | (simp; done) | (simp [*]; done)), H', ⟨by first | omega | exact Nat.le_refl _⟩, ⟨by repeat (first | (with_reducible first | exact HB.out | apply below_alloc | apply pw_below_drewN | apply below_drew1) | exact HB.out)⟩⟩
    · replace c5 := Bool.eq_false_iff.mpr c5
      subst c5
      have H1 : (num_Read.j0 k t101 t102 true) = some (r1, r2) := by rw [if_neg (show ¬ (false = true) by decide)] at H; exact H
      clear H
      have H := H1
      clear H1
      have H' := Aside0.mk H
      clear H
      go_wp2_with (first | ((with_reducible refine gate_callee (f := 25) rfl ?_); refine goesL_ (some 18) rfl rfl Tryd.func25 (by kernel_rfl) rfl #[.string t101] rfl (by (try simp only [List.map_toArray, List.map_cons, List.map_nil]); first | done | rfl | (simp only [List.length_drop, List.length_take]; rfl)) ?_; (with_reducible refine (num_digits.calls k t101 false _ A4.out).mono ?_); rintro e w' ⟨rfl, ⟨nd, rfl⟩⟩; refine ⟨_, rfl, ?_⟩))
      go_meet
      case rel => exact ⟨_, (true), (by first | rfl | (simp; done) | (simp [*]; done)), H', ⟨by first | omega | exact Nat.le_refl _⟩, ⟨by repeat (first | (with_reducible first | exact HB.out | apply below_alloc | apply pw_below_drewN | apply below_drew1) | exact HB.out)⟩⟩
  case rest =>
    clear HC3
    try clear c1
    try clear c2
    try clear p2
    try clear c5
    try clear c6
    try clear c6b0
    try clear c6b1
    try clear c7
    try clear c7b0
    try clear c7b1
    try clear p8
    try clear q8
    try clear hx8
    try clear qi8
    try clear c9
    try clear c9b0
    try clear c9b1
    try clear c10
    try clear c12
    try clear c13
    try clear c14
    try clear c15
    try clear p8
    try clear q8
    obtain ⟨kq, x42_2, rfl, HA, HJ2, HB⟩ := hcut
    cases kq with
    | zero => exact absurd HA.out (by simp [num_Read.j0])
    | succ kj2 =>
      have H := HA.out
      clear HA
      simp only [num_Read.j0] at H
      by_cases c16 : x42_2 = true
      · subst c16
        have H1 : (some (0, 13)) = some (r1, r2) := by rw [if_pos rfl] at H; exact H
        clear H
        have H := H1
        clear H1
        simp only [Option.some.injEq, Prod.mk.injEq] at H
        obtain ⟨rfl, rfl⟩ := H
        go_wp2
        go_ret2
        exact ⟨by first | rfl | (simp [errW_none, errW_some] <;> rfl) | (simp [*, errW_none, errW_some] <;> rfl), by repeat (first | (with_reducible first | exact HB.out | apply below_alloc | apply pw_below_drewN | apply below_drew1) | exact HB.out)⟩
      · replace c16 := Bool.eq_false_iff.mpr c16
        subst c16
        have H1 : ((Na.pu.f t101 10 64).bind fun bt107 => (if bt107.2.isNone = true then (num_Read.j1 kj2 t102 bt107.1 (decide (bt107.1 > 9223372036854))) else (num_Read.j1 kj2 t102 bt107.1 true))) = some (r1, r2) := by rw [if_neg (show ¬ (false = true) by decide)] at H; exact H
        clear H
        have H := H1
        clear H1
        replace H := Option.bind_eq_some_iff.mp H
        obtain ⟨⟨t107, t108⟩, A170, H⟩ := H
        replace H : (if t108.isNone = true then (num_Read.j1 kj2 t102 t107 (decide (t107 > 9223372036854))) else (num_Read.j1 kj2 t102 t107 true)) = some (r1, r2) := H
        have A17 := Aside0.mk A170
        clear A170
        have HC18 := Aside0.mk H
        clear H
        go_upto_region 5 with (first | ((with_reducible refine gate_callee (f := 26) rfl ?_); refine goesL_ (some 45) rfl rfl Tryd.func26 (by kernel_rfl) rfl #[.string t101, .int .i64 10, .int .i64 64] rfl (by (try simp only [List.map_toArray, List.map_cons, List.map_nil]); first | done | rfl | (simp only [List.length_drop, List.length_take]; rfl)) ?_; (with_reducible refine (Na.pu.calls t101 10 64 t107 t108 _ A17.out).mono ?_); rintro e w19 ⟨rfl, hb⟩; refine ⟨_, rfl, ?_⟩; have n0_ := Aside0.mk (below_step (by repeat (first | (with_reducible first | exact HB.out | apply below_alloc | apply pw_below_drewN | apply below_drew1) | exact HB.out)) hb); clear HB; have HB := n0_; clear n0_; (try clear hb); (try clear hb2); (try clear hk); (try clear hi); (try simp only [errW_none, errW_some])))
        (try simp only [Act.put, List.setIfInBounds_toArray, List.set_cons_zero, List.set_cons_succ])
        go_cut [53] (fun v53 wc => ∃ (kq : Nat) (x53_17 : Bool), v53 = .bool x53_17 ∧ Aside0 (num_Read.j1 kq t102 t107 x53_17 = some (r1, r2)) ∧ Aside0 (kq ≤ kj2) ∧ Aside0 (Below w.heap.size w wc))
        case first =>
          have H := HC18.out
          clear HC18
          rcases t108 with _ | q109
          · have H1 : (num_Read.j1 kj2 t102 t107 (decide (t107 > 9223372036854))) = some (r1, r2) := by rw [if_pos (show (none : Option Int).isNone = true by rfl)] at H; exact H
            clear H
            have H := H1
            clear H1
            try simp only [errW_none, errW_some]
            have H' := Aside0.mk H
            clear H
            go_wp2
            go_meet
            case rel => exact ⟨_, (decide (t107 > 9223372036854)), (by first | rfl | (simp; done) | (simp [*]; done)), H', ⟨by have := HJ2.out; first | omega | exact Nat.le_refl _⟩, ⟨by repeat (first | (with_reducible first | exact HB.out | apply below_alloc | apply pw_below_drewN | apply below_drew1) | exact HB.out)⟩⟩
          · exact (Na.pu_none A17.out).elim
        case rest =>
          clear HC18
          try clear c1
          try clear q1
          try clear c2
          try clear p2
          try clear c5
          try clear c6
          try clear c6b0
          try clear c6b1
          try clear c7
          try clear c7b0
          try clear c7b1
          try clear p8
          try clear q8
          try clear hx8
          try clear qi8
          try clear c9
          try clear c9b0
          try clear c9b1
          try clear c10
          try clear q10
          try clear c12
          try clear c13
          try clear c14
          try clear c15
          try clear c16
          try clear p2
          try clear p8
          try clear q109
          try clear q8
          obtain ⟨kq, x53_17, rfl, HA, HJ17, HB⟩ := hcut
          cases kq with
          | zero => exact absurd HA.out (by simp [num_Read.j1])
          | succ kj17 =>
            have H := HA.out
            clear HA
            simp only [num_Read.j1] at H
            by_cases c20 : x53_17 = true
            · subst c20
              have H1 : (some (0, 13)) = some (r1, r2) := by rw [if_pos rfl] at H; exact H
              clear H
              have H := H1
              clear H1
              simp only [Option.some.injEq, Prod.mk.injEq] at H
              obtain ⟨rfl, rfl⟩ := H
              go_wp2
              go_ret2
              exact ⟨by first | rfl | (simp [errW_none, errW_some] <;> rfl) | (simp [*, errW_none, errW_some] <;> rfl), by repeat (first | (with_reducible first | exact HB.out | apply below_alloc | apply pw_below_drewN | apply below_drew1) | exact HB.out)⟩
            · replace c20 := Bool.eq_false_iff.mpr c20
              subst c20
              have H1 : (if t102.size + 6 ≤ 9223372036854775807 then (if 0 ≤ 6 then (if 6 ≤ ((t102 ++ (⟨#[48, 48, 48, 48, 48, 48]⟩ : ByteArray)).size : Int) then ((Na.pu.f ((t102 ++ (⟨#[48, 48, 48, 48, 48, 48]⟩ : ByteArray)).extract 0 6) 10 64).bind fun bt110 => (if (IntKind.u64.wrap ((IntKind.u64.wrap (t107 * 1000000)) + bt110.1)) > 9223372036854775807 then (some (0, 13)) else (some (wrap64 (IntKind.u64.wrap ((IntKind.u64.wrap (t107 * 1000000)) + bt110.1)), 0)))) else (none)) else (none)) else (none)) = some (r1, r2) := by rw [if_neg (show ¬ (false = true) by decide)] at H; exact H
              clear H
              have H := H1
              clear H1
              by_cases c21 : t102.size + 6 ≤ 9223372036854775807
              · rw [if_pos c21] at H
                have c21b0 := eq_true c21
                have c21b1 : decide (t102.size + 6 ≤ 9223372036854775807) = true := decide_eq_true c21
                try have c21b2 : (9223372036854775807 < t102.size + 6) = False := eq_false (Nat.not_lt.2 c21)
                by_cases c22 : 0 ≤ 6
                · rw [if_pos c22] at H
                  have c22b0 := eq_true c22
                  have c22b1 : decide (0 ≤ 6) = true := decide_eq_true c22
                  clear c22
                  by_cases c23 : 6 ≤ ((t102 ++ (⟨#[48, 48, 48, 48, 48, 48]⟩ : ByteArray)).size : Int)
                  · rw [if_pos c23] at H
                    have c23b0 := eq_true c23
                    have c23b1 : decide (6 ≤ ((t102 ++ (⟨#[48, 48, 48, 48, 48, 48]⟩ : ByteArray)).size : Int)) = true := decide_eq_true c23
                    replace H := Option.bind_eq_some_iff.mp H
                    obtain ⟨⟨t110, t111⟩, A240, H⟩ := H
                    replace H : (if (IntKind.u64.wrap ((IntKind.u64.wrap (t107 * 1000000)) + t110)) > 9223372036854775807 then (some (0, 13)) else (some (wrap64 (IntKind.u64.wrap ((IntKind.u64.wrap (t107 * 1000000)) + t110)), 0))) = some (r1, r2) := H
                    have A24 := Aside0.mk A240
                    clear A240
                    by_cases c25 : (IntKind.u64.wrap ((IntKind.u64.wrap (t107 * 1000000)) + t110)) > 9223372036854775807
                    · rw [if_pos c25] at H
                      have c25b0 : decide (9223372036854775807 < (IntKind.u64.wrap ((IntKind.u64.wrap (t107 * 1000000)) + t110))) = true := decide_eq_true c25
                      clear c25
                      simp only [Option.some.injEq, Prod.mk.injEq] at H
                      obtain ⟨rfl, rfl⟩ := H
                      go_wp2_with (first | ((with_reducible refine gate_callee (f := 26) rfl ?_); refine goesL_ (some 58) rfl rfl Tryd.func26 (by kernel_rfl) rfl #[.string ((t102 ++ (⟨#[48, 48, 48, 48, 48, 48]⟩ : ByteArray)).extract 0 6), .int .i64 10, .int .i64 64] rfl (by (try simp only [List.map_toArray, List.map_cons, List.map_nil]); first | done | rfl | (simp only [List.length_drop, List.length_take]; rfl)) ?_; (with_reducible refine (Na.pu.calls ((t102 ++ (⟨#[48, 48, 48, 48, 48, 48]⟩ : ByteArray)).extract 0 6) 10 64 t110 t111 _ A24.out).mono ?_); rintro e w26 ⟨rfl, hb⟩; refine ⟨_, rfl, ?_⟩; have n0_ := Aside0.mk (below_step (by repeat (first | (with_reducible first | exact HB.out | apply below_alloc | apply pw_below_drewN | apply below_drew1) | exact HB.out)) hb); clear HB; have HB := n0_; clear n0_; (try clear hb); (try clear hb2); (try clear hk); (try clear hi); (try simp only [errW_none, errW_some])))
                      go_ret2
                      exact ⟨by first | rfl | (simp [errW_none, errW_some] <;> rfl) | (simp [*, errW_none, errW_some] <;> rfl), by repeat (first | (with_reducible first | exact HB.out | apply below_alloc | apply pw_below_drewN | apply below_drew1) | exact HB.out)⟩
                    · rw [if_neg c25] at H
                      have c25b0 : decide (9223372036854775807 < (IntKind.u64.wrap ((IntKind.u64.wrap (t107 * 1000000)) + t110))) = false := decide_eq_false c25
                      clear c25
                      simp only [Option.some.injEq, Prod.mk.injEq] at H
                      obtain ⟨rfl, rfl⟩ := H
                      go_wp2_with (first | ((with_reducible refine gate_callee (f := 26) rfl ?_); refine goesL_ (some 58) rfl rfl Tryd.func26 (by kernel_rfl) rfl #[.string ((t102 ++ (⟨#[48, 48, 48, 48, 48, 48]⟩ : ByteArray)).extract 0 6), .int .i64 10, .int .i64 64] rfl (by (try simp only [List.map_toArray, List.map_cons, List.map_nil]); first | done | rfl | (simp only [List.length_drop, List.length_take]; rfl)) ?_; (with_reducible refine (Na.pu.calls ((t102 ++ (⟨#[48, 48, 48, 48, 48, 48]⟩ : ByteArray)).extract 0 6) 10 64 t110 t111 _ A24.out).mono ?_); rintro e w27 ⟨rfl, hb⟩; refine ⟨_, rfl, ?_⟩; have n0_ := Aside0.mk (below_step (by repeat (first | (with_reducible first | exact HB.out | apply below_alloc | apply pw_below_drewN | apply below_drew1) | exact HB.out)) hb); clear HB; have HB := n0_; clear n0_; (try clear hb); (try clear hb2); (try clear hk); (try clear hi); (try simp only [errW_none, errW_some])))
                      go_ret2
                      exact ⟨by first | rfl | (simp [errW_none, errW_some] <;> rfl) | (simp [*, errW_none, errW_some] <;> rfl), by repeat (first | (with_reducible first | exact HB.out | apply below_alloc | apply pw_below_drewN | apply below_drew1) | exact HB.out)⟩
                  · rw [if_neg c23] at H
                    exact absurd H (by simp)
                · rw [if_neg c22] at H
                  exact absurd H (by simp)
              · rw [if_neg c21] at H
                exact absurd H (by simp)

end Go.Proofs.YtekcdokgpjmbgaaDoor.OA
