/- Walks of functions, written by a program (wip/tools/own.py) over hand contracts; conditions: as each theorem states. -/
import Derived.Test.YtekcdokgpjmbgaaDoorOBx0
import Derived.Test.YtekcdokgpjmbgaaDoorOBx2
namespace Go.Proofs.YtekcdokgpjmbgaaDoor.OB
open Go.RowKit Go.Proofs.YtekcdokgpjmbgaaDoorW.PrintWords Go.Proofs.YtekcdokgpjmbgaaDoorW.PrintLast Go.Proofs.YtekcdokgpjmbgaaDoorW.PrintMore
attribute [local go_sem] max2_int min2_int max_two min_two max_three min_three max_four min_four   -- for this text's walks alone
set_option linter.unusedVariables false
set_option linter.unusedSimpArgs false

/-! ### capstanlaw10_NumPoint: function 7 -/
def capstanlaw10_NumPoint.j0 : Nat → Int → ByteArray → Int → ByteArray → Bool → Option (Bool)
  | 0, _, _, _, _, _ => none
  | k + 1, x0, x5, x6, x7, x32 => if x32 = true then (some false) else (if 1 ≤ (x7.size : Int) then (if x5.size + (x7.extract 1 x7.size).size ≤ 9223372036854775807 then ((Nb.Read.f k (x5 ++ (x7.extract 1 x7.size))).bind fun bt131 => (if x6 = 0 then (if bt131.2 = 0 then (if bt131.1 = (wrap64 ((wrap64 (x0)) * 1000000)) then (some (x7.toList == ([49] : List UInt8))) else (some false)) else (some false)) else (if (x5 ++ (x7.extract 1 x7.size)).size + 1 ≤ 9223372036854775807 then ((Nb.Read.f k ((x5 ++ (x7.extract 1 x7.size)) ++ (⟨#[48]⟩ : ByteArray))).bind fun bt133 => (if bt131.2 = 0 then (if bt131.1 = (wrap64 ((wrap64 ((wrap64 (x0)) * 1000000)) + x6)) then (if ((bt133.2 == 0) == (!((x7.size : Int) == 8))) = true then (if (x7.size : Int) = 8 then (some true) else (some (bt133.1 == bt131.1))) else (some false)) else (some false)) else (some false))) else (none)))) else (none)) else (none))
def capstanlaw10_NumPoint.f (k : Nat) (a0 : Int) (a1 : Int) : Option (Bool) := (capstanlaw10_awake.f k).bind fun t128 => (if t128 = true then ((OA.num_Text.f k (wrap64 ((wrap64 (a0)) * 1000000))).bind fun t129 => ((OA.num_Text.f k (wrap64 (1000000 + (wrap64 (Int.tmod a1 1000000))))).bind fun t130 => (if (t130.size : Int) = 0 then (capstanlaw10_NumPoint.j0 k a0 t129 (wrap64 (Int.tmod a1 1000000)) t130 true) else (if 0 < (t130.size : Int) then (capstanlaw10_NumPoint.j0 k a0 t129 (wrap64 (Int.tmod a1 1000000)) t130 ((bt t130 0) != 49)) else (none))))) else (some false))
theorem capstanlaw10_NumPoint.mono_l : ∀ k, (∀ y0 y1 y2 y3 y4, LeO (capstanlaw10_NumPoint.j0 k y0 y1 y2 y3 y4) (capstanlaw10_NumPoint.j0 (k + 1) y0 y1 y2 y3 y4))
  | 0 => fun _ _ _ _ _ r h => by simp [capstanlaw10_NumPoint.j0] at h
  | k + 1 => by
    have ih0 := capstanlaw10_NumPoint.mono_l k
    · intro y0 y1 y2 y3 y4
      unfold capstanlaw10_NumPoint.j0
      repeat' first
      | (with_reducible exact ih0 _ _ _ _ _)
      | (with_reducible exact Nb.Read.mono _ _)
      | (with_reducible exact OA.num_Text.mono _ _)
      | (with_reducible exact capstanlaw10_awake.mono _)
      | (with_reducible exact LeO.refl _)
      | (with_reducible exact LeO.none _)
      | (with_reducible refine LeO.ite ?_ ?_)
      | (with_reducible refine LeO.bind ?_ (fun _ => ?_))
      | exact ih0 _ _ _ _ _
      | exact Nb.Read.mono _ _
      | exact OA.num_Text.mono _ _
      | exact capstanlaw10_awake.mono _
      | exact LeO.none _
      | refine LeO.ite ?_ ?_
      | refine LeO.bind ?_ (fun _ => ?_)
theorem capstanlaw10_NumPoint.mono : ∀ a0 a1 k, LeO (capstanlaw10_NumPoint.f k a0 a1) (capstanlaw10_NumPoint.f (k + 1) a0 a1) := by
  intro a0 a1 k
  have ih0 := capstanlaw10_NumPoint.mono_l k
  unfold capstanlaw10_NumPoint.f
  repeat' first
      | (with_reducible exact ih0 _ _ _ _ _)
      | (with_reducible exact Nb.Read.mono _ _)
      | (with_reducible exact OA.num_Text.mono _ _)
      | (with_reducible exact capstanlaw10_awake.mono _)
      | (with_reducible exact LeO.refl _)
      | (with_reducible exact LeO.none _)
      | (with_reducible refine LeO.ite ?_ ?_)
      | (with_reducible refine LeO.bind ?_ (fun _ => ?_))
      | exact ih0 _ _ _ _ _
      | exact Nb.Read.mono _ _
      | exact OA.num_Text.mono _ _
      | exact capstanlaw10_awake.mono _
      | exact LeO.none _
      | refine LeO.ite ?_ ?_
      | refine LeO.bind ?_ (fun _ => ?_)
set_option maxHeartbeats 8000000 in
set_option maxRecDepth 100000 in
theorem capstanlaw10_NumPoint.calls (k : Nat) (a0 : Int) (a1 : Int) (r : Bool) (w : World) (h : capstanlaw10_NumPoint.f k a0 a1 = some r) (hL_ : Go.Proofs.YtekcdokgpjmbgaaDoor.Laid.Laid w) (hr_ : r = true) :
    Calls Tryd.prog 7 #[.int .u32 a0, .int .u32 a1] w fun e w' => e = .returned (.bool r) ∧ Below w.heap.size w w' := by
  have HR_ := Aside0.mk hr_
  clear hr_
  have HL_ := Aside0.mk hL_
  clear hL_
  have HB := Aside0.mk (Below.refl w.heap.size w)
  have H : ((capstanlaw10_awake.f k).bind fun t128 => (if t128 = true then ((OA.num_Text.f k (wrap64 ((wrap64 (a0)) * 1000000))).bind fun t129 => ((OA.num_Text.f k (wrap64 (1000000 + (wrap64 (Int.tmod a1 1000000))))).bind fun t130 => (if (t130.size : Int) = 0 then (capstanlaw10_NumPoint.j0 k a0 t129 (wrap64 (Int.tmod a1 1000000)) t130 true) else (if 0 < (t130.size : Int) then (capstanlaw10_NumPoint.j0 k a0 t129 (wrap64 (Int.tmod a1 1000000)) t130 ((bt t130 0) != 49)) else (none))))) else (some false))) = some r := h
  clear h
  replace H := Option.bind_eq_some_iff.mp H
  obtain ⟨t128, A30, H⟩ := H
  replace H : (if t128 = true then ((OA.num_Text.f k (wrap64 ((wrap64 (a0)) * 1000000))).bind fun t129 => ((OA.num_Text.f k (wrap64 (1000000 + (wrap64 (Int.tmod a1 1000000))))).bind fun t130 => (if (t130.size : Int) = 0 then (capstanlaw10_NumPoint.j0 k a0 t129 (wrap64 (Int.tmod a1 1000000)) t130 true) else (if 0 < (t130.size : Int) then (capstanlaw10_NumPoint.j0 k a0 t129 (wrap64 (Int.tmod a1 1000000)) t130 ((bt t130 0) != 49)) else (none))))) else (some false)) = some r := H
  have A3 := Aside0.mk A30
  clear A30
  by_cases c4 : t128 = true
  · subst c4
    have H1 : ((OA.num_Text.f k (wrap64 ((wrap64 (a0)) * 1000000))).bind fun t129 => ((OA.num_Text.f k (wrap64 (1000000 + (wrap64 (Int.tmod a1 1000000))))).bind fun t130 => (if (t130.size : Int) = 0 then (capstanlaw10_NumPoint.j0 k a0 t129 (wrap64 (Int.tmod a1 1000000)) t130 true) else (if 0 < (t130.size : Int) then (capstanlaw10_NumPoint.j0 k a0 t129 (wrap64 (Int.tmod a1 1000000)) t130 ((bt t130 0) != 49)) else (none))))) = some r := by rw [if_pos rfl] at H; exact H
    clear H
    have H := H1
    clear H1
    replace H := Option.bind_eq_some_iff.mp H
    obtain ⟨t129, A50, H⟩ := H
    replace H : ((OA.num_Text.f k (wrap64 (1000000 + (wrap64 (Int.tmod a1 1000000))))).bind fun t130 => (if (t130.size : Int) = 0 then (capstanlaw10_NumPoint.j0 k a0 t129 (wrap64 (Int.tmod a1 1000000)) t130 true) else (if 0 < (t130.size : Int) then (capstanlaw10_NumPoint.j0 k a0 t129 (wrap64 (Int.tmod a1 1000000)) t130 ((bt t130 0) != 49)) else (none)))) = some r := H
    have A5 := Aside0.mk A50
    clear A50
    replace H := Option.bind_eq_some_iff.mp H
    obtain ⟨t130, A60, H⟩ := H
    replace H : (if (t130.size : Int) = 0 then (capstanlaw10_NumPoint.j0 k a0 t129 (wrap64 (Int.tmod a1 1000000)) t130 true) else (if 0 < (t130.size : Int) then (capstanlaw10_NumPoint.j0 k a0 t129 (wrap64 (Int.tmod a1 1000000)) t130 ((bt t130 0) != 49)) else (none))) = some r := H
    have A6 := Aside0.mk A60
    clear A60
    have HC7 := Aside0.mk H
    clear H
    go_enter Tryd.func7, Tryd.ntmps7
    go_upto_region 6 with (first | ((with_reducible refine gate_callee (f := 9) rfl ?_); refine goesL_ (some 13) rfl rfl Tryd.func9 (by kernel_rfl) rfl #[] rfl (by (try simp only [List.map_toArray, List.map_cons, List.map_nil]); first | done | rfl | (simp only [List.length_drop, List.length_take]; rfl)) ?_; (with_reducible refine (capstanlaw10_awake.calls k  true _ A3.out (by first | exact HL_.out | exact Go.Proofs.YtekcdokgpjmbgaaDoor.Laid.Laid.below HL_.out (by repeat (first | (with_reducible first | exact HB.out | exact Below.refl _ _ | exact (‹Aside0 (Below _ _ _)›).out | apply below_alloc | apply pw_below_drewN | apply below_drew1 | refine Below.setCell ?_ (Aside0.out (by assumption)) _) | exact HB.out | exact (‹Aside0 (Below _ _ _)›).out)))).mono ?_); rintro e w8 ⟨rfl, hb⟩; refine ⟨_, rfl, ?_⟩; have n0_ := Aside0.mk (below_step (by repeat (first | (with_reducible first | exact HB.out | apply below_alloc | apply pw_below_drewN | apply below_drew1) | exact HB.out)) hb); clear HB; have HB := n0_; clear n0_; (try clear hb); (try clear hb2); (try clear hk); (try clear hi)) | ((with_reducible refine gate_callee (f := 16) rfl ?_); refine goesL_ (some 18) rfl rfl Tryd.func16 (by kernel_rfl) rfl #[.int .i64 (wrap64 ((wrap64 (a0)) * 1000000))] rfl (by (try simp only [List.map_toArray, List.map_cons, List.map_nil]); first | done | rfl | (simp only [List.length_drop, List.length_take]; rfl)) ?_; (with_reducible refine (OA.num_Text.calls k (wrap64 ((wrap64 (a0)) * 1000000)) t129 _ A5.out (by first | exact HL_.out | exact Go.Proofs.YtekcdokgpjmbgaaDoor.Laid.Laid.below HL_.out (by repeat (first | (with_reducible first | exact HB.out | exact Below.refl _ _ | exact (‹Aside0 (Below _ _ _)›).out | apply below_alloc | apply pw_below_drewN | apply below_drew1 | refine Below.setCell ?_ (Aside0.out (by assumption)) _) | exact HB.out | exact (‹Aside0 (Below _ _ _)›).out)))).mono ?_); rintro e w9 ⟨rfl, hb⟩; refine ⟨_, rfl, ?_⟩; have n0_ := Aside0.mk (below_step (by repeat (first | (with_reducible first | exact HB.out | apply below_alloc | apply pw_below_drewN | apply below_drew1) | exact HB.out)) hb); clear HB; have HB := n0_; clear n0_; (try clear hb); (try clear hb2); (try clear hk); (try clear hi)) | ((with_reducible refine gate_callee (f := 16) rfl ?_); refine goesL_ (some 24) rfl rfl Tryd.func16 (by kernel_rfl) rfl #[.int .i64 (wrap64 (1000000 + (wrap64 (Int.tmod a1 1000000))))] rfl (by (try simp only [List.map_toArray, List.map_cons, List.map_nil]); first | done | rfl | (simp only [List.length_drop, List.length_take]; rfl)) ?_; (with_reducible refine (OA.num_Text.calls k (wrap64 (1000000 + (wrap64 (Int.tmod a1 1000000)))) t130 _ A6.out (by first | exact HL_.out | exact Go.Proofs.YtekcdokgpjmbgaaDoor.Laid.Laid.below HL_.out (by repeat (first | (with_reducible first | exact HB.out | exact Below.refl _ _ | exact (‹Aside0 (Below _ _ _)›).out | apply below_alloc | apply pw_below_drewN | apply below_drew1 | refine Below.setCell ?_ (Aside0.out (by assumption)) _) | exact HB.out | exact (‹Aside0 (Below _ _ _)›).out)))).mono ?_); rintro e w10 ⟨rfl, hb⟩; refine ⟨_, rfl, ?_⟩; have n0_ := Aside0.mk (below_step (by repeat (first | (with_reducible first | exact HB.out | apply below_alloc | apply pw_below_drewN | apply below_drew1) | exact HB.out)) hb); clear HB; have HB := n0_; clear n0_; (try clear hb); (try clear hb2); (try clear hk); (try clear hi)))
    (try simp only [Act.put, List.setIfInBounds_toArray, List.set_cons_zero, List.set_cons_succ])
    go_cut [32] (fun v32 wc => ∃ (kq : Nat) (x32_6 : Bool), v32 = .bool x32_6 ∧ Aside0 (capstanlaw10_NumPoint.j0 kq a0 t129 (wrap64 (Int.tmod a1 1000000)) t130 x32_6 = some r) ∧ Aside0 (kq ≤ k) ∧ Aside0 (Below w.heap.size w wc))
    case first =>
      have H := HC7.out
      clear HC7
      by_cases c11 : (t130.size : Int) = 0
      · rw [if_pos c11] at H
        have c11b0 : ((t130.size : Int) == 0) = true := beq_iff_eq.mpr c11
        have c11b1 : ((t130.size : Int) != 0) = false := bne_eq_false_iff_eq.mpr c11
        clear c11
        (first | rw [c11b0] | (simp only [i64_w, i32_w]; rw [c11b0]) | skip)
        have H' := Aside0.mk H
        clear H
        go_wp2
        go_meet
        case rel => exact ⟨_, (true), (by first | rfl | (simp; done) | (simp [*]; done)), H', ⟨by first | omega | exact Nat.le_refl _⟩, ⟨by repeat (first | (with_reducible first | exact HB.out | apply below_alloc | apply pw_below_drewN | apply below_drew1) | exact HB.out)⟩⟩
      · rw [if_neg c11] at H
        have c11b0 : ((t130.size : Int) == 0) = false := beq_eq_false_iff_ne.mpr c11
        have c11b1 : ((t130.size : Int) != 0) = true := bne_iff_ne.mpr c11
        (first | rw [c11b0] | (simp only [i64_w, i32_w]; rw [c11b0]) | skip)
        by_cases c12 : 0 < (t130.size : Int)
        · rw [if_pos c12] at H
          have c12b0 : decide (0 < (t130.size : Int)) = true := decide_eq_true c12
          have c12b1 : decide (0 < t130.size) = true := decide_eq_true (by omega)
          clear c12
          have H' := Aside0.mk H
          clear H
          have p13 : 0 ≤ (0 : Int) := (by omega)
          have q13 : 0 < t130.size := (by have : (0 : Int) < (t130.size : Int) := of_decide_eq_true (by first | (with_reducible assumption) | assumption); omega)
          have hx13 : ∀ h : 0 < t130.size, ((t130[0]'h).toNat : Int) = bt t130 0 := bt_at t130 0
          clear p13
          have qi13 : (0 < (t130.size : Int)) = True := eq_true (of_decide_eq_true (by first | (with_reducible assumption) | assumption))
          replace q13 := eq_true q13
          go_wp2
          go_meet
          case rel => exact ⟨_, (((bt t130 0) != 49)), (by first | rfl | (simp; done) | (simp [*]; done)), H', ⟨by first | omega | exact Nat.le_refl _⟩, ⟨by repeat (first | (with_reducible first | exact HB.out | apply below_alloc | apply pw_below_drewN | apply below_drew1) | exact HB.out)⟩⟩
        · rw [if_neg c12] at H
          exact absurd H (by simp)
    case rest =>
      clear HC7
      try clear c1
      try clear p1
      try clear q1
      try clear hx1
      try clear qi1
      try clear p2
      try clear c4
      try clear p6
      try clear c7
      try clear c9
      try clear c11
      try clear c11b0
      try clear c11b1
      try clear c12
      try clear c12b0
      try clear c12b1
      try clear p13
      try clear q13
      try clear hx13
      try clear qi13
      try clear p13
      try clear q13
      obtain ⟨kq, x32_6, rfl, HA, HJ6, HB⟩ := hcut
      cases kq with
      | zero => exact absurd HA.out (by simp [capstanlaw10_NumPoint.j0])
      | succ kj6 =>
        have H := HA.out
        clear HA
        simp only [capstanlaw10_NumPoint.j0] at H
        by_cases c14 : x32_6 = true
        · subst c14
          have H1 : (some false) = some r := by rw [if_pos rfl] at H; exact H
          clear H
          have H := H1
          clear H1
          obtain rfl := Option.some.inj H
          go_wp2
          go_ret
          exact ⟨by first | rfl | (simp [errW_none, errW_some] <;> rfl) | (simp [*, errW_none, errW_some] <;> rfl), by repeat (first | (with_reducible first | exact HB.out | apply below_alloc | apply pw_below_drewN | apply below_drew1) | exact HB.out)⟩
        · replace c14 := Bool.eq_false_iff.mpr c14
          subst c14
          have H1 : (if 1 ≤ (t130.size : Int) then (if t129.size + (t130.extract 1 t130.size).size ≤ 9223372036854775807 then ((Nb.Read.f kj6 (t129 ++ (t130.extract 1 t130.size))).bind fun bt131 => (if (wrap64 (Int.tmod a1 1000000)) = 0 then (if bt131.2 = 0 then (if bt131.1 = (wrap64 ((wrap64 (a0)) * 1000000)) then (some (t130.toList == ([49] : List UInt8))) else (some false)) else (some false)) else (if (t129 ++ (t130.extract 1 t130.size)).size + 1 ≤ 9223372036854775807 then ((Nb.Read.f kj6 ((t129 ++ (t130.extract 1 t130.size)) ++ (⟨#[48]⟩ : ByteArray))).bind fun bt133 => (if bt131.2 = 0 then (if bt131.1 = (wrap64 ((wrap64 ((wrap64 (a0)) * 1000000)) + (wrap64 (Int.tmod a1 1000000)))) then (if ((bt133.2 == 0) == (!((t130.size : Int) == 8))) = true then (if (t130.size : Int) = 8 then (some true) else (some (bt133.1 == bt131.1))) else (some false)) else (some false)) else (some false))) else (none)))) else (none)) else (none)) = some r := by rw [if_neg (show ¬ (false = true) by decide)] at H; exact H
          clear H
          have H := H1
          clear H1
          by_cases c15 : 1 ≤ (t130.size : Int)
          · rw [if_pos c15] at H
            have c15b0 := eq_true c15
            have c15b1 : decide (1 ≤ (t130.size : Int)) = true := decide_eq_true c15
            clear c15
            by_cases c16 : t129.size + (t130.extract 1 t130.size).size ≤ 9223372036854775807
            · rw [if_pos c16] at H
              have c16b0 := eq_true c16
              have c16b1 : decide (t129.size + (t130.extract 1 t130.size).size ≤ 9223372036854775807) = true := decide_eq_true c16
              try have c16b2 : (9223372036854775807 < t129.size + (t130.extract 1 t130.size).size) = False := eq_false (Nat.not_lt.2 c16)
              replace H := Option.bind_eq_some_iff.mp H
              obtain ⟨⟨t131, t132⟩, A170, H⟩ := H
              replace H : (if (wrap64 (Int.tmod a1 1000000)) = 0 then (if t132 = 0 then (if t131 = (wrap64 ((wrap64 (a0)) * 1000000)) then (some (t130.toList == ([49] : List UInt8))) else (some false)) else (some false)) else (if (t129 ++ (t130.extract 1 t130.size)).size + 1 ≤ 9223372036854775807 then ((Nb.Read.f kj6 ((t129 ++ (t130.extract 1 t130.size)) ++ (⟨#[48]⟩ : ByteArray))).bind fun bt133 => (if t132 = 0 then (if t131 = (wrap64 ((wrap64 ((wrap64 (a0)) * 1000000)) + (wrap64 (Int.tmod a1 1000000)))) then (if ((bt133.2 == 0) == (!((t130.size : Int) == 8))) = true then (if (t130.size : Int) = 8 then (some true) else (some (bt133.1 == t131))) else (some false)) else (some false)) else (some false))) else (none))) = some r := H
              have A17 := Aside0.mk A170
              clear A170
              by_cases c18 : (wrap64 (Int.tmod a1 1000000)) = 0
              · rw [if_pos c18] at H
                have c18b0 : ((wrap64 (Int.tmod a1 1000000)) == 0) = true := beq_iff_eq.mpr c18
                have c18b1 : ((wrap64 (Int.tmod a1 1000000)) != 0) = false := bne_eq_false_iff_eq.mpr c18
                clear c18
                by_cases c19 : t132 = 0
                · rw [if_pos c19] at H
                  have c19b0 : (t132 == 0) = true := beq_iff_eq.mpr c19
                  have c19b1 : (t132 != 0) = false := bne_eq_false_iff_eq.mpr c19
                  clear c19
                  by_cases c20 : t131 = (wrap64 ((wrap64 (a0)) * 1000000))
                  · rw [if_pos c20] at H
                    have c20b0 : (t131 == (wrap64 ((wrap64 (a0)) * 1000000))) = true := beq_iff_eq.mpr c20
                    have c20b1 : (t131 != (wrap64 ((wrap64 (a0)) * 1000000))) = false := bne_eq_false_iff_eq.mpr c20
                    clear c20
                    obtain rfl := Option.some.inj H
                    go_wp2_with (first | ((with_reducible refine gate_callee (f := 14) rfl ?_); refine goesL_ (some 38) rfl rfl Tryd.func14 (by kernel_rfl) rfl #[.string (t129 ++ (t130.extract 1 t130.size))] rfl (by (try simp only [List.map_toArray, List.map_cons, List.map_nil]); first | done | rfl | (simp only [List.length_drop, List.length_take]; rfl)) ?_; (with_reducible refine (Nb.Read.calls kj6 (t129 ++ (t130.extract 1 t130.size)) t131 t132 _ A17.out (by first | exact HL_.out | exact Go.Proofs.YtekcdokgpjmbgaaDoor.Laid.Laid.below HL_.out (by repeat (first | (with_reducible first | exact HB.out | exact Below.refl _ _ | exact (‹Aside0 (Below _ _ _)›).out | apply below_alloc | apply pw_below_drewN | apply below_drew1 | refine Below.setCell ?_ (Aside0.out (by assumption)) _) | exact HB.out | exact (‹Aside0 (Below _ _ _)›).out)))).mono ?_); rintro e w21 ⟨rfl, hb⟩; refine ⟨_, rfl, ?_⟩; have n0_ := Aside0.mk (below_step (by repeat (first | (with_reducible first | exact HB.out | apply below_alloc | apply pw_below_drewN | apply below_drew1) | exact HB.out)) hb); clear HB; have HB := n0_; clear n0_; (try clear hb); (try clear hb2); (try clear hk); (try clear hi)))
                    go_ret
                    exact ⟨by first | rfl | (simp [errW_none, errW_some] <;> rfl) | (simp [*, errW_none, errW_some] <;> rfl), by repeat (first | (with_reducible first | exact HB.out | apply below_alloc | apply pw_below_drewN | apply below_drew1) | exact HB.out)⟩
                  · rw [if_neg c20] at H
                    have c20b0 : (t131 == (wrap64 ((wrap64 (a0)) * 1000000))) = false := beq_eq_false_iff_ne.mpr c20
                    have c20b1 : (t131 != (wrap64 ((wrap64 (a0)) * 1000000))) = true := bne_iff_ne.mpr c20
                    obtain rfl := Option.some.inj H
                    go_wp2_with (first | ((with_reducible refine gate_callee (f := 14) rfl ?_); refine goesL_ (some 38) rfl rfl Tryd.func14 (by kernel_rfl) rfl #[.string (t129 ++ (t130.extract 1 t130.size))] rfl (by (try simp only [List.map_toArray, List.map_cons, List.map_nil]); first | done | rfl | (simp only [List.length_drop, List.length_take]; rfl)) ?_; (with_reducible refine (Nb.Read.calls kj6 (t129 ++ (t130.extract 1 t130.size)) t131 t132 _ A17.out (by first | exact HL_.out | exact Go.Proofs.YtekcdokgpjmbgaaDoor.Laid.Laid.below HL_.out (by repeat (first | (with_reducible first | exact HB.out | exact Below.refl _ _ | exact (‹Aside0 (Below _ _ _)›).out | apply below_alloc | apply pw_below_drewN | apply below_drew1 | refine Below.setCell ?_ (Aside0.out (by assumption)) _) | exact HB.out | exact (‹Aside0 (Below _ _ _)›).out)))).mono ?_); rintro e w22 ⟨rfl, hb⟩; refine ⟨_, rfl, ?_⟩; have n0_ := Aside0.mk (below_step (by repeat (first | (with_reducible first | exact HB.out | apply below_alloc | apply pw_below_drewN | apply below_drew1) | exact HB.out)) hb); clear HB; have HB := n0_; clear n0_; (try clear hb); (try clear hb2); (try clear hk); (try clear hi)))
                    go_ret
                    exact ⟨by first | rfl | (simp [errW_none, errW_some] <;> rfl) | (simp [*, errW_none, errW_some] <;> rfl), by repeat (first | (with_reducible first | exact HB.out | apply below_alloc | apply pw_below_drewN | apply below_drew1) | exact HB.out)⟩
                · rw [if_neg c19] at H
                  have c19b0 : (t132 == 0) = false := beq_eq_false_iff_ne.mpr c19
                  have c19b1 : (t132 != 0) = true := bne_iff_ne.mpr c19
                  obtain rfl := Option.some.inj H
                  go_wp2_with (first | ((with_reducible refine gate_callee (f := 14) rfl ?_); refine goesL_ (some 38) rfl rfl Tryd.func14 (by kernel_rfl) rfl #[.string (t129 ++ (t130.extract 1 t130.size))] rfl (by (try simp only [List.map_toArray, List.map_cons, List.map_nil]); first | done | rfl | (simp only [List.length_drop, List.length_take]; rfl)) ?_; (with_reducible refine (Nb.Read.calls kj6 (t129 ++ (t130.extract 1 t130.size)) t131 t132 _ A17.out (by first | exact HL_.out | exact Go.Proofs.YtekcdokgpjmbgaaDoor.Laid.Laid.below HL_.out (by repeat (first | (with_reducible first | exact HB.out | exact Below.refl _ _ | exact (‹Aside0 (Below _ _ _)›).out | apply below_alloc | apply pw_below_drewN | apply below_drew1 | refine Below.setCell ?_ (Aside0.out (by assumption)) _) | exact HB.out | exact (‹Aside0 (Below _ _ _)›).out)))).mono ?_); rintro e w23 ⟨rfl, hb⟩; refine ⟨_, rfl, ?_⟩; have n0_ := Aside0.mk (below_step (by repeat (first | (with_reducible first | exact HB.out | apply below_alloc | apply pw_below_drewN | apply below_drew1) | exact HB.out)) hb); clear HB; have HB := n0_; clear n0_; (try clear hb); (try clear hb2); (try clear hk); (try clear hi)))
                  go_ret
                  exact ⟨by first | rfl | (simp [errW_none, errW_some] <;> rfl) | (simp [*, errW_none, errW_some] <;> rfl), by repeat (first | (with_reducible first | exact HB.out | apply below_alloc | apply pw_below_drewN | apply below_drew1) | exact HB.out)⟩
              · rw [if_neg c18] at H
                have c18b0 : ((wrap64 (Int.tmod a1 1000000)) == 0) = false := beq_eq_false_iff_ne.mpr c18
                have c18b1 : ((wrap64 (Int.tmod a1 1000000)) != 0) = true := bne_iff_ne.mpr c18
                have c24b0 := eq_true (of_decide_eq_true (by first | (with_reducible assumption) | assumption) : 1 ≤ (t130.size : Int))
                by_cases c25 : (t129 ++ (t130.extract 1 t130.size)).size + 1 ≤ 9223372036854775807
                · rw [if_pos c25] at H
                  have c25b0 := eq_true c25
                  have c25b1 : decide ((t129 ++ (t130.extract 1 t130.size)).size + 1 ≤ 9223372036854775807) = true := decide_eq_true c25
                  try have c25b2 : (9223372036854775807 < (t129 ++ (t130.extract 1 t130.size)).size + 1) = False := eq_false (Nat.not_lt.2 c25)
                  replace H := Option.bind_eq_some_iff.mp H
                  obtain ⟨⟨t133, t134⟩, A260, H⟩ := H
                  replace H : (if t132 = 0 then (if t131 = (wrap64 ((wrap64 ((wrap64 (a0)) * 1000000)) + (wrap64 (Int.tmod a1 1000000)))) then (if ((t134 == 0) == (!((t130.size : Int) == 8))) = true then (if (t130.size : Int) = 8 then (some true) else (some (t133 == t131))) else (some false)) else (some false)) else (some false)) = some r := H
                  have A26 := Aside0.mk A260
                  clear A260
                  by_cases c27 : t132 = 0
                  · rw [if_pos c27] at H
                    have c27b0 : (t132 == 0) = true := beq_iff_eq.mpr c27
                    have c27b1 : (t132 != 0) = false := bne_eq_false_iff_eq.mpr c27
                    clear c27
                    by_cases c28 : t131 = (wrap64 ((wrap64 ((wrap64 (a0)) * 1000000)) + (wrap64 (Int.tmod a1 1000000))))
                    · rw [if_pos c28] at H
                      have c28b0 : (t131 == (wrap64 ((wrap64 ((wrap64 (a0)) * 1000000)) + (wrap64 (Int.tmod a1 1000000))))) = true := beq_iff_eq.mpr c28
                      have c28b1 : (t131 != (wrap64 ((wrap64 ((wrap64 (a0)) * 1000000)) + (wrap64 (Int.tmod a1 1000000))))) = false := bne_eq_false_iff_eq.mpr c28
                      clear c28
                      by_cases c29 : ((t134 == 0) == (!((t130.size : Int) == 8))) = true
                      · rw [if_pos c29] at H
                        have c29b0 : ((t134 == 0) == (!((t130.size : Int) == 8))) = true := c29
                        (try (have c29b1 : decide ((t134 == 0) = (!((t130.size : Int) == 8))) = true := by simpa using c29))
                        (try (have c29b2 : ((t134 == 0) == (!((t130.size : Int) == 8))) = true := by simpa using c29))
                        clear c29
                        by_cases c30 : (t130.size : Int) = 8
                        · rw [if_pos c30] at H
                          have c30b0 : ((t130.size : Int) == 8) = true := beq_iff_eq.mpr c30
                          have c30b1 : ((t130.size : Int) != 8) = false := bne_eq_false_iff_eq.mpr c30
                          have c31 : (t134 == 0) = false := by have h_ := c29b0; rw [c30b0] at h_; simpa using h_
                          have c32 : (t129.size + (t130.size - 1) + 1 ≤ 9223372036854775807) := by have h_ := c25; rw [ByteArray.size_append, ByteArray.size_extract] at h_; omega
                          have c32a := eq_true c32
                          have c32b : (9223372036854775807 < t129.size + (t130.size - 1) + 1) = False := eq_false (Nat.not_lt.2 c32)
                          have c31a : (t134 != 0) = true := by rw [bne, c31]; rfl
                          clear c30
                          obtain rfl := Option.some.inj H
                          go_wp2_with (first | ((with_reducible refine gate_callee (f := 14) rfl ?_); refine goesL_ (some 38) rfl rfl Tryd.func14 (by kernel_rfl) rfl #[.string (t129 ++ (t130.extract 1 t130.size))] rfl (by (try simp only [List.map_toArray, List.map_cons, List.map_nil]); first | done | rfl | (simp only [List.length_drop, List.length_take]; rfl)) ?_; (with_reducible refine (Nb.Read.calls kj6 (t129 ++ (t130.extract 1 t130.size)) t131 t132 _ A17.out (by first | exact HL_.out | exact Go.Proofs.YtekcdokgpjmbgaaDoor.Laid.Laid.below HL_.out (by repeat (first | (with_reducible first | exact HB.out | exact Below.refl _ _ | exact (‹Aside0 (Below _ _ _)›).out | apply below_alloc | apply pw_below_drewN | apply below_drew1 | refine Below.setCell ?_ (Aside0.out (by assumption)) _) | exact HB.out | exact (‹Aside0 (Below _ _ _)›).out)))).mono ?_); rintro e w31 ⟨rfl, hb⟩; refine ⟨_, rfl, ?_⟩; have n0_ := Aside0.mk (below_step (by repeat (first | (with_reducible first | exact HB.out | apply below_alloc | apply pw_below_drewN | apply below_drew1) | exact HB.out)) hb); clear HB; have HB := n0_; clear n0_; (try clear hb); (try clear hb2); (try clear hk); (try clear hi)) | ((with_reducible refine gate_callee (f := 14) rfl ?_); refine goesL_ (some 62) rfl rfl Tryd.func14 (by kernel_rfl) rfl #[.string ((t129 ++ (t130.extract 1 t130.size)) ++ (⟨#[48]⟩ : ByteArray))] rfl (by (try simp only [List.map_toArray, List.map_cons, List.map_nil]); first | done | rfl | (simp only [List.length_drop, List.length_take]; rfl)) ?_; (with_reducible refine (Nb.Read.calls kj6 ((t129 ++ (t130.extract 1 t130.size)) ++ (⟨#[48]⟩ : ByteArray)) t133 t134 _ A26.out (by first | exact HL_.out | exact Go.Proofs.YtekcdokgpjmbgaaDoor.Laid.Laid.below HL_.out (by repeat (first | (with_reducible first | exact HB.out | exact Below.refl _ _ | exact (‹Aside0 (Below _ _ _)›).out | apply below_alloc | apply pw_below_drewN | apply below_drew1 | refine Below.setCell ?_ (Aside0.out (by assumption)) _) | exact HB.out | exact (‹Aside0 (Below _ _ _)›).out)))).mono ?_); rintro e w32 ⟨rfl, hb⟩; refine ⟨_, rfl, ?_⟩; have n0_ := Aside0.mk (below_step (by repeat (first | (with_reducible first | exact HB.out | apply below_alloc | apply pw_below_drewN | apply below_drew1) | exact HB.out)) hb); clear HB; have HB := n0_; clear n0_; (try clear hb); (try clear hb2); (try clear hk); (try clear hi)))
                          go_ret
                          exact ⟨by first | rfl | (simp [errW_none, errW_some] <;> rfl) | (simp [*, errW_none, errW_some] <;> rfl), by repeat (first | (with_reducible first | exact HB.out | apply below_alloc | apply pw_below_drewN | apply below_drew1) | exact HB.out)⟩
                        · rw [if_neg c30] at H
                          have c30b0 : ((t130.size : Int) == 8) = false := beq_eq_false_iff_ne.mpr c30
                          have c30b1 : ((t130.size : Int) != 8) = true := bne_iff_ne.mpr c30
                          have c31 : (t134 == 0) = true := by have h_ := c29b0; rw [c30b0] at h_; simpa using h_
                          have c32 : (t129.size + (t130.size - 1) + 1 ≤ 9223372036854775807) := by have h_ := c25; rw [ByteArray.size_append, ByteArray.size_extract] at h_; omega
                          have c32a := eq_true c32
                          have c32b : (9223372036854775807 < t129.size + (t130.size - 1) + 1) = False := eq_false (Nat.not_lt.2 c32)
                          have c31a : (t134 != 0) = false := by rw [bne, c31]; rfl
                          obtain rfl := Option.some.inj H
                          go_wp2_with (first | ((with_reducible refine gate_callee (f := 14) rfl ?_); refine goesL_ (some 38) rfl rfl Tryd.func14 (by kernel_rfl) rfl #[.string (t129 ++ (t130.extract 1 t130.size))] rfl (by (try simp only [List.map_toArray, List.map_cons, List.map_nil]); first | done | rfl | (simp only [List.length_drop, List.length_take]; rfl)) ?_; (with_reducible refine (Nb.Read.calls kj6 (t129 ++ (t130.extract 1 t130.size)) t131 t132 _ A17.out (by first | exact HL_.out | exact Go.Proofs.YtekcdokgpjmbgaaDoor.Laid.Laid.below HL_.out (by repeat (first | (with_reducible first | exact HB.out | exact Below.refl _ _ | exact (‹Aside0 (Below _ _ _)›).out | apply below_alloc | apply pw_below_drewN | apply below_drew1 | refine Below.setCell ?_ (Aside0.out (by assumption)) _) | exact HB.out | exact (‹Aside0 (Below _ _ _)›).out)))).mono ?_); rintro e w33 ⟨rfl, hb⟩; refine ⟨_, rfl, ?_⟩; have n0_ := Aside0.mk (below_step (by repeat (first | (with_reducible first | exact HB.out | apply below_alloc | apply pw_below_drewN | apply below_drew1) | exact HB.out)) hb); clear HB; have HB := n0_; clear n0_; (try clear hb); (try clear hb2); (try clear hk); (try clear hi)) | ((with_reducible refine gate_callee (f := 14) rfl ?_); refine goesL_ (some 62) rfl rfl Tryd.func14 (by kernel_rfl) rfl #[.string ((t129 ++ (t130.extract 1 t130.size)) ++ (⟨#[48]⟩ : ByteArray))] rfl (by (try simp only [List.map_toArray, List.map_cons, List.map_nil]); first | done | rfl | (simp only [List.length_drop, List.length_take]; rfl)) ?_; (with_reducible refine (Nb.Read.calls kj6 ((t129 ++ (t130.extract 1 t130.size)) ++ (⟨#[48]⟩ : ByteArray)) t133 t134 _ A26.out (by first | exact HL_.out | exact Go.Proofs.YtekcdokgpjmbgaaDoor.Laid.Laid.below HL_.out (by repeat (first | (with_reducible first | exact HB.out | exact Below.refl _ _ | exact (‹Aside0 (Below _ _ _)›).out | apply below_alloc | apply pw_below_drewN | apply below_drew1 | refine Below.setCell ?_ (Aside0.out (by assumption)) _) | exact HB.out | exact (‹Aside0 (Below _ _ _)›).out)))).mono ?_); rintro e w34 ⟨rfl, hb⟩; refine ⟨_, rfl, ?_⟩; have n0_ := Aside0.mk (below_step (by repeat (first | (with_reducible first | exact HB.out | apply below_alloc | apply pw_below_drewN | apply below_drew1) | exact HB.out)) hb); clear HB; have HB := n0_; clear n0_; (try clear hb); (try clear hb2); (try clear hk); (try clear hi)))
                          go_ret
                          exact ⟨by first | rfl | (simp [errW_none, errW_some] <;> rfl) | (simp [*, errW_none, errW_some] <;> rfl), by repeat (first | (with_reducible first | exact HB.out | apply below_alloc | apply pw_below_drewN | apply below_drew1) | exact HB.out)⟩
                      · rw [if_neg c29] at H
                        exact absurd (H.trans (congrArg some HR_.out)) (by decide)
                    · rw [if_neg c28] at H
                      exact absurd (H.trans (congrArg some HR_.out)) (by decide)
                  · rw [if_neg c27] at H
                    exact absurd (H.trans (congrArg some HR_.out)) (by decide)
                · rw [if_neg c25] at H
                  exact absurd H (by simp)
            · rw [if_neg c16] at H
              exact absurd H (by simp)
          · rw [if_neg c15] at H
            exact absurd H (by simp)
  · replace c4 := Bool.eq_false_iff.mpr c4
    subst c4
    have H1 : (some false) = some r := by rw [if_neg (show ¬ (false = true) by decide)] at H; exact H
    clear H
    have H := H1
    clear H1
    obtain rfl := Option.some.inj H
    go_enter Tryd.func7, Tryd.ntmps7
    go_wp2_with (first | ((with_reducible refine gate_callee (f := 9) rfl ?_); refine goesL_ (some 13) rfl rfl Tryd.func9 (by kernel_rfl) rfl #[] rfl (by (try simp only [List.map_toArray, List.map_cons, List.map_nil]); first | done | rfl | (simp only [List.length_drop, List.length_take]; rfl)) ?_; (with_reducible refine (capstanlaw10_awake.calls k  false _ A3.out (by first | exact HL_.out | exact Go.Proofs.YtekcdokgpjmbgaaDoor.Laid.Laid.below HL_.out (by repeat (first | (with_reducible first | exact HB.out | exact Below.refl _ _ | exact (‹Aside0 (Below _ _ _)›).out | apply below_alloc | apply pw_below_drewN | apply below_drew1 | refine Below.setCell ?_ (Aside0.out (by assumption)) _) | exact HB.out | exact (‹Aside0 (Below _ _ _)›).out)))).mono ?_); rintro e w41 ⟨rfl, hb⟩; refine ⟨_, rfl, ?_⟩; have n0_ := Aside0.mk (below_step (by repeat (first | (with_reducible first | exact HB.out | apply below_alloc | apply pw_below_drewN | apply below_drew1) | exact HB.out)) hb); clear HB; have HB := n0_; clear n0_; (try clear hb); (try clear hb2); (try clear hk); (try clear hi)))
    go_ret
    exact ⟨by first | rfl | (simp [errW_none, errW_some] <;> rfl) | (simp [*, errW_none, errW_some] <;> rfl), by repeat (first | (with_reducible first | exact HB.out | apply below_alloc | apply pw_below_drewN | apply below_drew1) | exact HB.out)⟩

end Go.Proofs.YtekcdokgpjmbgaaDoor.OB
