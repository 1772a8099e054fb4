/- Walks of functions, written by a program (wip/tools/own.py) over hand contracts; conditions: as each theorem states. -/
import Derived.Test.YtekcdokgpjmbgaaDoorOAx0
namespace Go.Proofs.YtekcdokgpjmbgaaDoor.OA
open Go.RowKit Go.Proofs.YtekcdokgpjmbgaaDoorW.PrintWords Go.Proofs.YtekcdokgpjmbgaaDoorW.PrintLast Go.Proofs.YtekcdokgpjmbgaaDoorW.PrintMore
attribute [local go_sem] max2_int min2_int max_two min_two max_three min_three max_four min_four   -- for this text's walks alone
set_option linter.unusedVariables false
set_option linter.unusedSimpArgs false

/-! ### num_Text: function 16 -/
def num_Text.j0 : Nat → ByteArray → Int → Option (ByteArray)
  | 0, _, _ => none
  | k + 1, x3, x4 => (Na.fu.f (IntKind.u64.wrap (Int.tdiv x4 1000000)) 10).bind fun t112 => (if x3.size + t112.size ≤ 9223372036854775807 then (if (Int.tmod x4 1000000) > 0 then ((Na.fu.f (IntKind.u64.wrap (1000000 + (Int.tmod x4 1000000))) 10).bind fun t113 => (if 1 ≤ (t113.size : Int) then ((Na.tr.f (t113.extract 1 t113.size) (⟨#[48]⟩ : ByteArray)).bind fun t114 => (if 1 + t114.size ≤ 9223372036854775807 then (if (x3 ++ t112).size + ((⟨#[46]⟩ : ByteArray) ++ t114).size ≤ 9223372036854775807 then (some ((x3 ++ t112) ++ ((⟨#[46]⟩ : ByteArray) ++ t114))) else (none)) else (none))) else (none))) else (some (x3 ++ t112))) else (none))
def num_Text.f (k : Nat) (a0 : Int) : Option (ByteArray) := if a0 < 0 then (num_Text.j0 k (⟨#[45]⟩ : ByteArray) (IntKind.u64.wrap (-(IntKind.u64.wrap (a0))))) else (num_Text.j0 k (⟨#[]⟩ : ByteArray) (IntKind.u64.wrap (a0)))
theorem num_Text.mono_l : ∀ k, (∀ y0 y1, LeO (num_Text.j0 k y0 y1) (num_Text.j0 (k + 1) y0 y1))
  | 0 => fun _ _ r h => by simp [num_Text.j0] at h
  | k + 1 => by
    have ih0 := num_Text.mono_l k
    · intro y0 y1
      unfold num_Text.j0
      repeat' first
      | (with_reducible exact ih0 _ _)
      | (with_reducible exact LeO.refl _)
      | (with_reducible exact LeO.none _)
      | (with_reducible refine LeO.ite ?_ ?_)
      | (with_reducible refine LeO.bind ?_ (fun _ => ?_))
      | exact ih0 _ _
      | exact LeO.none _
      | refine LeO.ite ?_ ?_
      | refine LeO.bind ?_ (fun _ => ?_)
theorem num_Text.mono : ∀ a0 k, LeO (num_Text.f k a0) (num_Text.f (k + 1) a0) := by
  intro a0 k
  have ih0 := num_Text.mono_l k
  unfold num_Text.f
  repeat' first
      | (with_reducible exact ih0 _ _)
      | (with_reducible exact LeO.refl _)
      | (with_reducible exact LeO.none _)
      | (with_reducible refine LeO.ite ?_ ?_)
      | (with_reducible refine LeO.bind ?_ (fun _ => ?_))
      | exact ih0 _ _
      | exact LeO.none _
      | refine LeO.ite ?_ ?_
      | refine LeO.bind ?_ (fun _ => ?_)
set_option maxHeartbeats 8000000 in
set_option maxRecDepth 100000 in
theorem num_Text.calls (k : Nat) (a0 : Int) (r : ByteArray) (w : World) (h : num_Text.f k a0 = some r) (hL_ : Go.Proofs.YtekcdokgpjmbgaaDoor.Laid.Laid w) :
    Calls Tryd.prog 16 #[.int .i64 a0] w fun e w' => e = .returned (.string r) ∧ Below w.heap.size w w' := by
  have HL_ := Aside0.mk hL_
  clear hL_
  have HB := Aside0.mk (Below.refl w.heap.size w)
  have H : (if a0 < 0 then (num_Text.j0 k (⟨#[45]⟩ : ByteArray) (IntKind.u64.wrap (-(IntKind.u64.wrap (a0))))) else (num_Text.j0 k (⟨#[]⟩ : ByteArray) (IntKind.u64.wrap (a0)))) = some r := h
  clear h
  have HC2 := Aside0.mk H
  clear H
  go_enter Tryd.func16, Tryd.ntmps16
  go_upto_if 10 with (fail)
  go_cut [3, 4] (fun v3 v4 wc => ∃ (kq : Nat) (x3_1 : ByteArray) (x4_1 : Int), v3 = .string x3_1 ∧ v4 = .int .u64 x4_1 ∧ Aside0 (num_Text.j0 kq x3_1 x4_1 = some r) ∧ Aside0 (kq ≤ k) ∧ Aside0 (Below w.heap.size w wc))
  case first =>
    have H := HC2.out
    clear HC2
    by_cases c3 : a0 < 0
    · rw [if_pos c3] at H
      have c3b0 : decide (a0 < 0) = true := decide_eq_true c3
      clear c3
      (first | rw [c3b0] | (simp only [i64_w, i32_w]; rw [c3b0]) | skip)
      have H' := Aside0.mk H
      clear H
      go_wp2
      go_meet
      case rel => exact ⟨_, ((⟨#[45]⟩ : ByteArray)), (IntKind.u64.wrap (-(IntKind.u64.wrap (a0)))), (by first | rfl | (simp; done) | (simp [*]; done)), (by first | rfl | (simp; done) | (simp [*]; done)), H', ⟨by first | omega | exact Nat.le_refl _⟩, ⟨by repeat (first | (with_reducible first | exact HB.out | apply below_alloc | apply pw_below_drewN | apply below_drew1) | exact HB.out)⟩⟩
    · rw [if_neg c3] at H
      have c3b0 : decide (a0 < 0) = false := decide_eq_false c3
      clear c3
      (first | rw [c3b0] | (simp only [i64_w, i32_w]; rw [c3b0]) | skip)
      have H' := Aside0.mk H
      clear H
      go_wp2
      go_meet
      case rel => exact ⟨_, ((⟨#[]⟩ : ByteArray)), (IntKind.u64.wrap (a0)), (by first | rfl | (simp; done) | (simp [*]; done)), (by first | rfl | (simp; done) | (simp [*]; done)), H', ⟨by first | omega | exact Nat.le_refl _⟩, ⟨by repeat (first | (with_reducible first | exact HB.out | apply below_alloc | apply pw_below_drewN | apply below_drew1) | exact HB.out)⟩⟩
  case rest =>
    clear HC2
    try clear c1
    try clear p2
    try clear c3
    try clear c3b0
    obtain ⟨kq, x3_1, x4_1, rfl, rfl, HA, HJ1, HB⟩ := hcut
    cases kq with
    | zero => exact absurd HA.out (by simp [num_Text.j0])
    | succ kj1 =>
      have H := HA.out
      clear HA
      simp only [num_Text.j0] at H
      replace H := Option.bind_eq_some_iff.mp H
      obtain ⟨t112, A40, H⟩ := H
      replace H : (if x3_1.size + t112.size ≤ 9223372036854775807 then (if (Int.tmod x4_1 1000000) > 0 then ((Na.fu.f (IntKind.u64.wrap (1000000 + (Int.tmod x4_1 1000000))) 10).bind fun t113 => (if 1 ≤ (t113.size : Int) then ((Na.tr.f (t113.extract 1 t113.size) (⟨#[48]⟩ : ByteArray)).bind fun t114 => (if 1 + t114.size ≤ 9223372036854775807 then (if (x3_1 ++ t112).size + ((⟨#[46]⟩ : ByteArray) ++ t114).size ≤ 9223372036854775807 then (some ((x3_1 ++ t112) ++ ((⟨#[46]⟩ : ByteArray) ++ t114))) else (none)) else (none))) else (none))) else (some (x3_1 ++ t112))) else (none)) = some r := H
      have A4 := Aside0.mk A40
      clear A40
      by_cases c5 : x3_1.size + t112.size ≤ 9223372036854775807
      · rw [if_pos c5] at H
        have c5b0 := eq_true c5
        have c5b1 : decide (x3_1.size + t112.size ≤ 9223372036854775807) = true := decide_eq_true c5
        try have c5b2 : (9223372036854775807 < x3_1.size + t112.size) = False := eq_false (Nat.not_lt.2 c5)
        by_cases c6 : (Int.tmod x4_1 1000000) > 0
        · rw [if_pos c6] at H
          have c6b0 : decide (0 < (Int.tmod x4_1 1000000)) = true := decide_eq_true c6
          clear c6
          replace H := Option.bind_eq_some_iff.mp H
          obtain ⟨t113, A70, H⟩ := H
          replace H : (if 1 ≤ (t113.size : Int) then ((Na.tr.f (t113.extract 1 t113.size) (⟨#[48]⟩ : ByteArray)).bind fun t114 => (if 1 + t114.size ≤ 9223372036854775807 then (if (x3_1 ++ t112).size + ((⟨#[46]⟩ : ByteArray) ++ t114).size ≤ 9223372036854775807 then (some ((x3_1 ++ t112) ++ ((⟨#[46]⟩ : ByteArray) ++ t114))) else (none)) else (none))) else (none)) = some r := H
          have A7 := Aside0.mk A70
          clear A70
          by_cases c8 : 1 ≤ (t113.size : Int)
          · rw [if_pos c8] at H
            have c8b0 := eq_true c8
            have c8b1 : decide (1 ≤ (t113.size : Int)) = true := decide_eq_true c8
            clear c8
            replace H := Option.bind_eq_some_iff.mp H
            obtain ⟨t114, A90, H⟩ := H
            replace H : (if 1 + t114.size ≤ 9223372036854775807 then (if (x3_1 ++ t112).size + ((⟨#[46]⟩ : ByteArray) ++ t114).size ≤ 9223372036854775807 then (some ((x3_1 ++ t112) ++ ((⟨#[46]⟩ : ByteArray) ++ t114))) else (none)) else (none)) = some r := H
            have A9 := Aside0.mk A90
            clear A90
            by_cases c10 : 1 + t114.size ≤ 9223372036854775807
            · rw [if_pos c10] at H
              have c10b0 := eq_true c10
              have c10b1 : decide (1 + t114.size ≤ 9223372036854775807) = true := decide_eq_true c10
              try have c10b2 : (9223372036854775807 < 1 + t114.size) = False := eq_false (Nat.not_lt.2 c10)
              by_cases c11 : (x3_1 ++ t112).size + ((⟨#[46]⟩ : ByteArray) ++ t114).size ≤ 9223372036854775807
              · rw [if_pos c11] at H
                have c11b0 := eq_true c11
                have c11b1 : decide ((x3_1 ++ t112).size + ((⟨#[46]⟩ : ByteArray) ++ t114).size ≤ 9223372036854775807) = true := decide_eq_true c11
                try have c11b2 : (9223372036854775807 < (x3_1 ++ t112).size + ((⟨#[46]⟩ : ByteArray) ++ t114).size) = False := eq_false (Nat.not_lt.2 c11)
                obtain rfl := Option.some.inj H
                go_wp2_with (first | ((with_reducible refine gate_callee (f := 28) rfl ?_); refine goesL_ (some 16) rfl rfl Tryd.func28 (by kernel_rfl) rfl #[.int .u64 (IntKind.u64.wrap (Int.tdiv x4_1 1000000)), .int .i64 10] rfl (by (try simp only [List.map_toArray, List.map_cons, List.map_nil]); first | done | rfl | (simp only [List.length_drop, List.length_take]; rfl)) ?_; (with_reducible refine (Na.fu.calls (IntKind.u64.wrap (Int.tdiv x4_1 1000000)) 10 t112 _ A4.out (by first | exact HL_.out | exact Go.Proofs.YtekcdokgpjmbgaaDoor.Laid.Laid.below HL_.out (by repeat (first | (with_reducible first | exact HB.out | exact Below.refl _ _ | exact (‹Aside0 (Below _ _ _)›).out | apply below_alloc | apply pw_below_drewN | apply below_drew1 | refine Below.setCell ?_ (Aside0.out (by assumption)) _) | exact HB.out | exact (‹Aside0 (Below _ _ _)›).out)))).mono ?_); rintro e w12 ⟨rfl, hb⟩; refine ⟨_, rfl, ?_⟩; have n0_ := Aside0.mk (below_step (by repeat (first | (with_reducible first | exact HB.out | apply below_alloc | apply pw_below_drewN | apply below_drew1) | exact HB.out)) hb); clear HB; have HB := n0_; clear n0_; (try clear hb); (try clear hb2); (try clear hk); (try clear hi)) | ((with_reducible refine gate_callee (f := 28) rfl ?_); refine goesL_ (some 25) rfl rfl Tryd.func28 (by kernel_rfl) rfl #[.int .u64 (IntKind.u64.wrap (1000000 + (Int.tmod x4_1 1000000))), .int .i64 10] rfl (by (try simp only [List.map_toArray, List.map_cons, List.map_nil]); first | done | rfl | (simp only [List.length_drop, List.length_take]; rfl)) ?_; (with_reducible refine (Na.fu.calls (IntKind.u64.wrap (1000000 + (Int.tmod x4_1 1000000))) 10 t113 _ A7.out (by first | exact HL_.out | exact Go.Proofs.YtekcdokgpjmbgaaDoor.Laid.Laid.below HL_.out (by repeat (first | (with_reducible first | exact HB.out | exact Below.refl _ _ | exact (‹Aside0 (Below _ _ _)›).out | apply below_alloc | apply pw_below_drewN | apply below_drew1 | refine Below.setCell ?_ (Aside0.out (by assumption)) _) | exact HB.out | exact (‹Aside0 (Below _ _ _)›).out)))).mono ?_); rintro e w13 ⟨rfl, hb⟩; refine ⟨_, rfl, ?_⟩; have n0_ := Aside0.mk (below_step (by repeat (first | (with_reducible first | exact HB.out | apply below_alloc | apply pw_below_drewN | apply below_drew1) | exact HB.out)) hb); clear HB; have HB := n0_; clear n0_; (try clear hb); (try clear hb2); (try clear hk); (try clear hi)) | ((with_reducible refine gate_callee (f := 29) rfl ?_); refine goesL_ (some 27) rfl rfl Tryd.func29 (by kernel_rfl) rfl #[.string (t113.extract 1 t113.size), .string (⟨#[48]⟩ : ByteArray)] rfl (by (try simp only [List.map_toArray, List.map_cons, List.map_nil]); first | done | rfl | (simp only [List.length_drop, List.length_take]; rfl)) ?_; (with_reducible refine (Na.tr.calls (t113.extract 1 t113.size) (⟨#[48]⟩ : ByteArray) t114 _ A9.out).mono ?_); rintro e w' ⟨rfl, ⟨nd, rfl⟩⟩; refine ⟨_, rfl, ?_⟩))
                go_ret
                exact ⟨by first | rfl | (simp [errW_none, errW_some] <;> rfl) | (simp [*, errW_none, errW_some] <;> rfl), by repeat (first | (with_reducible first | exact HB.out | apply below_alloc | apply pw_below_drewN | apply below_drew1) | exact HB.out)⟩
              · rw [if_neg c11] at H
                exact absurd H (by simp)
            · rw [if_neg c10] at H
              exact absurd H (by simp)
          · rw [if_neg c8] at H
            exact absurd H (by simp)
        · rw [if_neg c6] at H
          have c6b0 : decide (0 < (Int.tmod x4_1 1000000)) = false := decide_eq_false c6
          clear c6
          obtain rfl := Option.some.inj H
          go_wp2_with (first | ((with_reducible refine gate_callee (f := 28) rfl ?_); refine goesL_ (some 16) rfl rfl Tryd.func28 (by kernel_rfl) rfl #[.int .u64 (IntKind.u64.wrap (Int.tdiv x4_1 1000000)), .int .i64 10] rfl (by (try simp only [List.map_toArray, List.map_cons, List.map_nil]); first | done | rfl | (simp only [List.length_drop, List.length_take]; rfl)) ?_; (with_reducible refine (Na.fu.calls (IntKind.u64.wrap (Int.tdiv x4_1 1000000)) 10 t112 _ A4.out (by first | exact HL_.out | exact Go.Proofs.YtekcdokgpjmbgaaDoor.Laid.Laid.below HL_.out (by repeat (first | (with_reducible first | exact HB.out | exact Below.refl _ _ | exact (‹Aside0 (Below _ _ _)›).out | apply below_alloc | apply pw_below_drewN | apply below_drew1 | refine Below.setCell ?_ (Aside0.out (by assumption)) _) | exact HB.out | exact (‹Aside0 (Below _ _ _)›).out)))).mono ?_); rintro e w14 ⟨rfl, hb⟩; refine ⟨_, rfl, ?_⟩; have n0_ := Aside0.mk (below_step (by repeat (first | (with_reducible first | exact HB.out | apply below_alloc | apply pw_below_drewN | apply below_drew1) | exact HB.out)) hb); clear HB; have HB := n0_; clear n0_; (try clear hb); (try clear hb2); (try clear hk); (try clear hi)))
          go_ret
          exact ⟨by first | rfl | (simp [errW_none, errW_some] <;> rfl) | (simp [*, errW_none, errW_some] <;> rfl), by repeat (first | (with_reducible first | exact HB.out | apply below_alloc | apply pw_below_drewN | apply below_drew1) | exact HB.out)⟩
      · rw [if_neg c5] at H
        exact absurd H (by simp)

end Go.Proofs.YtekcdokgpjmbgaaDoor.OA
