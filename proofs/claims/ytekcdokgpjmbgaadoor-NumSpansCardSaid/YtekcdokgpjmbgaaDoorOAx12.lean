/- Walks of functions, written by a program (wip/tools/own.py) over hand contracts; conditions: as each theorem states. -/
import Derived.Test.YtekcdokgpjmbgaaDoorOAx0
namespace Go.Proofs.YtekcdokgpjmbgaaDoor.OA
open Go.RowKit Go.Proofs.YtekcdokgpjmbgaaDoorW.PrintWords Go.Proofs.YtekcdokgpjmbgaaDoorW.PrintLast Go.Proofs.YtekcdokgpjmbgaaDoorW.PrintMore
attribute [local go_sem] max2_int min2_int max_two min_two max_three min_three max_four min_four   -- for this text's walks alone
set_option linter.unusedVariables false
set_option linter.unusedSimpArgs false

/-! ### capstanref10_SpanText: function 13 -/
mutual
def capstanref10_SpanText.j0 : Nat → Int → Bool → Option (ByteArray × Int)
  | 0, _, _ => none
  | k + 1, x0, x10 => if x10 = true then (some ((⟨#[]⟩ : ByteArray), 3)) else (if x0 ≥ 86400 then ((Na.fi.f (wrap64 (Int.tdiv x0 86400)) 10).bind fun t124 => (if t124.size + 1 ≤ 9223372036854775807 then (if 0 + (t124 ++ (⟨#[100]⟩ : ByteArray)).size ≤ 9223372036854775807 then (capstanref10_SpanText.j1 k x0 ((⟨#[]⟩ : ByteArray) ++ (t124 ++ (⟨#[100]⟩ : ByteArray)))) else (none)) else (none))) else (capstanref10_SpanText.j1 k x0 (⟨#[]⟩ : ByteArray)))
def capstanref10_SpanText.j1 : Nat → Int → ByteArray → Option (ByteArray × Int)
  | 0, _, _ => none
  | k + 1, x0, x4 => if (Int.tmod x0 86400) ≥ 3600 then ((Na.fi.f (wrap64 (Int.tdiv (Int.tmod x0 86400) 3600)) 10).bind fun t125 => (if t125.size + 1 ≤ 9223372036854775807 then (if x4.size + (t125 ++ (⟨#[104]⟩ : ByteArray)).size ≤ 9223372036854775807 then (capstanref10_SpanText.j2 k x0 (x4 ++ (t125 ++ (⟨#[104]⟩ : ByteArray)))) else (none)) else (none))) else (capstanref10_SpanText.j2 k x0 x4)
def capstanref10_SpanText.j2 : Nat → Int → ByteArray → Option (ByteArray × Int)
  | 0, _, _ => none
  | k + 1, x0, x4 => if (Int.tmod x0 3600) ≥ 60 then ((Na.fi.f (wrap64 (Int.tdiv (Int.tmod x0 3600) 60)) 10).bind fun t126 => (if t126.size + 1 ≤ 9223372036854775807 then (if x4.size + (t126 ++ (⟨#[109]⟩ : ByteArray)).size ≤ 9223372036854775807 then (if (Int.tmod x0 60) > 0 then ((Na.fi.f (Int.tmod x0 60) 10).bind fun t127 => (if t127.size + 1 ≤ 9223372036854775807 then (if (x4 ++ (t126 ++ (⟨#[109]⟩ : ByteArray))).size + (t127 ++ (⟨#[115]⟩ : ByteArray)).size ≤ 9223372036854775807 then (some ((x4 ++ (t126 ++ (⟨#[109]⟩ : ByteArray))) ++ (t127 ++ (⟨#[115]⟩ : ByteArray)), 0)) else (none)) else (none))) else (some (x4 ++ (t126 ++ (⟨#[109]⟩ : ByteArray)), 0))) else (none)) else (none))) else (if (Int.tmod x0 60) > 0 then ((Na.fi.f (Int.tmod x0 60) 10).bind fun t128 => (if t128.size + 1 ≤ 9223372036854775807 then (if x4.size + (t128 ++ (⟨#[115]⟩ : ByteArray)).size ≤ 9223372036854775807 then (some (x4 ++ (t128 ++ (⟨#[115]⟩ : ByteArray)), 0)) else (none)) else (none))) else (some (x4, 0)))
end
def capstanref10_SpanText.f (k : Nat) (a0 : Int) : Option (ByteArray × Int) := if a0 < 1 then (capstanref10_SpanText.j0 k a0 true) else (capstanref10_SpanText.j0 k a0 (decide (a0 > 604800)))
theorem capstanref10_SpanText.mono_l : ∀ k, (∀ y0 y1, LeO (capstanref10_SpanText.j0 k y0 y1) (capstanref10_SpanText.j0 (k + 1) y0 y1)) ∧ (∀ y0 y1, LeO (capstanref10_SpanText.j1 k y0 y1) (capstanref10_SpanText.j1 (k + 1) y0 y1)) ∧ (∀ y0 y1, LeO (capstanref10_SpanText.j2 k y0 y1) (capstanref10_SpanText.j2 (k + 1) y0 y1))
  | 0 => ⟨fun _ _ r h => by simp [capstanref10_SpanText.j0] at h, fun _ _ r h => by simp [capstanref10_SpanText.j1] at h, fun _ _ r h => by simp [capstanref10_SpanText.j2] at h⟩
  | k + 1 => by
    obtain ⟨ih0, ih1, ih2⟩ := capstanref10_SpanText.mono_l k
    refine ⟨?_, ?_, ?_⟩
    · intro y0 y1
      unfold capstanref10_SpanText.j0
      repeat' first
      | (with_reducible exact ih0 _ _)
      | (with_reducible exact ih1 _ _)
      | (with_reducible exact ih2 _ _)
      | (with_reducible exact LeO.refl _)
      | (with_reducible exact LeO.none _)
      | (with_reducible refine LeO.ite ?_ ?_)
      | (with_reducible refine LeO.bind ?_ (fun _ => ?_))
      | exact ih0 _ _
      | exact ih1 _ _
      | exact ih2 _ _
      | exact LeO.none _
      | refine LeO.ite ?_ ?_
      | refine LeO.bind ?_ (fun _ => ?_)
    · intro y0 y1
      unfold capstanref10_SpanText.j1
      repeat' first
      | (with_reducible exact ih0 _ _)
      | (with_reducible exact ih1 _ _)
      | (with_reducible exact ih2 _ _)
      | (with_reducible exact LeO.refl _)
      | (with_reducible exact LeO.none _)
      | (with_reducible refine LeO.ite ?_ ?_)
      | (with_reducible refine LeO.bind ?_ (fun _ => ?_))
      | exact ih0 _ _
      | exact ih1 _ _
      | exact ih2 _ _
      | exact LeO.none _
      | refine LeO.ite ?_ ?_
      | refine LeO.bind ?_ (fun _ => ?_)
    · intro y0 y1
      unfold capstanref10_SpanText.j2
      repeat' first
      | (with_reducible exact ih0 _ _)
      | (with_reducible exact ih1 _ _)
      | (with_reducible exact ih2 _ _)
      | (with_reducible exact LeO.refl _)
      | (with_reducible exact LeO.none _)
      | (with_reducible refine LeO.ite ?_ ?_)
      | (with_reducible refine LeO.bind ?_ (fun _ => ?_))
      | exact ih0 _ _
      | exact ih1 _ _
      | exact ih2 _ _
      | exact LeO.none _
      | refine LeO.ite ?_ ?_
      | refine LeO.bind ?_ (fun _ => ?_)
theorem capstanref10_SpanText.mono : ∀ a0 k, LeO (capstanref10_SpanText.f k a0) (capstanref10_SpanText.f (k + 1) a0) := by
  intro a0 k
  obtain ⟨ih0, ih1, ih2⟩ := capstanref10_SpanText.mono_l k
  unfold capstanref10_SpanText.f
  repeat' first
      | (with_reducible exact ih0 _ _)
      | (with_reducible exact ih1 _ _)
      | (with_reducible exact ih2 _ _)
      | (with_reducible exact LeO.refl _)
      | (with_reducible exact LeO.none _)
      | (with_reducible refine LeO.ite ?_ ?_)
      | (with_reducible refine LeO.bind ?_ (fun _ => ?_))
      | exact ih0 _ _
      | exact ih1 _ _
      | exact ih2 _ _
      | exact LeO.none _
      | refine LeO.ite ?_ ?_
      | refine LeO.bind ?_ (fun _ => ?_)
set_option maxHeartbeats 8000000 in
set_option maxRecDepth 100000 in
theorem capstanref10_SpanText.calls (k : Nat) (a0 : Int) (r1 : ByteArray) (r2 : Int) (w : World) (h : capstanref10_SpanText.f k a0 = some (r1, r2)) (hL_ : Go.Proofs.YtekcdokgpjmbgaaDoor.Laid.Laid w) :
    Calls Tryd.prog 13 #[.int .i64 a0] w fun e w' => e = .returned (.tuple #[.string r1, .int .i64 r2]) ∧ Below w.heap.size w w' := by
  have HL_ := Aside0.mk hL_
  clear hL_
  have HB := Aside0.mk (Below.refl w.heap.size w)
  have H : (if a0 < 1 then (capstanref10_SpanText.j0 k a0 true) else (capstanref10_SpanText.j0 k a0 (decide (a0 > 604800)))) = some (r1, r2) := h
  clear h
  have HC2 := Aside0.mk H
  clear H
  go_enter Tryd.func13, Tryd.ntmps13
  go_upto_region 1 with (fail)
  go_cut [10] (fun v10 wc => ∃ (kq : Nat) (x10_1 : Bool), v10 = .bool x10_1 ∧ Aside0 (capstanref10_SpanText.j0 kq a0 x10_1 = some (r1, r2)) ∧ Aside0 (kq ≤ k) ∧ Aside0 (Below w.heap.size w wc))
  case first =>
    have H := HC2.out
    clear HC2
    by_cases c3 : a0 < 1
    · rw [if_pos c3] at H
      have c3b0 : decide (a0 < 1) = true := decide_eq_true c3
      clear c3
      (first | rw [c3b0] | (simp only [i64_w, i32_w]; rw [c3b0]) | skip)
      have H' := Aside0.mk H
      clear H
      go_wp2
      go_meet
      case rel => exact ⟨_, (true), (by first | rfl | (simp; done) | (simp [*]; done)), H', ⟨by first | omega | exact Nat.le_refl _⟩, ⟨by repeat (first | (with_reducible first | exact HB.out | apply below_alloc | apply pw_below_drewN | apply below_drew1) | exact HB.out)⟩⟩
    · rw [if_neg c3] at H
      have c3b0 : decide (a0 < 1) = false := decide_eq_false c3
      clear c3
      (first | rw [c3b0] | (simp only [i64_w, i32_w]; rw [c3b0]) | skip)
      have H' := Aside0.mk H
      clear H
      go_wp2
      go_meet
      case rel => exact ⟨_, (decide (a0 > 604800)), (by first | rfl | (simp; done) | (simp [*]; done)), H', ⟨by first | omega | exact Nat.le_refl _⟩, ⟨by repeat (first | (with_reducible first | exact HB.out | apply below_alloc | apply pw_below_drewN | apply below_drew1) | exact HB.out)⟩⟩
  case rest =>
    clear HC2
    try clear c1
    try clear p2
    try clear c3
    try clear c3b0
    obtain ⟨kq, x10_1, rfl, HA, HJ1, HB⟩ := hcut
    cases kq with
    | zero => exact absurd HA.out (by simp [capstanref10_SpanText.j0])
    | succ kj1 =>
      have H := HA.out
      clear HA
      simp only [capstanref10_SpanText.j0] at H
      by_cases c4 : x10_1 = true
      · subst c4
        have H1 : (some ((⟨#[]⟩ : ByteArray), 3)) = some (r1, r2) := by rw [if_pos rfl] at H; exact H
        clear H
        have H := H1
        clear H1
        simp only [Option.some.injEq, Prod.mk.injEq] at H
        obtain ⟨rfl, rfl⟩ := H
        go_wp2
        go_ret2
        exact ⟨by first | rfl | (simp [errW_none, errW_some] <;> rfl) | (simp [*, errW_none, errW_some] <;> rfl), by repeat (first | (with_reducible first | exact HB.out | apply below_alloc | apply pw_below_drewN | apply below_drew1) | exact HB.out)⟩
      · replace c4 := Bool.eq_false_iff.mpr c4
        subst c4
        have H1 : (if a0 ≥ 86400 then ((Na.fi.f (wrap64 (Int.tdiv a0 86400)) 10).bind fun t124 => (if t124.size + 1 ≤ 9223372036854775807 then (if 0 + (t124 ++ (⟨#[100]⟩ : ByteArray)).size ≤ 9223372036854775807 then (capstanref10_SpanText.j1 kj1 a0 ((⟨#[]⟩ : ByteArray) ++ (t124 ++ (⟨#[100]⟩ : ByteArray)))) else (none)) else (none))) else (capstanref10_SpanText.j1 kj1 a0 (⟨#[]⟩ : ByteArray))) = some (r1, r2) := by rw [if_neg (show ¬ (false = true) by decide)] at H; exact H
        clear H
        have H := H1
        clear H1
        have HC5 := Aside0.mk H
        clear H
        go_upto_if 12 with (fail)
        go_cut [4] (fun v4 wc => ∃ (kq : Nat) (x4_4 : ByteArray), v4 = .string x4_4 ∧ Aside0 (capstanref10_SpanText.j1 kq a0 x4_4 = some (r1, r2)) ∧ Aside0 (kq ≤ kj1) ∧ Aside0 (Below w.heap.size w wc))
        case first =>
          have H := HC5.out
          clear HC5
          by_cases c6 : a0 ≥ 86400
          · rw [if_pos c6] at H
            have c6b0 : decide (86400 ≤ a0) = true := decide_eq_true c6
            clear c6
            (first | rw [c6b0] | (simp only [i64_w, i32_w]; rw [c6b0]) | skip)
            replace H := Option.bind_eq_some_iff.mp H
            obtain ⟨t124, A70, H⟩ := H
            replace H : (if t124.size + 1 ≤ 9223372036854775807 then (if 0 + (t124 ++ (⟨#[100]⟩ : ByteArray)).size ≤ 9223372036854775807 then (capstanref10_SpanText.j1 kj1 a0 ((⟨#[]⟩ : ByteArray) ++ (t124 ++ (⟨#[100]⟩ : ByteArray)))) else (none)) else (none)) = some (r1, r2) := H
            have A7 := Aside0.mk A70
            clear A70
            by_cases c8 : t124.size + 1 ≤ 9223372036854775807
            · rw [if_pos c8] at H
              have c8b0 := eq_true c8
              have c8b1 : decide (t124.size + 1 ≤ 9223372036854775807) = true := decide_eq_true c8
              try have c8b2 : (9223372036854775807 < t124.size + 1) = False := eq_false (Nat.not_lt.2 c8)
              by_cases c9 : 0 + (t124 ++ (⟨#[100]⟩ : ByteArray)).size ≤ 9223372036854775807
              · rw [if_pos c9] at H
                have c9b0 := eq_true c9
                have c9b1 : decide (0 + (t124 ++ (⟨#[100]⟩ : ByteArray)).size ≤ 9223372036854775807) = true := decide_eq_true c9
                try have c9b2 : (9223372036854775807 < 0 + (t124 ++ (⟨#[100]⟩ : ByteArray)).size) = False := eq_false (Nat.not_lt.2 c9)
                have H' := Aside0.mk H
                clear H
                go_wp2_with (first | ((with_reducible refine gate_callee (f := 23) rfl ?_); refine goesL_ (some 16) rfl rfl Tryd.func23 (by kernel_rfl) rfl #[.int .i64 (wrap64 (Int.tdiv a0 86400)), .int .i64 10] rfl (by (try simp only [List.map_toArray, List.map_cons, List.map_nil]); first | done | rfl | (simp only [List.length_drop, List.length_take]; rfl)) ?_; (with_reducible refine (Na.fi.calls (wrap64 (Int.tdiv a0 86400)) 10 t124 _ A7.out (by first | exact HL_.out | exact Go.Proofs.YtekcdokgpjmbgaaDoor.Laid.Laid.below HL_.out (by repeat (first | (with_reducible first | exact HB.out | exact Below.refl _ _ | exact (‹Aside0 (Below _ _ _)›).out | apply below_alloc | apply pw_below_drewN | apply below_drew1 | refine Below.setCell ?_ (Aside0.out (by assumption)) _) | exact HB.out | exact (‹Aside0 (Below _ _ _)›).out)))).mono ?_); rintro e w10 ⟨rfl, hb⟩; refine ⟨_, rfl, ?_⟩; have n0_ := Aside0.mk (below_step (by repeat (first | (with_reducible first | exact HB.out | apply below_alloc | apply pw_below_drewN | apply below_drew1) | exact HB.out)) hb); clear HB; have HB := n0_; clear n0_; (try clear hb); (try clear hb2); (try clear hk); (try clear hi)))
                go_meet
                case rel => exact ⟨_, ((⟨#[]⟩ : ByteArray) ++ (t124 ++ (⟨#[100]⟩ : ByteArray))), (by first | rfl | (simp; done) | (simp [*]; done)), H', ⟨by have := HJ1.out; first | omega | exact Nat.le_refl _⟩, ⟨by repeat (first | (with_reducible first | exact HB.out | apply below_alloc | apply pw_below_drewN | apply below_drew1) | exact HB.out)⟩⟩
              · rw [if_neg c9] at H
                exact absurd H (by simp)
            · rw [if_neg c8] at H
              exact absurd H (by simp)
          · rw [if_neg c6] at H
            have c6b0 : decide (86400 ≤ a0) = false := decide_eq_false c6
            clear c6
            (first | rw [c6b0] | (simp only [i64_w, i32_w]; rw [c6b0]) | skip)
            have H' := Aside0.mk H
            clear H
            go_wp2
            go_meet
            case rel => exact ⟨_, ((⟨#[]⟩ : ByteArray)), (by first | rfl | (simp; done) | (simp [*]; done)), H', ⟨by have := HJ1.out; first | omega | exact Nat.le_refl _⟩, ⟨by repeat (first | (with_reducible first | exact HB.out | apply below_alloc | apply pw_below_drewN | apply below_drew1) | exact HB.out)⟩⟩
        case rest =>
          clear HC5
          try clear c1
          try clear c2
          try clear p2
          try clear c3
          try clear c3b0
          try clear c4
          try clear c6
          try clear c6b0
          try clear p6
          try clear c8
          try clear c8b0
          try clear c8b1
          try clear c8b2
          try clear c9
          try clear c9b0
          try clear c9b1
          try clear c9b2
          try clear p2
          obtain ⟨kq, x4_4, rfl, HA, HJ4, HB⟩ := hcut
          cases kq with
          | zero => exact absurd HA.out (by simp [capstanref10_SpanText.j1])
          | succ kj4 =>
            have H := HA.out
            clear HA
            simp only [capstanref10_SpanText.j1] at H
            have HC11 := Aside0.mk H
            clear H
            go_upto_if 21 with (fail)
            go_cut [4] (fun v4 wc => ∃ (kq : Nat) (x4_10 : ByteArray), v4 = .string x4_10 ∧ Aside0 (capstanref10_SpanText.j2 kq a0 x4_10 = some (r1, r2)) ∧ Aside0 (kq ≤ kj4) ∧ Aside0 (Below w.heap.size w wc))
            case first =>
              have H := HC11.out
              clear HC11
              by_cases c12 : (Int.tmod a0 86400) ≥ 3600
              · rw [if_pos c12] at H
                have c12b0 : decide (3600 ≤ (Int.tmod a0 86400)) = true := decide_eq_true c12
                clear c12
                (first | rw [c12b0] | (simp only [i64_w, i32_w]; rw [c12b0]) | skip)
                replace H := Option.bind_eq_some_iff.mp H
                obtain ⟨t125, A130, H⟩ := H
                replace H : (if t125.size + 1 ≤ 9223372036854775807 then (if x4_4.size + (t125 ++ (⟨#[104]⟩ : ByteArray)).size ≤ 9223372036854775807 then (capstanref10_SpanText.j2 kj4 a0 (x4_4 ++ (t125 ++ (⟨#[104]⟩ : ByteArray)))) else (none)) else (none)) = some (r1, r2) := H
                have A13 := Aside0.mk A130
                clear A130
                by_cases c14 : t125.size + 1 ≤ 9223372036854775807
                · rw [if_pos c14] at H
                  have c14b0 := eq_true c14
                  have c14b1 : decide (t125.size + 1 ≤ 9223372036854775807) = true := decide_eq_true c14
                  try have c14b2 : (9223372036854775807 < t125.size + 1) = False := eq_false (Nat.not_lt.2 c14)
                  by_cases c15 : x4_4.size + (t125 ++ (⟨#[104]⟩ : ByteArray)).size ≤ 9223372036854775807
                  · rw [if_pos c15] at H
                    have c15b0 := eq_true c15
                    have c15b1 : decide (x4_4.size + (t125 ++ (⟨#[104]⟩ : ByteArray)).size ≤ 9223372036854775807) = true := decide_eq_true c15
                    try have c15b2 : (9223372036854775807 < x4_4.size + (t125 ++ (⟨#[104]⟩ : ByteArray)).size) = False := eq_false (Nat.not_lt.2 c15)
                    have H' := Aside0.mk H
                    clear H
                    go_wp2_with (first | ((with_reducible refine gate_callee (f := 23) rfl ?_); refine goesL_ (some 26) rfl rfl Tryd.func23 (by kernel_rfl) rfl #[.int .i64 (wrap64 (Int.tdiv (Int.tmod a0 86400) 3600)), .int .i64 10] rfl (by (try simp only [List.map_toArray, List.map_cons, List.map_nil]); first | done | rfl | (simp only [List.length_drop, List.length_take]; rfl)) ?_; (with_reducible refine (Na.fi.calls (wrap64 (Int.tdiv (Int.tmod a0 86400) 3600)) 10 t125 _ A13.out (by first | exact HL_.out | exact Go.Proofs.YtekcdokgpjmbgaaDoor.Laid.Laid.below HL_.out (by repeat (first | (with_reducible first | exact HB.out | exact Below.refl _ _ | exact (‹Aside0 (Below _ _ _)›).out | apply below_alloc | apply pw_below_drewN | apply below_drew1 | refine Below.setCell ?_ (Aside0.out (by assumption)) _) | exact HB.out | exact (‹Aside0 (Below _ _ _)›).out)))).mono ?_); rintro e w16 ⟨rfl, hb⟩; refine ⟨_, rfl, ?_⟩; have n0_ := Aside0.mk (below_step (by repeat (first | (with_reducible first | exact HB.out | apply below_alloc | apply pw_below_drewN | apply below_drew1) | exact HB.out)) hb); clear HB; have HB := n0_; clear n0_; (try clear hb); (try clear hb2); (try clear hk); (try clear hi)))
                    go_meet
                    case rel => exact ⟨_, (x4_4 ++ (t125 ++ (⟨#[104]⟩ : ByteArray))), (by first | rfl | (simp; done) | (simp [*]; done)), H', ⟨by have := HJ1.out; have := HJ4.out; first | omega | exact Nat.le_refl _⟩, ⟨by repeat (first | (with_reducible first | exact HB.out | apply below_alloc | apply pw_below_drewN | apply below_drew1) | exact HB.out)⟩⟩
                  · rw [if_neg c15] at H
                    exact absurd H (by simp)
                · rw [if_neg c14] at H
                  exact absurd H (by simp)
              · rw [if_neg c12] at H
                have c12b0 : decide (3600 ≤ (Int.tmod a0 86400)) = false := decide_eq_false c12
                clear c12
                (first | rw [c12b0] | (simp only [i64_w, i32_w]; rw [c12b0]) | skip)
                have H' := Aside0.mk H
                clear H
                go_wp2
                go_meet
                case rel => exact ⟨_, (x4_4), (by first | rfl | (simp; done) | (simp [*]; done)), H', ⟨by have := HJ1.out; have := HJ4.out; first | omega | exact Nat.le_refl _⟩, ⟨by repeat (first | (with_reducible first | exact HB.out | apply below_alloc | apply pw_below_drewN | apply below_drew1) | exact HB.out)⟩⟩
            case rest =>
              clear HC11
              try clear c1
              try clear c2
              try clear p2
              try clear c3
              try clear c3b0
              try clear c4
              try clear c6
              try clear c6b0
              try clear p6
              try clear c8
              try clear c8b0
              try clear c8b1
              try clear c8b2
              try clear c9
              try clear c9b0
              try clear c9b1
              try clear c9b2
              try clear c12
              try clear c12b0
              try clear c13
              try clear c14
              try clear c14b0
              try clear c14b1
              try clear c14b2
              try clear c15
              try clear c15b0
              try clear c15b1
              try clear c15b2
              try clear p2
              try clear p6
              obtain ⟨kq, x4_10, rfl, HA, HJ10, HB⟩ := hcut
              cases kq with
              | zero => exact absurd HA.out (by simp [capstanref10_SpanText.j2])
              | succ kj10 =>
                have H := HA.out
                clear HA
                simp only [capstanref10_SpanText.j2] at H
                by_cases c17 : (Int.tmod a0 3600) ≥ 60
                · rw [if_pos c17] at H
                  have c17b0 : decide (60 ≤ (Int.tmod a0 3600)) = true := decide_eq_true c17
                  clear c17
                  replace H := Option.bind_eq_some_iff.mp H
                  obtain ⟨t126, A180, H⟩ := H
                  replace H : (if t126.size + 1 ≤ 9223372036854775807 then (if x4_10.size + (t126 ++ (⟨#[109]⟩ : ByteArray)).size ≤ 9223372036854775807 then (if (Int.tmod a0 60) > 0 then ((Na.fi.f (Int.tmod a0 60) 10).bind fun t127 => (if t127.size + 1 ≤ 9223372036854775807 then (if (x4_10 ++ (t126 ++ (⟨#[109]⟩ : ByteArray))).size + (t127 ++ (⟨#[115]⟩ : ByteArray)).size ≤ 9223372036854775807 then (some ((x4_10 ++ (t126 ++ (⟨#[109]⟩ : ByteArray))) ++ (t127 ++ (⟨#[115]⟩ : ByteArray)), 0)) else (none)) else (none))) else (some (x4_10 ++ (t126 ++ (⟨#[109]⟩ : ByteArray)), 0))) else (none)) else (none)) = some (r1, r2) := H
                  have A18 := Aside0.mk A180
                  clear A180
                  by_cases c19 : t126.size + 1 ≤ 9223372036854775807
                  · rw [if_pos c19] at H
                    have c19b0 := eq_true c19
                    have c19b1 : decide (t126.size + 1 ≤ 9223372036854775807) = true := decide_eq_true c19
                    try have c19b2 : (9223372036854775807 < t126.size + 1) = False := eq_false (Nat.not_lt.2 c19)
                    by_cases c20 : x4_10.size + (t126 ++ (⟨#[109]⟩ : ByteArray)).size ≤ 9223372036854775807
                    · rw [if_pos c20] at H
                      have c20b0 := eq_true c20
                      have c20b1 : decide (x4_10.size + (t126 ++ (⟨#[109]⟩ : ByteArray)).size ≤ 9223372036854775807) = true := decide_eq_true c20
                      try have c20b2 : (9223372036854775807 < x4_10.size + (t126 ++ (⟨#[109]⟩ : ByteArray)).size) = False := eq_false (Nat.not_lt.2 c20)
                      by_cases c21 : (Int.tmod a0 60) > 0
                      · rw [if_pos c21] at H
                        have c21b0 : decide (0 < (Int.tmod a0 60)) = true := decide_eq_true c21
                        clear c21
                        replace H := Option.bind_eq_some_iff.mp H
                        obtain ⟨t127, A220, H⟩ := H
                        replace H : (if t127.size + 1 ≤ 9223372036854775807 then (if (x4_10 ++ (t126 ++ (⟨#[109]⟩ : ByteArray))).size + (t127 ++ (⟨#[115]⟩ : ByteArray)).size ≤ 9223372036854775807 then (some ((x4_10 ++ (t126 ++ (⟨#[109]⟩ : ByteArray))) ++ (t127 ++ (⟨#[115]⟩ : ByteArray)), 0)) else (none)) else (none)) = some (r1, r2) := H
                        have A22 := Aside0.mk A220
                        clear A220
                        by_cases c23 : t127.size + 1 ≤ 9223372036854775807
                        · rw [if_pos c23] at H
                          have c23b0 := eq_true c23
                          have c23b1 : decide (t127.size + 1 ≤ 9223372036854775807) = true := decide_eq_true c23
                          try have c23b2 : (9223372036854775807 < t127.size + 1) = False := eq_false (Nat.not_lt.2 c23)
                          by_cases c24 : (x4_10 ++ (t126 ++ (⟨#[109]⟩ : ByteArray))).size + (t127 ++ (⟨#[115]⟩ : ByteArray)).size ≤ 9223372036854775807
                          · rw [if_pos c24] at H
                            have c24b0 := eq_true c24
                            have c24b1 : decide ((x4_10 ++ (t126 ++ (⟨#[109]⟩ : ByteArray))).size + (t127 ++ (⟨#[115]⟩ : ByteArray)).size ≤ 9223372036854775807) = true := decide_eq_true c24
                            try have c24b2 : (9223372036854775807 < (x4_10 ++ (t126 ++ (⟨#[109]⟩ : ByteArray))).size + (t127 ++ (⟨#[115]⟩ : ByteArray)).size) = False := eq_false (Nat.not_lt.2 c24)
                            simp only [Option.some.injEq, Prod.mk.injEq] at H
                            obtain ⟨rfl, rfl⟩ := H
                            go_wp2_with (first | ((with_reducible refine gate_callee (f := 23) rfl ?_); refine goesL_ (some 36) rfl rfl Tryd.func23 (by kernel_rfl) rfl #[.int .i64 (wrap64 (Int.tdiv (Int.tmod a0 3600) 60)), .int .i64 10] rfl (by (try simp only [List.map_toArray, List.map_cons, List.map_nil]); first | done | rfl | (simp only [List.length_drop, List.length_take]; rfl)) ?_; (with_reducible refine (Na.fi.calls (wrap64 (Int.tdiv (Int.tmod a0 3600) 60)) 10 t126 _ A18.out (by first | exact HL_.out | exact Go.Proofs.YtekcdokgpjmbgaaDoor.Laid.Laid.below HL_.out (by repeat (first | (with_reducible first | exact HB.out | exact Below.refl _ _ | exact (‹Aside0 (Below _ _ _)›).out | apply below_alloc | apply pw_below_drewN | apply below_drew1 | refine Below.setCell ?_ (Aside0.out (by assumption)) _) | exact HB.out | exact (‹Aside0 (Below _ _ _)›).out)))).mono ?_); rintro e w25 ⟨rfl, hb⟩; refine ⟨_, rfl, ?_⟩; have n0_ := Aside0.mk (below_step (by repeat (first | (with_reducible first | exact HB.out | apply below_alloc | apply pw_below_drewN | apply below_drew1) | exact HB.out)) hb); clear HB; have HB := n0_; clear n0_; (try clear hb); (try clear hb2); (try clear hk); (try clear hi)) | ((with_reducible refine gate_callee (f := 23) rfl ?_); refine goesL_ (some 45) rfl rfl Tryd.func23 (by kernel_rfl) rfl #[.int .i64 (Int.tmod a0 60), .int .i64 10] rfl (by (try simp only [List.map_toArray, List.map_cons, List.map_nil]); first | done | rfl | (simp only [List.length_drop, List.length_take]; rfl)) ?_; (with_reducible refine (Na.fi.calls (Int.tmod a0 60) 10 t127 _ A22.out (by first | exact HL_.out | exact Go.Proofs.YtekcdokgpjmbgaaDoor.Laid.Laid.below HL_.out (by repeat (first | (with_reducible first | exact HB.out | exact Below.refl _ _ | exact (‹Aside0 (Below _ _ _)›).out | apply below_alloc | apply pw_below_drewN | apply below_drew1 | refine Below.setCell ?_ (Aside0.out (by assumption)) _) | exact HB.out | exact (‹Aside0 (Below _ _ _)›).out)))).mono ?_); rintro e w26 ⟨rfl, hb⟩; refine ⟨_, rfl, ?_⟩; have n0_ := Aside0.mk (below_step (by repeat (first | (with_reducible first | exact HB.out | apply below_alloc | apply pw_below_drewN | apply below_drew1) | exact HB.out)) hb); clear HB; have HB := n0_; clear n0_; (try clear hb); (try clear hb2); (try clear hk); (try clear hi)))
                            go_ret2
                            exact ⟨by first | rfl | (simp [errW_none, errW_some] <;> rfl) | (simp [*, errW_none, errW_some] <;> rfl), by repeat (first | (with_reducible first | exact HB.out | apply below_alloc | apply pw_below_drewN | apply below_drew1) | exact HB.out)⟩
                          · rw [if_neg c24] at H
                            exact absurd H (by simp)
                        · rw [if_neg c23] at H
                          exact absurd H (by simp)
                      · rw [if_neg c21] at H
                        have c21b0 : decide (0 < (Int.tmod a0 60)) = false := decide_eq_false c21
                        clear c21
                        simp only [Option.some.injEq, Prod.mk.injEq] at H
                        obtain ⟨rfl, rfl⟩ := H
                        go_wp2_with (first | ((with_reducible refine gate_callee (f := 23) rfl ?_); refine goesL_ (some 36) rfl rfl Tryd.func23 (by kernel_rfl) rfl #[.int .i64 (wrap64 (Int.tdiv (Int.tmod a0 3600) 60)), .int .i64 10] rfl (by (try simp only [List.map_toArray, List.map_cons, List.map_nil]); first | done | rfl | (simp only [List.length_drop, List.length_take]; rfl)) ?_; (with_reducible refine (Na.fi.calls (wrap64 (Int.tdiv (Int.tmod a0 3600) 60)) 10 t126 _ A18.out (by first | exact HL_.out | exact Go.Proofs.YtekcdokgpjmbgaaDoor.Laid.Laid.below HL_.out (by repeat (first | (with_reducible first | exact HB.out | exact Below.refl _ _ | exact (‹Aside0 (Below _ _ _)›).out | apply below_alloc | apply pw_below_drewN | apply below_drew1 | refine Below.setCell ?_ (Aside0.out (by assumption)) _) | exact HB.out | exact (‹Aside0 (Below _ _ _)›).out)))).mono ?_); rintro e w27 ⟨rfl, hb⟩; refine ⟨_, rfl, ?_⟩; have n0_ := Aside0.mk (below_step (by repeat (first | (with_reducible first | exact HB.out | apply below_alloc | apply pw_below_drewN | apply below_drew1) | exact HB.out)) hb); clear HB; have HB := n0_; clear n0_; (try clear hb); (try clear hb2); (try clear hk); (try clear hi)))
                        go_ret2
                        exact ⟨by first | rfl | (simp [errW_none, errW_some] <;> rfl) | (simp [*, errW_none, errW_some] <;> rfl), by repeat (first | (with_reducible first | exact HB.out | apply below_alloc | apply pw_below_drewN | apply below_drew1) | exact HB.out)⟩
                    · rw [if_neg c20] at H
                      exact absurd H (by simp)
                  · rw [if_neg c19] at H
                    exact absurd H (by simp)
                · rw [if_neg c17] at H
                  have c17b0 : decide (60 ≤ (Int.tmod a0 3600)) = false := decide_eq_false c17
                  clear c17
                  by_cases c28 : (Int.tmod a0 60) > 0
                  · rw [if_pos c28] at H
                    have c28b0 : decide (0 < (Int.tmod a0 60)) = true := decide_eq_true c28
                    clear c28
                    replace H := Option.bind_eq_some_iff.mp H
                    obtain ⟨t128, A290, H⟩ := H
                    replace H : (if t128.size + 1 ≤ 9223372036854775807 then (if x4_10.size + (t128 ++ (⟨#[115]⟩ : ByteArray)).size ≤ 9223372036854775807 then (some (x4_10 ++ (t128 ++ (⟨#[115]⟩ : ByteArray)), 0)) else (none)) else (none)) = some (r1, r2) := H
                    have A29 := Aside0.mk A290
                    clear A290
                    by_cases c30 : t128.size + 1 ≤ 9223372036854775807
                    · rw [if_pos c30] at H
                      have c30b0 := eq_true c30
                      have c30b1 : decide (t128.size + 1 ≤ 9223372036854775807) = true := decide_eq_true c30
                      try have c30b2 : (9223372036854775807 < t128.size + 1) = False := eq_false (Nat.not_lt.2 c30)
                      by_cases c31 : x4_10.size + (t128 ++ (⟨#[115]⟩ : ByteArray)).size ≤ 9223372036854775807
                      · rw [if_pos c31] at H
                        have c31b0 := eq_true c31
                        have c31b1 : decide (x4_10.size + (t128 ++ (⟨#[115]⟩ : ByteArray)).size ≤ 9223372036854775807) = true := decide_eq_true c31
                        try have c31b2 : (9223372036854775807 < x4_10.size + (t128 ++ (⟨#[115]⟩ : ByteArray)).size) = False := eq_false (Nat.not_lt.2 c31)
                        simp only [Option.some.injEq, Prod.mk.injEq] at H
                        obtain ⟨rfl, rfl⟩ := H
                        go_wp2_with (first | ((with_reducible refine gate_callee (f := 23) rfl ?_); refine goesL_ (some 45) rfl rfl Tryd.func23 (by kernel_rfl) rfl #[.int .i64 (Int.tmod a0 60), .int .i64 10] rfl (by (try simp only [List.map_toArray, List.map_cons, List.map_nil]); first | done | rfl | (simp only [List.length_drop, List.length_take]; rfl)) ?_; (with_reducible refine (Na.fi.calls (Int.tmod a0 60) 10 t128 _ A29.out (by first | exact HL_.out | exact Go.Proofs.YtekcdokgpjmbgaaDoor.Laid.Laid.below HL_.out (by repeat (first | (with_reducible first | exact HB.out | exact Below.refl _ _ | exact (‹Aside0 (Below _ _ _)›).out | apply below_alloc | apply pw_below_drewN | apply below_drew1 | refine Below.setCell ?_ (Aside0.out (by assumption)) _) | exact HB.out | exact (‹Aside0 (Below _ _ _)›).out)))).mono ?_); rintro e w32 ⟨rfl, hb⟩; refine ⟨_, rfl, ?_⟩; have n0_ := Aside0.mk (below_step (by repeat (first | (with_reducible first | exact HB.out | apply below_alloc | apply pw_below_drewN | apply below_drew1) | exact HB.out)) hb); clear HB; have HB := n0_; clear n0_; (try clear hb); (try clear hb2); (try clear hk); (try clear hi)))
                        go_ret2
                        exact ⟨by first | rfl | (simp [errW_none, errW_some] <;> rfl) | (simp [*, errW_none, errW_some] <;> rfl), by repeat (first | (with_reducible first | exact HB.out | apply below_alloc | apply pw_below_drewN | apply below_drew1) | exact HB.out)⟩
                      · rw [if_neg c31] at H
                        exact absurd H (by simp)
                    · rw [if_neg c30] at H
                      exact absurd H (by simp)
                  · rw [if_neg c28] at H
                    have c28b0 : decide (0 < (Int.tmod a0 60)) = false := decide_eq_false c28
                    clear c28
                    simp only [Option.some.injEq, Prod.mk.injEq] at H
                    obtain ⟨rfl, rfl⟩ := H
                    go_wp2
                    go_ret2
                    exact ⟨by first | rfl | (simp [errW_none, errW_some] <;> rfl) | (simp [*, errW_none, errW_some] <;> rfl), by repeat (first | (with_reducible first | exact HB.out | apply below_alloc | apply pw_below_drewN | apply below_drew1) | exact HB.out)⟩

end Go.Proofs.YtekcdokgpjmbgaaDoor.OA
