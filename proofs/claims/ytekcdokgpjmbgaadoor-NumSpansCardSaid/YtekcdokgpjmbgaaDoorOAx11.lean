/- Walks of functions, written by a program (wip/tools/own.py) over hand contracts; conditions: as each theorem states. -/
import Derived.Test.YtekcdokgpjmbgaaDoorOAx0
namespace Go.Proofs.YtekcdokgpjmbgaaDoor.OA
open Go.RowKit Go.Proofs.YtekcdokgpjmbgaaDoorW.PrintWords Go.Proofs.YtekcdokgpjmbgaaDoorW.PrintLast Go.Proofs.YtekcdokgpjmbgaaDoorW.PrintMore
attribute [local go_sem] max2_int min2_int max_two min_two max_three min_three max_four min_four   -- for this text's walks alone
set_option linter.unusedVariables false
set_option linter.unusedSimpArgs false

/-! ### capstanref10_Text: function 17 -/
mutual
def capstanref10_Text.j0 : Nat → ByteArray → ByteArray → Option (ByteArray)
  | 0, _, _ => none
  | k + 1, x3, x4 => capstanref10_Text.l0 k x3 x4
def capstanref10_Text.l0 : Nat → ByteArray → ByteArray → Option (ByteArray)
  | 0, _, _ => none
  | k + 1, x3, x4 => if (x3.size : Int) < 7 then (if 1 + x3.size ≤ 9223372036854775807 then (capstanref10_Text.l0 k ((⟨#[48]⟩ : ByteArray) ++ x3) x4) else (none)) else (if 0 ≤ (wrap64 ((x3.size : Int) - 6)) then (if (wrap64 ((x3.size : Int) - 6)) ≤ (x3.size : Int) then (capstanref10_Text.l1 k x4 (x3.extract 0 ((wrap64 ((x3.size : Int) - 6)) : Int).toNat) (x3.extract ((wrap64 ((x3.size : Int) - 6)) : Int).toNat x3.size)) else (none)) else (none))
def capstanref10_Text.l1 : Nat → ByteArray → ByteArray → ByteArray → Option (ByteArray)
  | 0, _, _, _ => none
  | k + 1, x4, x5, x6 => if x6.toList = ([] : List UInt8) then (if x4.size + x5.size ≤ 9223372036854775807 then (some (x4 ++ x5)) else (none)) else (if 0 ≤ (wrap64 ((x6.size : Int) - 1)) then (if (wrap64 ((x6.size : Int) - 1)) < (x6.size : Int) then (if (bt x6 (wrap64 ((x6.size : Int) - 1))) = 48 then (if (wrap64 ((x6.size : Int) - 1)) ≤ (x6.size : Int) then (capstanref10_Text.l1 k x4 x5 (x6.extract 0 ((wrap64 ((x6.size : Int) - 1)) : Int).toNat)) else (none)) else (if x4.size + x5.size ≤ 9223372036854775807 then (if (x4 ++ x5).size + 1 ≤ 9223372036854775807 then (if ((x4 ++ x5) ++ (⟨#[46]⟩ : ByteArray)).size + x6.size ≤ 9223372036854775807 then (some (((x4 ++ x5) ++ (⟨#[46]⟩ : ByteArray)) ++ x6)) else (none)) else (none)) else (none))) else (none)) else (none))
end
def capstanref10_Text.f (k : Nat) (a0 : Int) : Option (ByteArray) := (Na.fi.f a0 10).bind fun t123 => (if 0 < (t123.size : Int) then (if (bt t123 0) = 45 then (if 1 ≤ (t123.size : Int) then (capstanref10_Text.j0 k (t123.extract 1 t123.size) (⟨#[45]⟩ : ByteArray)) else (none)) else (capstanref10_Text.j0 k t123 (⟨#[]⟩ : ByteArray))) else (none))
theorem capstanref10_Text.mono_l : ∀ k, (∀ y0 y1, LeO (capstanref10_Text.j0 k y0 y1) (capstanref10_Text.j0 (k + 1) y0 y1)) ∧ (∀ y0 y1, LeO (capstanref10_Text.l0 k y0 y1) (capstanref10_Text.l0 (k + 1) y0 y1)) ∧ (∀ y0 y1 y2, LeO (capstanref10_Text.l1 k y0 y1 y2) (capstanref10_Text.l1 (k + 1) y0 y1 y2))
  | 0 => ⟨fun _ _ r h => by simp [capstanref10_Text.j0] at h, fun _ _ r h => by simp [capstanref10_Text.l0] at h, fun _ _ _ r h => by simp [capstanref10_Text.l1] at h⟩
  | k + 1 => by
    obtain ⟨ih0, ih1, ih2⟩ := capstanref10_Text.mono_l k
    refine ⟨?_, ?_, ?_⟩
    · intro y0 y1
      unfold capstanref10_Text.j0
      repeat' first
      | (with_reducible exact ih0 _ _)
      | (with_reducible exact ih1 _ _)
      | (with_reducible exact ih2 _ _ _)
      | (with_reducible exact LeO.refl _)
      | (with_reducible exact LeO.none _)
      | (with_reducible refine LeO.ite ?_ ?_)
      | (with_reducible refine LeO.bind ?_ (fun _ => ?_))
      | exact ih0 _ _
      | exact ih1 _ _
      | exact ih2 _ _ _
      | exact LeO.none _
      | refine LeO.ite ?_ ?_
      | refine LeO.bind ?_ (fun _ => ?_)
    · intro y0 y1
      unfold capstanref10_Text.l0
      repeat' first
      | (with_reducible exact ih0 _ _)
      | (with_reducible exact ih1 _ _)
      | (with_reducible exact ih2 _ _ _)
      | (with_reducible exact LeO.refl _)
      | (with_reducible exact LeO.none _)
      | (with_reducible refine LeO.ite ?_ ?_)
      | (with_reducible refine LeO.bind ?_ (fun _ => ?_))
      | exact ih0 _ _
      | exact ih1 _ _
      | exact ih2 _ _ _
      | exact LeO.none _
      | refine LeO.ite ?_ ?_
      | refine LeO.bind ?_ (fun _ => ?_)
    · intro y0 y1 y2
      unfold capstanref10_Text.l1
      repeat' first
      | (with_reducible exact ih0 _ _)
      | (with_reducible exact ih1 _ _)
      | (with_reducible exact ih2 _ _ _)
      | (with_reducible exact LeO.refl _)
      | (with_reducible exact LeO.none _)
      | (with_reducible refine LeO.ite ?_ ?_)
      | (with_reducible refine LeO.bind ?_ (fun _ => ?_))
      | exact ih0 _ _
      | exact ih1 _ _
      | exact ih2 _ _ _
      | exact LeO.none _
      | refine LeO.ite ?_ ?_
      | refine LeO.bind ?_ (fun _ => ?_)
theorem capstanref10_Text.mono : ∀ a0 k, LeO (capstanref10_Text.f k a0) (capstanref10_Text.f (k + 1) a0) := by
  intro a0 k
  obtain ⟨ih0, ih1, ih2⟩ := capstanref10_Text.mono_l k
  unfold capstanref10_Text.f
  repeat' first
      | (with_reducible exact ih0 _ _)
      | (with_reducible exact ih1 _ _)
      | (with_reducible exact ih2 _ _ _)
      | (with_reducible exact LeO.refl _)
      | (with_reducible exact LeO.none _)
      | (with_reducible refine LeO.ite ?_ ?_)
      | (with_reducible refine LeO.bind ?_ (fun _ => ?_))
      | exact ih0 _ _
      | exact ih1 _ _
      | exact ih2 _ _ _
      | exact LeO.none _
      | refine LeO.ite ?_ ?_
      | refine LeO.bind ?_ (fun _ => ?_)
set_option maxHeartbeats 8000000 in
set_option maxRecDepth 100000 in
theorem capstanref10_Text.calls (k : Nat) (a0 : Int) (r : ByteArray) (w : World) (h : capstanref10_Text.f k a0 = some r) (hL_ : Go.Proofs.YtekcdokgpjmbgaaDoor.Laid.Laid w) :
    Calls Tryd.prog 17 #[.int .i64 a0] w fun e w' => e = .returned (.string r) ∧ Below w.heap.size w w' := by
  have HL_ := Aside0.mk hL_
  clear hL_
  have HB := Aside0.mk (Below.refl w.heap.size w)
  have H : ((Na.fi.f a0 10).bind fun t123 => (if 0 < (t123.size : Int) then (if (bt t123 0) = 45 then (if 1 ≤ (t123.size : Int) then (capstanref10_Text.j0 k (t123.extract 1 t123.size) (⟨#[45]⟩ : ByteArray)) else (none)) else (capstanref10_Text.j0 k t123 (⟨#[]⟩ : ByteArray))) else (none))) = some r := h
  clear h
  replace H := Option.bind_eq_some_iff.mp H
  obtain ⟨t123, A20, H⟩ := H
  replace H : (if 0 < (t123.size : Int) then (if (bt t123 0) = 45 then (if 1 ≤ (t123.size : Int) then (capstanref10_Text.j0 k (t123.extract 1 t123.size) (⟨#[45]⟩ : ByteArray)) else (none)) else (capstanref10_Text.j0 k t123 (⟨#[]⟩ : ByteArray))) else (none)) = some r := H
  have A2 := Aside0.mk A20
  clear A20
  by_cases c3 : 0 < (t123.size : Int)
  · rw [if_pos c3] at H
    have c3b0 : decide (0 < (t123.size : Int)) = true := decide_eq_true c3
    have c3b1 : decide (0 < t123.size) = true := decide_eq_true (by omega)
    clear c3
    have HC5 := Aside0.mk H
    clear H
    go_enter Tryd.func17, Tryd.ntmps17
    go_upto_if 11 with (first | ((with_reducible refine gate_callee (f := 23) rfl ?_); refine goesL_ (some 8) rfl rfl Tryd.func23 (by kernel_rfl) rfl #[.int .i64 a0, .int .i64 10] rfl (by (try simp only [List.map_toArray, List.map_cons, List.map_nil]); first | done | rfl | (simp only [List.length_drop, List.length_take]; rfl)) ?_; (with_reducible refine (Na.fi.calls a0 10 t123 _ A2.out (by first | exact HL_.out | exact Go.Proofs.YtekcdokgpjmbgaaDoor.Laid.Laid.below HL_.out (by repeat (first | (with_reducible first | exact HB.out | exact Below.refl _ _ | exact (‹Aside0 (Below _ _ _)›).out | apply below_alloc | apply pw_below_drewN | apply below_drew1 | refine Below.setCell ?_ (Aside0.out (by assumption)) _) | exact HB.out | exact (‹Aside0 (Below _ _ _)›).out)))).mono ?_); rintro e w6 ⟨rfl, hb⟩; refine ⟨_, rfl, ?_⟩; have n0_ := Aside0.mk (below_step (by repeat (first | (with_reducible first | exact HB.out | apply below_alloc | apply pw_below_drewN | apply below_drew1) | exact HB.out)) hb); clear HB; have HB := n0_; clear n0_; (try clear hb); (try clear hb2); (try clear hk); (try clear hi); have p4 : 0 ≤ (0 : Int) := (by omega); have q4 : 0 < t123.size := (by have : (0 : Int) < (t123.size : Int) := of_decide_eq_true (by first | (with_reducible assumption) | assumption); omega); have hx4 : ∀ h : 0 < t123.size, ((t123[0]'h).toNat : Int) = bt t123 0 := bt_at t123 0; clear p4; have qi4 : (0 < (t123.size : Int)) = True := eq_true (of_decide_eq_true (by first | (with_reducible assumption) | assumption)); replace q4 := eq_true q4))
    (try simp only [Act.put, List.setIfInBounds_toArray, List.set_cons_zero, List.set_cons_succ])
    go_cut [3, 4] (fun v3 v4 wc => ∃ (kq : Nat) (x3_4 : ByteArray) (x4_4 : ByteArray), v3 = .string x3_4 ∧ v4 = .string x4_4 ∧ Aside0 (capstanref10_Text.j0 kq x3_4 x4_4 = some r) ∧ Aside0 (kq ≤ k) ∧ Aside0 (Below w.heap.size w wc))
    case first =>
      have H := HC5.out
      clear HC5
      by_cases c7 : (bt t123 0) = 45
      · rw [if_pos c7] at H
        have c7b0 : ((bt t123 0) == 45) = true := beq_iff_eq.mpr c7
        have c7b1 : ((bt t123 0) != 45) = false := bne_eq_false_iff_eq.mpr c7
        clear c7
        (first | rw [c7b0] | (simp only [i64_w, i32_w]; rw [c7b0]) | skip)
        by_cases c8 : 1 ≤ (t123.size : Int)
        · rw [if_pos c8] at H
          have c8b0 := eq_true c8
          have c8b1 : decide (1 ≤ (t123.size : Int)) = true := decide_eq_true c8
          clear c8
          have H' := Aside0.mk H
          clear H
          go_wp2
          go_meet
          case rel => exact ⟨_, (t123.extract 1 t123.size), ((⟨#[45]⟩ : ByteArray)), (by first | rfl | (simp; done) | (simp [*]; done)), (by first | rfl | (simp; done) | (simp [*]; done)), H', ⟨by first | omega | exact Nat.le_refl _⟩, ⟨by repeat (first | (with_reducible first | exact HB.out | apply below_alloc | apply pw_below_drewN | apply below_drew1) | exact HB.out)⟩⟩
        · rw [if_neg c8] at H
          exact absurd H (by simp)
      · rw [if_neg c7] at H
        have c7b0 : ((bt t123 0) == 45) = false := beq_eq_false_iff_ne.mpr c7
        have c7b1 : ((bt t123 0) != 45) = true := bne_iff_ne.mpr c7
        (first | rw [c7b0] | (simp only [i64_w, i32_w]; rw [c7b0]) | skip)
        have H' := Aside0.mk H
        clear H
        go_wp2
        go_meet
        case rel => exact ⟨_, (t123), ((⟨#[]⟩ : ByteArray)), (by first | rfl | (simp; done) | (simp [*]; done)), (by first | rfl | (simp; done) | (simp [*]; done)), H', ⟨by first | omega | exact Nat.le_refl _⟩, ⟨by repeat (first | (with_reducible first | exact HB.out | apply below_alloc | apply pw_below_drewN | apply below_drew1) | exact HB.out)⟩⟩
    case rest =>
      clear HC5
      try clear c1
      try clear c2
      try clear p2
      try clear c3
      try clear c3b0
      try clear c3b1
      try clear p4
      try clear q4
      try clear hx4
      try clear qi4
      try clear c7
      try clear c7b0
      try clear c7b1
      try clear c8
      try clear c8b0
      try clear c8b1
      try clear p4
      try clear q4
      obtain ⟨kq, x3_4, x4_4, rfl, rfl, HA, HJ4, HB⟩ := hcut
      cases kq with
      | zero => exact absurd HA.out (by simp [capstanref10_Text.j0])
      | succ kj4 =>
        have H := HA.out
        clear HA
        simp only [capstanref10_Text.j0] at H
        have H' := Aside0.mk H
        clear H
        go_wp2
        go_loopg [3] kj4 (fun kq v3 w' => ∃ (x3_2 : ByteArray), v3 = .string x3_2 ∧ Aside0 (capstanref10_Text.l0 kq x3_2 x4_4 = some r) ∧ Aside0 (kq ≤ kj4) ∧ Aside0 (Below w.heap.size w w'))
        case atStart => exact ⟨(x3_4), (by first | rfl | (simp; done) | (simp [*]; done)), H', ⟨Nat.le_refl _⟩, ⟨by repeat (first | (with_reducible first | exact HB.out | apply below_alloc | apply pw_below_drewN | apply below_drew1) | exact HB.out)⟩⟩
        case round =>
          clear H'
          try clear c1
          try clear c2
          try clear p2
          try clear c3
          try clear c3b0
          try clear c3b1
          try clear p4
          try clear q4
          try clear hx4
          try clear qi4
          try clear c7
          try clear c7b0
          try clear c7b1
          try clear c8
          try clear c8b0
          try clear c8b1
          try clear p2
          try clear p4
          try clear q4
          obtain ⟨x3_2, rfl, HA, HK2, HB⟩ := hrel
          cases gk with
          | zero => exact absurd HA.out (by simp [capstanref10_Text.l0])
          | succ k2 =>
            have H := HA.out
            clear HA
            simp only [capstanref10_Text.l0] at H
            by_cases c9 : (x3_2.size : Int) < 7
            · rw [if_pos c9] at H
              have c9b0 : decide ((x3_2.size : Int) < 7) = true := decide_eq_true c9
              have c9b1 : decide (x3_2.size < 7) = true := decide_eq_true (by omega)
              clear c9
              by_cases c10 : 1 + x3_2.size ≤ 9223372036854775807
              · rw [if_pos c10] at H
                have c10b0 := eq_true c10
                have c10b1 : decide (1 + x3_2.size ≤ 9223372036854775807) = true := decide_eq_true c10
                try have c10b2 : (9223372036854775807 < 1 + x3_2.size) = False := eq_false (Nat.not_lt.2 c10)
                have H' := Aside0.mk H
                clear H
                go_wp2
                go_roundg k2
                case measure => have := HJ4.out; have := HK2.out; omega
                case rel => exact ⟨((⟨#[48]⟩ : ByteArray) ++ x3_2), (by first | rfl | (simp; done) | (simp [*]; done)), H', ⟨by have := HJ4.out; have := HK2.out; omega⟩, ⟨by repeat (first | (with_reducible first | exact HB.out | apply below_alloc | apply pw_below_drewN | apply below_drew1) | exact HB.out)⟩⟩
              · rw [if_neg c10] at H
                exact absurd H (by simp)
            · rw [if_neg c9] at H
              have c9b0 : decide ((x3_2.size : Int) < 7) = false := decide_eq_false c9
              have c9b1 : decide (x3_2.size < 7) = false := decide_eq_false (by omega)
              clear c9
              obtain ⟨ji11, hji11⟩ : ∃ j_ : Int, (wrap64 ((x3_2.size : Int) - 6)) = j_ := ⟨_, rfl⟩
              replace H : (if 0 ≤ (ji11) then (if (ji11) ≤ (x3_2.size : Int) then (capstanref10_Text.l1 k2 x4_4 (x3_2.extract 0 ((ji11) : Int).toNat) (x3_2.extract ((ji11) : Int).toNat x3_2.size)) else (none)) else (none)) = some r := by first | (rw [hji11] at H; exact H) | (simp only [hji11] at H ⊢; exact H)
              have hji11w : (IntKind.i64.wrap ((x3_2.size : Int) - 6)) = ji11 := (i64_w _).trans hji11
              by_cases c12 : 0 ≤ (ji11)
              · rw [if_pos c12] at H
                have c12b0 := eq_true c12
                have c12b1 : decide (0 ≤ (ji11)) = true := decide_eq_true c12
                clear c12
                by_cases c13 : (ji11) ≤ (x3_2.size : Int)
                · rw [if_pos c13] at H
                  have c13b0 := eq_true c13
                  have c13b1 : decide ((ji11) ≤ (x3_2.size : Int)) = true := decide_eq_true c13
                  clear c13
                  have c14b0 := eq_true (of_decide_eq_true (by first | (with_reducible assumption) | assumption) : 0 ≤ (ji11))
                  have c15b0 := eq_true (of_decide_eq_true (by first | (with_reducible assumption) | assumption) : (ji11) ≤ (x3_2.size : Int))
                  have H' := Aside0.mk H
                  clear H
                  go_wp2
                  go_loopg [6] k2 (fun kq v6 w' => ∃ (x6_3 : ByteArray), v6 = .string x6_3 ∧ Aside0 (capstanref10_Text.l1 kq x4_4 (x3_2.extract 0 ((ji11) : Int).toNat) x6_3 = some r) ∧ Aside0 (kq ≤ k2) ∧ Aside0 (Below w.heap.size w w'))
                  case atStart => exact ⟨(x3_2.extract ((ji11) : Int).toNat x3_2.size), (by first | rfl | (simp; done) | (simp only [← hji11] <;> (first | rfl | simp)) | (simp [*]; done)), H', ⟨Nat.le_refl _⟩, ⟨by repeat (first | (with_reducible first | exact HB.out | apply below_alloc | apply pw_below_drewN | apply below_drew1) | exact HB.out)⟩⟩
                  case round =>
                    clear H'
                    try clear c1
                    try clear c2
                    try clear p2
                    try clear c3
                    try clear c3b0
                    try clear c3b1
                    try clear p4
                    try clear q4
                    try clear hx4
                    try clear qi4
                    try clear p6
                    try clear c7
                    try clear c7b0
                    try clear c7b1
                    try clear c8
                    try clear c8b0
                    try clear c8b1
                    try clear c9
                    try clear c9b0
                    try clear c9b1
                    try clear c10
                    try clear c10b0
                    try clear c10b1
                    try clear c10b2
                    try clear c12
                    try clear c12b0
                    try clear c12b1
                    try clear c13
                    try clear c13b0
                    try clear c13b1
                    try clear c14
                    try clear c14b0
                    try clear c15
                    try clear c15b0
                    try clear p2
                    try clear p4
                    try clear q4
                    obtain ⟨x6_3, rfl, HA, HK3, HB⟩ := hrel
                    cases gk with
                    | zero => exact absurd HA.out (by simp [capstanref10_Text.l1])
                    | succ k3 =>
                      have H := HA.out
                      clear HA
                      simp only [capstanref10_Text.l1] at H
                      by_cases c16 : x6_3.toList = ([] : List UInt8)
                      · rw [if_pos c16] at H
                        have c16b0 : (x6_3.toList == ([] : List UInt8)) = true := beq_iff_eq.mpr c16
                        have c16b1 : (x6_3.toList != ([] : List UInt8)) = false := bne_eq_false_iff_eq.mpr c16
                        have c16e0 : x6_3.toList.isEmpty = true := by first | (rw [c16]; rfl) | (simpa using c16)
                        have c16e1 : (!x6_3.toList.isEmpty) = false := by rw [c16e0]; rfl
                        clear c16
                        by_cases c17 : x4_4.size + (x3_2.extract 0 ((ji11) : Int).toNat).size ≤ 9223372036854775807
                        · rw [if_pos c17] at H
                          have c17b0 := eq_true c17
                          have c17b1 : decide (x4_4.size + (x3_2.extract 0 ((ji11) : Int).toNat).size ≤ 9223372036854775807) = true := decide_eq_true c17
                          try have c17b2 : (9223372036854775807 < x4_4.size + (x3_2.extract 0 ((ji11) : Int).toNat).size) = False := eq_false (Nat.not_lt.2 c17)
                          obtain rfl := Option.some.inj H
                          go_wp2
                          go_ret
                          exact ⟨by first | rfl | (simp [errW_none, errW_some] <;> rfl) | (simp only [← hji11]; first | rfl | (simp [errW_none, errW_some] <;> rfl)) | (simp [*, errW_none, errW_some] <;> rfl), by repeat (first | (with_reducible first | exact HB.out | apply below_alloc | apply pw_below_drewN | apply below_drew1) | exact HB.out)⟩
                        · rw [if_neg c17] at H
                          exact absurd H (by simp)
                      · rw [if_neg c16] at H
                        have c16b0 : (x6_3.toList == ([] : List UInt8)) = false := beq_eq_false_iff_ne.mpr c16
                        have c16b1 : (x6_3.toList != ([] : List UInt8)) = true := bne_iff_ne.mpr c16
                        have c16e0 : x6_3.toList.isEmpty = false := by first | (rw [c16]; rfl) | (simpa using c16)
                        have c16e1 : (!x6_3.toList.isEmpty) = true := by rw [c16e0]; rfl
                        obtain ⟨ji18, hji18⟩ : ∃ j_ : Int, (wrap64 ((x6_3.size : Int) - 1)) = j_ := ⟨_, rfl⟩
                        replace H : (if 0 ≤ (ji18) then (if (ji18) < (x6_3.size : Int) then (if (bt x6_3 (ji18)) = 48 then (if (ji18) ≤ (x6_3.size : Int) then (capstanref10_Text.l1 k3 x4_4 (x3_2.extract 0 ((ji11) : Int).toNat) (x6_3.extract 0 ((ji18) : Int).toNat)) else (none)) else (if x4_4.size + (x3_2.extract 0 ((ji11) : Int).toNat).size ≤ 9223372036854775807 then (if (x4_4 ++ (x3_2.extract 0 ((ji11) : Int).toNat)).size + 1 ≤ 9223372036854775807 then (if ((x4_4 ++ (x3_2.extract 0 ((ji11) : Int).toNat)) ++ (⟨#[46]⟩ : ByteArray)).size + x6_3.size ≤ 9223372036854775807 then (some (((x4_4 ++ (x3_2.extract 0 ((ji11) : Int).toNat)) ++ (⟨#[46]⟩ : ByteArray)) ++ x6_3)) else (none)) else (none)) else (none))) else (none)) else (none)) = some r := by first | (rw [hji18] at H; exact H) | (simp only [hji18] at H ⊢; exact H)
                        have hji18w : (IntKind.i64.wrap ((x6_3.size : Int) - 1)) = ji18 := (i64_w _).trans hji18
                        by_cases c19 : 0 ≤ (ji18)
                        · rw [if_pos c19] at H
                          have c19b0 : decide (0 ≤ (ji18)) = true := decide_eq_true c19
                          clear c19
                          by_cases c20 : (ji18) < (x6_3.size : Int)
                          · rw [if_pos c20] at H
                            have c20b0 : decide ((ji18) < (x6_3.size : Int)) = true := decide_eq_true c20
                            clear c20
                            by_cases c22 : (bt x6_3 (ji18)) = 48
                            · rw [if_pos c22] at H
                              have c22b0 : ((bt x6_3 (ji18)) == 48) = true := beq_iff_eq.mpr c22
                              have c22b1 : ((bt x6_3 (ji18)) != 48) = false := bne_eq_false_iff_eq.mpr c22
                              clear c22
                              have c23b0 := eq_true (of_decide_eq_true (by first | (with_reducible assumption) | assumption) : 0 ≤ (ji18))
                              by_cases c24 : (ji18) ≤ (x6_3.size : Int)
                              · rw [if_pos c24] at H
                                have c24b0 := eq_true c24
                                have c24b1 : decide ((ji18) ≤ (x6_3.size : Int)) = true := decide_eq_true c24
                                clear c24
                                have H' := Aside0.mk H
                                clear H
                                have p21 : 0 ≤ ((ji18) : Int) := of_decide_eq_true (by first | (with_reducible assumption) | assumption)
                                have q21 : (ji18) < (x6_3.size : Int) := of_decide_eq_true (by first | (with_reducible assumption) | assumption)
                                have hx21 := bt_at x6_3 (ji18)
                                replace p21 := eq_true p21
                                replace q21 := eq_true q21
                                go_wp2
                                go_roundg k3
                                case measure => have := HJ4.out; have := HK2.out; have := HK3.out; omega
                                case rel => exact ⟨(x6_3.extract 0 ((ji18) : Int).toNat), (by first | rfl | (simp; done) | (simp only [← hji18] <;> (first | rfl | simp)) | (simp [*]; done)), H', ⟨by have := HJ4.out; have := HK2.out; have := HK3.out; omega⟩, ⟨by repeat (first | (with_reducible first | exact HB.out | apply below_alloc | apply pw_below_drewN | apply below_drew1) | exact HB.out)⟩⟩
                              · rw [if_neg c24] at H
                                exact absurd H (by simp)
                            · rw [if_neg c22] at H
                              have c22b0 : ((bt x6_3 (ji18)) == 48) = false := beq_eq_false_iff_ne.mpr c22
                              have c22b1 : ((bt x6_3 (ji18)) != 48) = true := bne_iff_ne.mpr c22
                              by_cases c25 : x4_4.size + (x3_2.extract 0 ((ji11) : Int).toNat).size ≤ 9223372036854775807
                              · rw [if_pos c25] at H
                                have c25b0 := eq_true c25
                                have c25b1 : decide (x4_4.size + (x3_2.extract 0 ((ji11) : Int).toNat).size ≤ 9223372036854775807) = true := decide_eq_true c25
                                try have c25b2 : (9223372036854775807 < x4_4.size + (x3_2.extract 0 ((ji11) : Int).toNat).size) = False := eq_false (Nat.not_lt.2 c25)
                                by_cases c26 : (x4_4 ++ (x3_2.extract 0 ((ji11) : Int).toNat)).size + 1 ≤ 9223372036854775807
                                · rw [if_pos c26] at H
                                  have c26b0 := eq_true c26
                                  have c26b1 : decide ((x4_4 ++ (x3_2.extract 0 ((ji11) : Int).toNat)).size + 1 ≤ 9223372036854775807) = true := decide_eq_true c26
                                  try have c26b2 : (9223372036854775807 < (x4_4 ++ (x3_2.extract 0 ((ji11) : Int).toNat)).size + 1) = False := eq_false (Nat.not_lt.2 c26)
                                  by_cases c27 : ((x4_4 ++ (x3_2.extract 0 ((ji11) : Int).toNat)) ++ (⟨#[46]⟩ : ByteArray)).size + x6_3.size ≤ 9223372036854775807
                                  · rw [if_pos c27] at H
                                    have c27b0 := eq_true c27
                                    have c27b1 : decide (((x4_4 ++ (x3_2.extract 0 ((ji11) : Int).toNat)) ++ (⟨#[46]⟩ : ByteArray)).size + x6_3.size ≤ 9223372036854775807) = true := decide_eq_true c27
                                    try have c27b2 : (9223372036854775807 < ((x4_4 ++ (x3_2.extract 0 ((ji11) : Int).toNat)) ++ (⟨#[46]⟩ : ByteArray)).size + x6_3.size) = False := eq_false (Nat.not_lt.2 c27)
                                    obtain rfl := Option.some.inj H
                                    have p21 : 0 ≤ ((ji18) : Int) := of_decide_eq_true (by first | (with_reducible assumption) | assumption)
                                    have q21 : (ji18) < (x6_3.size : Int) := of_decide_eq_true (by first | (with_reducible assumption) | assumption)
                                    have hx21 := bt_at x6_3 (ji18)
                                    replace p21 := eq_true p21
                                    replace q21 := eq_true q21
                                    go_wp2
                                    all_goals first
                                      | (go_ret; exact ⟨by first | rfl | (simp [errW_none, errW_some] <;> rfl) | (simp only [← hji11, ← hji18]; first | rfl | (simp [errW_none, errW_some] <;> rfl)) | (simp [*, errW_none, errW_some] <;> rfl), by repeat (first | (with_reducible first | exact HB.out | apply below_alloc | apply pw_below_drewN | apply below_drew1) | exact HB.out)⟩)
                                      | (exfalso; have hz1 := c25; have hz2 := c26; simp only [ByteArray.size_append, ByteArray.size_extract] at hz1 hz2; simp at hz1 hz2; omega)
                                  · rw [if_neg c27] at H
                                    exact absurd H (by simp)
                                · rw [if_neg c26] at H
                                  exact absurd H (by simp)
                              · rw [if_neg c25] at H
                                exact absurd H (by simp)
                          · rw [if_neg c20] at H
                            exact absurd H (by simp)
                        · rw [if_neg c19] at H
                          exact absurd H (by simp)
                · rw [if_neg c13] at H
                  exact absurd H (by simp)
              · rw [if_neg c12] at H
                exact absurd H (by simp)
  · rw [if_neg c3] at H
    exact absurd H (by simp)

end Go.Proofs.YtekcdokgpjmbgaaDoor.OA
