/- Walks of functions, written by a program (wip/tools/own.py) over hand contracts; conditions: as each theorem states. -/
import Derived.Test.YtkmcmgfmahildaaDoorOAx0
import Derived.Test.YtkmcmgfmahildaaDoorOAx1
namespace Go.Proofs.YtkmcmgfmahildaaDoor.OA
open Go.RowKit Go.Proofs.YtkmcmgfmahildaaDoorW.PrintWords Go.Proofs.YtkmcmgfmahildaaDoorW.PrintLast Go.Proofs.YtkmcmgfmahildaaDoorW.PrintMore
attribute [local go_sem] max2_int min2_int max_two min_two max_three min_three max_four min_four   -- for this text's walks alone
set_option linter.unusedVariables false
set_option linter.unusedSimpArgs false

/-! ### cron_told: function 26 -/
mutual
def cron_told.l0 : Nat → Int → ByteArray → Option (ByteArray)
  | 0, _, _ => none
  | k + 1, x0, x5 => if x0 = 0 then (some x5) else ((Ca.tz.f x0).bind fun t104 => (if 0 ≤ (IntKind.u64.wrap (t104)) then ((Ca.tz.f (Go.bits .xor .u64 18446744073709551615 (shr .u64 x0 (IntKind.u64.wrap (t104))))).bind fun t105 => (if x5.toList = ([] : List UInt8) then (cron_told.j1 k x0 x5 t104 t105) else (if x5.size + 1 ≤ 9223372036854775807 then (cron_told.j1 k x0 (x5 ++ (⟨#[44]⟩ : ByteArray)) t104 t105) else (none)))) else (none)))
def cron_told.j1 : Nat → Int → ByteArray → Int → Int → Option (ByteArray)
  | 0, _, _, _, _ => none
  | k + 1, x0, x5, x6, x7 => (Ca.itoa.f x6).bind fun t106 => (if x5.size + t106.size ≤ 9223372036854775807 then (if x7 = 2 then ((Ca.itoa.f (wrap64 (x6 + 1))).bind fun t107 => (if 1 + t107.size ≤ 9223372036854775807 then (if (x5 ++ t106).size + ((⟨#[44]⟩ : ByteArray) ++ t107).size ≤ 9223372036854775807 then (if 0 ≤ (IntKind.u64.wrap (x7)) then (if 0 ≤ (IntKind.u64.wrap (x6)) then (cron_told.l0 k (Go.bits .andNot .u64 x0 (shl .u64 (IntKind.u64.wrap ((shl .u64 1 (IntKind.u64.wrap (x7))) - 1)) (IntKind.u64.wrap (x6)))) ((x5 ++ t106) ++ ((⟨#[44]⟩ : ByteArray) ++ t107))) else (none)) else (none)) else (none)) else (none))) else (if x7 > 2 then ((Ca.itoa.f (wrap64 ((wrap64 (x6 + x7)) - 1))).bind fun t108 => (if 1 + t108.size ≤ 9223372036854775807 then (if (x5 ++ t106).size + ((⟨#[45]⟩ : ByteArray) ++ t108).size ≤ 9223372036854775807 then (if 0 ≤ (IntKind.u64.wrap (x7)) then (if 0 ≤ (IntKind.u64.wrap (x6)) then (cron_told.l0 k (Go.bits .andNot .u64 x0 (shl .u64 (IntKind.u64.wrap ((shl .u64 1 (IntKind.u64.wrap (x7))) - 1)) (IntKind.u64.wrap (x6)))) ((x5 ++ t106) ++ ((⟨#[45]⟩ : ByteArray) ++ t108))) else (none)) else (none)) else (none)) else (none))) else (if 0 ≤ (IntKind.u64.wrap (x7)) then (if 0 ≤ (IntKind.u64.wrap (x6)) then (cron_told.l0 k (Go.bits .andNot .u64 x0 (shl .u64 (IntKind.u64.wrap ((shl .u64 1 (IntKind.u64.wrap (x7))) - 1)) (IntKind.u64.wrap (x6)))) (x5 ++ t106)) else (none)) else (none)))) else (none))
end
def cron_told.f (k : Nat) (a0 : Int) (a1_0 : Int) (a1_1 : Int) : Option (ByteArray) := (cron_field_all.f a1_0 a1_1).bind fun t103 => (if a0 = t103 then (some (⟨#[42]⟩ : ByteArray)) else (cron_told.l0 k a0 (⟨#[]⟩ : ByteArray)))
theorem cron_told.mono_l : ∀ k, (∀ y0 y1, LeO (cron_told.l0 k y0 y1) (cron_told.l0 (k + 1) y0 y1)) ∧ (∀ y0 y1 y2 y3, LeO (cron_told.j1 k y0 y1 y2 y3) (cron_told.j1 (k + 1) y0 y1 y2 y3))
  | 0 => ⟨fun _ _ r h => by simp [cron_told.l0] at h, fun _ _ _ _ r h => by simp [cron_told.j1] at h⟩
  | k + 1 => by
    obtain ⟨ih0, ih1⟩ := cron_told.mono_l k
    refine ⟨?_, ?_⟩
    · intro y0 y1
      unfold cron_told.l0
      repeat' first
      | (with_reducible exact ih0 _ _)
      | (with_reducible exact ih1 _ _ _ _)
      | (with_reducible exact LeO.refl _)
      | (with_reducible exact LeO.none _)
      | (with_reducible refine LeO.ite ?_ ?_)
      | (with_reducible refine LeO.bind ?_ (fun _ => ?_))
      | exact ih0 _ _
      | exact ih1 _ _ _ _
      | exact LeO.none _
      | refine LeO.ite ?_ ?_
      | refine LeO.bind ?_ (fun _ => ?_)
    · intro y0 y1 y2 y3
      unfold cron_told.j1
      repeat' first
      | (with_reducible exact ih0 _ _)
      | (with_reducible exact ih1 _ _ _ _)
      | (with_reducible exact LeO.refl _)
      | (with_reducible exact LeO.none _)
      | (with_reducible refine LeO.ite ?_ ?_)
      | (with_reducible refine LeO.bind ?_ (fun _ => ?_))
      | exact ih0 _ _
      | exact ih1 _ _ _ _
      | exact LeO.none _
      | refine LeO.ite ?_ ?_
      | refine LeO.bind ?_ (fun _ => ?_)
theorem cron_told.mono : ∀ a0 a1 a2 k, LeO (cron_told.f k a0 a1 a2) (cron_told.f (k + 1) a0 a1 a2) := by
  intro a0 a1 a2 k
  obtain ⟨ih0, ih1⟩ := cron_told.mono_l k
  unfold cron_told.f
  repeat' first
      | (with_reducible exact ih0 _ _)
      | (with_reducible exact ih1 _ _ _ _)
      | (with_reducible exact LeO.refl _)
      | (with_reducible exact LeO.none _)
      | (with_reducible refine LeO.ite ?_ ?_)
      | (with_reducible refine LeO.bind ?_ (fun _ => ?_))
      | exact ih0 _ _
      | exact ih1 _ _ _ _
      | exact LeO.none _
      | refine LeO.ite ?_ ?_
      | refine LeO.bind ?_ (fun _ => ?_)
set_option maxHeartbeats 8000000 in
set_option maxRecDepth 100000 in
theorem cron_told.calls (k : Nat) (a0 : Int) (a1_0 : Int) (a1_1 : Int) (r : ByteArray) (w : World) (h : cron_told.f k a0 a1_0 a1_1 = some r) (hL_ : Go.Proofs.YtkmcmgfmahildaaDoor.Laid.Laid w) :
    Calls Tryd.prog 26 #[.int .u64 a0, .agg #[.int .i64 a1_0, .int .i64 a1_1]] w fun e w' => e = .returned (.string r) ∧ Below w.heap.size w w' := by
  have HL_ := Aside0.mk hL_
  clear hL_
  have hu42 := Tryd.underlying42
  have HB := Aside0.mk (Below.refl w.heap.size w)
  have H : ((cron_field_all.f a1_0 a1_1).bind fun t103 => (if a0 = t103 then (some (⟨#[42]⟩ : ByteArray)) else (cron_told.l0 k a0 (⟨#[]⟩ : ByteArray)))) = some r := h
  clear h
  replace H := Option.bind_eq_some_iff.mp H
  obtain ⟨t103, A30, H⟩ := H
  replace H : (if a0 = t103 then (some (⟨#[42]⟩ : ByteArray)) else (cron_told.l0 k a0 (⟨#[]⟩ : ByteArray))) = some r := H
  have A3 := Aside0.mk A30
  clear A30
  by_cases c4 : a0 = t103
  · rw [if_pos c4] at H
    have c4b0 : (a0 == t103) = true := beq_iff_eq.mpr c4
    have c4b1 : (a0 != t103) = false := bne_eq_false_iff_eq.mpr c4
    clear c4
    obtain rfl := Option.some.inj H
    go_enter Tryd.func26, Tryd.ntmps26
    go_wp2_with (first | ((with_reducible refine gate_dst (N := 3) rfl ?_); refine box_event ?hg (N := 3) ?hd (cs := #[.int .i64 a1_0, .int .i64 a1_1]) (t := 42) ?hr ?_; (case hd => rfl); (case hg => rfl); (case hr => first | (go_simp; done) | (go_simp; rfl)); intro gb102 hg w5 hbox hb; have n0_ := Aside0.mk (below_step (by repeat (first | (with_reducible first | exact HB.out | apply below_alloc | apply pw_below_drewN | apply below_drew1) | exact HB.out)) hb); have n1_ := Aside0.mk (hbox); have n2_ := Aside0.mk ((by rw [hg]; exact (below_size (by repeat (first | (with_reducible first | exact HB.out | apply below_alloc | apply pw_below_drewN | apply below_drew1) | exact HB.out))) : w.heap.size ≤ gb102)); have n3_ := Aside0.mk ((by rw [hg]; exact (below_size (by repeat (first | (with_reducible first | exact HB.out | apply below_alloc | apply pw_below_drewN | apply below_drew1) | exact HB.out))) : w.heap.size ≤ gb102)); clear HB; have HB := n0_; have BK102 := n1_; have GW102 := n2_; have GE102 := n3_; clear n0_ n1_ n2_ n3_; clear hb hbox hg; have hcz6_0 : w5.cell? ⟨gb102, 0, none⟩ = some (.int .i64 a1_0) := (blk_cell BK102.out 0).trans rfl; have hcz6_1 : w5.cell? ⟨gb102, 1, none⟩ = some (.int .i64 a1_1) := (blk_cell BK102.out 1).trans rfl; have hfz6_0 := blk_frozen BK102.out 0; have hfz6_1 := blk_frozen BK102.out 1) | ((with_reducible refine gate_callee (f := 29) rfl ?_); refine goesL_ (some 10) rfl rfl Tryd.func29 (by kernel_rfl) rfl #[.agg #[.int .i64 a1_0, .int .i64 a1_1]] rfl (by (try simp only [List.map_toArray, List.map_cons, List.map_nil]); first | done | rfl | (simp only [List.length_drop, List.length_take]; rfl)) ?_; (with_reducible refine (cron_field_all.calls a1_0 a1_1 t103 _ A3.out).mono ?_); rintro e w7 ⟨rfl, hb⟩; refine ⟨_, rfl, ?_⟩; have n0_ := Aside0.mk (blk_below (g := gb102) (o := .cells #[.int .i64 a1_0, .int .i64 a1_1] 42 (0, 0)) (by (with_reducible repeat (first | refine blk_drewN ?_ _ | refine blk_drew ?_ | refine blk_alloc ?_ _)); exact BK102.out) hb); have n1_ := Aside0.mk (below_step (by repeat (first | (with_reducible first | exact HB.out | apply below_alloc | apply pw_below_drewN | apply below_drew1 | refine below_set ?_ GE102.out) | exact HB.out)) hb); clear BK102; clear HB; have BK102 := n0_; have HB := n1_; clear n0_ n1_; (try clear hb); (try clear hb2); (try clear hk); (try clear hi)))
    go_ret
    exact ⟨by first | rfl | (simp [errW_none, errW_some] <;> rfl) | (simp [*, errW_none, errW_some] <;> rfl), by repeat (first | (with_reducible first | exact HB.out | apply below_alloc | apply pw_below_drewN | apply below_drew1 | refine below_set ?_ GE102.out) | exact HB.out)⟩
  · rw [if_neg c4] at H
    have c4b0 : (a0 == t103) = false := beq_eq_false_iff_ne.mpr c4
    have c4b1 : (a0 != t103) = true := bne_iff_ne.mpr c4
    have H' := Aside0.mk H
    clear H
    go_enter Tryd.func26, Tryd.ntmps26
    go_wp2_with (first | ((with_reducible refine gate_dst (N := 3) rfl ?_); refine box_event ?hg (N := 3) ?hd (cs := #[.int .i64 a1_0, .int .i64 a1_1]) (t := 42) ?hr ?_; (case hd => rfl); (case hg => rfl); (case hr => first | (go_simp; done) | (go_simp; rfl)); intro gb102 hg w8 hbox hb; have n0_ := Aside0.mk (below_step (by repeat (first | (with_reducible first | exact HB.out | apply below_alloc | apply pw_below_drewN | apply below_drew1) | exact HB.out)) hb); have n1_ := Aside0.mk (hbox); have n2_ := Aside0.mk ((by rw [hg]; exact (below_size (by repeat (first | (with_reducible first | exact HB.out | apply below_alloc | apply pw_below_drewN | apply below_drew1) | exact HB.out))) : w.heap.size ≤ gb102)); have n3_ := Aside0.mk ((by rw [hg]; exact (below_size (by repeat (first | (with_reducible first | exact HB.out | apply below_alloc | apply pw_below_drewN | apply below_drew1) | exact HB.out))) : w.heap.size ≤ gb102)); clear HB; have HB := n0_; have BK102 := n1_; have GW102 := n2_; have GE102 := n3_; clear n0_ n1_ n2_ n3_; clear hb hbox hg; have hcz9_0 : w8.cell? ⟨gb102, 0, none⟩ = some (.int .i64 a1_0) := (blk_cell BK102.out 0).trans rfl; have hcz9_1 : w8.cell? ⟨gb102, 1, none⟩ = some (.int .i64 a1_1) := (blk_cell BK102.out 1).trans rfl; have hfz9_0 := blk_frozen BK102.out 0; have hfz9_1 := blk_frozen BK102.out 1) | ((with_reducible refine gate_callee (f := 29) rfl ?_); refine goesL_ (some 10) rfl rfl Tryd.func29 (by kernel_rfl) rfl #[.agg #[.int .i64 a1_0, .int .i64 a1_1]] rfl (by (try simp only [List.map_toArray, List.map_cons, List.map_nil]); first | done | rfl | (simp only [List.length_drop, List.length_take]; rfl)) ?_; (with_reducible refine (cron_field_all.calls a1_0 a1_1 t103 _ A3.out).mono ?_); rintro e w10 ⟨rfl, hb⟩; refine ⟨_, rfl, ?_⟩; have n0_ := Aside0.mk (blk_below (g := gb102) (o := .cells #[.int .i64 a1_0, .int .i64 a1_1] 42 (0, 0)) (by (with_reducible repeat (first | refine blk_drewN ?_ _ | refine blk_drew ?_ | refine blk_alloc ?_ _)); exact BK102.out) hb); have n1_ := Aside0.mk (below_step (by repeat (first | (with_reducible first | exact HB.out | apply below_alloc | apply pw_below_drewN | apply below_drew1 | refine below_set ?_ GE102.out) | exact HB.out)) hb); clear BK102; clear HB; have BK102 := n0_; have HB := n1_; clear n0_ n1_; (try clear hb); (try clear hb2); (try clear hk); (try clear hi)))
    go_loopg [0, 5] k (fun kq v0 v5 w' => ∃ (x0_1 : Int) (x5_1 : ByteArray), v0 = .int .u64 x0_1 ∧ v5 = .string x5_1 ∧ Aside0 (cron_told.l0 kq x0_1 x5_1 = some r) ∧ Aside0 (kq ≤ k) ∧ Aside0 (w'.heap[gb102]? = some (.cells #[.int .i64 a1_0, .int .i64 a1_1] 42 (0, 0))) ∧ Aside0 (Below w.heap.size w w'))
    case atStart => exact ⟨(a0), ((⟨#[]⟩ : ByteArray)), (by first | rfl | (simp; done) | (simp [*]; done)), (by first | rfl | (simp; done) | (simp [*]; done)), H', ⟨Nat.le_refl _⟩, ⟨by (with_reducible repeat (first | refine blk_drewN ?_ _ | refine blk_drew ?_ | refine blk_alloc ?_ _)); exact BK102.out⟩, ⟨by repeat (first | (with_reducible first | exact HB.out | apply below_alloc | apply pw_below_drewN | apply below_drew1 | refine below_set ?_ GE102.out) | exact HB.out)⟩⟩
    case round =>
      clear H'
      try clear c2
      try clear p2
      try clear c4
      try clear c4b0
      try clear c4b1
      try clear hcz6_0
      try clear hcz6_1
      try clear hcz9_0
      try clear hcz9_1
      try clear hfz6_0
      try clear hfz6_1
      try clear hfz9_0
      try clear hfz9_1
      obtain ⟨x0_1, x5_1, rfl, rfl, HA, HK1, BK102, HB⟩ := hrel
      cases gk with
      | zero => exact absurd HA.out (by simp [cron_told.l0])
      | succ k1 =>
        have H := HA.out
        clear HA
        simp only [cron_told.l0] at H
        by_cases c11 : x0_1 = 0
        · rw [if_pos c11] at H
          have c11b0 : (x0_1 == 0) = true := beq_iff_eq.mpr c11
          have c11b1 : (x0_1 != 0) = false := bne_eq_false_iff_eq.mpr c11
          clear c11
          obtain rfl := Option.some.inj H
          go_wp2
          go_ret
          exact ⟨by first | rfl | (simp [errW_none, errW_some] <;> rfl) | (simp [*, errW_none, errW_some] <;> rfl), by repeat (first | (with_reducible first | exact HB.out | apply below_alloc | apply pw_below_drewN | apply below_drew1 | refine below_set ?_ GE102.out) | exact HB.out)⟩
        · rw [if_neg c11] at H
          have c11b0 : (x0_1 == 0) = false := beq_eq_false_iff_ne.mpr c11
          have c11b1 : (x0_1 != 0) = true := bne_iff_ne.mpr c11
          replace H := Option.bind_eq_some_iff.mp H
          obtain ⟨t104, A120, H⟩ := H
          replace H : (if 0 ≤ (IntKind.u64.wrap (t104)) then ((Ca.tz.f (Go.bits .xor .u64 18446744073709551615 (shr .u64 x0_1 (IntKind.u64.wrap (t104))))).bind fun t105 => (if x5_1.toList = ([] : List UInt8) then (cron_told.j1 k1 x0_1 x5_1 t104 t105) else (if x5_1.size + 1 ≤ 9223372036854775807 then (cron_told.j1 k1 x0_1 (x5_1 ++ (⟨#[44]⟩ : ByteArray)) t104 t105) else (none)))) else (none)) = some r := H
          have A12 := Aside0.mk A120
          clear A120
          obtain ⟨ji13, hji13⟩ : ∃ j_ : Int, (IntKind.u64.wrap (t104)) = j_ := ⟨_, rfl⟩
          replace H : (if 0 ≤ (ji13) then ((Ca.tz.f (Go.bits .xor .u64 18446744073709551615 (shr .u64 x0_1 (ji13)))).bind fun t105 => (if x5_1.toList = ([] : List UInt8) then (cron_told.j1 k1 x0_1 x5_1 t104 t105) else (if x5_1.size + 1 ≤ 9223372036854775807 then (cron_told.j1 k1 x0_1 (x5_1 ++ (⟨#[44]⟩ : ByteArray)) t104 t105) else (none)))) else (none)) = some r := by first | (rw [hji13] at H; exact H) | (simp only [hji13] at H ⊢; exact H)
          (try rw [hji13] at A12)
          by_cases c14 : 0 ≤ (ji13)
          · rw [if_pos c14] at H
            have c14b0 := eq_true c14
            have c14b1 : decide (0 ≤ (ji13)) = true := decide_eq_true c14
            clear c14
            obtain ⟨ji15, hji15⟩ : ∃ j_ : Int, (shr .u64 x0_1 (ji13)) = j_ := ⟨_, rfl⟩
            replace H : ((Ca.tz.f (Go.bits .xor .u64 18446744073709551615 (ji15))).bind fun t105 => (if x5_1.toList = ([] : List UInt8) then (cron_told.j1 k1 x0_1 x5_1 t104 t105) else (if x5_1.size + 1 ≤ 9223372036854775807 then (cron_told.j1 k1 x0_1 (x5_1 ++ (⟨#[44]⟩ : ByteArray)) t104 t105) else (none)))) = some r := by first | (rw [hji15] at H; exact H) | (simp only [hji15] at H ⊢; exact H)
            (try rw [hji15] at A12)
            have hji15_ : (x0_1 / 2 ^ min (ji13).toNat 64) = ji15 := hji15
            have hji15z : (ji13) ≤ 64 → (x0_1 / 2 ^ (ji13).toNat) = ji15 := shr_small hji15
            replace H := Option.bind_eq_some_iff.mp H
            obtain ⟨t105, A160, H⟩ := H
            replace H : (if x5_1.toList = ([] : List UInt8) then (cron_told.j1 k1 x0_1 x5_1 t104 t105) else (if x5_1.size + 1 ≤ 9223372036854775807 then (cron_told.j1 k1 x0_1 (x5_1 ++ (⟨#[44]⟩ : ByteArray)) t104 t105) else (none))) = some r := H
            have A16 := Aside0.mk A160
            clear A160
            have HC17 := Aside0.mk H
            clear H
            go_upto_if 23 with (first | ((with_reducible refine gate_callee (f := 43) rfl ?_); refine goesL_ (some 15) rfl rfl Tryd.func43 (by kernel_rfl) rfl #[.int .u64 x0_1] rfl (by (try simp only [List.map_toArray, List.map_cons, List.map_nil]); first | done | rfl | (simp only [List.length_drop, List.length_take]; rfl)) ?_; (with_reducible refine (Ca.tz.calls x0_1 t104 _ A12.out (by first | exact HL_.out | exact Go.Proofs.YtkmcmgfmahildaaDoor.Laid.Laid.below HL_.out (by repeat (first | (with_reducible first | exact HB.out | exact Below.refl _ _ | exact (‹Aside0 (Below _ _ _)›).out | apply below_alloc | apply pw_below_drewN | apply below_drew1) | exact HB.out | exact (‹Aside0 (Below _ _ _)›).out)))).mono ?_); rintro e w' ⟨rfl, ⟨nd, rfl⟩⟩; refine ⟨_, rfl, ?_⟩) | ((with_reducible refine gate_callee (f := 43) rfl ?_); refine goesL_ (some 21) rfl rfl Tryd.func43 (by kernel_rfl) rfl #[.int .u64 (Go.bits .xor .u64 18446744073709551615 (ji15))] rfl (by (try simp only [List.map_toArray, List.map_cons, List.map_nil]); first | done | (simp only [hji15]; rfl) | rfl | (simp only [List.length_drop, List.length_take]; rfl)) ?_; (with_reducible refine (Ca.tz.calls (Go.bits .xor .u64 18446744073709551615 (ji15)) t105 _ A16.out (by first | exact HL_.out | exact Go.Proofs.YtkmcmgfmahildaaDoor.Laid.Laid.below HL_.out (by repeat (first | (with_reducible first | exact HB.out | exact Below.refl _ _ | exact (‹Aside0 (Below _ _ _)›).out | apply below_alloc | apply pw_below_drewN | apply below_drew1) | exact HB.out | exact (‹Aside0 (Below _ _ _)›).out)))).mono ?_); rintro e w' ⟨rfl, ⟨nd, rfl⟩⟩; refine ⟨_, rfl, ?_⟩))
            (try simp only [Act.put, List.setIfInBounds_toArray, List.set_cons_zero, List.set_cons_succ])
            go_cut [5] (fun v5 wc => ∃ (kq : Nat) (x5_16 : ByteArray), v5 = .string x5_16 ∧ Aside0 (cron_told.j1 kq x0_1 x5_16 t104 t105 = some r) ∧ Aside0 (kq ≤ k1) ∧ Aside0 (wc.heap[gb102]? = some (.cells #[.int .i64 a1_0, .int .i64 a1_1] 42 (0, 0))) ∧ Aside0 (Below w.heap.size w wc))
            case first =>
              have H := HC17.out
              clear HC17
              by_cases c18 : x5_1.toList = ([] : List UInt8)
              · rw [if_pos c18] at H
                have c18b0 : (x5_1.toList == ([] : List UInt8)) = true := beq_iff_eq.mpr c18
                have c18b1 : (x5_1.toList != ([] : List UInt8)) = false := bne_eq_false_iff_eq.mpr c18
                have c18e0 : x5_1.toList.isEmpty = true := by first | (rw [c18]; rfl) | (simpa using c18)
                have c18e1 : (!x5_1.toList.isEmpty) = false := by rw [c18e0]; rfl
                clear c18
                (first | rw [c18b0] | (simp only [i64_w, i32_w]; rw [c18b0]) | rw [c18e1] | rw [c18e0] | skip)
                have H' := Aside0.mk H
                clear H
                go_wp2
                go_meet
                case rel => exact ⟨_, (x5_1), (by first | rfl | (simp; done) | (simp [*]; done)), H', ⟨by have := HK1.out; first | omega | exact Nat.le_refl _⟩, ⟨by (with_reducible repeat (first | refine blk_drewN ?_ _ | refine blk_drew ?_ | refine blk_alloc ?_ _)); exact BK102.out⟩, ⟨by repeat (first | (with_reducible first | exact HB.out | apply below_alloc | apply pw_below_drewN | apply below_drew1 | refine below_set ?_ GE102.out) | exact HB.out)⟩⟩
              · rw [if_neg c18] at H
                have c18b0 : (x5_1.toList == ([] : List UInt8)) = false := beq_eq_false_iff_ne.mpr c18
                have c18b1 : (x5_1.toList != ([] : List UInt8)) = true := bne_iff_ne.mpr c18
                have c18e0 : x5_1.toList.isEmpty = false := by first | (rw [c18]; rfl) | (simpa using c18)
                have c18e1 : (!x5_1.toList.isEmpty) = true := by rw [c18e0]; rfl
                (first | rw [c18b0] | (simp only [i64_w, i32_w]; rw [c18b0]) | rw [c18e1] | rw [c18e0] | skip)
                by_cases c19 : x5_1.size + 1 ≤ 9223372036854775807
                · rw [if_pos c19] at H
                  have c19b0 := eq_true c19
                  have c19b1 : decide (x5_1.size + 1 ≤ 9223372036854775807) = true := decide_eq_true c19
                  try have c19b2 : (9223372036854775807 < x5_1.size + 1) = False := eq_false (Nat.not_lt.2 c19)
                  have H' := Aside0.mk H
                  clear H
                  go_wp2
                  go_meet
                  case rel => exact ⟨_, (x5_1 ++ (⟨#[44]⟩ : ByteArray)), (by first | rfl | (simp; done) | (simp [*]; done)), H', ⟨by have := HK1.out; first | omega | exact Nat.le_refl _⟩, ⟨by (with_reducible repeat (first | refine blk_drewN ?_ _ | refine blk_drew ?_ | refine blk_alloc ?_ _)); exact BK102.out⟩, ⟨by repeat (first | (with_reducible first | exact HB.out | apply below_alloc | apply pw_below_drewN | apply below_drew1 | refine below_set ?_ GE102.out) | exact HB.out)⟩⟩
                · rw [if_neg c19] at H
                  exact absurd H (by simp)
            case rest =>
              try clear hji13_
              try clear hji13z
              try clear hji13
              try clear hji15_
              try clear hji15z
              try clear hji15
              clear HC17
              try clear c1
              try clear c2
              try clear p2
              try clear c4
              try clear c4b0
              try clear c4b1
              try clear c11
              try clear c11b0
              try clear c11b1
              try clear c14
              try clear c14b0
              try clear c14b1
              try clear c18
              try clear c18b0
              try clear c18b1
              try clear c19
              try clear c19b0
              try clear c19b1
              try clear c19b2
              try clear hcz6_0
              try clear hcz6_1
              try clear hcz9_0
              try clear hcz9_1
              try clear hfz6_0
              try clear hfz6_1
              try clear hfz9_0
              try clear hfz9_1
              try clear p2
              obtain ⟨kq, x5_16, rfl, HA, HJ16, BK102, HB⟩ := hcut
              cases kq with
              | zero => exact absurd HA.out (by simp [cron_told.j1])
              | succ kj16 =>
                have H := HA.out
                clear HA
                simp only [cron_told.j1] at H
                replace H := Option.bind_eq_some_iff.mp H
                obtain ⟨t106, A200, H⟩ := H
                replace H : (if x5_16.size + t106.size ≤ 9223372036854775807 then (if t105 = 2 then ((Ca.itoa.f (wrap64 (t104 + 1))).bind fun t107 => (if 1 + t107.size ≤ 9223372036854775807 then (if (x5_16 ++ t106).size + ((⟨#[44]⟩ : ByteArray) ++ t107).size ≤ 9223372036854775807 then (if 0 ≤ (IntKind.u64.wrap (t105)) then (if 0 ≤ (IntKind.u64.wrap (t104)) then (cron_told.l0 kj16 (Go.bits .andNot .u64 x0_1 (shl .u64 (IntKind.u64.wrap ((shl .u64 1 (IntKind.u64.wrap (t105))) - 1)) (IntKind.u64.wrap (t104)))) ((x5_16 ++ t106) ++ ((⟨#[44]⟩ : ByteArray) ++ t107))) else (none)) else (none)) else (none)) else (none))) else (if t105 > 2 then ((Ca.itoa.f (wrap64 ((wrap64 (t104 + t105)) - 1))).bind fun t108 => (if 1 + t108.size ≤ 9223372036854775807 then (if (x5_16 ++ t106).size + ((⟨#[45]⟩ : ByteArray) ++ t108).size ≤ 9223372036854775807 then (if 0 ≤ (IntKind.u64.wrap (t105)) then (if 0 ≤ (IntKind.u64.wrap (t104)) then (cron_told.l0 kj16 (Go.bits .andNot .u64 x0_1 (shl .u64 (IntKind.u64.wrap ((shl .u64 1 (IntKind.u64.wrap (t105))) - 1)) (IntKind.u64.wrap (t104)))) ((x5_16 ++ t106) ++ ((⟨#[45]⟩ : ByteArray) ++ t108))) else (none)) else (none)) else (none)) else (none))) else (if 0 ≤ (IntKind.u64.wrap (t105)) then (if 0 ≤ (IntKind.u64.wrap (t104)) then (cron_told.l0 kj16 (Go.bits .andNot .u64 x0_1 (shl .u64 (IntKind.u64.wrap ((shl .u64 1 (IntKind.u64.wrap (t105))) - 1)) (IntKind.u64.wrap (t104)))) (x5_16 ++ t106)) else (none)) else (none)))) else (none)) = some r := H
                have A20 := Aside0.mk A200
                clear A200
                by_cases c21 : x5_16.size + t106.size ≤ 9223372036854775807
                · rw [if_pos c21] at H
                  have c21b0 := eq_true c21
                  have c21b1 : decide (x5_16.size + t106.size ≤ 9223372036854775807) = true := decide_eq_true c21
                  try have c21b2 : (9223372036854775807 < x5_16.size + t106.size) = False := eq_false (Nat.not_lt.2 c21)
                  by_cases c22 : t105 = 2
                  · rw [if_pos c22] at H
                    have c22b0 : (t105 == 2) = true := beq_iff_eq.mpr c22
                    have c22b1 : (t105 != 2) = false := bne_eq_false_iff_eq.mpr c22
                    clear c22
                    replace H := Option.bind_eq_some_iff.mp H
                    obtain ⟨t107, A230, H⟩ := H
                    replace H : (if 1 + t107.size ≤ 9223372036854775807 then (if (x5_16 ++ t106).size + ((⟨#[44]⟩ : ByteArray) ++ t107).size ≤ 9223372036854775807 then (if 0 ≤ (IntKind.u64.wrap (t105)) then (if 0 ≤ (IntKind.u64.wrap (t104)) then (cron_told.l0 kj16 (Go.bits .andNot .u64 x0_1 (shl .u64 (IntKind.u64.wrap ((shl .u64 1 (IntKind.u64.wrap (t105))) - 1)) (IntKind.u64.wrap (t104)))) ((x5_16 ++ t106) ++ ((⟨#[44]⟩ : ByteArray) ++ t107))) else (none)) else (none)) else (none)) else (none)) = some r := H
                    have A23 := Aside0.mk A230
                    clear A230
                    by_cases c24 : 1 + t107.size ≤ 9223372036854775807
                    · rw [if_pos c24] at H
                      have c24b0 := eq_true c24
                      have c24b1 : decide (1 + t107.size ≤ 9223372036854775807) = true := decide_eq_true c24
                      try have c24b2 : (9223372036854775807 < 1 + t107.size) = False := eq_false (Nat.not_lt.2 c24)
                      by_cases c25 : (x5_16 ++ t106).size + ((⟨#[44]⟩ : ByteArray) ++ t107).size ≤ 9223372036854775807
                      · rw [if_pos c25] at H
                        have c25b0 := eq_true c25
                        have c25b1 : decide ((x5_16 ++ t106).size + ((⟨#[44]⟩ : ByteArray) ++ t107).size ≤ 9223372036854775807) = true := decide_eq_true c25
                        try have c25b2 : (9223372036854775807 < (x5_16 ++ t106).size + ((⟨#[44]⟩ : ByteArray) ++ t107).size) = False := eq_false (Nat.not_lt.2 c25)
                        obtain ⟨ji26, hji26⟩ : ∃ j_ : Int, (IntKind.u64.wrap (t105)) = j_ := ⟨_, rfl⟩
                        replace H : (if 0 ≤ (ji26) then (if 0 ≤ (IntKind.u64.wrap (t104)) then (cron_told.l0 kj16 (Go.bits .andNot .u64 x0_1 (shl .u64 (IntKind.u64.wrap ((shl .u64 1 (ji26)) - 1)) (IntKind.u64.wrap (t104)))) ((x5_16 ++ t106) ++ ((⟨#[44]⟩ : ByteArray) ++ t107))) else (none)) else (none)) = some r := by first | (rw [hji26] at H; exact H) | (simp only [hji26] at H ⊢; exact H)
                        (try rw [hji26] at A20)
                        (try rw [hji26] at A23)
                        by_cases c27 : 0 ≤ (ji26)
                        · rw [if_pos c27] at H
                          have c27b0 := eq_true c27
                          have c27b1 : decide (0 ≤ (ji26)) = true := decide_eq_true c27
                          clear c27
                          obtain ⟨ji28, hji28⟩ : ∃ j_ : Int, (shl .u64 1 (ji26)) = j_ := ⟨_, rfl⟩
                          replace H : (if 0 ≤ (IntKind.u64.wrap (t104)) then (cron_told.l0 kj16 (Go.bits .andNot .u64 x0_1 (shl .u64 (IntKind.u64.wrap ((ji28) - 1)) (IntKind.u64.wrap (t104)))) ((x5_16 ++ t106) ++ ((⟨#[44]⟩ : ByteArray) ++ t107))) else (none)) = some r := by first | (rw [hji28] at H; exact H) | (simp only [hji28] at H ⊢; exact H)
                          (try rw [hji28] at A20)
                          (try rw [hji28] at A23)
                          have hji28_ : (IntKind.u64.wrap (1 * 2 ^ min (ji26).toNat 64)) = ji28 := hji28
                          have hji28z : (ji26) ≤ 64 → (IntKind.u64.wrap (1 * 2 ^ (ji26).toNat)) = ji28 := shl_small hji28
                          have hji28u : (IntKind.u64.wrap (2 ^ min (ji26).toNat 64)) = ji28 := by have h_ := hji28_; rw [Int.one_mul] at h_; exact h_
                          have hji28v : (ji26) ≤ 64 → (IntKind.u64.wrap (2 ^ (ji26).toNat)) = ji28 := fun hle_ => by have h_ := hji28z hle_; rw [Int.one_mul] at h_; exact h_
                          obtain ⟨ji29, hji29⟩ : ∃ j_ : Int, (IntKind.u64.wrap (t104)) = j_ := ⟨_, rfl⟩
                          replace H : (if 0 ≤ (ji29) then (cron_told.l0 kj16 (Go.bits .andNot .u64 x0_1 (shl .u64 (IntKind.u64.wrap ((ji28) - 1)) (ji29))) ((x5_16 ++ t106) ++ ((⟨#[44]⟩ : ByteArray) ++ t107))) else (none)) = some r := by first | (rw [hji29] at H; exact H) | (simp only [hji29] at H ⊢; exact H)
                          (try rw [hji29] at A20)
                          (try rw [hji29] at A23)
                          by_cases c30 : 0 ≤ (ji29)
                          · rw [if_pos c30] at H
                            have c30b0 := eq_true c30
                            have c30b1 : decide (0 ≤ (ji29)) = true := decide_eq_true c30
                            clear c30
                            obtain ⟨ji31, hji31⟩ : ∃ j_ : Int, (shl .u64 (IntKind.u64.wrap ((ji28) - 1)) (ji29)) = j_ := ⟨_, rfl⟩
                            replace H : (cron_told.l0 kj16 (Go.bits .andNot .u64 x0_1 (ji31)) ((x5_16 ++ t106) ++ ((⟨#[44]⟩ : ByteArray) ++ t107))) = some r := by first | (rw [hji31] at H; exact H) | (simp only [hji31] at H ⊢; exact H)
                            (try rw [hji31] at A20)
                            (try rw [hji31] at A23)
                            have hji31_ : (IntKind.u64.wrap ((IntKind.u64.wrap ((ji28) - 1)) * 2 ^ min (ji29).toNat 64)) = ji31 := hji31
                            have hji31z : (ji29) ≤ 64 → (IntKind.u64.wrap ((IntKind.u64.wrap ((ji28) - 1)) * 2 ^ (ji29).toNat)) = ji31 := shl_small hji31
                            have H' := Aside0.mk H
                            clear H
                            go_wp2_with (first | ((with_reducible refine gate_callee (f := 44) rfl ?_); refine goesL_ (some 28) rfl rfl Tryd.func44 (by kernel_rfl) rfl #[.int .i64 t104] rfl (by (try simp only [List.map_toArray, List.map_cons, List.map_nil]); first | done | rfl | (simp only [List.length_drop, List.length_take]; rfl)) ?_; (with_reducible refine (Ca.itoa.calls t104 t106 _ A20.out).mono ?_); rintro e w' ⟨rfl, ⟨nd, rfl⟩⟩; refine ⟨_, rfl, ?_⟩) | ((with_reducible refine gate_callee (f := 44) rfl ?_); refine goesL_ (some 36) rfl rfl Tryd.func44 (by kernel_rfl) rfl #[.int .i64 (wrap64 (t104 + 1))] rfl (by (try simp only [List.map_toArray, List.map_cons, List.map_nil]); first | done | rfl | (simp only [List.length_drop, List.length_take]; rfl)) ?_; (with_reducible refine (Ca.itoa.calls (wrap64 (t104 + 1)) t107 _ A23.out).mono ?_); rintro e w' ⟨rfl, ⟨nd, rfl⟩⟩; refine ⟨_, rfl, ?_⟩))
                            go_roundg kj16
                            case measure => have := HK1.out; have := HJ16.out; omega
                            case rel => exact ⟨(Go.bits .andNot .u64 x0_1 (ji31)), ((x5_16 ++ t106) ++ ((⟨#[44]⟩ : ByteArray) ++ t107)), (by first | rfl | (simp; done) | (simp only [← hji31] <;> (first | rfl | simp)) | (simp [*]; done)), (by first | rfl | (simp; done) | (simp [*]; done)), H', ⟨by have := HK1.out; have := HJ16.out; omega⟩, ⟨by (with_reducible repeat (first | refine blk_drewN ?_ _ | refine blk_drew ?_ | refine blk_alloc ?_ _)); exact BK102.out⟩, ⟨by repeat (first | (with_reducible first | exact HB.out | apply below_alloc | apply pw_below_drewN | apply below_drew1 | refine below_set ?_ GE102.out) | exact HB.out)⟩⟩
                          · rw [if_neg c30] at H
                            exact absurd H (by simp)
                        · rw [if_neg c27] at H
                          exact absurd H (by simp)
                      · rw [if_neg c25] at H
                        exact absurd H (by simp)
                    · rw [if_neg c24] at H
                      exact absurd H (by simp)
                  · rw [if_neg c22] at H
                    have c22b0 : (t105 == 2) = false := beq_eq_false_iff_ne.mpr c22
                    have c22b1 : (t105 != 2) = true := bne_iff_ne.mpr c22
                    by_cases c32 : t105 > 2
                    · rw [if_pos c32] at H
                      have c32b0 : decide (2 < t105) = true := decide_eq_true c32
                      clear c32
                      replace H := Option.bind_eq_some_iff.mp H
                      obtain ⟨t108, A330, H⟩ := H
                      replace H : (if 1 + t108.size ≤ 9223372036854775807 then (if (x5_16 ++ t106).size + ((⟨#[45]⟩ : ByteArray) ++ t108).size ≤ 9223372036854775807 then (if 0 ≤ (IntKind.u64.wrap (t105)) then (if 0 ≤ (IntKind.u64.wrap (t104)) then (cron_told.l0 kj16 (Go.bits .andNot .u64 x0_1 (shl .u64 (IntKind.u64.wrap ((shl .u64 1 (IntKind.u64.wrap (t105))) - 1)) (IntKind.u64.wrap (t104)))) ((x5_16 ++ t106) ++ ((⟨#[45]⟩ : ByteArray) ++ t108))) else (none)) else (none)) else (none)) else (none)) = some r := H
                      have A33 := Aside0.mk A330
                      clear A330
                      by_cases c34 : 1 + t108.size ≤ 9223372036854775807
                      · rw [if_pos c34] at H
                        have c34b0 := eq_true c34
                        have c34b1 : decide (1 + t108.size ≤ 9223372036854775807) = true := decide_eq_true c34
                        try have c34b2 : (9223372036854775807 < 1 + t108.size) = False := eq_false (Nat.not_lt.2 c34)
                        by_cases c35 : (x5_16 ++ t106).size + ((⟨#[45]⟩ : ByteArray) ++ t108).size ≤ 9223372036854775807
                        · rw [if_pos c35] at H
                          have c35b0 := eq_true c35
                          have c35b1 : decide ((x5_16 ++ t106).size + ((⟨#[45]⟩ : ByteArray) ++ t108).size ≤ 9223372036854775807) = true := decide_eq_true c35
                          try have c35b2 : (9223372036854775807 < (x5_16 ++ t106).size + ((⟨#[45]⟩ : ByteArray) ++ t108).size) = False := eq_false (Nat.not_lt.2 c35)
                          obtain ⟨ji36, hji36⟩ : ∃ j_ : Int, (IntKind.u64.wrap (t105)) = j_ := ⟨_, rfl⟩
                          replace H : (if 0 ≤ (ji36) then (if 0 ≤ (IntKind.u64.wrap (t104)) then (cron_told.l0 kj16 (Go.bits .andNot .u64 x0_1 (shl .u64 (IntKind.u64.wrap ((shl .u64 1 (ji36)) - 1)) (IntKind.u64.wrap (t104)))) ((x5_16 ++ t106) ++ ((⟨#[45]⟩ : ByteArray) ++ t108))) else (none)) else (none)) = some r := by first | (rw [hji36] at H; exact H) | (simp only [hji36] at H ⊢; exact H)
                          (try rw [hji36] at A20)
                          (try rw [hji36] at A33)
                          by_cases c37 : 0 ≤ (ji36)
                          · rw [if_pos c37] at H
                            have c37b0 := eq_true c37
                            have c37b1 : decide (0 ≤ (ji36)) = true := decide_eq_true c37
                            clear c37
                            obtain ⟨ji38, hji38⟩ : ∃ j_ : Int, (shl .u64 1 (ji36)) = j_ := ⟨_, rfl⟩
                            replace H : (if 0 ≤ (IntKind.u64.wrap (t104)) then (cron_told.l0 kj16 (Go.bits .andNot .u64 x0_1 (shl .u64 (IntKind.u64.wrap ((ji38) - 1)) (IntKind.u64.wrap (t104)))) ((x5_16 ++ t106) ++ ((⟨#[45]⟩ : ByteArray) ++ t108))) else (none)) = some r := by first | (rw [hji38] at H; exact H) | (simp only [hji38] at H ⊢; exact H)
                            (try rw [hji38] at A20)
                            (try rw [hji38] at A33)
                            have hji38_ : (IntKind.u64.wrap (1 * 2 ^ min (ji36).toNat 64)) = ji38 := hji38
                            have hji38z : (ji36) ≤ 64 → (IntKind.u64.wrap (1 * 2 ^ (ji36).toNat)) = ji38 := shl_small hji38
                            have hji38u : (IntKind.u64.wrap (2 ^ min (ji36).toNat 64)) = ji38 := by have h_ := hji38_; rw [Int.one_mul] at h_; exact h_
                            have hji38v : (ji36) ≤ 64 → (IntKind.u64.wrap (2 ^ (ji36).toNat)) = ji38 := fun hle_ => by have h_ := hji38z hle_; rw [Int.one_mul] at h_; exact h_
                            obtain ⟨ji39, hji39⟩ : ∃ j_ : Int, (IntKind.u64.wrap (t104)) = j_ := ⟨_, rfl⟩
                            replace H : (if 0 ≤ (ji39) then (cron_told.l0 kj16 (Go.bits .andNot .u64 x0_1 (shl .u64 (IntKind.u64.wrap ((ji38) - 1)) (ji39))) ((x5_16 ++ t106) ++ ((⟨#[45]⟩ : ByteArray) ++ t108))) else (none)) = some r := by first | (rw [hji39] at H; exact H) | (simp only [hji39] at H ⊢; exact H)
                            (try rw [hji39] at A20)
                            (try rw [hji39] at A33)
                            by_cases c40 : 0 ≤ (ji39)
                            · rw [if_pos c40] at H
                              have c40b0 := eq_true c40
                              have c40b1 : decide (0 ≤ (ji39)) = true := decide_eq_true c40
                              clear c40
                              obtain ⟨ji41, hji41⟩ : ∃ j_ : Int, (shl .u64 (IntKind.u64.wrap ((ji38) - 1)) (ji39)) = j_ := ⟨_, rfl⟩
                              replace H : (cron_told.l0 kj16 (Go.bits .andNot .u64 x0_1 (ji41)) ((x5_16 ++ t106) ++ ((⟨#[45]⟩ : ByteArray) ++ t108))) = some r := by first | (rw [hji41] at H; exact H) | (simp only [hji41] at H ⊢; exact H)
                              (try rw [hji41] at A20)
                              (try rw [hji41] at A33)
                              have hji41_ : (IntKind.u64.wrap ((IntKind.u64.wrap ((ji38) - 1)) * 2 ^ min (ji39).toNat 64)) = ji41 := hji41
                              have hji41z : (ji39) ≤ 64 → (IntKind.u64.wrap ((IntKind.u64.wrap ((ji38) - 1)) * 2 ^ (ji39).toNat)) = ji41 := shl_small hji41
                              have H' := Aside0.mk H
                              clear H
                              go_wp2_with (first | ((with_reducible refine gate_callee (f := 44) rfl ?_); refine goesL_ (some 28) rfl rfl Tryd.func44 (by kernel_rfl) rfl #[.int .i64 t104] rfl (by (try simp only [List.map_toArray, List.map_cons, List.map_nil]); first | done | rfl | (simp only [List.length_drop, List.length_take]; rfl)) ?_; (with_reducible refine (Ca.itoa.calls t104 t106 _ A20.out).mono ?_); rintro e w' ⟨rfl, ⟨nd, rfl⟩⟩; refine ⟨_, rfl, ?_⟩) | ((with_reducible refine gate_callee (f := 44) rfl ?_); refine goesL_ (some 47) rfl rfl Tryd.func44 (by kernel_rfl) rfl #[.int .i64 (wrap64 ((wrap64 (t104 + t105)) - 1))] rfl (by (try simp only [List.map_toArray, List.map_cons, List.map_nil]); first | done | rfl | (simp only [List.length_drop, List.length_take]; rfl)) ?_; (with_reducible refine (Ca.itoa.calls (wrap64 ((wrap64 (t104 + t105)) - 1)) t108 _ A33.out).mono ?_); rintro e w' ⟨rfl, ⟨nd, rfl⟩⟩; refine ⟨_, rfl, ?_⟩))
                              go_roundg kj16
                              case measure => have := HK1.out; have := HJ16.out; omega
                              case rel => exact ⟨(Go.bits .andNot .u64 x0_1 (ji41)), ((x5_16 ++ t106) ++ ((⟨#[45]⟩ : ByteArray) ++ t108)), (by first | rfl | (simp; done) | (simp only [← hji41] <;> (first | rfl | simp)) | (simp [*]; done)), (by first | rfl | (simp; done) | (simp [*]; done)), H', ⟨by have := HK1.out; have := HJ16.out; omega⟩, ⟨by (with_reducible repeat (first | refine blk_drewN ?_ _ | refine blk_drew ?_ | refine blk_alloc ?_ _)); exact BK102.out⟩, ⟨by repeat (first | (with_reducible first | exact HB.out | apply below_alloc | apply pw_below_drewN | apply below_drew1 | refine below_set ?_ GE102.out) | exact HB.out)⟩⟩
                            · rw [if_neg c40] at H
                              exact absurd H (by simp)
                          · rw [if_neg c37] at H
                            exact absurd H (by simp)
                        · rw [if_neg c35] at H
                          exact absurd H (by simp)
                      · rw [if_neg c34] at H
                        exact absurd H (by simp)
                    · rw [if_neg c32] at H
                      have c32b0 : decide (2 < t105) = false := decide_eq_false c32
                      clear c32
                      obtain ⟨ji42, hji42⟩ : ∃ j_ : Int, (IntKind.u64.wrap (t105)) = j_ := ⟨_, rfl⟩
                      replace H : (if 0 ≤ (ji42) then (if 0 ≤ (IntKind.u64.wrap (t104)) then (cron_told.l0 kj16 (Go.bits .andNot .u64 x0_1 (shl .u64 (IntKind.u64.wrap ((shl .u64 1 (ji42)) - 1)) (IntKind.u64.wrap (t104)))) (x5_16 ++ t106)) else (none)) else (none)) = some r := by first | (rw [hji42] at H; exact H) | (simp only [hji42] at H ⊢; exact H)
                      (try rw [hji42] at A20)
                      by_cases c43 : 0 ≤ (ji42)
                      · rw [if_pos c43] at H
                        have c43b0 := eq_true c43
                        have c43b1 : decide (0 ≤ (ji42)) = true := decide_eq_true c43
                        clear c43
                        obtain ⟨ji44, hji44⟩ : ∃ j_ : Int, (shl .u64 1 (ji42)) = j_ := ⟨_, rfl⟩
                        replace H : (if 0 ≤ (IntKind.u64.wrap (t104)) then (cron_told.l0 kj16 (Go.bits .andNot .u64 x0_1 (shl .u64 (IntKind.u64.wrap ((ji44) - 1)) (IntKind.u64.wrap (t104)))) (x5_16 ++ t106)) else (none)) = some r := by first | (rw [hji44] at H; exact H) | (simp only [hji44] at H ⊢; exact H)
                        (try rw [hji44] at A20)
                        have hji44_ : (IntKind.u64.wrap (1 * 2 ^ min (ji42).toNat 64)) = ji44 := hji44
                        have hji44z : (ji42) ≤ 64 → (IntKind.u64.wrap (1 * 2 ^ (ji42).toNat)) = ji44 := shl_small hji44
                        have hji44u : (IntKind.u64.wrap (2 ^ min (ji42).toNat 64)) = ji44 := by have h_ := hji44_; rw [Int.one_mul] at h_; exact h_
                        have hji44v : (ji42) ≤ 64 → (IntKind.u64.wrap (2 ^ (ji42).toNat)) = ji44 := fun hle_ => by have h_ := hji44z hle_; rw [Int.one_mul] at h_; exact h_
                        obtain ⟨ji45, hji45⟩ : ∃ j_ : Int, (IntKind.u64.wrap (t104)) = j_ := ⟨_, rfl⟩
                        replace H : (if 0 ≤ (ji45) then (cron_told.l0 kj16 (Go.bits .andNot .u64 x0_1 (shl .u64 (IntKind.u64.wrap ((ji44) - 1)) (ji45))) (x5_16 ++ t106)) else (none)) = some r := by first | (rw [hji45] at H; exact H) | (simp only [hji45] at H ⊢; exact H)
                        (try rw [hji45] at A20)
                        by_cases c46 : 0 ≤ (ji45)
                        · rw [if_pos c46] at H
                          have c46b0 := eq_true c46
                          have c46b1 : decide (0 ≤ (ji45)) = true := decide_eq_true c46
                          clear c46
                          obtain ⟨ji47, hji47⟩ : ∃ j_ : Int, (shl .u64 (IntKind.u64.wrap ((ji44) - 1)) (ji45)) = j_ := ⟨_, rfl⟩
                          replace H : (cron_told.l0 kj16 (Go.bits .andNot .u64 x0_1 (ji47)) (x5_16 ++ t106)) = some r := by first | (rw [hji47] at H; exact H) | (simp only [hji47] at H ⊢; exact H)
                          (try rw [hji47] at A20)
                          have hji47_ : (IntKind.u64.wrap ((IntKind.u64.wrap ((ji44) - 1)) * 2 ^ min (ji45).toNat 64)) = ji47 := hji47
                          have hji47z : (ji45) ≤ 64 → (IntKind.u64.wrap ((IntKind.u64.wrap ((ji44) - 1)) * 2 ^ (ji45).toNat)) = ji47 := shl_small hji47
                          have H' := Aside0.mk H
                          clear H
                          go_wp2_with (first | ((with_reducible refine gate_callee (f := 44) rfl ?_); refine goesL_ (some 28) rfl rfl Tryd.func44 (by kernel_rfl) rfl #[.int .i64 t104] rfl (by (try simp only [List.map_toArray, List.map_cons, List.map_nil]); first | done | rfl | (simp only [List.length_drop, List.length_take]; rfl)) ?_; (with_reducible refine (Ca.itoa.calls t104 t106 _ A20.out).mono ?_); rintro e w' ⟨rfl, ⟨nd, rfl⟩⟩; refine ⟨_, rfl, ?_⟩))
                          go_roundg kj16
                          case measure => have := HK1.out; have := HJ16.out; omega
                          case rel => exact ⟨(Go.bits .andNot .u64 x0_1 (ji47)), (x5_16 ++ t106), (by first | rfl | (simp; done) | (simp only [← hji47] <;> (first | rfl | simp)) | (simp [*]; done)), (by first | rfl | (simp; done) | (simp [*]; done)), H', ⟨by have := HK1.out; have := HJ16.out; omega⟩, ⟨by (with_reducible repeat (first | refine blk_drewN ?_ _ | refine blk_drew ?_ | refine blk_alloc ?_ _)); exact BK102.out⟩, ⟨by repeat (first | (with_reducible first | exact HB.out | apply below_alloc | apply pw_below_drewN | apply below_drew1 | refine below_set ?_ GE102.out) | exact HB.out)⟩⟩
                        · rw [if_neg c46] at H
                          exact absurd H (by simp)
                      · rw [if_neg c43] at H
                        exact absurd H (by simp)
                · rw [if_neg c21] at H
                  exact absurd H (by simp)
          · rw [if_neg c14] at H
            exact absurd H (by simp)

end Go.Proofs.YtkmcmgfmahildaaDoor.OA
