/- Walks of functions, written by a program (wip/tools/own.py) over hand contracts; conditions: as each theorem states. -/
import Derived.Test.YtkmcmgfmahildaaDoorOAx0
namespace Go.Proofs.YtkmcmgfmahildaaDoor.OA
open Go.RowKit Go.Proofs.YtkmcmgfmahildaaDoorW.PrintWords Go.Proofs.YtkmcmgfmahildaaDoorW.PrintLast Go.Proofs.YtkmcmgfmahildaaDoorW.PrintMore
attribute [local go_sem] max2_int min2_int max_two min_two max_three min_three max_four min_four   -- for this text's walks alone
set_option linter.unusedVariables false
set_option linter.unusedSimpArgs false

/-! ### cron_field_all: function 29 -/
def cron_field_all.f (a0_0 : Int) (a0_1 : Int) : Option (Int) := if 0 ≤ (IntKind.u64.wrap (wrap64 (a0_1 + 1))) then (if 0 ≤ (IntKind.u64.wrap (a0_0)) then (some (IntKind.u64.wrap ((shl .u64 1 (IntKind.u64.wrap (wrap64 (a0_1 + 1)))) - (shl .u64 1 (IntKind.u64.wrap (a0_0)))))) else (none)) else (none)
set_option maxHeartbeats 8000000 in
set_option maxRecDepth 100000 in
theorem cron_field_all.calls (a0_0 : Int) (a0_1 : Int) (r : Int) (w : World) (h : cron_field_all.f a0_0 a0_1 = some r) :
    Calls Tryd.prog 29 #[.agg #[.int .i64 a0_0, .int .i64 a0_1]] w fun e w' => e = .returned (.int .u64 r) ∧ Below w.heap.size w w' := by
  have hu42 := Tryd.underlying42
  have HB := Aside0.mk (Below.refl w.heap.size w)
  have H : (if 0 ≤ (IntKind.u64.wrap (wrap64 (a0_1 + 1))) then (if 0 ≤ (IntKind.u64.wrap (a0_0)) then (some (IntKind.u64.wrap ((shl .u64 1 (IntKind.u64.wrap (wrap64 (a0_1 + 1)))) - (shl .u64 1 (IntKind.u64.wrap (a0_0)))))) else (none)) else (none)) = some r := h
  clear h
  obtain ⟨ji2, hji2⟩ : ∃ j_ : Int, (IntKind.u64.wrap (wrap64 (a0_1 + 1))) = j_ := ⟨_, rfl⟩
  replace H : (if 0 ≤ (ji2) then (if 0 ≤ (IntKind.u64.wrap (a0_0)) then (some (IntKind.u64.wrap ((shl .u64 1 (ji2)) - (shl .u64 1 (IntKind.u64.wrap (a0_0)))))) else (none)) else (none)) = some r := by first | (rw [hji2] at H; exact H) | (simp only [hji2] at H ⊢; exact H)
  by_cases c3 : 0 ≤ (ji2)
  · rw [if_pos c3] at H
    have c3b0 := eq_true c3
    have c3b1 : decide (0 ≤ (ji2)) = true := decide_eq_true c3
    clear c3
    obtain ⟨ji4, hji4⟩ : ∃ j_ : Int, (shl .u64 1 (ji2)) = j_ := ⟨_, rfl⟩
    replace H : (if 0 ≤ (IntKind.u64.wrap (a0_0)) then (some (IntKind.u64.wrap ((ji4) - (shl .u64 1 (IntKind.u64.wrap (a0_0)))))) else (none)) = some r := by first | (rw [hji4] at H; exact H) | (simp only [hji4] at H ⊢; exact H)
    have hji4_ : (IntKind.u64.wrap (1 * 2 ^ min (ji2).toNat 64)) = ji4 := hji4
    have hji4z : (ji2) ≤ 64 → (IntKind.u64.wrap (1 * 2 ^ (ji2).toNat)) = ji4 := shl_small hji4
    have hji4u : (IntKind.u64.wrap (2 ^ min (ji2).toNat 64)) = ji4 := by have h_ := hji4_; rw [Int.one_mul] at h_; exact h_
    have hji4v : (ji2) ≤ 64 → (IntKind.u64.wrap (2 ^ (ji2).toNat)) = ji4 := fun hle_ => by have h_ := hji4z hle_; rw [Int.one_mul] at h_; exact h_
    obtain ⟨ji5, hji5⟩ : ∃ j_ : Int, (IntKind.u64.wrap (a0_0)) = j_ := ⟨_, rfl⟩
    replace H : (if 0 ≤ (ji5) then (some (IntKind.u64.wrap ((ji4) - (shl .u64 1 (ji5))))) else (none)) = some r := by first | (rw [hji5] at H; exact H) | (simp only [hji5] at H ⊢; exact H)
    by_cases c6 : 0 ≤ (ji5)
    · rw [if_pos c6] at H
      have c6b0 := eq_true c6
      have c6b1 : decide (0 ≤ (ji5)) = true := decide_eq_true c6
      clear c6
      obtain ⟨ji7, hji7⟩ : ∃ j_ : Int, (shl .u64 1 (ji5)) = j_ := ⟨_, rfl⟩
      replace H : (some (IntKind.u64.wrap ((ji4) - (ji7)))) = some r := by first | (rw [hji7] at H; exact H) | (simp only [hji7] at H ⊢; exact H)
      have hji7_ : (IntKind.u64.wrap (1 * 2 ^ min (ji5).toNat 64)) = ji7 := hji7
      have hji7z : (ji5) ≤ 64 → (IntKind.u64.wrap (1 * 2 ^ (ji5).toNat)) = ji7 := shl_small hji7
      have hji7u : (IntKind.u64.wrap (2 ^ min (ji5).toNat 64)) = ji7 := by have h_ := hji7_; rw [Int.one_mul] at h_; exact h_
      have hji7v : (ji5) ≤ 64 → (IntKind.u64.wrap (2 ^ (ji5).toNat)) = ji7 := fun hle_ => by have h_ := hji7z hle_; rw [Int.one_mul] at h_; exact h_
      obtain rfl := Option.some.inj H
      go_enter Tryd.func29, Tryd.ntmps29
      go_wp2_with (first | ((with_reducible refine gate_dst (N := 1) rfl ?_); refine box_event ?hg (N := 1) ?hd (cs := #[.int .i64 a0_0, .int .i64 a0_1]) (t := 42) ?hr ?_; (case hd => rfl); (case hg => rfl); (case hr => first | (go_simp; done) | (go_simp; rfl)); intro gb101 hg w8 hbox hb; have n0_ := Aside0.mk (below_step (by repeat (first | (with_reducible first | exact HB.out | apply below_alloc | apply pw_below_drewN | apply below_drew1) | exact HB.out)) hb); have n1_ := Aside0.mk (hbox); have n2_ := Aside0.mk ((by rw [hg]; exact (below_size (by repeat (first | (with_reducible first | exact HB.out | apply below_alloc | apply pw_below_drewN | apply below_drew1) | exact HB.out))) : w.heap.size ≤ gb101)); have n3_ := Aside0.mk ((by rw [hg]; exact (below_size (by repeat (first | (with_reducible first | exact HB.out | apply below_alloc | apply pw_below_drewN | apply below_drew1) | exact HB.out))) : w.heap.size ≤ gb101)); clear HB; have HB := n0_; have BK101 := n1_; have GW101 := n2_; have GE101 := n3_; clear n0_ n1_ n2_ n3_; clear hb hbox hg; have hcz9_0 : w8.cell? ⟨gb101, 0, none⟩ = some (.int .i64 a0_0) := (blk_cell BK101.out 0).trans rfl; have hcz9_1 : w8.cell? ⟨gb101, 1, none⟩ = some (.int .i64 a0_1) := (blk_cell BK101.out 1).trans rfl; have hfz9_0 := blk_frozen BK101.out 0; have hfz9_1 := blk_frozen BK101.out 1))
      go_ret
      exact ⟨by first | rfl | (simp [errW_none, errW_some] <;> rfl) | (simp only [← hji2, ← hji4, ← hji5, ← hji7]; first | rfl | (simp [errW_none, errW_some] <;> rfl)) | (simp [*, errW_none, errW_some] <;> rfl), by repeat (first | (with_reducible first | exact HB.out | apply below_alloc | apply pw_below_drewN | apply below_drew1 | refine below_set ?_ GE101.out) | exact HB.out)⟩
    · rw [if_neg c6] at H
      exact absurd H (by simp)
  · rw [if_neg c3] at H
    exact absurd H (by simp)

-- BY HAND: function 43 (Ca.tz)

-- BY HAND: function 44 (Ca.itoa)



/-! ### cron_told: function 26 -/
mutual
def cron_told.l0 : Nat → Int → ByteArray → Option (ByteArray)
  | 0, _, _ => none
  | k + 1, x0, x5 => if x0 = 0 then (some x5) else ((Ca.tz.f x0).bind fun t104 => (if 0 ≤ (IntKind.u64.wrap (t104)) then ((Ca.tz.f (Go.bits .xor .u64 18446744073709551615 (shr .u64 x0 (IntKind.u64.wrap (t104))))).bind fun t105 => (if x5.toList = ([] : List UInt8) then (cron_told.j1 k x0 x5 t104 t105) else (if x5.size + 1 ≤ 9223372036854775807 then (cron_told.j1 k x0 (x5 ++ (⟨#[44]⟩ : ByteArray)) t104 t105) else (none)))) else (none)))
def cron_told.j1 : Nat → Int → ByteArray → Int → Int → Option (ByteArray)
  | 0, _, _, _, _ => none
  | k + 1, x0, x5, x6, x7 => (Ca.itoa.f x6).bind fun t106 => (if x5.size + t106.size ≤ 9223372036854775807 then (if x7 = 2 then ((Ca.itoa.f (wrap64 (x6 + 1))).bind fun t107 => (if 1 + t107.size ≤ 9223372036854775807 then (if (x5 ++ t106).size + ((⟨#[44]⟩ : ByteArray) ++ t107).size ≤ 9223372036854775807 then (if 0 ≤ (IntKind.u64.wrap (x7)) then (if 0 ≤ (IntKind.u64.wrap (x6)) then (cron_told.l0 k (Go.bits .andNot .u64 x0 (shl .u64 (IntKind.u64.wrap ((shl .u64 1 (IntKind.u64.wrap (x7))) - 1)) (IntKind.u64.wrap (x6)))) ((x5 ++ t106) ++ ((⟨#[44]⟩ : ByteArray) ++ t107))) else (none)) else (none)) else (none)) else (none))) else (if x7 > 2 then ((Ca.itoa.f (wrap64 ((wrap64 (x6 + x7)) - 1))).bind fun t108 => (if 1 + t108.size ≤ 9223372036854775807 then (if (x5 ++ t106).size + ((⟨#[45]⟩ : ByteArray) ++ t108).size ≤ 9223372036854775807 then (if 0 ≤ (IntKind.u64.wrap (x7)) then (if 0 ≤ (IntKind.u64.wrap (x6)) then (cron_told.l0 k (Go.bits .andNot .u64 x0 (shl .u64 (IntKind.u64.wrap ((shl .u64 1 (IntKind.u64.wrap (x7))) - 1)) (IntKind.u64.wrap (x6)))) ((x5 ++ t106) ++ ((⟨#[45]⟩ : ByteArray) ++ t108))) else (none)) else (none)) else (none)) else (none))) else (if 0 ≤ (IntKind.u64.wrap (x7)) then (if 0 ≤ (IntKind.u64.wrap (x6)) then (cron_told.l0 k (Go.bits .andNot .u64 x0 (shl .u64 (IntKind.u64.wrap ((shl .u64 1 (IntKind.u64.wrap (x7))) - 1)) (IntKind.u64.wrap (x6)))) (x5 ++ t106)) else (none)) else (none)))) else (none))
end
def cron_told.f (k : Nat) (a0 : Int) (a1_0 : Int) (a1_1 : Int) : Option (ByteArray) := (cron_field_all.f a1_0 a1_1).bind fun t103 => (if a0 = t103 then (some (⟨#[42]⟩ : ByteArray)) else (cron_told.l0 k a0 (⟨#[]⟩ : ByteArray)))
theorem cron_told.mono_l : ∀ k, (∀ y0 y1, LeO (cron_told.l0 k y0 y1) (cron_told.l0 (k + 1) y0 y1)) ∧ (∀ y0 y1 y2 y3, LeO (cron_told.j1 k y0 y1 y2 y3) (cron_told.j1 (k + 1) y0 y1 y2 y3))
  | 0 => ⟨fun _ _ r h => by simp [cron_told.l0] at h, fun _ _ _ _ r h => by simp [cron_told.j1] at h⟩
  | k + 1 => by
    obtain ⟨ih0, ih1⟩ := cron_told.mono_l k
    refine ⟨?_, ?_⟩
    · intro y0 y1
      unfold cron_told.l0
      repeat' first
      | (with_reducible exact ih0 _ _)
      | (with_reducible exact ih1 _ _ _ _)
      | (with_reducible exact LeO.refl _)
      | (with_reducible exact LeO.none _)
      | (with_reducible refine LeO.ite ?_ ?_)
      | (with_reducible refine LeO.bind ?_ (fun _ => ?_))
      | exact ih0 _ _
      | exact ih1 _ _ _ _
      | exact LeO.none _
      | refine LeO.ite ?_ ?_
      | refine LeO.bind ?_ (fun _ => ?_)
    · intro y0 y1 y2 y3
      unfold cron_told.j1
      repeat' first
      | (with_reducible exact ih0 _ _)
      | (with_reducible exact ih1 _ _ _ _)
      | (with_reducible exact LeO.refl _)
      | (with_reducible exact LeO.none _)
      | (with_reducible refine LeO.ite ?_ ?_)
      | (with_reducible refine LeO.bind ?_ (fun _ => ?_))
      | exact ih0 _ _
      | exact ih1 _ _ _ _
      | exact LeO.none _
      | refine LeO.ite ?_ ?_
      | refine LeO.bind ?_ (fun _ => ?_)
theorem cron_told.mono : ∀ a0 a1 a2 k, LeO (cron_told.f k a0 a1 a2) (cron_told.f (k + 1) a0 a1 a2) := by
  intro a0 a1 a2 k
  obtain ⟨ih0, ih1⟩ := cron_told.mono_l k
  unfold cron_told.f
  repeat' first
      | (with_reducible exact ih0 _ _)
      | (with_reducible exact ih1 _ _ _ _)
      | (with_reducible exact LeO.refl _)
      | (with_reducible exact LeO.none _)
      | (with_reducible refine LeO.ite ?_ ?_)
      | (with_reducible refine LeO.bind ?_ (fun _ => ?_))
      | exact ih0 _ _
      | exact ih1 _ _ _ _
      | exact LeO.none _
      | refine LeO.ite ?_ ?_
      | refine LeO.bind ?_ (fun _ => ?_)
set_option maxHeartbeats 8000000 in
set_option maxRecDepth 100000 in
theorem cron_told.calls (k : Nat) (a0 : Int) (a1_0 : Int) (a1_1 : Int) (r : ByteArray) (w : World) (h : cron_told.f k a0 a1_0 a1_1 = some r) (hL_ : Go.Proofs.YtkmcmgfmahildaaDoor.Laid.Laid w) :
    Calls Tryd.prog 26 #[.int .u64 a0, .agg #[.int .i64 a1_0, .int .i64 a1_1]] w fun e w' => e = .returned (.string r) ∧ Below w.heap.size w w' := by
  have HL_ := Aside0.mk hL_
  clear hL_
  have hu42 := Tryd.underlying42
  have HB := Aside0.mk (Below.refl w.heap.size w)
  have H : ((cron_field_all.f a1_0 a1_1).bind fun t103 => (if a0 = t103 then (some (⟨#[42]⟩ : ByteArray)) else (cron_told.l0 k a0 (⟨#[]⟩ : ByteArray)))) = some r := h
  clear h
  replace H := Option.bind_eq_some_iff.mp H
  obtain ⟨t103, A30, H⟩ := H
  replace H : (if a0 = t103 then (some (⟨#[42]⟩ : ByteArray)) else (cron_told.l0 k a0 (⟨#[]⟩ : ByteArray))) = some r := H
  have A3 := Aside0.mk A30
  clear A30
  by_cases c4 : a0 = t103
  · rw [if_pos c4] at H
    have c4b0 : (a0 == t103) = true := beq_iff_eq.mpr c4
    have c4b1 : (a0 != t103) = false := bne_eq_false_iff_eq.mpr c4
    clear c4
    obtain rfl := Option.some.inj H
    go_enter Tryd.func26, Tryd.ntmps26
    go_wp2_with (first | ((with_reducible refine gate_dst (N := 3) rfl ?_); refine box_event ?hg (N := 3) ?hd (cs := #[.int .i64 a1_0, .int .i64 a1_1]) (t := 42) ?hr ?_; (case hd => rfl); (case hg => rfl); (case hr => first | (go_simp; done) | (go_simp; rfl)); intro gb102 hg w5 hbox hb; have n0_ := Aside0.mk (below_step (by repeat (first | (with_reducible first | exact HB.out | apply below_alloc | apply pw_below_drewN | apply below_drew1) | exact HB.out)) hb); have n1_ := Aside0.mk (hbox); have n2_ := Aside0.mk ((by rw [hg]; exact (below_size (by repeat (first | (with_reducible first | exact HB.out | apply below_alloc | apply pw_below_drewN | apply below_drew1) | exact HB.out))) : w.heap.size ≤ gb102)); have n3_ := Aside0.mk ((by rw [hg]; exact (below_size (by repeat (first | (with_reducible first | exact HB.out | apply below_alloc | apply pw_below_drewN | apply below_drew1) | exact HB.out))) : w.heap.size ≤ gb102)); clear HB; have HB := n0_; have BK102 := n1_; have GW102 := n2_; have GE102 := n3_; clear n0_ n1_ n2_ n3_; clear hb hbox hg; have hcz6_0 : w5.cell? ⟨gb102, 0, none⟩ = some (.int .i64 a1_0) := (blk_cell BK102.out 0).trans rfl; have hcz6_1 : w5.cell? ⟨gb102, 1, none⟩ = some (.int .i64 a1_1) := (blk_cell BK102.out 1).trans rfl; have hfz6_0 := blk_frozen BK102.out 0; have hfz6_1 := blk_frozen BK102.out 1) | ((with_reducible refine gate_callee (f := 29) rfl ?_); refine goesL_ (some 10) rfl rfl Tryd.func29 (by kernel_rfl) rfl #[.agg #[.int .i64 a1_0, .int .i64 a1_1]] rfl (by (try simp only [List.map_toArray, List.map_cons, List.map_nil]); first | done | rfl | (simp only [List.length_drop, List.length_take]; rfl)) ?_; (with_reducible refine (cron_field_all.calls a1_0 a1_1 t103 _ A3.out).mono ?_); rintro e w7 ⟨rfl, hb⟩; refine ⟨_, rfl, ?_⟩; have n0_ := Aside0.mk (blk_below (g := gb102) (o := .cells #[.int .i64 a1_0, .int .i64 a1_1] 42 (0, 0)) (by (with_reducible repeat (first | refine blk_drewN ?_ _ | refine blk_drew ?_ | refine blk_alloc ?_ _)); exact BK102.out) hb); have n1_ := Aside0.mk (below_step (by repeat (first | (with_reducible first | exact HB.out | apply below_alloc | apply pw_below_drewN | apply below_drew1 | refine below_set ?_ GE102.out) | exact HB.out)) hb); clear BK102; clear HB; have BK102 := n0_; have HB := n1_; clear n0_ n1_; (try clear hb); (try clear hb2); (try clear hk); (try clear hi)))
    go_ret
    exact ⟨by first | rfl | (simp [errW_none, errW_some] <;> rfl) | (simp [*, errW_none, errW_some] <;> rfl), by repeat (first | (with_reducible first | exact HB.out | apply below_alloc | apply pw_below_drewN | apply below_drew1 | refine below_set ?_ GE102.out) | exact HB.out)⟩
  · rw [if_neg c4] at H
    have c4b0 : (a0 == t103) = false := beq_eq_false_iff_ne.mpr c4
    have c4b1 : (a0 != t103) = true := bne_iff_ne.mpr c4
    have H' := Aside0.mk H
    clear H
    go_enter Tryd.func26, Tryd.ntmps26
    go_wp2_with (first | ((with_reducible refine gate_dst (N := 3) rfl ?_); refine box_event ?hg (N := 3) ?hd (cs := #[.int .i64 a1_0, .int .i64 a1_1]) (t := 42) ?hr ?_; (case hd => rfl); (case hg => rfl); (case hr => first | (go_simp; done) | (go_simp; rfl)); intro gb102 hg w8 hbox hb; have n0_ := Aside0.mk (below_step (by repeat (first | (with_reducible first | exact HB.out | apply below_alloc | apply pw_below_drewN | apply below_drew1) | exact HB.out)) hb); have n1_ := Aside0.mk (hbox); have n2_ := Aside0.mk ((by rw [hg]; exact (below_size (by repeat (first | (with_reducible first | exact HB.out | apply below_alloc | apply pw_below_drewN | apply below_drew1) | exact HB.out))) : w.heap.size ≤ gb102)); have n3_ := Aside0.mk ((by rw [hg]; exact (below_size (by repeat (first | (with_reducible first | exact HB.out | apply below_alloc | apply pw_below_drewN | apply below_drew1) | exact HB.out))) : w.heap.size ≤ gb102)); clear HB; have HB := n0_; have BK102 := n1_; have GW102 := n2_; have GE102 := n3_; clear n0_ n1_ n2_ n3_; clear hb hbox hg; have hcz9_0 : w8.cell? ⟨gb102, 0, none⟩ = some (.int .i64 a1_0) := (blk_cell BK102.out 0).trans rfl; have hcz9_1 : w8.cell? ⟨gb102, 1, none⟩ = some (.int .i64 a1_1) := (blk_cell BK102.out 1).trans rfl; have hfz9_0 := blk_frozen BK102.out 0; have hfz9_1 := blk_frozen BK102.out 1) | ((with_reducible refine gate_callee (f := 29) rfl ?_); refine goesL_ (some 10) rfl rfl Tryd.func29 (by kernel_rfl) rfl #[.agg #[.int .i64 a1_0, .int .i64 a1_1]] rfl (by (try simp only [List.map_toArray, List.map_cons, List.map_nil]); first | done | rfl | (simp only [List.length_drop, List.length_take]; rfl)) ?_; (with_reducible refine (cron_field_all.calls a1_0 a1_1 t103 _ A3.out).mono ?_); rintro e w10 ⟨rfl, hb⟩; refine ⟨_, rfl, ?_⟩; have n0_ := Aside0.mk (blk_below (g := gb102) (o := .cells #[.int .i64 a1_0, .int .i64 a1_1] 42 (0, 0)) (by (with_reducible repeat (first | refine blk_drewN ?_ _ | refine blk_drew ?_ | refine blk_alloc ?_ _)); exact BK102.out) hb); have n1_ := Aside0.mk (below_step (by repeat (first | (with_reducible first | exact HB.out | apply below_alloc | apply pw_below_drewN | apply below_drew1 | refine below_set ?_ GE102.out) | exact HB.out)) hb); clear BK102; clear HB; have BK102 := n0_; have HB := n1_; clear n0_ n1_; (try clear hb); (try clear hb2); (try clear hk); (try clear hi)))
    go_loopg [0, 5] k (fun kq v0 v5 w' => ∃ (x0_1 : Int) (x5_1 : ByteArray), v0 = .int .u64 x0_1 ∧ v5 = .string x5_1 ∧ Aside0 (cron_told.l0 kq x0_1 x5_1 = some r) ∧ Aside0 (kq ≤ k) ∧ Aside0 (w'.heap[gb102]? = some (.cells #[.int .i64 a1_0, .int .i64 a1_1] 42 (0, 0))) ∧ Aside0 (Below w.heap.size w w'))
    case atStart => exact ⟨(a0), ((⟨#[]⟩ : ByteArray)), (by first | rfl | (simp; done) | (simp [*]; done)), (by first | rfl | (simp; done) | (simp [*]; done)), H', ⟨Nat.le_refl _⟩, ⟨by (with_reducible repeat (first | refine blk_drewN ?_ _ | refine blk_drew ?_ | refine blk_alloc ?_ _)); exact BK102.out⟩, ⟨by repeat (first | (with_reducible first | exact HB.out | apply below_alloc | apply pw_below_drewN | apply below_drew1 | refine below_set ?_ GE102.out) | exact HB.out)⟩⟩
    case round =>
      clear H'
      try clear c2
      try clear p2
      try clear c4
      try clear c4b0
      try clear c4b1
      try clear hcz6_0
      try clear hcz6_1
      try clear hcz9_0
      try clear hcz9_1
      try clear hfz6_0
      try clear hfz6_1
      try clear hfz9_0
      try clear hfz9_1
      obtain ⟨x0_1, x5_1, rfl, rfl, HA, HK1, BK102, HB⟩ := hrel
      cases gk with
      | zero => exact absurd HA.out (by simp [cron_told.l0])
      | succ k1 =>
        have H := HA.out
        clear HA
        simp only [cron_told.l0] at H
        by_cases c11 : x0_1 = 0
        · rw [if_pos c11] at H
          have c11b0 : (x0_1 == 0) = true := beq_iff_eq.mpr c11
          have c11b1 : (x0_1 != 0) = false := bne_eq_false_iff_eq.mpr c11
          clear c11
          obtain rfl := Option.some.inj H
          go_wp2
          go_ret
          exact ⟨by first | rfl | (simp [errW_none, errW_some] <;> rfl) | (simp [*, errW_none, errW_some] <;> rfl), by repeat (first | (with_reducible first | exact HB.out | apply below_alloc | apply pw_below_drewN | apply below_drew1 | refine below_set ?_ GE102.out) | exact HB.out)⟩
        · rw [if_neg c11] at H
          have c11b0 : (x0_1 == 0) = false := beq_eq_false_iff_ne.mpr c11
          have c11b1 : (x0_1 != 0) = true := bne_iff_ne.mpr c11
          replace H := Option.bind_eq_some_iff.mp H
          obtain ⟨t104, A120, H⟩ := H
          replace H : (if 0 ≤ (IntKind.u64.wrap (t104)) then ((Ca.tz.f (Go.bits .xor .u64 18446744073709551615 (shr .u64 x0_1 (IntKind.u64.wrap (t104))))).bind fun t105 => (if x5_1.toList = ([] : List UInt8) then (cron_told.j1 k1 x0_1 x5_1 t104 t105) else (if x5_1.size + 1 ≤ 9223372036854775807 then (cron_told.j1 k1 x0_1 (x5_1 ++ (⟨#[44]⟩ : ByteArray)) t104 t105) else (none)))) else (none)) = some r := H
          have A12 := Aside0.mk A120
          clear A120
          obtain ⟨ji13, hji13⟩ : ∃ j_ : Int, (IntKind.u64.wrap (t104)) = j_ := ⟨_, rfl⟩
          replace H : (if 0 ≤ (ji13) then ((Ca.tz.f (Go.bits .xor .u64 18446744073709551615 (shr .u64 x0_1 (ji13)))).bind fun t105 => (if x5_1.toList = ([] : List UInt8) then (cron_told.j1 k1 x0_1 x5_1 t104 t105) else (if x5_1.size + 1 ≤ 9223372036854775807 then (cron_told.j1 k1 x0_1 (x5_1 ++ (⟨#[44]⟩ : ByteArray)) t104 t105) else (none)))) else (none)) = some r := by first | (rw [hji13] at H; exact H) | (simp only [hji13] at H ⊢; exact H)
          (try rw [hji13] at A12)
          by_cases c14 : 0 ≤ (ji13)
          · rw [if_pos c14] at H
            have c14b0 := eq_true c14
            have c14b1 : decide (0 ≤ (ji13)) = true := decide_eq_true c14
            clear c14
            obtain ⟨ji15, hji15⟩ : ∃ j_ : Int, (shr .u64 x0_1 (ji13)) = j_ := ⟨_, rfl⟩
            replace H : ((Ca.tz.f (Go.bits .xor .u64 18446744073709551615 (ji15))).bind fun t105 => (if x5_1.toList = ([] : List UInt8) then (cron_told.j1 k1 x0_1 x5_1 t104 t105) else (if x5_1.size + 1 ≤ 9223372036854775807 then (cron_told.j1 k1 x0_1 (x5_1 ++ (⟨#[44]⟩ : ByteArray)) t104 t105) else (none)))) = some r := by first | (rw [hji15] at H; exact H) | (simp only [hji15] at H ⊢; exact H)
            (try rw [hji15] at A12)
            have hji15_ : (x0_1 / 2 ^ min (ji13).toNat 64) = ji15 := hji15
            have hji15z : (ji13) ≤ 64 → (x0_1 / 2 ^ (ji13).toNat) = ji15 := shr_small hji15
            replace H := Option.bind_eq_some_iff.mp H
            obtain ⟨t105, A160, H⟩ := H
            replace H : (if x5_1.toList = ([] : List UInt8) then (cron_told.j1 k1 x0_1 x5_1 t104 t105) else (if x5_1.size + 1 ≤ 9223372036854775807 then (cron_told.j1 k1 x0_1 (x5_1 ++ (⟨#[44]⟩ : ByteArray)) t104 t105) else (none))) = some r := H
            have A16 := Aside0.mk A160
            clear A160
            have HC17 := Aside0.mk H
            clear H
            go_upto_if 23 with (first | ((with_reducible refine gate_callee (f := 43) rfl ?_); refine goesL_ (some 15) rfl rfl Tryd.func43 (by kernel_rfl) rfl #[.int .u64 x0_1] rfl (by (try simp only [List.map_toArray, List.map_cons, List.map_nil]); first | done | rfl | (simp only [List.length_drop, List.length_take]; rfl)) ?_; (with_reducible refine (Ca.tz.calls x0_1 t104 _ A12.out (by first | exact HL_.out | exact Go.Proofs.YtkmcmgfmahildaaDoor.Laid.Laid.below HL_.out (by repeat (first | (with_reducible first | exact HB.out | exact Below.refl _ _ | exact (‹Aside0 (Below _ _ _)›).out | apply below_alloc | apply pw_below_drewN | apply below_drew1 | refine Below.setCell ?_ (Aside0.out (by assumption)) _) | exact HB.out | exact (‹Aside0 (Below _ _ _)›).out)))).mono ?_); rintro e w' ⟨rfl, ⟨nd, rfl⟩⟩; refine ⟨_, rfl, ?_⟩) | ((with_reducible refine gate_callee (f := 43) rfl ?_); refine goesL_ (some 21) rfl rfl Tryd.func43 (by kernel_rfl) rfl #[.int .u64 (Go.bits .xor .u64 18446744073709551615 (ji15))] rfl (by (try simp only [List.map_toArray, List.map_cons, List.map_nil]); first | done | (simp only [hji15]; rfl) | rfl | (simp only [List.length_drop, List.length_take]; rfl)) ?_; (with_reducible refine (Ca.tz.calls (Go.bits .xor .u64 18446744073709551615 (ji15)) t105 _ A16.out (by first | exact HL_.out | exact Go.Proofs.YtkmcmgfmahildaaDoor.Laid.Laid.below HL_.out (by repeat (first | (with_reducible first | exact HB.out | exact Below.refl _ _ | exact (‹Aside0 (Below _ _ _)›).out | apply below_alloc | apply pw_below_drewN | apply below_drew1 | refine Below.setCell ?_ (Aside0.out (by assumption)) _) | exact HB.out | exact (‹Aside0 (Below _ _ _)›).out)))).mono ?_); rintro e w' ⟨rfl, ⟨nd, rfl⟩⟩; refine ⟨_, rfl, ?_⟩))
            (try simp only [Act.put, List.setIfInBounds_toArray, List.set_cons_zero, List.set_cons_succ])
            go_cut [5] (fun v5 wc => ∃ (kq : Nat) (x5_16 : ByteArray), v5 = .string x5_16 ∧ Aside0 (cron_told.j1 kq x0_1 x5_16 t104 t105 = some r) ∧ Aside0 (kq ≤ k1) ∧ Aside0 (wc.heap[gb102]? = some (.cells #[.int .i64 a1_0, .int .i64 a1_1] 42 (0, 0))) ∧ Aside0 (Below w.heap.size w wc))
            case first =>
              have H := HC17.out
              clear HC17
              by_cases c18 : x5_1.toList = ([] : List UInt8)
              · rw [if_pos c18] at H
                have c18b0 : (x5_1.toList == ([] : List UInt8)) = true := beq_iff_eq.mpr c18
                have c18b1 : (x5_1.toList != ([] : List UInt8)) = false := bne_eq_false_iff_eq.mpr c18
                have c18e0 : x5_1.toList.isEmpty = true := by first | (rw [c18]; rfl) | (simpa using c18)
                have c18e1 : (!x5_1.toList.isEmpty) = false := by rw [c18e0]; rfl
                clear c18
                (first | rw [c18b0] | (simp only [i64_w, i32_w]; rw [c18b0]) | rw [c18e1] | rw [c18e0] | skip)
                have H' := Aside0.mk H
                clear H
                go_wp2
                go_meet
                case rel => exact ⟨_, (x5_1), (by first | rfl | (simp; done) | (simp [*]; done)), H', ⟨by have := HK1.out; first | omega | exact Nat.le_refl _⟩, ⟨by (with_reducible repeat (first | refine blk_drewN ?_ _ | refine blk_drew ?_ | refine blk_alloc ?_ _)); exact BK102.out⟩, ⟨by repeat (first | (with_reducible first | exact HB.out | apply below_alloc | apply pw_below_drewN | apply below_drew1 | refine below_set ?_ GE102.out) | exact HB.out)⟩⟩
              · rw [if_neg c18] at H
                have c18b0 : (x5_1.toList == ([] : List UInt8)) = false := beq_eq_false_iff_ne.mpr c18
                have c18b1 : (x5_1.toList != ([] : List UInt8)) = true := bne_iff_ne.mpr c18
                have c18e0 : x5_1.toList.isEmpty = false := by first | (rw [c18]; rfl) | (simpa using c18)
                have c18e1 : (!x5_1.toList.isEmpty) = true := by rw [c18e0]; rfl
                (first | rw [c18b0] | (simp only [i64_w, i32_w]; rw [c18b0]) | rw [c18e1] | rw [c18e0] | skip)
                by_cases c19 : x5_1.size + 1 ≤ 9223372036854775807
                · rw [if_pos c19] at H
                  have c19b0 := eq_true c19
                  have c19b1 : decide (x5_1.size + 1 ≤ 9223372036854775807) = true := decide_eq_true c19
                  try have c19b2 : (9223372036854775807 < x5_1.size + 1) = False := eq_false (Nat.not_lt.2 c19)
                  have H' := Aside0.mk H
                  clear H
                  go_wp2
                  go_meet
                  case rel => exact ⟨_, (x5_1 ++ (⟨#[44]⟩ : ByteArray)), (by first | rfl | (simp; done) | (simp [*]; done)), H', ⟨by have := HK1.out; first | omega | exact Nat.le_refl _⟩, ⟨by (with_reducible repeat (first | refine blk_drewN ?_ _ | refine blk_drew ?_ | refine blk_alloc ?_ _)); exact BK102.out⟩, ⟨by repeat (first | (with_reducible first | exact HB.out | apply below_alloc | apply pw_below_drewN | apply below_drew1 | refine below_set ?_ GE102.out) | exact HB.out)⟩⟩
                · rw [if_neg c19] at H
                  exact absurd H (by simp)
            case rest =>
              try clear hji13_
              try clear hji13z
              try clear hji13
              try clear hji15_
              try clear hji15z
              try clear hji15
              clear HC17
              try clear c1
              try clear c2
              try clear p2
              try clear c4
              try clear c4b0
              try clear c4b1
              try clear c11
              try clear c11b0
              try clear c11b1
              try clear c14
              try clear c14b0
              try clear c14b1
              try clear c18
              try clear c18b0
              try clear c18b1
              try clear c19
              try clear c19b0
              try clear c19b1
              try clear c19b2
              try clear hcz6_0
              try clear hcz6_1
              try clear hcz9_0
              try clear hcz9_1
              try clear hfz6_0
              try clear hfz6_1
              try clear hfz9_0
              try clear hfz9_1
              try clear p2
              obtain ⟨kq, x5_16, rfl, HA, HJ16, BK102, HB⟩ := hcut
              cases kq with
              | zero => exact absurd HA.out (by simp [cron_told.j1])
              | succ kj16 =>
                have H := HA.out
                clear HA
                simp only [cron_told.j1] at H
                replace H := Option.bind_eq_some_iff.mp H
                obtain ⟨t106, A200, H⟩ := H
                replace H : (if x5_16.size + t106.size ≤ 9223372036854775807 then (if t105 = 2 then ((Ca.itoa.f (wrap64 (t104 + 1))).bind fun t107 => (if 1 + t107.size ≤ 9223372036854775807 then (if (x5_16 ++ t106).size + ((⟨#[44]⟩ : ByteArray) ++ t107).size ≤ 9223372036854775807 then (if 0 ≤ (IntKind.u64.wrap (t105)) then (if 0 ≤ (IntKind.u64.wrap (t104)) then (cron_told.l0 kj16 (Go.bits .andNot .u64 x0_1 (shl .u64 (IntKind.u64.wrap ((shl .u64 1 (IntKind.u64.wrap (t105))) - 1)) (IntKind.u64.wrap (t104)))) ((x5_16 ++ t106) ++ ((⟨#[44]⟩ : ByteArray) ++ t107))) else (none)) else (none)) else (none)) else (none))) else (if t105 > 2 then ((Ca.itoa.f (wrap64 ((wrap64 (t104 + t105)) - 1))).bind fun t108 => (if 1 + t108.size ≤ 9223372036854775807 then (if (x5_16 ++ t106).size + ((⟨#[45]⟩ : ByteArray) ++ t108).size ≤ 9223372036854775807 then (if 0 ≤ (IntKind.u64.wrap (t105)) then (if 0 ≤ (IntKind.u64.wrap (t104)) then (cron_told.l0 kj16 (Go.bits .andNot .u64 x0_1 (shl .u64 (IntKind.u64.wrap ((shl .u64 1 (IntKind.u64.wrap (t105))) - 1)) (IntKind.u64.wrap (t104)))) ((x5_16 ++ t106) ++ ((⟨#[45]⟩ : ByteArray) ++ t108))) else (none)) else (none)) else (none)) else (none))) else (if 0 ≤ (IntKind.u64.wrap (t105)) then (if 0 ≤ (IntKind.u64.wrap (t104)) then (cron_told.l0 kj16 (Go.bits .andNot .u64 x0_1 (shl .u64 (IntKind.u64.wrap ((shl .u64 1 (IntKind.u64.wrap (t105))) - 1)) (IntKind.u64.wrap (t104)))) (x5_16 ++ t106)) else (none)) else (none)))) else (none)) = some r := H
                have A20 := Aside0.mk A200
                clear A200
                by_cases c21 : x5_16.size + t106.size ≤ 9223372036854775807
                · rw [if_pos c21] at H
                  have c21b0 := eq_true c21
                  have c21b1 : decide (x5_16.size + t106.size ≤ 9223372036854775807) = true := decide_eq_true c21
                  try have c21b2 : (9223372036854775807 < x5_16.size + t106.size) = False := eq_false (Nat.not_lt.2 c21)
                  by_cases c22 : t105 = 2
                  · rw [if_pos c22] at H
                    have c22b0 : (t105 == 2) = true := beq_iff_eq.mpr c22
                    have c22b1 : (t105 != 2) = false := bne_eq_false_iff_eq.mpr c22
                    clear c22
                    replace H := Option.bind_eq_some_iff.mp H
                    obtain ⟨t107, A230, H⟩ := H
                    replace H : (if 1 + t107.size ≤ 9223372036854775807 then (if (x5_16 ++ t106).size + ((⟨#[44]⟩ : ByteArray) ++ t107).size ≤ 9223372036854775807 then (if 0 ≤ (IntKind.u64.wrap (t105)) then (if 0 ≤ (IntKind.u64.wrap (t104)) then (cron_told.l0 kj16 (Go.bits .andNot .u64 x0_1 (shl .u64 (IntKind.u64.wrap ((shl .u64 1 (IntKind.u64.wrap (t105))) - 1)) (IntKind.u64.wrap (t104)))) ((x5_16 ++ t106) ++ ((⟨#[44]⟩ : ByteArray) ++ t107))) else (none)) else (none)) else (none)) else (none)) = some r := H
                    have A23 := Aside0.mk A230
                    clear A230
                    by_cases c24 : 1 + t107.size ≤ 9223372036854775807
                    · rw [if_pos c24] at H
                      have c24b0 := eq_true c24
                      have c24b1 : decide (1 + t107.size ≤ 9223372036854775807) = true := decide_eq_true c24
                      try have c24b2 : (9223372036854775807 < 1 + t107.size) = False := eq_false (Nat.not_lt.2 c24)
                      by_cases c25 : (x5_16 ++ t106).size + ((⟨#[44]⟩ : ByteArray) ++ t107).size ≤ 9223372036854775807
                      · rw [if_pos c25] at H
                        have c25b0 := eq_true c25
                        have c25b1 : decide ((x5_16 ++ t106).size + ((⟨#[44]⟩ : ByteArray) ++ t107).size ≤ 9223372036854775807) = true := decide_eq_true c25
                        try have c25b2 : (9223372036854775807 < (x5_16 ++ t106).size + ((⟨#[44]⟩ : ByteArray) ++ t107).size) = False := eq_false (Nat.not_lt.2 c25)
                        obtain ⟨ji26, hji26⟩ : ∃ j_ : Int, (IntKind.u64.wrap (t105)) = j_ := ⟨_, rfl⟩
                        replace H : (if 0 ≤ (ji26) then (if 0 ≤ (IntKind.u64.wrap (t104)) then (cron_told.l0 kj16 (Go.bits .andNot .u64 x0_1 (shl .u64 (IntKind.u64.wrap ((shl .u64 1 (ji26)) - 1)) (IntKind.u64.wrap (t104)))) ((x5_16 ++ t106) ++ ((⟨#[44]⟩ : ByteArray) ++ t107))) else (none)) else (none)) = some r := by first | (rw [hji26] at H; exact H) | (simp only [hji26] at H ⊢; exact H)
                        (try rw [hji26] at A20)
                        (try rw [hji26] at A23)
                        by_cases c27 : 0 ≤ (ji26)
                        · rw [if_pos c27] at H
                          have c27b0 := eq_true c27
                          have c27b1 : decide (0 ≤ (ji26)) = true := decide_eq_true c27
                          clear c27
                          obtain ⟨ji28, hji28⟩ : ∃ j_ : Int, (shl .u64 1 (ji26)) = j_ := ⟨_, rfl⟩
                          replace H : (if 0 ≤ (IntKind.u64.wrap (t104)) then (cron_told.l0 kj16 (Go.bits .andNot .u64 x0_1 (shl .u64 (IntKind.u64.wrap ((ji28) - 1)) (IntKind.u64.wrap (t104)))) ((x5_16 ++ t106) ++ ((⟨#[44]⟩ : ByteArray) ++ t107))) else (none)) = some r := by first | (rw [hji28] at H; exact H) | (simp only [hji28] at H ⊢; exact H)
                          (try rw [hji28] at A20)
                          (try rw [hji28] at A23)
                          have hji28_ : (IntKind.u64.wrap (1 * 2 ^ min (ji26).toNat 64)) = ji28 := hji28
                          have hji28z : (ji26) ≤ 64 → (IntKind.u64.wrap (1 * 2 ^ (ji26).toNat)) = ji28 := shl_small hji28
                          have hji28u : (IntKind.u64.wrap (2 ^ min (ji26).toNat 64)) = ji28 := by have h_ := hji28_; rw [Int.one_mul] at h_; exact h_
                          have hji28v : (ji26) ≤ 64 → (IntKind.u64.wrap (2 ^ (ji26).toNat)) = ji28 := fun hle_ => by have h_ := hji28z hle_; rw [Int.one_mul] at h_; exact h_
                          obtain ⟨ji29, hji29⟩ : ∃ j_ : Int, (IntKind.u64.wrap (t104)) = j_ := ⟨_, rfl⟩
                          replace H : (if 0 ≤ (ji29) then (cron_told.l0 kj16 (Go.bits .andNot .u64 x0_1 (shl .u64 (IntKind.u64.wrap ((ji28) - 1)) (ji29))) ((x5_16 ++ t106) ++ ((⟨#[44]⟩ : ByteArray) ++ t107))) else (none)) = some r := by first | (rw [hji29] at H; exact H) | (simp only [hji29] at H ⊢; exact H)
                          (try rw [hji29] at A20)
                          (try rw [hji29] at A23)
                          by_cases c30 : 0 ≤ (ji29)
                          · rw [if_pos c30] at H
                            have c30b0 := eq_true c30
                            have c30b1 : decide (0 ≤ (ji29)) = true := decide_eq_true c30
                            clear c30
                            obtain ⟨ji31, hji31⟩ : ∃ j_ : Int, (shl .u64 (IntKind.u64.wrap ((ji28) - 1)) (ji29)) = j_ := ⟨_, rfl⟩
                            replace H : (cron_told.l0 kj16 (Go.bits .andNot .u64 x0_1 (ji31)) ((x5_16 ++ t106) ++ ((⟨#[44]⟩ : ByteArray) ++ t107))) = some r := by first | (rw [hji31] at H; exact H) | (simp only [hji31] at H ⊢; exact H)
                            (try rw [hji31] at A20)
                            (try rw [hji31] at A23)
                            have hji31_ : (IntKind.u64.wrap ((IntKind.u64.wrap ((ji28) - 1)) * 2 ^ min (ji29).toNat 64)) = ji31 := hji31
                            have hji31z : (ji29) ≤ 64 → (IntKind.u64.wrap ((IntKind.u64.wrap ((ji28) - 1)) * 2 ^ (ji29).toNat)) = ji31 := shl_small hji31
                            have H' := Aside0.mk H
                            clear H
                            go_wp2_with (first | ((with_reducible refine gate_callee (f := 44) rfl ?_); refine goesL_ (some 28) rfl rfl Tryd.func44 (by kernel_rfl) rfl #[.int .i64 t104] rfl (by (try simp only [List.map_toArray, List.map_cons, List.map_nil]); first | done | rfl | (simp only [List.length_drop, List.length_take]; rfl)) ?_; (with_reducible refine (Ca.itoa.calls t104 t106 _ A20.out).mono ?_); rintro e w' ⟨rfl, ⟨nd, rfl⟩⟩; refine ⟨_, rfl, ?_⟩) | ((with_reducible refine gate_callee (f := 44) rfl ?_); refine goesL_ (some 36) rfl rfl Tryd.func44 (by kernel_rfl) rfl #[.int .i64 (wrap64 (t104 + 1))] rfl (by (try simp only [List.map_toArray, List.map_cons, List.map_nil]); first | done | rfl | (simp only [List.length_drop, List.length_take]; rfl)) ?_; (with_reducible refine (Ca.itoa.calls (wrap64 (t104 + 1)) t107 _ A23.out).mono ?_); rintro e w' ⟨rfl, ⟨nd, rfl⟩⟩; refine ⟨_, rfl, ?_⟩))
                            go_roundg kj16
                            case measure => have := HK1.out; have := HJ16.out; omega
                            case rel => exact ⟨(Go.bits .andNot .u64 x0_1 (ji31)), ((x5_16 ++ t106) ++ ((⟨#[44]⟩ : ByteArray) ++ t107)), (by first | rfl | (simp; done) | (simp only [← hji31] <;> (first | rfl | simp)) | (simp [*]; done)), (by first | rfl | (simp; done) | (simp [*]; done)), H', ⟨by have := HK1.out; have := HJ16.out; omega⟩, ⟨by (with_reducible repeat (first | refine blk_drewN ?_ _ | refine blk_drew ?_ | refine blk_alloc ?_ _)); exact BK102.out⟩, ⟨by repeat (first | (with_reducible first | exact HB.out | apply below_alloc | apply pw_below_drewN | apply below_drew1 | refine below_set ?_ GE102.out) | exact HB.out)⟩⟩
                          · rw [if_neg c30] at H
                            exact absurd H (by simp)
                        · rw [if_neg c27] at H
                          exact absurd H (by simp)
                      · rw [if_neg c25] at H
                        exact absurd H (by simp)
                    · rw [if_neg c24] at H
                      exact absurd H (by simp)
                  · rw [if_neg c22] at H
                    have c22b0 : (t105 == 2) = false := beq_eq_false_iff_ne.mpr c22
                    have c22b1 : (t105 != 2) = true := bne_iff_ne.mpr c22
                    by_cases c32 : t105 > 2
                    · rw [if_pos c32] at H
                      have c32b0 : decide (2 < t105) = true := decide_eq_true c32
                      clear c32
                      replace H := Option.bind_eq_some_iff.mp H
                      obtain ⟨t108, A330, H⟩ := H
                      replace H : (if 1 + t108.size ≤ 9223372036854775807 then (if (x5_16 ++ t106).size + ((⟨#[45]⟩ : ByteArray) ++ t108).size ≤ 9223372036854775807 then (if 0 ≤ (IntKind.u64.wrap (t105)) then (if 0 ≤ (IntKind.u64.wrap (t104)) then (cron_told.l0 kj16 (Go.bits .andNot .u64 x0_1 (shl .u64 (IntKind.u64.wrap ((shl .u64 1 (IntKind.u64.wrap (t105))) - 1)) (IntKind.u64.wrap (t104)))) ((x5_16 ++ t106) ++ ((⟨#[45]⟩ : ByteArray) ++ t108))) else (none)) else (none)) else (none)) else (none)) = some r := H
                      have A33 := Aside0.mk A330
                      clear A330
                      by_cases c34 : 1 + t108.size ≤ 9223372036854775807
                      · rw [if_pos c34] at H
                        have c34b0 := eq_true c34
                        have c34b1 : decide (1 + t108.size ≤ 9223372036854775807) = true := decide_eq_true c34
                        try have c34b2 : (9223372036854775807 < 1 + t108.size) = False := eq_false (Nat.not_lt.2 c34)
                        by_cases c35 : (x5_16 ++ t106).size + ((⟨#[45]⟩ : ByteArray) ++ t108).size ≤ 9223372036854775807
                        · rw [if_pos c35] at H
                          have c35b0 := eq_true c35
                          have c35b1 : decide ((x5_16 ++ t106).size + ((⟨#[45]⟩ : ByteArray) ++ t108).size ≤ 9223372036854775807) = true := decide_eq_true c35
                          try have c35b2 : (9223372036854775807 < (x5_16 ++ t106).size + ((⟨#[45]⟩ : ByteArray) ++ t108).size) = False := eq_false (Nat.not_lt.2 c35)
                          obtain ⟨ji36, hji36⟩ : ∃ j_ : Int, (IntKind.u64.wrap (t105)) = j_ := ⟨_, rfl⟩
                          replace H : (if 0 ≤ (ji36) then (if 0 ≤ (IntKind.u64.wrap (t104)) then (cron_told.l0 kj16 (Go.bits .andNot .u64 x0_1 (shl .u64 (IntKind.u64.wrap ((shl .u64 1 (ji36)) - 1)) (IntKind.u64.wrap (t104)))) ((x5_16 ++ t106) ++ ((⟨#[45]⟩ : ByteArray) ++ t108))) else (none)) else (none)) = some r := by first | (rw [hji36] at H; exact H) | (simp only [hji36] at H ⊢; exact H)
                          (try rw [hji36] at A20)
                          (try rw [hji36] at A33)
                          by_cases c37 : 0 ≤ (ji36)
                          · rw [if_pos c37] at H
                            have c37b0 := eq_true c37
                            have c37b1 : decide (0 ≤ (ji36)) = true := decide_eq_true c37
                            clear c37
                            obtain ⟨ji38, hji38⟩ : ∃ j_ : Int, (shl .u64 1 (ji36)) = j_ := ⟨_, rfl⟩
                            replace H : (if 0 ≤ (IntKind.u64.wrap (t104)) then (cron_told.l0 kj16 (Go.bits .andNot .u64 x0_1 (shl .u64 (IntKind.u64.wrap ((ji38) - 1)) (IntKind.u64.wrap (t104)))) ((x5_16 ++ t106) ++ ((⟨#[45]⟩ : ByteArray) ++ t108))) else (none)) = some r := by first | (rw [hji38] at H; exact H) | (simp only [hji38] at H ⊢; exact H)
                            (try rw [hji38] at A20)
                            (try rw [hji38] at A33)
                            have hji38_ : (IntKind.u64.wrap (1 * 2 ^ min (ji36).toNat 64)) = ji38 := hji38
                            have hji38z : (ji36) ≤ 64 → (IntKind.u64.wrap (1 * 2 ^ (ji36).toNat)) = ji38 := shl_small hji38
                            have hji38u : (IntKind.u64.wrap (2 ^ min (ji36).toNat 64)) = ji38 := by have h_ := hji38_; rw [Int.one_mul] at h_; exact h_
                            have hji38v : (ji36) ≤ 64 → (IntKind.u64.wrap (2 ^ (ji36).toNat)) = ji38 := fun hle_ => by have h_ := hji38z hle_; rw [Int.one_mul] at h_; exact h_
                            obtain ⟨ji39, hji39⟩ : ∃ j_ : Int, (IntKind.u64.wrap (t104)) = j_ := ⟨_, rfl⟩
                            replace H : (if 0 ≤ (ji39) then (cron_told.l0 kj16 (Go.bits .andNot .u64 x0_1 (shl .u64 (IntKind.u64.wrap ((ji38) - 1)) (ji39))) ((x5_16 ++ t106) ++ ((⟨#[45]⟩ : ByteArray) ++ t108))) else (none)) = some r := by first | (rw [hji39] at H; exact H) | (simp only [hji39] at H ⊢; exact H)
                            (try rw [hji39] at A20)
                            (try rw [hji39] at A33)
                            by_cases c40 : 0 ≤ (ji39)
                            · rw [if_pos c40] at H
                              have c40b0 := eq_true c40
                              have c40b1 : decide (0 ≤ (ji39)) = true := decide_eq_true c40
                              clear c40
                              obtain ⟨ji41, hji41⟩ : ∃ j_ : Int, (shl .u64 (IntKind.u64.wrap ((ji38) - 1)) (ji39)) = j_ := ⟨_, rfl⟩
                              replace H : (cron_told.l0 kj16 (Go.bits .andNot .u64 x0_1 (ji41)) ((x5_16 ++ t106) ++ ((⟨#[45]⟩ : ByteArray) ++ t108))) = some r := by first | (rw [hji41] at H; exact H) | (simp only [hji41] at H ⊢; exact H)
                              (try rw [hji41] at A20)
                              (try rw [hji41] at A33)
                              have hji41_ : (IntKind.u64.wrap ((IntKind.u64.wrap ((ji38) - 1)) * 2 ^ min (ji39).toNat 64)) = ji41 := hji41
                              have hji41z : (ji39) ≤ 64 → (IntKind.u64.wrap ((IntKind.u64.wrap ((ji38) - 1)) * 2 ^ (ji39).toNat)) = ji41 := shl_small hji41
                              have H' := Aside0.mk H
                              clear H
                              go_wp2_with (first | ((with_reducible refine gate_callee (f := 44) rfl ?_); refine goesL_ (some 28) rfl rfl Tryd.func44 (by kernel_rfl) rfl #[.int .i64 t104] rfl (by (try simp only [List.map_toArray, List.map_cons, List.map_nil]); first | done | rfl | (simp only [List.length_drop, List.length_take]; rfl)) ?_; (with_reducible refine (Ca.itoa.calls t104 t106 _ A20.out).mono ?_); rintro e w' ⟨rfl, ⟨nd, rfl⟩⟩; refine ⟨_, rfl, ?_⟩) | ((with_reducible refine gate_callee (f := 44) rfl ?_); refine goesL_ (some 47) rfl rfl Tryd.func44 (by kernel_rfl) rfl #[.int .i64 (wrap64 ((wrap64 (t104 + t105)) - 1))] rfl (by (try simp only [List.map_toArray, List.map_cons, List.map_nil]); first | done | rfl | (simp only [List.length_drop, List.length_take]; rfl)) ?_; (with_reducible refine (Ca.itoa.calls (wrap64 ((wrap64 (t104 + t105)) - 1)) t108 _ A33.out).mono ?_); rintro e w' ⟨rfl, ⟨nd, rfl⟩⟩; refine ⟨_, rfl, ?_⟩))
                              go_roundg kj16
                              case measure => have := HK1.out; have := HJ16.out; omega
                              case rel => exact ⟨(Go.bits .andNot .u64 x0_1 (ji41)), ((x5_16 ++ t106) ++ ((⟨#[45]⟩ : ByteArray) ++ t108)), (by first | rfl | (simp; done) | (simp only [← hji41] <;> (first | rfl | simp)) | (simp [*]; done)), (by first | rfl | (simp; done) | (simp [*]; done)), H', ⟨by have := HK1.out; have := HJ16.out; omega⟩, ⟨by (with_reducible repeat (first | refine blk_drewN ?_ _ | refine blk_drew ?_ | refine blk_alloc ?_ _)); exact BK102.out⟩, ⟨by repeat (first | (with_reducible first | exact HB.out | apply below_alloc | apply pw_below_drewN | apply below_drew1 | refine below_set ?_ GE102.out) | exact HB.out)⟩⟩
                            · rw [if_neg c40] at H
                              exact absurd H (by simp)
                          · rw [if_neg c37] at H
                            exact absurd H (by simp)
                        · rw [if_neg c35] at H
                          exact absurd H (by simp)
                      · rw [if_neg c34] at H
                        exact absurd H (by simp)
                    · rw [if_neg c32] at H
                      have c32b0 : decide (2 < t105) = false := decide_eq_false c32
                      clear c32
                      obtain ⟨ji42, hji42⟩ : ∃ j_ : Int, (IntKind.u64.wrap (t105)) = j_ := ⟨_, rfl⟩
                      replace H : (if 0 ≤ (ji42) then (if 0 ≤ (IntKind.u64.wrap (t104)) then (cron_told.l0 kj16 (Go.bits .andNot .u64 x0_1 (shl .u64 (IntKind.u64.wrap ((shl .u64 1 (ji42)) - 1)) (IntKind.u64.wrap (t104)))) (x5_16 ++ t106)) else (none)) else (none)) = some r := by first | (rw [hji42] at H; exact H) | (simp only [hji42] at H ⊢; exact H)
                      (try rw [hji42] at A20)
                      by_cases c43 : 0 ≤ (ji42)
                      · rw [if_pos c43] at H
                        have c43b0 := eq_true c43
                        have c43b1 : decide (0 ≤ (ji42)) = true := decide_eq_true c43
                        clear c43
                        obtain ⟨ji44, hji44⟩ : ∃ j_ : Int, (shl .u64 1 (ji42)) = j_ := ⟨_, rfl⟩
                        replace H : (if 0 ≤ (IntKind.u64.wrap (t104)) then (cron_told.l0 kj16 (Go.bits .andNot .u64 x0_1 (shl .u64 (IntKind.u64.wrap ((ji44) - 1)) (IntKind.u64.wrap (t104)))) (x5_16 ++ t106)) else (none)) = some r := by first | (rw [hji44] at H; exact H) | (simp only [hji44] at H ⊢; exact H)
                        (try rw [hji44] at A20)
                        have hji44_ : (IntKind.u64.wrap (1 * 2 ^ min (ji42).toNat 64)) = ji44 := hji44
                        have hji44z : (ji42) ≤ 64 → (IntKind.u64.wrap (1 * 2 ^ (ji42).toNat)) = ji44 := shl_small hji44
                        have hji44u : (IntKind.u64.wrap (2 ^ min (ji42).toNat 64)) = ji44 := by have h_ := hji44_; rw [Int.one_mul] at h_; exact h_
                        have hji44v : (ji42) ≤ 64 → (IntKind.u64.wrap (2 ^ (ji42).toNat)) = ji44 := fun hle_ => by have h_ := hji44z hle_; rw [Int.one_mul] at h_; exact h_
                        obtain ⟨ji45, hji45⟩ : ∃ j_ : Int, (IntKind.u64.wrap (t104)) = j_ := ⟨_, rfl⟩
                        replace H : (if 0 ≤ (ji45) then (cron_told.l0 kj16 (Go.bits .andNot .u64 x0_1 (shl .u64 (IntKind.u64.wrap ((ji44) - 1)) (ji45))) (x5_16 ++ t106)) else (none)) = some r := by first | (rw [hji45] at H; exact H) | (simp only [hji45] at H ⊢; exact H)
                        (try rw [hji45] at A20)
                        by_cases c46 : 0 ≤ (ji45)
                        · rw [if_pos c46] at H
                          have c46b0 := eq_true c46
                          have c46b1 : decide (0 ≤ (ji45)) = true := decide_eq_true c46
                          clear c46
                          obtain ⟨ji47, hji47⟩ : ∃ j_ : Int, (shl .u64 (IntKind.u64.wrap ((ji44) - 1)) (ji45)) = j_ := ⟨_, rfl⟩
                          replace H : (cron_told.l0 kj16 (Go.bits .andNot .u64 x0_1 (ji47)) (x5_16 ++ t106)) = some r := by first | (rw [hji47] at H; exact H) | (simp only [hji47] at H ⊢; exact H)
                          (try rw [hji47] at A20)
                          have hji47_ : (IntKind.u64.wrap ((IntKind.u64.wrap ((ji44) - 1)) * 2 ^ min (ji45).toNat 64)) = ji47 := hji47
                          have hji47z : (ji45) ≤ 64 → (IntKind.u64.wrap ((IntKind.u64.wrap ((ji44) - 1)) * 2 ^ (ji45).toNat)) = ji47 := shl_small hji47
                          have H' := Aside0.mk H
                          clear H
                          go_wp2_with (first | ((with_reducible refine gate_callee (f := 44) rfl ?_); refine goesL_ (some 28) rfl rfl Tryd.func44 (by kernel_rfl) rfl #[.int .i64 t104] rfl (by (try simp only [List.map_toArray, List.map_cons, List.map_nil]); first | done | rfl | (simp only [List.length_drop, List.length_take]; rfl)) ?_; (with_reducible refine (Ca.itoa.calls t104 t106 _ A20.out).mono ?_); rintro e w' ⟨rfl, ⟨nd, rfl⟩⟩; refine ⟨_, rfl, ?_⟩))
                          go_roundg kj16
                          case measure => have := HK1.out; have := HJ16.out; omega
                          case rel => exact ⟨(Go.bits .andNot .u64 x0_1 (ji47)), (x5_16 ++ t106), (by first | rfl | (simp; done) | (simp only [← hji47] <;> (first | rfl | simp)) | (simp [*]; done)), (by first | rfl | (simp; done) | (simp [*]; done)), H', ⟨by have := HK1.out; have := HJ16.out; omega⟩, ⟨by (with_reducible repeat (first | refine blk_drewN ?_ _ | refine blk_drew ?_ | refine blk_alloc ?_ _)); exact BK102.out⟩, ⟨by repeat (first | (with_reducible first | exact HB.out | apply below_alloc | apply pw_below_drewN | apply below_drew1 | refine below_set ?_ GE102.out) | exact HB.out)⟩⟩
                        · rw [if_neg c46] at H
                          exact absurd H (by simp)
                      · rw [if_neg c43] at H
                        exact absurd H (by simp)
                · rw [if_neg c21] at H
                  exact absurd H (by simp)
          · rw [if_neg c14] at H
            exact absurd H (by simp)



/-- A state of type 39 at block g of W; what its slices lead to came in by w0. -/
def IsS39 (w0 W : World) (g : Nat) (f0 : ByteArray) (f1 : Int) : Prop := W.heap[g]? = some (.cells #[.string f0, .int .i64 f1] 39 (0, 0)) ∧ w0.heap.size ≤ g
theorem IsS39.grown {w0 W : World} {g : Nat} {f0 : ByteArray} {f1 : Int} {W1 : World} {row : Option Nat} (h : IsS39 w0 W g f0 f1) (hw : W.grownBy W1 row) (hne : some g ≠ row) : IsS39 w0 W1 g f0 f1 := by
  obtain ⟨hb, hg⟩ := h
  exact ⟨blk_grown hb hw hne, hg⟩
theorem IsS39.own_neN {w0 W : World} {g : Nat} {f0 : ByteArray} {f1 : Int} {α : Type} {d : Kd α} {e : Nat} {base : Nat} {ok : Nat → Prop} {v : Value} {xs : List α} (h : IsS39 w0 W g f0 f1) (ho : Kd.N d e W base ok v xs) (ht : e ≠ 39) : some g ≠ v.ownBlock := by
  obtain ⟨hb, hg⟩ := h
  exact Kd.N_ne ho hb ht
theorem IsS39.fresh {w0 W : World} {g : Nat} {f0 : ByteArray} {f1 : Int} (h : IsS39 w0 W g f0 f1) : ∀ k, W.heap.size ≤ k → k ≠ g := by
  obtain ⟨hb, hg⟩ := h
  exact Kd.freshB hb
theorem IsS39.kept {w0 W : World} {g : Nat} {f0 : ByteArray} {f1 : Int} {W1 : World} {S : Nat → Prop} (h : IsS39 w0 W g f0 f1) (hk : Kept W W1 S) (hne : ¬ S g) : IsS39 w0 W1 g f0 f1 := by
  obtain ⟨hb, hg⟩ := h
  exact ⟨blk_kept hb hk hne, hg⟩
theorem IsS39.below {w0 W : World} {g : Nat} {f0 : ByteArray} {f1 : Int} {W1 : World} (h : IsS39 w0 W g f0 f1) (hw : Below W.heap.size W W1) : IsS39 w0 W1 g f0 f1 := h.grown (grown_of_below hw none) (by simp)
theorem IsS39.alloc {w0 W : World} {g : Nat} {f0 : ByteArray} {f1 : Int} (h : IsS39 w0 W g f0 f1) (o : Obj) : IsS39 w0 (W.alloc o) g f0 f1 := h.below (below_alloc (Below.refl _ _) o)
theorem IsS39.drewN {w0 W : World} {g : Nat} {f0 : ByteArray} {f1 : Int} (h : IsS39 w0 W g f0 f1) (m : Nat) : IsS39 w0 (W.drewN m) g f0 f1 := h
theorem IsS39.drew {w0 W : World} {g : Nat} {f0 : ByteArray} {f1 : Int} (h : IsS39 w0 W g f0 f1) : IsS39 w0 W.drew g f0 f1 := h
theorem IsS39.at_ {w0 W : World} {g : Nat} {f0 : ByteArray} {f1 : Int} {w' : World} {m : Nat} (hq : W.drewN m = w') (h : IsS39 w0 W g f0 f1) : IsS39 w0 w' g f0 f1 := by subst hq; exact IsS39.drewN h m
theorem IsS39.apart {w0 W : World} {g : Nat} {f0 : ByteArray} {f1 : Int} {α : Type} {d : Kd α} {e : Nat} {base : Nat} {ok : Nat → Prop} {v : Value} {xs : List α} (h : IsS39 w0 W g f0 f1) (ho : d.R e W base ok v xs) (ht : ∀ q, q ∈ e :: d.E → q ≠ 39) : d.R e W base (fun k => ok k ∧ k ≠ g) v xs := by
  obtain ⟨hb, hg⟩ := h
  exact Kd.R_types ho hb ht
theorem IsS39.own_ne {w0 W : World} {g : Nat} {f0 : ByteArray} {f1 : Int} {α : Type} {d : Kd α} {e : Nat} {base : Nat} {ok : Nat → Prop} {v : Value} {xs : List α} (h : IsS39 w0 W g f0 f1) (ho : d.R e W base ok v xs) (ht : e ≠ 39) : some g ≠ v.ownBlock := by
  obtain ⟨hb, hg⟩ := h
  exact Kd.R_ne ho hb ht
theorem IsS39.apartQ {w0 W : World} {g : Nat} {f0 : ByteArray} {f1 : Int} {α : Type} {d : Kd α} {e : Nat} {base : Nat} {ok : Nat → Prop} {v : Value} {xs : List α} (h : IsS39 w0 W g f0 f1) (ho : d.Q e W base ok v xs) (ht : ∀ q, q ∈ e :: d.E → q ≠ 39) : d.Q e W base (fun k => ok k ∧ k ≠ g) v xs := by
  obtain ⟨hb, hg⟩ := h
  exact Kd.Q_types ho hb ht
theorem IsS39.own_neQ {w0 W : World} {g : Nat} {f0 : ByteArray} {f1 : Int} {α : Type} {d : Kd α} {e : Nat} {base : Nat} {ok : Nat → Prop} {v : Value} {xs : List α} (h : IsS39 w0 W g f0 f1) (ho : d.Q e W base ok v xs) (ht : e ≠ 39) : some g ≠ v.ownBlock := by
  obtain ⟨hb, hg⟩ := h
  exact Kd.Q_ne ho hb ht
theorem IsS39.apartS {w0 W : World} {g : Nat} {f0 : ByteArray} {f1 : Int} {α : Type} {d : Kd α} {e : Nat} {base : Nat} {ok : Nat → Prop} {v : Value} {xs : List α} (h : IsS39 w0 W g f0 f1) (ho : d.S e W base ok v xs) (ht : ∀ q, q ∈ e :: d.E → q ≠ 39) : d.S e W base (fun k => ok k ∧ k ≠ g) v xs := by
  obtain ⟨hb, hg⟩ := h
  exact Kd.S_types ho hb ht
theorem IsS39.own_neS {w0 W : World} {g : Nat} {f0 : ByteArray} {f1 : Int} {α : Type} {d : Kd α} {e : Nat} {base : Nat} {ok : Nat → Prop} {v : Value} {xs : List α} (h : IsS39 w0 W g f0 f1) (ho : d.S e W base ok v xs) (ht : e ≠ 39) : some g ≠ v.ownBlock := by
  obtain ⟨hb, hg⟩ := h
  exact Kd.S_ne ho hb ht
theorem IsS39.lt {w0 W : World} {g : Nat} {f0 : ByteArray} {f1 : Int} (h : IsS39 w0 W g f0 f1) : g < W.heap.size := by
  obtain ⟨hb, hg⟩ := h
  exact blk_lt hb
theorem IsS39.ge {w0 W : World} {g : Nat} {f0 : ByteArray} {f1 : Int} (h : IsS39 w0 W g f0 f1) : w0.heap.size ≤ g := by
  obtain ⟨hb, hg⟩ := h
  exact hg
theorem IsS39.ne_blk {w0 W : World} {g : Nat} {f0 : ByteArray} {f1 : Int} {a : Nat} {cs : Array Value} {t : TypeId} {fr : Nat × Nat} (h : IsS39 w0 W g f0 f1) (hb2 : W.heap[a]? = some (.cells cs t fr)) (ht : t ≠ 39) : g ≠ a := by
  obtain ⟨hb, hg⟩ := h
  rintro rfl
  rw [hb] at hb2
  injection hb2 with hb2
  injection hb2 with _ ht2
  exact ht ht2.symm
theorem IsS39.far {w0 W : World} {g : Nat} {f0 : ByteArray} {f1 : Int} {p : Addr} (h : IsS39 w0 W g f0 f1) (hne : g ≠ p.block) (u : Value) : IsS39 w0 (W.setCell p u) g f0 f1 := by
  obtain ⟨hb, hg⟩ := h
  exact ⟨blk_far hb hne u, hg⟩
theorem cellS39_0 {W : World} {g : Nat} {f0 : ByteArray} {f1 : Int} (h : W.heap[g]? = some (.cells #[.string f0, .int .i64 f1] 39 (0, 0))) : W.cell? ⟨g, 0, none⟩ = some (.string f0) := (blk_cell h 0).trans rfl
theorem IsS39.set_0 {w0 W : World} {g : Nat} {f0 : ByteArray} {f1 : Int} (h : IsS39 w0 W g f0 f1) (x : ByteArray) : IsS39 w0 (W.setCell ⟨g, 0, none⟩ (.string x)) g x f1 := by
  obtain ⟨hb, hg⟩ := h
  exact ⟨by simpa using blk_set hb 0 (.string x), hg⟩
theorem cellS39_1 {W : World} {g : Nat} {f0 : ByteArray} {f1 : Int} (h : W.heap[g]? = some (.cells #[.string f0, .int .i64 f1] 39 (0, 0))) : W.cell? ⟨g, 1, none⟩ = some (.int .i64 f1) := (blk_cell h 1).trans rfl
theorem IsS39.set_1 {w0 W : World} {g : Nat} {f0 : ByteArray} {f1 : Int} (h : IsS39 w0 W g f0 f1) (x : Int) : IsS39 w0 (W.setCell ⟨g, 1, none⟩ (.int .i64 x)) g f0 x := by
  obtain ⟨hb, hg⟩ := h
  exact ⟨by simpa using blk_set hb 1 (.int .i64 x), hg⟩
theorem IsS39.new (w0 W : World) (f0 : ByteArray) (f1 : Int) (hB : Below w0.heap.size w0 W) : IsS39 w0 (W.alloc (.cells #[.string f0, .int .i64 f1] 39)) W.heap.size f0 f1 := ⟨by simpa using heap_alloc_new W _, hB.size⟩

/-! ### cron_reader_is: function 21 -/
def cron_reader_is.f (s0_0 : ByteArray) (s0_1 : Int) (a1 : Int) : Option (Bool × ByteArray × Int) := if s0_1 < (s0_0.size : Int) then (if 0 ≤ s0_1 then (if (bt s0_0 s0_1) = a1 then (some (true, s0_0, wrap64 (s0_1 + 1))) else (some (false, s0_0, s0_1))) else (none)) else (some (false, s0_0, s0_1))
set_option maxHeartbeats 8000000 in
set_option maxRecDepth 100000 in
theorem cron_reader_is.calls (g : Nat) (s0_0 : ByteArray) (s0_1 : Int) (a1 : Int) (r1 : Bool) (r2 : ByteArray) (r3 : Int) (w0 w : World) (hI : IsS39 w0 w g s0_0 s0_1) (hB : Below w0.heap.size w0 w) (h : cron_reader_is.f s0_0 s0_1 a1 = some (r1, r2, r3)) :
    Calls Tryd.prog 21 #[.pointer (some ⟨g, 0, none⟩), .int .u8 a1] w fun e w' => e = .returned (.bool r1) ∧ IsS39 w0 w' g r2 r3 ∧ Below w0.heap.size w0 w' ∧ KeepBut w w' g none := by
  have HI0 := Aside0.mk hI
  have HK := Aside0.mk (KeepBut.refl w g none)
  have HL := Aside0.mk hB.size
  clear hI
  have HW0 := Aside0.mk hB.size
  have HB := Aside0.mk hB
  clear hB
  have H : (if s0_1 < (s0_0.size : Int) then (if 0 ≤ s0_1 then (if (bt s0_0 s0_1) = a1 then (some (true, s0_0, wrap64 (s0_1 + 1))) else (some (false, s0_0, s0_1))) else (none)) else (some (false, s0_0, s0_1))) = some (r1, r2, r3) := h
  clear h
  by_cases c3 : s0_1 < (s0_0.size : Int)
  · rw [if_pos c3] at H
    have c3b0 : decide (s0_1 < (s0_0.size : Int)) = true := decide_eq_true c3
    clear c3
    by_cases c4 : 0 ≤ s0_1
    · rw [if_pos c4] at H
      have c4b0 : decide (0 ≤ s0_1) = true := decide_eq_true c4
      clear c4
      by_cases c6 : (bt s0_0 s0_1) = a1
      · rw [if_pos c6] at H
        have c6b0 : ((bt s0_0 s0_1) == a1) = true := beq_iff_eq.mpr c6
        have c6b1 : ((bt s0_0 s0_1) != a1) = false := bne_eq_false_iff_eq.mpr c6
        clear c6
        simp only [Option.some.injEq, Prod.mk.injEq] at H
        obtain ⟨rfl, rfl, rfl⟩ := H
        obtain ⟨HGz7, hgz7⟩ := HI0.out
        have hcz7_0 := cellS39_0 HGz7
        have hcz7_1 := cellS39_1 HGz7
        have hfz7_0 := blk_frozen HGz7 0
        have hfz7_1 := blk_frozen HGz7 1
        clear HGz7 hgz7
        have p5 : 0 ≤ (s0_1 : Int) := of_decide_eq_true (by first | (with_reducible assumption) | assumption)
        have q5 : s0_1 < (s0_0.size : Int) := of_decide_eq_true (by first | (with_reducible assumption) | assumption)
        have hx5 := bt_at s0_0 s0_1
        replace p5 := eq_true p5
        replace q5 := eq_true q5
        go_enter Tryd.func21, Tryd.ntmps21
        go_wp2
        repeat (go_quiet (fail); try go_wp2)
        go_ret
        exact ⟨by first | rfl | (simp [errW_none, errW_some] <;> rfl) | (simp [*, errW_none, errW_some] <;> rfl), by repeat (first | (with_reducible first | exact HI0.out | apply IsS39.alloc | apply IsS39.drewN | apply IsS39.drew | apply IsS39.set_0 | apply IsS39.set_1) | exact HI0.out), by repeat (first | (with_reducible first | exact HB.out | apply below_alloc | apply pw_below_drewN | apply below_drew1 | refine below_set ?_ (IsS39.ge HI0.out)) | exact HB.out), by repeat (first | (with_reducible first | exact HK.out | apply KeepBut.set_ | apply keep_drewN | apply keep_drew | apply keep_alloc) | exact HK.out)⟩
      · rw [if_neg c6] at H
        have c6b0 : ((bt s0_0 s0_1) == a1) = false := beq_eq_false_iff_ne.mpr c6
        have c6b1 : ((bt s0_0 s0_1) != a1) = true := bne_iff_ne.mpr c6
        simp only [Option.some.injEq, Prod.mk.injEq] at H
        obtain ⟨rfl, rfl, rfl⟩ := H
        obtain ⟨HGz8, hgz8⟩ := HI0.out
        have hcz8_0 := cellS39_0 HGz8
        have hcz8_1 := cellS39_1 HGz8
        have hfz8_0 := blk_frozen HGz8 0
        have hfz8_1 := blk_frozen HGz8 1
        clear HGz8 hgz8
        have p5 : 0 ≤ (s0_1 : Int) := of_decide_eq_true (by first | (with_reducible assumption) | assumption)
        have q5 : s0_1 < (s0_0.size : Int) := of_decide_eq_true (by first | (with_reducible assumption) | assumption)
        have hx5 := bt_at s0_0 s0_1
        replace p5 := eq_true p5
        replace q5 := eq_true q5
        go_enter Tryd.func21, Tryd.ntmps21
        go_wp2
        repeat (go_quiet (fail); try go_wp2)
        go_ret
        exact ⟨by first | rfl | (simp [errW_none, errW_some] <;> rfl) | (simp [*, errW_none, errW_some] <;> rfl), by repeat (first | (with_reducible first | exact HI0.out | apply IsS39.alloc | apply IsS39.drewN | apply IsS39.drew | apply IsS39.set_0 | apply IsS39.set_1) | exact HI0.out), by repeat (first | (with_reducible first | exact HB.out | apply below_alloc | apply pw_below_drewN | apply below_drew1 | refine below_set ?_ (IsS39.ge HI0.out)) | exact HB.out), by repeat (first | (with_reducible first | exact HK.out | apply KeepBut.set_ | apply keep_drewN | apply keep_drew | apply keep_alloc) | exact HK.out)⟩
    · rw [if_neg c4] at H
      exact absurd H (by simp)
  · rw [if_neg c3] at H
    have c3b0 : decide (s0_1 < (s0_0.size : Int)) = false := decide_eq_false c3
    clear c3
    simp only [Option.some.injEq, Prod.mk.injEq] at H
    obtain ⟨rfl, rfl, rfl⟩ := H
    obtain ⟨HGz9, hgz9⟩ := HI0.out
    have hcz9_0 := cellS39_0 HGz9
    have hcz9_1 := cellS39_1 HGz9
    have hfz9_0 := blk_frozen HGz9 0
    have hfz9_1 := blk_frozen HGz9 1
    clear HGz9 hgz9
    go_enter Tryd.func21, Tryd.ntmps21
    go_wp2
    repeat (go_quiet (fail); try go_wp2)
    go_ret
    exact ⟨by first | rfl | (simp [errW_none, errW_some] <;> rfl) | (simp [*, errW_none, errW_some] <;> rfl), by repeat (first | (with_reducible first | exact HI0.out | apply IsS39.alloc | apply IsS39.drewN | apply IsS39.drew | apply IsS39.set_0 | apply IsS39.set_1) | exact HI0.out), by repeat (first | (with_reducible first | exact HB.out | apply below_alloc | apply pw_below_drewN | apply below_drew1 | refine below_set ?_ (IsS39.ge HI0.out)) | exact HB.out), by repeat (first | (with_reducible first | exact HK.out | apply KeepBut.set_ | apply keep_drewN | apply keep_drew | apply keep_alloc) | exact HK.out)⟩



-- BY HAND: function 50 (Ca.atoi)



/-! ### cron_reader_number: function 48 -/
mutual
def cron_reader_number.j1 : Nat → Int → Int → Int → ByteArray → Int → Option (Int × Bool × ByteArray × Int)
  | 0, _, _, _, _, _ => none
  | k + 1, x1, x2, x8, x1000, x1001 => if 0 ≤ x1001 then (if x1001 ≤ x8 then (if x8 ≤ (x1000.size : Int) then (if ((x1000.extract (x1001 : Int).toNat (x8 : Int).toNat).size : Int) < 1 then (cron_reader_number.j2 k x1 x2 x8 (x1000.extract (x1001 : Int).toNat (x8 : Int).toNat) true x1000 x1001) else (if ((x1000.extract (x1001 : Int).toNat (x8 : Int).toNat).size : Int) > 2 then (cron_reader_number.j2 k x1 x2 x8 (x1000.extract (x1001 : Int).toNat (x8 : Int).toNat) true x1000 x1001) else (if ((x1000.extract (x1001 : Int).toNat (x8 : Int).toNat).size : Int) = 2 then (if 0 < ((x1000.extract (x1001 : Int).toNat (x8 : Int).toNat).size : Int) then (cron_reader_number.j2 k x1 x2 x8 (x1000.extract (x1001 : Int).toNat (x8 : Int).toNat) ((bt (x1000.extract (x1001 : Int).toNat (x8 : Int).toNat) 0) == 48) x1000 x1001) else (none)) else (cron_reader_number.j2 k x1 x2 x8 (x1000.extract (x1001 : Int).toNat (x8 : Int).toNat) false x1000 x1001)))) else (none)) else (none)) else (none)
def cron_reader_number.j2 : Nat → Int → Int → Int → ByteArray → Bool → ByteArray → Int → Option (Int × Bool × ByteArray × Int)
  | 0, _, _, _, _, _, _, _ => none
  | k + 1, x1, x2, x8, x9, x70, x1000, x1001 => if x70 = true then (some (0, false, x1000, x1001)) else ((Ca.atoi.f x9).bind fun bt109 => (if bt109.1 < x1 then (some (0, false, x1000, x1001)) else (if bt109.1 > x2 then (some (0, false, x1000, x1001)) else (some (bt109.1, true, x1000, x8)))))
def cron_reader_number.l0 : Nat → Int → Int → Int → ByteArray → Int → Option (Int × Bool × ByteArray × Int)
  | 0, _, _, _, _, _ => none
  | k + 1, x1, x2, x8, x1000, x1001 => if x8 < (x1000.size : Int) then (if 0 ≤ x8 then (if (bt x1000 x8) ≥ 48 then (if (bt x1000 x8) ≤ 57 then (cron_reader_number.l0 k x1 x2 (wrap64 (x8 + 1)) x1000 x1001) else (cron_reader_number.j1 k x1 x2 x8 x1000 x1001)) else (cron_reader_number.j1 k x1 x2 x8 x1000 x1001)) else (none)) else (cron_reader_number.j1 k x1 x2 x8 x1000 x1001)
end
def cron_reader_number.f (k : Nat) (s0_0 : ByteArray) (s0_1 : Int) (a1 : Int) (a2 : Int) : Option (Int × Bool × ByteArray × Int) := cron_reader_number.l0 k a1 a2 s0_1 s0_0 s0_1
theorem cron_reader_number.mono_l : ∀ k, (∀ y0 y1 y2 y3 y4, LeO (cron_reader_number.j1 k y0 y1 y2 y3 y4) (cron_reader_number.j1 (k + 1) y0 y1 y2 y3 y4)) ∧ (∀ y0 y1 y2 y3 y4 y5 y6, LeO (cron_reader_number.j2 k y0 y1 y2 y3 y4 y5 y6) (cron_reader_number.j2 (k + 1) y0 y1 y2 y3 y4 y5 y6)) ∧ (∀ y0 y1 y2 y3 y4, LeO (cron_reader_number.l0 k y0 y1 y2 y3 y4) (cron_reader_number.l0 (k + 1) y0 y1 y2 y3 y4))
  | 0 => ⟨fun _ _ _ _ _ r h => by simp [cron_reader_number.j1] at h, fun _ _ _ _ _ _ _ r h => by simp [cron_reader_number.j2] at h, fun _ _ _ _ _ r h => by simp [cron_reader_number.l0] at h⟩
  | k + 1 => by
    obtain ⟨ih0, ih1, ih2⟩ := cron_reader_number.mono_l k
    refine ⟨?_, ?_, ?_⟩
    · intro y0 y1 y2 y3 y4
      unfold cron_reader_number.j1
      repeat' first
      | (with_reducible exact ih0 _ _ _ _ _)
      | (with_reducible exact ih1 _ _ _ _ _ _ _)
      | (with_reducible exact ih2 _ _ _ _ _)
      | (with_reducible exact LeO.refl _)
      | (with_reducible exact LeO.none _)
      | (with_reducible refine LeO.ite ?_ ?_)
      | (with_reducible refine LeO.bind ?_ (fun _ => ?_))
      | exact ih0 _ _ _ _ _
      | exact ih1 _ _ _ _ _ _ _
      | exact ih2 _ _ _ _ _
      | exact LeO.none _
      | refine LeO.ite ?_ ?_
      | refine LeO.bind ?_ (fun _ => ?_)
    · intro y0 y1 y2 y3 y4 y5 y6
      unfold cron_reader_number.j2
      repeat' first
      | (with_reducible exact ih0 _ _ _ _ _)
      | (with_reducible exact ih1 _ _ _ _ _ _ _)
      | (with_reducible exact ih2 _ _ _ _ _)
      | (with_reducible exact LeO.refl _)
      | (with_reducible exact LeO.none _)
      | (with_reducible refine LeO.ite ?_ ?_)
      | (with_reducible refine LeO.bind ?_ (fun _ => ?_))
      | exact ih0 _ _ _ _ _
      | exact ih1 _ _ _ _ _ _ _
      | exact ih2 _ _ _ _ _
      | exact LeO.none _
      | refine LeO.ite ?_ ?_
      | refine LeO.bind ?_ (fun _ => ?_)
    · intro y0 y1 y2 y3 y4
      unfold cron_reader_number.l0
      repeat' first
      | (with_reducible exact ih0 _ _ _ _ _)
      | (with_reducible exact ih1 _ _ _ _ _ _ _)
      | (with_reducible exact ih2 _ _ _ _ _)
      | (with_reducible exact LeO.refl _)
      | (with_reducible exact LeO.none _)
      | (with_reducible refine LeO.ite ?_ ?_)
      | (with_reducible refine LeO.bind ?_ (fun _ => ?_))
      | exact ih0 _ _ _ _ _
      | exact ih1 _ _ _ _ _ _ _
      | exact ih2 _ _ _ _ _
      | exact LeO.none _
      | refine LeO.ite ?_ ?_
      | refine LeO.bind ?_ (fun _ => ?_)
theorem cron_reader_number.mono : ∀ a0 a1 a2 a3 k, LeO (cron_reader_number.f k a0 a1 a2 a3) (cron_reader_number.f (k + 1) a0 a1 a2 a3) := by
  intro a0 a1 a2 a3 k
  obtain ⟨ih0, ih1, ih2⟩ := cron_reader_number.mono_l k
  unfold cron_reader_number.f
  repeat' first
      | (with_reducible exact ih0 _ _ _ _ _)
      | (with_reducible exact ih1 _ _ _ _ _ _ _)
      | (with_reducible exact ih2 _ _ _ _ _)
      | (with_reducible exact LeO.refl _)
      | (with_reducible exact LeO.none _)
      | (with_reducible refine LeO.ite ?_ ?_)
      | (with_reducible refine LeO.bind ?_ (fun _ => ?_))
      | exact ih0 _ _ _ _ _
      | exact ih1 _ _ _ _ _ _ _
      | exact ih2 _ _ _ _ _
      | exact LeO.none _
      | refine LeO.ite ?_ ?_
      | refine LeO.bind ?_ (fun _ => ?_)
set_option maxHeartbeats 8000000 in
set_option maxRecDepth 100000 in
theorem cron_reader_number.calls (k : Nat) (g : Nat) (s0_0 : ByteArray) (s0_1 : Int) (a1 : Int) (a2 : Int) (r1 : Int) (r2 : Bool) (r3 : ByteArray) (r4 : Int) (w0 w : World) (hI : IsS39 w0 w g s0_0 s0_1) (hB : Below w0.heap.size w0 w) (h : cron_reader_number.f k s0_0 s0_1 a1 a2 = some (r1, r2, r3, r4)) :
    Calls Tryd.prog 48 #[.pointer (some ⟨g, 0, none⟩), .int .i64 a1, .int .i64 a2] w fun e w' => e = .returned (.tuple #[.int .i64 r1, .bool r2]) ∧ IsS39 w0 w' g r3 r4 ∧ Below w0.heap.size w0 w' ∧ KeepBut w w' g none := by
  have HI0 := Aside0.mk hI
  have HK := Aside0.mk (KeepBut.refl w g none)
  have HL := Aside0.mk hB.size
  clear hI
  have HW0 := Aside0.mk hB.size
  have HB := Aside0.mk hB
  clear hB
  have H : (cron_reader_number.l0 k a1 a2 s0_1 s0_0 s0_1) = some (r1, r2, r3, r4) := h
  clear h
  have HC4 := Aside0.mk H
  clear H
  obtain ⟨HGz5, hgz5⟩ := HI0.out
  have hcz5_0 := cellS39_0 HGz5
  have hcz5_1 := cellS39_1 HGz5
  have hfz5_0 := blk_frozen HGz5 0
  have hfz5_1 := blk_frozen HGz5 1
  clear HGz5 hgz5
  go_enter Tryd.func48, Tryd.ntmps48
  go_upto_block 0 with (fail)
  repeat (go_quiet (fail); go_upto_block 0 with (fail))
  go_cut [8] (fun v8 wc => ∃ (kq : Nat) (x8_3 : Int), v8 = .int .i64 x8_3 ∧ Aside0 (cron_reader_number.j1 kq a1 a2 x8_3 s0_0 s0_1 = some (r1, r2, r3, r4)) ∧ Aside0 (kq ≤ k) ∧ Aside0 (IsS39 w0 wc g s0_0 s0_1) ∧ Aside0 (KeepBut w wc g none) ∧ Aside0 (Below w0.heap.size w0 wc))
  case first =>
    have H := HC4.out
    clear HC4
    have H' := Aside0.mk H
    clear H
    go_wp2
    repeat (go_quiet (fail); try go_wp2)
    go_loopg [8] k (fun kq v8 w' => ∃ (x8_1 : Int), v8 = .int .i64 x8_1 ∧ Aside0 (cron_reader_number.l0 kq a1 a2 x8_1 s0_0 s0_1 = some (r1, r2, r3, r4)) ∧ Aside0 (kq ≤ k) ∧ Aside0 (IsS39 w0 w' g s0_0 s0_1) ∧ Aside0 (KeepBut w w' g none) ∧ Aside0 (Below w0.heap.size w0 w'))
    case atStart => exact ⟨(s0_1), (by first | rfl | (simp; done) | (simp [*]; done)), H', ⟨Nat.le_refl _⟩, ⟨by repeat (first | (with_reducible first | exact HI0.out | apply IsS39.alloc | apply IsS39.drewN | apply IsS39.drew | apply IsS39.set_0 | apply IsS39.set_1) | exact HI0.out)⟩, ⟨by repeat (first | (with_reducible first | exact HK.out | apply KeepBut.set_ | apply keep_drewN | apply keep_drew | apply keep_alloc) | exact HK.out)⟩, ⟨by repeat (first | (with_reducible first | exact HB.out | apply below_alloc | apply pw_below_drewN | apply below_drew1 | refine below_set ?_ (IsS39.ge HI0.out)) | exact HB.out)⟩⟩
    case round =>
      clear H'
      try clear p2
      try clear c4
      try clear hcz5_0
      try clear hcz5_1
      try clear hfz5_0
      try clear hfz5_1
      obtain ⟨x8_1, rfl, HA, HK1, HI0, HK, HB⟩ := hrel
      cases gk with
      | zero => exact absurd HA.out (by simp [cron_reader_number.l0])
      | succ k1 =>
        have H := HA.out
        clear HA
        simp only [cron_reader_number.l0] at H
        by_cases c6 : x8_1 < (s0_0.size : Int)
        · rw [if_pos c6] at H
          have c6b0 : decide (x8_1 < (s0_0.size : Int)) = true := decide_eq_true c6
          clear c6
          (first | rw [c6b0] | (simp only [i64_w, i32_w]; rw [c6b0]) | skip)
          by_cases c7 : 0 ≤ x8_1
          · rw [if_pos c7] at H
            have c7b0 : decide (0 ≤ x8_1) = true := decide_eq_true c7
            clear c7
            by_cases c9 : (bt s0_0 x8_1) ≥ 48
            · rw [if_pos c9] at H
              have c9b0 : decide (48 ≤ (bt s0_0 x8_1)) = true := decide_eq_true c9
              clear c9
              by_cases c11 : (bt s0_0 x8_1) ≤ 57
              · rw [if_pos c11] at H
                have c11b0 : decide ((bt s0_0 x8_1) ≤ 57) = true := decide_eq_true c11
                clear c11
                have H' := Aside0.mk H
                clear H
                obtain ⟨HGz12, hgz12⟩ := HI0.out
                have hcz12_0 := cellS39_0 HGz12
                have hcz12_1 := cellS39_1 HGz12
                have hfz12_0 := blk_frozen HGz12 0
                have hfz12_1 := blk_frozen HGz12 1
                clear HGz12 hgz12
                have p8 : 0 ≤ (x8_1 : Int) := of_decide_eq_true (by first | (with_reducible assumption) | assumption)
                have q8 : x8_1 < (s0_0.size : Int) := of_decide_eq_true (by first | (with_reducible assumption) | assumption)
                have hx8 := bt_at s0_0 x8_1
                replace p8 := eq_true p8
                replace q8 := eq_true q8
                have p10 : 0 ≤ (x8_1 : Int) := of_decide_eq_true (by first | (with_reducible assumption) | assumption)
                have q10 : x8_1 < (s0_0.size : Int) := of_decide_eq_true (by first | (with_reducible assumption) | assumption)
                have hx10 := bt_at s0_0 x8_1
                replace p10 := eq_true p10
                replace q10 := eq_true q10
                go_wp2
                repeat (go_quiet (fail); try go_wp2)
                go_roundg k1
                case measure => have := HK1.out; omega
                case rel => exact ⟨(wrap64 (x8_1 + 1)), (by first | rfl | (simp; done) | (simp [*]; done)), H', ⟨by have := HK1.out; omega⟩, ⟨by repeat (first | (with_reducible first | exact HI0.out | apply IsS39.alloc | apply IsS39.drewN | apply IsS39.drew | apply IsS39.set_0 | apply IsS39.set_1) | exact HI0.out)⟩, ⟨by repeat (first | (with_reducible first | exact HK.out | apply KeepBut.set_ | apply keep_drewN | apply keep_drew | apply keep_alloc) | exact HK.out)⟩, ⟨by repeat (first | (with_reducible first | exact HB.out | apply below_alloc | apply pw_below_drewN | apply below_drew1 | refine below_set ?_ (IsS39.ge HI0.out)) | exact HB.out)⟩⟩
              · rw [if_neg c11] at H
                have c11b0 : decide ((bt s0_0 x8_1) ≤ 57) = false := decide_eq_false c11
                clear c11
                have H' := Aside0.mk H
                clear H
                obtain ⟨HGz13, hgz13⟩ := HI0.out
                have hcz13_0 := cellS39_0 HGz13
                have hcz13_1 := cellS39_1 HGz13
                have hfz13_0 := blk_frozen HGz13 0
                have hfz13_1 := blk_frozen HGz13 1
                clear HGz13 hgz13
                have p8 : 0 ≤ (x8_1 : Int) := of_decide_eq_true (by first | (with_reducible assumption) | assumption)
                have q8 : x8_1 < (s0_0.size : Int) := of_decide_eq_true (by first | (with_reducible assumption) | assumption)
                have hx8 := bt_at s0_0 x8_1
                replace p8 := eq_true p8
                replace q8 := eq_true q8
                have p10 : 0 ≤ (x8_1 : Int) := of_decide_eq_true (by first | (with_reducible assumption) | assumption)
                have q10 : x8_1 < (s0_0.size : Int) := of_decide_eq_true (by first | (with_reducible assumption) | assumption)
                have hx10 := bt_at s0_0 x8_1
                replace p10 := eq_true p10
                replace q10 := eq_true q10
                go_wp2
                repeat (go_quiet (fail); try go_wp2)
                go_meet
                case rel => exact ⟨_, (x8_1), (by first | rfl | (simp; done) | (simp [*]; done)), H', ⟨by have := HK1.out; first | omega | exact Nat.le_refl _⟩, ⟨by repeat (first | (with_reducible first | exact HI0.out | apply IsS39.alloc | apply IsS39.drewN | apply IsS39.drew | apply IsS39.set_0 | apply IsS39.set_1) | exact HI0.out)⟩, ⟨by repeat (first | (with_reducible first | exact HK.out | apply KeepBut.set_ | apply keep_drewN | apply keep_drew | apply keep_alloc) | exact HK.out)⟩, ⟨by repeat (first | (with_reducible first | exact HB.out | apply below_alloc | apply pw_below_drewN | apply below_drew1 | refine below_set ?_ (IsS39.ge HI0.out)) | exact HB.out)⟩⟩
            · rw [if_neg c9] at H
              have c9b0 : decide (48 ≤ (bt s0_0 x8_1)) = false := decide_eq_false c9
              clear c9
              have H' := Aside0.mk H
              clear H
              obtain ⟨HGz14, hgz14⟩ := HI0.out
              have hcz14_0 := cellS39_0 HGz14
              have hcz14_1 := cellS39_1 HGz14
              have hfz14_0 := blk_frozen HGz14 0
              have hfz14_1 := blk_frozen HGz14 1
              clear HGz14 hgz14
              have p8 : 0 ≤ (x8_1 : Int) := of_decide_eq_true (by first | (with_reducible assumption) | assumption)
              have q8 : x8_1 < (s0_0.size : Int) := of_decide_eq_true (by first | (with_reducible assumption) | assumption)
              have hx8 := bt_at s0_0 x8_1
              replace p8 := eq_true p8
              replace q8 := eq_true q8
              go_wp2
              repeat (go_quiet (fail); try go_wp2)
              go_meet
              case rel => exact ⟨_, (x8_1), (by first | rfl | (simp; done) | (simp [*]; done)), H', ⟨by have := HK1.out; first | omega | exact Nat.le_refl _⟩, ⟨by repeat (first | (with_reducible first | exact HI0.out | apply IsS39.alloc | apply IsS39.drewN | apply IsS39.drew | apply IsS39.set_0 | apply IsS39.set_1) | exact HI0.out)⟩, ⟨by repeat (first | (with_reducible first | exact HK.out | apply KeepBut.set_ | apply keep_drewN | apply keep_drew | apply keep_alloc) | exact HK.out)⟩, ⟨by repeat (first | (with_reducible first | exact HB.out | apply below_alloc | apply pw_below_drewN | apply below_drew1 | refine below_set ?_ (IsS39.ge HI0.out)) | exact HB.out)⟩⟩
          · rw [if_neg c7] at H
            exact absurd H (by simp)
        · rw [if_neg c6] at H
          have c6b0 : decide (x8_1 < (s0_0.size : Int)) = false := decide_eq_false c6
          clear c6
          (first | rw [c6b0] | (simp only [i64_w, i32_w]; rw [c6b0]) | skip)
          have H' := Aside0.mk H
          clear H
          obtain ⟨HGz15, hgz15⟩ := HI0.out
          have hcz15_0 := cellS39_0 HGz15
          have hcz15_1 := cellS39_1 HGz15
          have hfz15_0 := blk_frozen HGz15 0
          have hfz15_1 := blk_frozen HGz15 1
          clear HGz15 hgz15
          go_wp2
          repeat (go_quiet (fail); try go_wp2)
          go_meet
          case rel => exact ⟨_, (x8_1), (by first | rfl | (simp; done) | (simp [*]; done)), H', ⟨by have := HK1.out; first | omega | exact Nat.le_refl _⟩, ⟨by repeat (first | (with_reducible first | exact HI0.out | apply IsS39.alloc | apply IsS39.drewN | apply IsS39.drew | apply IsS39.set_0 | apply IsS39.set_1) | exact HI0.out)⟩, ⟨by repeat (first | (with_reducible first | exact HK.out | apply KeepBut.set_ | apply keep_drewN | apply keep_drew | apply keep_alloc) | exact HK.out)⟩, ⟨by repeat (first | (with_reducible first | exact HB.out | apply below_alloc | apply pw_below_drewN | apply below_drew1 | refine below_set ?_ (IsS39.ge HI0.out)) | exact HB.out)⟩⟩
  case rest =>
    clear HC4
    try clear c1
    try clear p1
    try clear q1
    try clear hx1
    try clear p2
    try clear c4
    try clear c6
    try clear c6b0
    try clear p6
    try clear c7
    try clear c7b0
    try clear p8
    try clear q8
    try clear hx8
    try clear c9
    try clear c9b0
    try clear p10
    try clear q10
    try clear hx10
    try clear c11
    try clear c11b0
    try clear hcz12_0
    try clear hcz12_1
    try clear hcz13_0
    try clear hcz13_1
    try clear hcz14_0
    try clear hcz14_1
    try clear hcz15_0
    try clear hcz15_1
    try clear hcz5_0
    try clear hcz5_1
    try clear hfz12_0
    try clear hfz12_1
    try clear hfz13_0
    try clear hfz13_1
    try clear hfz14_0
    try clear hfz14_1
    try clear hfz15_0
    try clear hfz15_1
    try clear hfz5_0
    try clear hfz5_1
    try clear p10
    try clear p2
    try clear p8
    try clear q10
    try clear q8
    obtain ⟨kq, x8_3, rfl, HA, HJ3, HI0, HK, HB⟩ := hcut
    cases kq with
    | zero => exact absurd HA.out (by simp [cron_reader_number.j1])
    | succ kj3 =>
      have H := HA.out
      clear HA
      simp only [cron_reader_number.j1] at H
      by_cases c16 : 0 ≤ s0_1
      · rw [if_pos c16] at H
        have c16b0 := eq_true c16
        have c16b1 : decide (0 ≤ s0_1) = true := decide_eq_true c16
        clear c16
        by_cases c17 : s0_1 ≤ x8_3
        · rw [if_pos c17] at H
          have c17b0 := eq_true c17
          have c17b1 : decide (s0_1 ≤ x8_3) = true := decide_eq_true c17
          clear c17
          by_cases c18 : x8_3 ≤ (s0_0.size : Int)
          · rw [if_pos c18] at H
            have c18b0 := eq_true c18
            have c18b1 : decide (x8_3 ≤ (s0_0.size : Int)) = true := decide_eq_true c18
            clear c18
            have HC19 := Aside0.mk H
            clear H
            obtain ⟨HGz20, hgz20⟩ := HI0.out
            have hcz20_0 := cellS39_0 HGz20
            have hcz20_1 := cellS39_1 HGz20
            have hfz20_0 := blk_frozen HGz20 0
            have hfz20_1 := blk_frozen HGz20 1
            clear HGz20 hgz20
            go_upto_region 5 with (fail)
            repeat (go_quiet (fail); go_upto_region 5 with (fail))
            go_cut [70] (fun v70 wc => ∃ (kq : Nat) (x70_18 : Bool), v70 = .bool x70_18 ∧ Aside0 (cron_reader_number.j2 kq a1 a2 x8_3 (s0_0.extract (s0_1 : Int).toNat (x8_3 : Int).toNat) x70_18 s0_0 s0_1 = some (r1, r2, r3, r4)) ∧ Aside0 (kq ≤ kj3) ∧ Aside0 (IsS39 w0 wc g s0_0 s0_1) ∧ Aside0 (KeepBut w wc g none) ∧ Aside0 (Below w0.heap.size w0 wc))
            case first =>
              have H := HC19.out
              clear HC19
              by_cases c21 : ((s0_0.extract (s0_1 : Int).toNat (x8_3 : Int).toNat).size : Int) < 1
              · rw [if_pos c21] at H
                have c21b0 : decide (((s0_0.extract (s0_1 : Int).toNat (x8_3 : Int).toNat).size : Int) < 1) = true := decide_eq_true c21
                try have c21s0 : decide ((((x8_3).toNat - (s0_1).toNat : Nat) : Int) < 1) = true := by (have h1_ : (x8_3) ≤ (s0_0.size : Int) := by first | assumption | simp [*]); (have hz_ : (s0_0.extract (s0_1).toNat (x8_3).toNat).size = (x8_3).toNat - (s0_1).toNat := by (simp only [ByteArray.size_extract]; omega)); have hy_ := c21b0; rw [hz_] at hy_; exact hy_
                try have c21p0 := of_decide_eq_true c21s0
                have c21b1 : decide ((s0_0.extract (s0_1 : Int).toNat (x8_3 : Int).toNat).size < 1) = true := decide_eq_true (by omega)
                try have c21s1 : decide (((x8_3).toNat - (s0_1).toNat : Nat) < 1) = true := by (have h1_ : (x8_3) ≤ (s0_0.size : Int) := by first | assumption | simp [*]); (have hz_ : (s0_0.extract (s0_1).toNat (x8_3).toNat).size = (x8_3).toNat - (s0_1).toNat := by (simp only [ByteArray.size_extract]; omega)); have hy_ := c21b1; rw [hz_] at hy_; exact hy_
                try have c21p1 := of_decide_eq_true c21s1
                clear c21
                (first | rw [c21b0] | (simp only [i64_w, i32_w]; rw [c21b0]) | skip)
                have H' := Aside0.mk H
                clear H
                go_wp2
                repeat (go_quiet (fail); try go_wp2)
                go_meet
                case rel => exact ⟨_, (true), (by first | rfl | (simp; done) | (simp [*]; done)), H', ⟨by have := HJ3.out; first | omega | exact Nat.le_refl _⟩, ⟨by repeat (first | (with_reducible first | exact HI0.out | apply IsS39.alloc | apply IsS39.drewN | apply IsS39.drew | apply IsS39.set_0 | apply IsS39.set_1) | exact HI0.out)⟩, ⟨by repeat (first | (with_reducible first | exact HK.out | apply KeepBut.set_ | apply keep_drewN | apply keep_drew | apply keep_alloc) | exact HK.out)⟩, ⟨by repeat (first | (with_reducible first | exact HB.out | apply below_alloc | apply pw_below_drewN | apply below_drew1 | refine below_set ?_ (IsS39.ge HI0.out)) | exact HB.out)⟩⟩
              · rw [if_neg c21] at H
                have c21b0 : decide (((s0_0.extract (s0_1 : Int).toNat (x8_3 : Int).toNat).size : Int) < 1) = false := decide_eq_false c21
                try have c21s0 : decide ((((x8_3).toNat - (s0_1).toNat : Nat) : Int) < 1) = false := by (have h1_ : (x8_3) ≤ (s0_0.size : Int) := by first | assumption | simp [*]); (have hz_ : (s0_0.extract (s0_1).toNat (x8_3).toNat).size = (x8_3).toNat - (s0_1).toNat := by (simp only [ByteArray.size_extract]; omega)); have hy_ := c21b0; rw [hz_] at hy_; exact hy_
                try have c21p0 := of_decide_eq_false c21s0
                have c21b1 : decide ((s0_0.extract (s0_1 : Int).toNat (x8_3 : Int).toNat).size < 1) = false := decide_eq_false (by omega)
                try have c21s1 : decide (((x8_3).toNat - (s0_1).toNat : Nat) < 1) = false := by (have h1_ : (x8_3) ≤ (s0_0.size : Int) := by first | assumption | simp [*]); (have hz_ : (s0_0.extract (s0_1).toNat (x8_3).toNat).size = (x8_3).toNat - (s0_1).toNat := by (simp only [ByteArray.size_extract]; omega)); have hy_ := c21b1; rw [hz_] at hy_; exact hy_
                try have c21p1 := of_decide_eq_false c21s1
                clear c21
                (first | rw [c21b0] | (simp only [i64_w, i32_w]; rw [c21b0]) | skip)
                by_cases c22 : ((s0_0.extract (s0_1 : Int).toNat (x8_3 : Int).toNat).size : Int) > 2
                · rw [if_pos c22] at H
                  have c22b0 : decide (2 < ((s0_0.extract (s0_1 : Int).toNat (x8_3 : Int).toNat).size : Int)) = true := decide_eq_true c22
                  try have c22s0 : decide (2 < (((x8_3).toNat - (s0_1).toNat : Nat) : Int)) = true := by (have h1_ : (x8_3) ≤ (s0_0.size : Int) := by first | assumption | simp [*]); (have hz_ : (s0_0.extract (s0_1).toNat (x8_3).toNat).size = (x8_3).toNat - (s0_1).toNat := by (simp only [ByteArray.size_extract]; omega)); have hy_ := c22b0; rw [hz_] at hy_; exact hy_
                  try have c22p0 := of_decide_eq_true c22s0
                  have c22b1 : decide (2 < (s0_0.extract (s0_1 : Int).toNat (x8_3 : Int).toNat).size) = true := decide_eq_true (by omega)
                  try have c22s1 : decide (2 < ((x8_3).toNat - (s0_1).toNat : Nat)) = true := by (have h1_ : (x8_3) ≤ (s0_0.size : Int) := by first | assumption | simp [*]); (have hz_ : (s0_0.extract (s0_1).toNat (x8_3).toNat).size = (x8_3).toNat - (s0_1).toNat := by (simp only [ByteArray.size_extract]; omega)); have hy_ := c22b1; rw [hz_] at hy_; exact hy_
                  try have c22p1 := of_decide_eq_true c22s1
                  clear c22
                  have H' := Aside0.mk H
                  clear H
                  go_wp2
                  repeat (go_quiet (fail); try go_wp2)
                  go_meet
                  case rel => exact ⟨_, (true), (by first | rfl | (simp; done) | (simp [*]; done)), H', ⟨by have := HJ3.out; first | omega | exact Nat.le_refl _⟩, ⟨by repeat (first | (with_reducible first | exact HI0.out | apply IsS39.alloc | apply IsS39.drewN | apply IsS39.drew | apply IsS39.set_0 | apply IsS39.set_1) | exact HI0.out)⟩, ⟨by repeat (first | (with_reducible first | exact HK.out | apply KeepBut.set_ | apply keep_drewN | apply keep_drew | apply keep_alloc) | exact HK.out)⟩, ⟨by repeat (first | (with_reducible first | exact HB.out | apply below_alloc | apply pw_below_drewN | apply below_drew1 | refine below_set ?_ (IsS39.ge HI0.out)) | exact HB.out)⟩⟩
                · rw [if_neg c22] at H
                  have c22b0 : decide (2 < ((s0_0.extract (s0_1 : Int).toNat (x8_3 : Int).toNat).size : Int)) = false := decide_eq_false c22
                  try have c22s0 : decide (2 < (((x8_3).toNat - (s0_1).toNat : Nat) : Int)) = false := by (have h1_ : (x8_3) ≤ (s0_0.size : Int) := by first | assumption | simp [*]); (have hz_ : (s0_0.extract (s0_1).toNat (x8_3).toNat).size = (x8_3).toNat - (s0_1).toNat := by (simp only [ByteArray.size_extract]; omega)); have hy_ := c22b0; rw [hz_] at hy_; exact hy_
                  try have c22p0 := of_decide_eq_false c22s0
                  have c22b1 : decide (2 < (s0_0.extract (s0_1 : Int).toNat (x8_3 : Int).toNat).size) = false := decide_eq_false (by omega)
                  try have c22s1 : decide (2 < ((x8_3).toNat - (s0_1).toNat : Nat)) = false := by (have h1_ : (x8_3) ≤ (s0_0.size : Int) := by first | assumption | simp [*]); (have hz_ : (s0_0.extract (s0_1).toNat (x8_3).toNat).size = (x8_3).toNat - (s0_1).toNat := by (simp only [ByteArray.size_extract]; omega)); have hy_ := c22b1; rw [hz_] at hy_; exact hy_
                  try have c22p1 := of_decide_eq_false c22s1
                  clear c22
                  by_cases c23 : ((s0_0.extract (s0_1 : Int).toNat (x8_3 : Int).toNat).size : Int) = 2
                  · rw [if_pos c23] at H
                    have c23b0 : (((s0_0.extract (s0_1 : Int).toNat (x8_3 : Int).toNat).size : Int) == 2) = true := beq_iff_eq.mpr c23
                    try have c23s0 : ((((x8_3).toNat - (s0_1).toNat : Nat) : Int) == 2) = true := by (have h1_ : (x8_3) ≤ (s0_0.size : Int) := by first | assumption | simp [*]); (have hz_ : (s0_0.extract (s0_1).toNat (x8_3).toNat).size = (x8_3).toNat - (s0_1).toNat := by (simp only [ByteArray.size_extract]; omega)); have hy_ := c23b0; rw [hz_] at hy_; exact hy_
                    have c23b1 : (((s0_0.extract (s0_1 : Int).toNat (x8_3 : Int).toNat).size : Int) != 2) = false := bne_eq_false_iff_eq.mpr c23
                    try have c23s1 : ((((x8_3).toNat - (s0_1).toNat : Nat) : Int) != 2) = false := by (have h1_ : (x8_3) ≤ (s0_0.size : Int) := by first | assumption | simp [*]); (have hz_ : (s0_0.extract (s0_1).toNat (x8_3).toNat).size = (x8_3).toNat - (s0_1).toNat := by (simp only [ByteArray.size_extract]; omega)); have hy_ := c23b1; rw [hz_] at hy_; exact hy_
                    clear c23
                    by_cases c24 : 0 < ((s0_0.extract (s0_1 : Int).toNat (x8_3 : Int).toNat).size : Int)
                    · rw [if_pos c24] at H
                      have c24b0 : decide (0 < ((s0_0.extract (s0_1 : Int).toNat (x8_3 : Int).toNat).size : Int)) = true := decide_eq_true c24
                      try have c24s0 : decide (0 < (((x8_3).toNat - (s0_1).toNat : Nat) : Int)) = true := by (have h1_ : (x8_3) ≤ (s0_0.size : Int) := by first | assumption | simp [*]); (have hz_ : (s0_0.extract (s0_1).toNat (x8_3).toNat).size = (x8_3).toNat - (s0_1).toNat := by (simp only [ByteArray.size_extract]; omega)); have hy_ := c24b0; rw [hz_] at hy_; exact hy_
                      try have c24p0 := of_decide_eq_true c24s0
                      have c24b1 : decide (0 < (s0_0.extract (s0_1 : Int).toNat (x8_3 : Int).toNat).size) = true := decide_eq_true (by omega)
                      try have c24s1 : decide (0 < ((x8_3).toNat - (s0_1).toNat : Nat)) = true := by (have h1_ : (x8_3) ≤ (s0_0.size : Int) := by first | assumption | simp [*]); (have hz_ : (s0_0.extract (s0_1).toNat (x8_3).toNat).size = (x8_3).toNat - (s0_1).toNat := by (simp only [ByteArray.size_extract]; omega)); have hy_ := c24b1; rw [hz_] at hy_; exact hy_
                      try have c24p1 := of_decide_eq_true c24s1
                      clear c24
                      have H' := Aside0.mk H
                      clear H
                      have p25 : 0 ≤ (0 : Int) := (by omega)
                      have q25 : 0 < (s0_0.extract (s0_1 : Int).toNat (x8_3 : Int).toNat).size := (by have : (0 : Int) < ((s0_0.extract (s0_1 : Int).toNat (x8_3 : Int).toNat).size : Int) := of_decide_eq_true (by first | (with_reducible assumption) | assumption); omega)
                      have hx25 : ∀ h : 0 < (s0_0.extract (s0_1 : Int).toNat (x8_3 : Int).toNat).size, (((s0_0.extract (s0_1 : Int).toNat (x8_3 : Int).toNat)[0]'h).toNat : Int) = bt (s0_0.extract (s0_1 : Int).toNat (x8_3 : Int).toNat) 0 := bt_at (s0_0.extract (s0_1 : Int).toNat (x8_3 : Int).toNat) 0
                      clear p25
                      have qi25 : (0 < ((s0_0.extract (s0_1 : Int).toNat (x8_3 : Int).toNat).size : Int)) = True := eq_true (of_decide_eq_true (by first | (with_reducible assumption) | assumption))
                      replace q25 := eq_true q25
                      go_wp2
                      repeat (go_quiet (fail); try go_wp2)
                      go_meet
                      case rel => exact ⟨_, (((bt (s0_0.extract (s0_1 : Int).toNat (x8_3 : Int).toNat) 0) == 48)), (by first | rfl | (simp; done) | (simp [*]; done)), H', ⟨by have := HJ3.out; first | omega | exact Nat.le_refl _⟩, ⟨by repeat (first | (with_reducible first | exact HI0.out | apply IsS39.alloc | apply IsS39.drewN | apply IsS39.drew | apply IsS39.set_0 | apply IsS39.set_1) | exact HI0.out)⟩, ⟨by repeat (first | (with_reducible first | exact HK.out | apply KeepBut.set_ | apply keep_drewN | apply keep_drew | apply keep_alloc) | exact HK.out)⟩, ⟨by repeat (first | (with_reducible first | exact HB.out | apply below_alloc | apply pw_below_drewN | apply below_drew1 | refine below_set ?_ (IsS39.ge HI0.out)) | exact HB.out)⟩⟩
                    · rw [if_neg c24] at H
                      exact absurd H (by simp)
                  · rw [if_neg c23] at H
                    have c23b0 : (((s0_0.extract (s0_1 : Int).toNat (x8_3 : Int).toNat).size : Int) == 2) = false := beq_eq_false_iff_ne.mpr c23
                    try have c23s0 : ((((x8_3).toNat - (s0_1).toNat : Nat) : Int) == 2) = false := by (have h1_ : (x8_3) ≤ (s0_0.size : Int) := by first | assumption | simp [*]); (have hz_ : (s0_0.extract (s0_1).toNat (x8_3).toNat).size = (x8_3).toNat - (s0_1).toNat := by (simp only [ByteArray.size_extract]; omega)); have hy_ := c23b0; rw [hz_] at hy_; exact hy_
                    have c23b1 : (((s0_0.extract (s0_1 : Int).toNat (x8_3 : Int).toNat).size : Int) != 2) = true := bne_iff_ne.mpr c23
                    try have c23s1 : ((((x8_3).toNat - (s0_1).toNat : Nat) : Int) != 2) = true := by (have h1_ : (x8_3) ≤ (s0_0.size : Int) := by first | assumption | simp [*]); (have hz_ : (s0_0.extract (s0_1).toNat (x8_3).toNat).size = (x8_3).toNat - (s0_1).toNat := by (simp only [ByteArray.size_extract]; omega)); have hy_ := c23b1; rw [hz_] at hy_; exact hy_
                    have H' := Aside0.mk H
                    clear H
                    go_wp2
                    repeat (go_quiet (fail); try go_wp2)
                    go_meet
                    case rel => exact ⟨_, (false), (by first | rfl | (simp; done) | (simp [*]; done)), H', ⟨by have := HJ3.out; first | omega | exact Nat.le_refl _⟩, ⟨by repeat (first | (with_reducible first | exact HI0.out | apply IsS39.alloc | apply IsS39.drewN | apply IsS39.drew | apply IsS39.set_0 | apply IsS39.set_1) | exact HI0.out)⟩, ⟨by repeat (first | (with_reducible first | exact HK.out | apply KeepBut.set_ | apply keep_drewN | apply keep_drew | apply keep_alloc) | exact HK.out)⟩, ⟨by repeat (first | (with_reducible first | exact HB.out | apply below_alloc | apply pw_below_drewN | apply below_drew1 | refine below_set ?_ (IsS39.ge HI0.out)) | exact HB.out)⟩⟩
            case rest =>
              clear HC19
              try clear c1
              try clear p1
              try clear q1
              try clear hx1
              try clear c2
              try clear p2
              try clear q2
              try clear hx2
              try clear qi2
              try clear c4
              try clear c6
              try clear c6b0
              try clear p6
              try clear c7
              try clear c7b0
              try clear p8
              try clear q8
              try clear hx8
              try clear c9
              try clear c9b0
              try clear p10
              try clear q10
              try clear hx10
              try clear c11
              try clear c11b0
              try clear c16
              try clear c16b0
              try clear c16b1
              try clear c17
              try clear c17b0
              try clear c17b1
              try clear c18
              try clear c18b0
              try clear c18b1
              try clear c21
              try clear c21b0
              try clear c21b1
              try clear c22
              try clear c22b0
              try clear c22b1
              try clear c23
              try clear c23b0
              try clear c23b1
              try clear c24
              try clear c24b0
              try clear c24b1
              try clear p25
              try clear q25
              try clear hx25
              try clear qi25
              try clear hcz12_0
              try clear hcz12_1
              try clear hcz13_0
              try clear hcz13_1
              try clear hcz14_0
              try clear hcz14_1
              try clear hcz15_0
              try clear hcz15_1
              try clear hcz20_0
              try clear hcz20_1
              try clear hcz5_0
              try clear hcz5_1
              try clear hfz12_0
              try clear hfz12_1
              try clear hfz13_0
              try clear hfz13_1
              try clear hfz14_0
              try clear hfz14_1
              try clear hfz15_0
              try clear hfz15_1
              try clear hfz20_0
              try clear hfz20_1
              try clear hfz5_0
              try clear hfz5_1
              try clear p1
              try clear p10
              try clear p2
              try clear p25
              try clear p6
              try clear p8
              try clear q1
              try clear q10
              try clear q25
              try clear q8
              obtain ⟨kq, x70_18, rfl, HA, HJ18, HI0, HK, HB⟩ := hcut
              cases kq with
              | zero => exact absurd HA.out (by simp [cron_reader_number.j2])
              | succ kj18 =>
                have H := HA.out
                clear HA
                simp only [cron_reader_number.j2] at H
                by_cases c26 : x70_18 = true
                · subst c26
                  have H1 : (some (0, false, s0_0, s0_1)) = some (r1, r2, r3, r4) := by rw [if_pos rfl] at H; exact H
                  clear H
                  have H := H1
                  clear H1
                  simp only [Option.some.injEq, Prod.mk.injEq] at H
                  obtain ⟨rfl, rfl, rfl, rfl⟩ := H
                  go_wp2
                  repeat (go_quiet (fail); try go_wp2)
                  go_ret2
                  exact ⟨by first | rfl | (simp [errW_none, errW_some] <;> rfl) | (simp [*, errW_none, errW_some] <;> rfl), by repeat (first | (with_reducible first | exact HI0.out | apply IsS39.alloc | apply IsS39.drewN | apply IsS39.drew | apply IsS39.set_0 | apply IsS39.set_1) | exact HI0.out), by repeat (first | (with_reducible first | exact HB.out | apply below_alloc | apply pw_below_drewN | apply below_drew1 | refine below_set ?_ (IsS39.ge HI0.out)) | exact HB.out), by repeat (first | (with_reducible first | exact HK.out | apply KeepBut.set_ | apply keep_drewN | apply keep_drew | apply keep_alloc) | exact HK.out)⟩
                · replace c26 := Bool.eq_false_iff.mpr c26
                  subst c26
                  have H1 : ((Ca.atoi.f (s0_0.extract (s0_1 : Int).toNat (x8_3 : Int).toNat)).bind fun bt109 => (if bt109.1 < a1 then (some (0, false, s0_0, s0_1)) else (if bt109.1 > a2 then (some (0, false, s0_0, s0_1)) else (some (bt109.1, true, s0_0, x8_3))))) = some (r1, r2, r3, r4) := by rw [if_neg (show ¬ (false = true) by decide)] at H; exact H
                  clear H
                  have H := H1
                  clear H1
                  replace H := Option.bind_eq_some_iff.mp H
                  obtain ⟨⟨t109, t110⟩, A270, H⟩ := H
                  replace H : (if t109 < a1 then (some (0, false, s0_0, s0_1)) else (if t109 > a2 then (some (0, false, s0_0, s0_1)) else (some (t109, true, s0_0, x8_3)))) = some (r1, r2, r3, r4) := H
                  have A27 := Aside0.mk A270
                  clear A270
                  by_cases c28 : t109 < a1
                  · rw [if_pos c28] at H
                    have c28b0 : decide (t109 < a1) = true := decide_eq_true c28
                    clear c28
                    simp only [Option.some.injEq, Prod.mk.injEq] at H
                    obtain ⟨rfl, rfl, rfl, rfl⟩ := H
                    go_wp2_with (first | (go_at_call 50; (with_reducible refine (Ca.atoi.calls (s0_0.extract (s0_1 : Int).toNat (x8_3 : Int).toNat) t109 t110 _ A27.out).mono ?_); rintro e w29 ⟨rfl, hb⟩; have n0_ := Aside0.mk (IsS39.below (by repeat (first | (with_reducible first | exact HI0.out | apply IsS39.alloc | apply IsS39.drewN | apply IsS39.drew | apply IsS39.set_0 | apply IsS39.set_1) | exact HI0.out)) hb); have n1_ := Aside0.mk (KeepBut.trans (by repeat (first | (with_reducible first | exact HK.out | apply KeepBut.set_ | apply keep_drewN | apply keep_drew | apply keep_alloc) | exact HK.out)) (KeepBut.of_below hb g none) (.inl rfl)); have n2_ := Aside0.mk (below_step (by repeat (first | (with_reducible first | exact HB.out | apply below_alloc | apply pw_below_drewN | apply below_drew1 | refine below_set ?_ (IsS39.ge HI0.out)) | exact HB.out)) hb); clear HI0; clear HK; clear HB; have HI0 := n0_; have HK := n1_; have HB := n2_; clear n0_ n1_ n2_; (try clear hb); (try clear hb2); (try clear hk); (try clear hi); (try simp only [errW_none, errW_some])))
                    repeat (go_quiet (first | (go_at_call 50; (with_reducible refine (Ca.atoi.calls (s0_0.extract (s0_1 : Int).toNat (x8_3 : Int).toNat) t109 t110 _ A27.out).mono ?_); rintro e w29 ⟨rfl, hb⟩; have n0_ := Aside0.mk (IsS39.below (by repeat (first | (with_reducible first | exact HI0.out | apply IsS39.alloc | apply IsS39.drewN | apply IsS39.drew | apply IsS39.set_0 | apply IsS39.set_1) | exact HI0.out)) hb); have n1_ := Aside0.mk (KeepBut.trans (by repeat (first | (with_reducible first | exact HK.out | apply KeepBut.set_ | apply keep_drewN | apply keep_drew | apply keep_alloc) | exact HK.out)) (KeepBut.of_below hb g none) (.inl rfl)); have n2_ := Aside0.mk (below_step (by repeat (first | (with_reducible first | exact HB.out | apply below_alloc | apply pw_below_drewN | apply below_drew1 | refine below_set ?_ (IsS39.ge HI0.out)) | exact HB.out)) hb); clear HI0; clear HK; clear HB; have HI0 := n0_; have HK := n1_; have HB := n2_; clear n0_ n1_ n2_; (try clear hb); (try clear hb2); (try clear hk); (try clear hi); (try simp only [errW_none, errW_some]))); try go_wp2_with (first | (go_at_call 50; (with_reducible refine (Ca.atoi.calls (s0_0.extract (s0_1 : Int).toNat (x8_3 : Int).toNat) t109 t110 _ A27.out).mono ?_); rintro e w29 ⟨rfl, hb⟩; have n0_ := Aside0.mk (IsS39.below (by repeat (first | (with_reducible first | exact HI0.out | apply IsS39.alloc | apply IsS39.drewN | apply IsS39.drew | apply IsS39.set_0 | apply IsS39.set_1) | exact HI0.out)) hb); have n1_ := Aside0.mk (KeepBut.trans (by repeat (first | (with_reducible first | exact HK.out | apply KeepBut.set_ | apply keep_drewN | apply keep_drew | apply keep_alloc) | exact HK.out)) (KeepBut.of_below hb g none) (.inl rfl)); have n2_ := Aside0.mk (below_step (by repeat (first | (with_reducible first | exact HB.out | apply below_alloc | apply pw_below_drewN | apply below_drew1 | refine below_set ?_ (IsS39.ge HI0.out)) | exact HB.out)) hb); clear HI0; clear HK; clear HB; have HI0 := n0_; have HK := n1_; have HB := n2_; clear n0_ n1_ n2_; (try clear hb); (try clear hb2); (try clear hk); (try clear hi); (try simp only [errW_none, errW_some]))))
                    go_ret2
                    exact ⟨by first | rfl | (simp [errW_none, errW_some] <;> rfl) | (simp [*, errW_none, errW_some] <;> rfl), by repeat (first | (with_reducible first | exact HI0.out | apply IsS39.alloc | apply IsS39.drewN | apply IsS39.drew | apply IsS39.set_0 | apply IsS39.set_1) | exact HI0.out), by repeat (first | (with_reducible first | exact HB.out | apply below_alloc | apply pw_below_drewN | apply below_drew1 | refine below_set ?_ (IsS39.ge HI0.out)) | exact HB.out), by repeat (first | (with_reducible first | exact HK.out | apply KeepBut.set_ | apply keep_drewN | apply keep_drew | apply keep_alloc) | exact HK.out)⟩
                  · rw [if_neg c28] at H
                    have c28b0 : decide (t109 < a1) = false := decide_eq_false c28
                    clear c28
                    by_cases c30 : t109 > a2
                    · rw [if_pos c30] at H
                      have c30b0 : decide (a2 < t109) = true := decide_eq_true c30
                      clear c30
                      simp only [Option.some.injEq, Prod.mk.injEq] at H
                      obtain ⟨rfl, rfl, rfl, rfl⟩ := H
                      go_wp2_with (first | (go_at_call 50; (with_reducible refine (Ca.atoi.calls (s0_0.extract (s0_1 : Int).toNat (x8_3 : Int).toNat) t109 t110 _ A27.out).mono ?_); rintro e w31 ⟨rfl, hb⟩; have n0_ := Aside0.mk (IsS39.below (by repeat (first | (with_reducible first | exact HI0.out | apply IsS39.alloc | apply IsS39.drewN | apply IsS39.drew | apply IsS39.set_0 | apply IsS39.set_1) | exact HI0.out)) hb); have n1_ := Aside0.mk (KeepBut.trans (by repeat (first | (with_reducible first | exact HK.out | apply KeepBut.set_ | apply keep_drewN | apply keep_drew | apply keep_alloc) | exact HK.out)) (KeepBut.of_below hb g none) (.inl rfl)); have n2_ := Aside0.mk (below_step (by repeat (first | (with_reducible first | exact HB.out | apply below_alloc | apply pw_below_drewN | apply below_drew1 | refine below_set ?_ (IsS39.ge HI0.out)) | exact HB.out)) hb); clear HI0; clear HK; clear HB; have HI0 := n0_; have HK := n1_; have HB := n2_; clear n0_ n1_ n2_; (try clear hb); (try clear hb2); (try clear hk); (try clear hi); (try simp only [errW_none, errW_some])))
                      repeat (go_quiet (first | (go_at_call 50; (with_reducible refine (Ca.atoi.calls (s0_0.extract (s0_1 : Int).toNat (x8_3 : Int).toNat) t109 t110 _ A27.out).mono ?_); rintro e w31 ⟨rfl, hb⟩; have n0_ := Aside0.mk (IsS39.below (by repeat (first | (with_reducible first | exact HI0.out | apply IsS39.alloc | apply IsS39.drewN | apply IsS39.drew | apply IsS39.set_0 | apply IsS39.set_1) | exact HI0.out)) hb); have n1_ := Aside0.mk (KeepBut.trans (by repeat (first | (with_reducible first | exact HK.out | apply KeepBut.set_ | apply keep_drewN | apply keep_drew | apply keep_alloc) | exact HK.out)) (KeepBut.of_below hb g none) (.inl rfl)); have n2_ := Aside0.mk (below_step (by repeat (first | (with_reducible first | exact HB.out | apply below_alloc | apply pw_below_drewN | apply below_drew1 | refine below_set ?_ (IsS39.ge HI0.out)) | exact HB.out)) hb); clear HI0; clear HK; clear HB; have HI0 := n0_; have HK := n1_; have HB := n2_; clear n0_ n1_ n2_; (try clear hb); (try clear hb2); (try clear hk); (try clear hi); (try simp only [errW_none, errW_some]))); try go_wp2_with (first | (go_at_call 50; (with_reducible refine (Ca.atoi.calls (s0_0.extract (s0_1 : Int).toNat (x8_3 : Int).toNat) t109 t110 _ A27.out).mono ?_); rintro e w31 ⟨rfl, hb⟩; have n0_ := Aside0.mk (IsS39.below (by repeat (first | (with_reducible first | exact HI0.out | apply IsS39.alloc | apply IsS39.drewN | apply IsS39.drew | apply IsS39.set_0 | apply IsS39.set_1) | exact HI0.out)) hb); have n1_ := Aside0.mk (KeepBut.trans (by repeat (first | (with_reducible first | exact HK.out | apply KeepBut.set_ | apply keep_drewN | apply keep_drew | apply keep_alloc) | exact HK.out)) (KeepBut.of_below hb g none) (.inl rfl)); have n2_ := Aside0.mk (below_step (by repeat (first | (with_reducible first | exact HB.out | apply below_alloc | apply pw_below_drewN | apply below_drew1 | refine below_set ?_ (IsS39.ge HI0.out)) | exact HB.out)) hb); clear HI0; clear HK; clear HB; have HI0 := n0_; have HK := n1_; have HB := n2_; clear n0_ n1_ n2_; (try clear hb); (try clear hb2); (try clear hk); (try clear hi); (try simp only [errW_none, errW_some]))))
                      go_ret2
                      exact ⟨by first | rfl | (simp [errW_none, errW_some] <;> rfl) | (simp [*, errW_none, errW_some] <;> rfl), by repeat (first | (with_reducible first | exact HI0.out | apply IsS39.alloc | apply IsS39.drewN | apply IsS39.drew | apply IsS39.set_0 | apply IsS39.set_1) | exact HI0.out), by repeat (first | (with_reducible first | exact HB.out | apply below_alloc | apply pw_below_drewN | apply below_drew1 | refine below_set ?_ (IsS39.ge HI0.out)) | exact HB.out), by repeat (first | (with_reducible first | exact HK.out | apply KeepBut.set_ | apply keep_drewN | apply keep_drew | apply keep_alloc) | exact HK.out)⟩
                    · rw [if_neg c30] at H
                      have c30b0 : decide (a2 < t109) = false := decide_eq_false c30
                      clear c30
                      simp only [Option.some.injEq, Prod.mk.injEq] at H
                      obtain ⟨rfl, rfl, rfl, rfl⟩ := H
                      go_wp2_with (first | (go_at_call 50; (with_reducible refine (Ca.atoi.calls (s0_0.extract (s0_1 : Int).toNat (x8_3 : Int).toNat) t109 t110 _ A27.out).mono ?_); rintro e w32 ⟨rfl, hb⟩; have n0_ := Aside0.mk (IsS39.below (by repeat (first | (with_reducible first | exact HI0.out | apply IsS39.alloc | apply IsS39.drewN | apply IsS39.drew | apply IsS39.set_0 | apply IsS39.set_1) | exact HI0.out)) hb); have n1_ := Aside0.mk (KeepBut.trans (by repeat (first | (with_reducible first | exact HK.out | apply KeepBut.set_ | apply keep_drewN | apply keep_drew | apply keep_alloc) | exact HK.out)) (KeepBut.of_below hb g none) (.inl rfl)); have n2_ := Aside0.mk (below_step (by repeat (first | (with_reducible first | exact HB.out | apply below_alloc | apply pw_below_drewN | apply below_drew1 | refine below_set ?_ (IsS39.ge HI0.out)) | exact HB.out)) hb); clear HI0; clear HK; clear HB; have HI0 := n0_; have HK := n1_; have HB := n2_; clear n0_ n1_ n2_; (try clear hb); (try clear hb2); (try clear hk); (try clear hi); (try simp only [errW_none, errW_some]); obtain ⟨HGz33, hgz33⟩ := HI0.out; have hcz33_0 := cellS39_0 HGz33; have hcz33_1 := cellS39_1 HGz33; have hfz33_0 := blk_frozen HGz33 0; have hfz33_1 := blk_frozen HGz33 1; clear HGz33 hgz33))
                      repeat (go_quiet (first | (go_at_call 50; (with_reducible refine (Ca.atoi.calls (s0_0.extract (s0_1 : Int).toNat (x8_3 : Int).toNat) t109 t110 _ A27.out).mono ?_); rintro e w32 ⟨rfl, hb⟩; have n0_ := Aside0.mk (IsS39.below (by repeat (first | (with_reducible first | exact HI0.out | apply IsS39.alloc | apply IsS39.drewN | apply IsS39.drew | apply IsS39.set_0 | apply IsS39.set_1) | exact HI0.out)) hb); have n1_ := Aside0.mk (KeepBut.trans (by repeat (first | (with_reducible first | exact HK.out | apply KeepBut.set_ | apply keep_drewN | apply keep_drew | apply keep_alloc) | exact HK.out)) (KeepBut.of_below hb g none) (.inl rfl)); have n2_ := Aside0.mk (below_step (by repeat (first | (with_reducible first | exact HB.out | apply below_alloc | apply pw_below_drewN | apply below_drew1 | refine below_set ?_ (IsS39.ge HI0.out)) | exact HB.out)) hb); clear HI0; clear HK; clear HB; have HI0 := n0_; have HK := n1_; have HB := n2_; clear n0_ n1_ n2_; (try clear hb); (try clear hb2); (try clear hk); (try clear hi); (try simp only [errW_none, errW_some]); obtain ⟨HGz33, hgz33⟩ := HI0.out; have hcz33_0 := cellS39_0 HGz33; have hcz33_1 := cellS39_1 HGz33; have hfz33_0 := blk_frozen HGz33 0; have hfz33_1 := blk_frozen HGz33 1; clear HGz33 hgz33)); try go_wp2_with (first | (go_at_call 50; (with_reducible refine (Ca.atoi.calls (s0_0.extract (s0_1 : Int).toNat (x8_3 : Int).toNat) t109 t110 _ A27.out).mono ?_); rintro e w32 ⟨rfl, hb⟩; have n0_ := Aside0.mk (IsS39.below (by repeat (first | (with_reducible first | exact HI0.out | apply IsS39.alloc | apply IsS39.drewN | apply IsS39.drew | apply IsS39.set_0 | apply IsS39.set_1) | exact HI0.out)) hb); have n1_ := Aside0.mk (KeepBut.trans (by repeat (first | (with_reducible first | exact HK.out | apply KeepBut.set_ | apply keep_drewN | apply keep_drew | apply keep_alloc) | exact HK.out)) (KeepBut.of_below hb g none) (.inl rfl)); have n2_ := Aside0.mk (below_step (by repeat (first | (with_reducible first | exact HB.out | apply below_alloc | apply pw_below_drewN | apply below_drew1 | refine below_set ?_ (IsS39.ge HI0.out)) | exact HB.out)) hb); clear HI0; clear HK; clear HB; have HI0 := n0_; have HK := n1_; have HB := n2_; clear n0_ n1_ n2_; (try clear hb); (try clear hb2); (try clear hk); (try clear hi); (try simp only [errW_none, errW_some]); obtain ⟨HGz33, hgz33⟩ := HI0.out; have hcz33_0 := cellS39_0 HGz33; have hcz33_1 := cellS39_1 HGz33; have hfz33_0 := blk_frozen HGz33 0; have hfz33_1 := blk_frozen HGz33 1; clear HGz33 hgz33)))
                      go_ret2
                      exact ⟨by first | rfl | (simp [errW_none, errW_some] <;> rfl) | (simp [*, errW_none, errW_some] <;> rfl), by repeat (first | (with_reducible first | exact HI0.out | apply IsS39.alloc | apply IsS39.drewN | apply IsS39.drew | apply IsS39.set_0 | apply IsS39.set_1) | exact HI0.out), by repeat (first | (with_reducible first | exact HB.out | apply below_alloc | apply pw_below_drewN | apply below_drew1 | refine below_set ?_ (IsS39.ge HI0.out)) | exact HB.out), by repeat (first | (with_reducible first | exact HK.out | apply KeepBut.set_ | apply keep_drewN | apply keep_drew | apply keep_alloc) | exact HK.out)⟩
          · rw [if_neg c18] at H
            exact absurd H (by simp)
        · rw [if_neg c17] at H
          exact absurd H (by simp)
      · rw [if_neg c16] at H
        exact absurd H (by simp)



/-! ### cron_reader_item: function 41 -/
mutual
def cron_reader_item.j0 : Nat → Int → Int → Int → Bool → ByteArray → Int → Option (Int × Bool × ByteArray × Int)
  | 0, _, _, _, _, _, _ => none
  | k + 1, x6, x7, x8, x11, x1000, x1001 => if x11 = true then ((cron_reader_is.f x1000 x1001 47).bind fun bt126 => (cron_reader_item.j1 k x6 x7 x8 bt126.1 bt126.2.1 bt126.2.2)) else (cron_reader_item.j1 k x6 x7 x8 false x1000 x1001)
def cron_reader_item.j1 : Nat → Int → Int → Int → Bool → ByteArray → Int → Option (Int × Bool × ByteArray × Int)
  | 0, _, _, _, _, _, _ => none
  | k + 1, x6, x7, x8, x50, x1000, x1001 => if x50 = true then ((cron_reader_number.f k x1000 x1001 1 99).bind fun bt129 => (if bt129.2.1 = true then (cron_reader_item.j2 k x6 x7 bt129.1 bt129.2.2.1 bt129.2.2.2) else (some (0, false, bt129.2.2.1, bt129.2.2.2)))) else (cron_reader_item.j2 k x6 x7 x8 x1000 x1001)
def cron_reader_item.j2 : Nat → Int → Int → Int → ByteArray → Int → Option (Int × Bool × ByteArray × Int)
  | 0, _, _, _, _, _ => none
  | k + 1, x6, x7, x8, x1000, x1001 => cron_reader_item.l0 k x6 x7 x8 0 x1000 x1001
def cron_reader_item.l0 : Nat → Int → Int → Int → Int → ByteArray → Int → Option (Int × Bool × ByteArray × Int)
  | 0, _, _, _, _, _, _ => none
  | k + 1, x6, x7, x8, x12, x1000, x1001 => if x6 ≤ x7 then (if 0 ≤ (IntKind.u64.wrap (x6)) then (cron_reader_item.l0 k (wrap64 (x6 + x8)) x7 x8 (Go.bits .or .u64 x12 (shl .u64 1 (IntKind.u64.wrap (x6)))) x1000 x1001) else (none)) else (some (x12, true, x1000, x1001))
end
def cron_reader_item.f (k : Nat) (s0_0 : ByteArray) (s0_1 : Int) (a1_0 : Int) (a1_1 : Int) : Option (Int × Bool × ByteArray × Int) := (cron_reader_is.f s0_0 s0_1 42).bind fun bt112 => (if bt112.1 = true then (cron_reader_item.j0 k a1_0 a1_1 1 bt112.1 bt112.2.1 bt112.2.2) else ((cron_reader_number.f k bt112.2.1 bt112.2.2 a1_0 a1_1).bind fun bt115 => (if bt115.2.1 = true then ((cron_reader_is.f bt115.2.2.1 bt115.2.2.2 45).bind fun bt119 => (if bt119.1 = true then ((cron_reader_number.f k bt119.2.1 bt119.2.2 bt115.1 a1_1).bind fun bt122 => (if bt122.2.1 = true then (cron_reader_item.j0 k bt115.1 bt122.1 1 true bt122.2.2.1 bt122.2.2.2) else (some (0, false, bt122.2.2.1, bt122.2.2.2)))) else (cron_reader_item.j0 k bt115.1 bt115.1 1 bt112.1 bt119.2.1 bt119.2.2))) else (some (0, false, bt115.2.2.1, bt115.2.2.2)))))
theorem cron_reader_item.mono_l : ∀ k, (∀ y0 y1 y2 y3 y4 y5, LeO (cron_reader_item.j0 k y0 y1 y2 y3 y4 y5) (cron_reader_item.j0 (k + 1) y0 y1 y2 y3 y4 y5)) ∧ (∀ y0 y1 y2 y3 y4 y5, LeO (cron_reader_item.j1 k y0 y1 y2 y3 y4 y5) (cron_reader_item.j1 (k + 1) y0 y1 y2 y3 y4 y5)) ∧ (∀ y0 y1 y2 y3 y4, LeO (cron_reader_item.j2 k y0 y1 y2 y3 y4) (cron_reader_item.j2 (k + 1) y0 y1 y2 y3 y4)) ∧ (∀ y0 y1 y2 y3 y4 y5, LeO (cron_reader_item.l0 k y0 y1 y2 y3 y4 y5) (cron_reader_item.l0 (k + 1) y0 y1 y2 y3 y4 y5))
  | 0 => ⟨fun _ _ _ _ _ _ r h => by simp [cron_reader_item.j0] at h, fun _ _ _ _ _ _ r h => by simp [cron_reader_item.j1] at h, fun _ _ _ _ _ r h => by simp [cron_reader_item.j2] at h, fun _ _ _ _ _ _ r h => by simp [cron_reader_item.l0] at h⟩
  | k + 1 => by
    obtain ⟨ih0, ih1, ih2, ih3⟩ := cron_reader_item.mono_l k
    refine ⟨?_, ?_, ?_, ?_⟩
    · intro y0 y1 y2 y3 y4 y5
      unfold cron_reader_item.j0
      repeat' first
      | (with_reducible exact ih0 _ _ _ _ _ _)
      | (with_reducible exact ih1 _ _ _ _ _ _)
      | (with_reducible exact ih2 _ _ _ _ _)
      | (with_reducible exact ih3 _ _ _ _ _ _)
      | (with_reducible exact cron_reader_number.mono _ _ _ _ _)
      | (with_reducible exact LeO.refl _)
      | (with_reducible exact LeO.none _)
      | (with_reducible refine LeO.ite ?_ ?_)
      | (with_reducible refine LeO.bind ?_ (fun _ => ?_))
      | exact ih0 _ _ _ _ _ _
      | exact ih1 _ _ _ _ _ _
      | exact ih2 _ _ _ _ _
      | exact ih3 _ _ _ _ _ _
      | exact cron_reader_number.mono _ _ _ _ _
      | exact LeO.none _
      | refine LeO.ite ?_ ?_
      | refine LeO.bind ?_ (fun _ => ?_)
    · intro y0 y1 y2 y3 y4 y5
      unfold cron_reader_item.j1
      repeat' first
      | (with_reducible exact ih0 _ _ _ _ _ _)
      | (with_reducible exact ih1 _ _ _ _ _ _)
      | (with_reducible exact ih2 _ _ _ _ _)
      | (with_reducible exact ih3 _ _ _ _ _ _)
      | (with_reducible exact cron_reader_number.mono _ _ _ _ _)
      | (with_reducible exact LeO.refl _)
      | (with_reducible exact LeO.none _)
      | (with_reducible refine LeO.ite ?_ ?_)
      | (with_reducible refine LeO.bind ?_ (fun _ => ?_))
      | exact ih0 _ _ _ _ _ _
      | exact ih1 _ _ _ _ _ _
      | exact ih2 _ _ _ _ _
      | exact ih3 _ _ _ _ _ _
      | exact cron_reader_number.mono _ _ _ _ _
      | exact LeO.none _
      | refine LeO.ite ?_ ?_
      | refine LeO.bind ?_ (fun _ => ?_)
    · intro y0 y1 y2 y3 y4
      unfold cron_reader_item.j2
      repeat' first
      | (with_reducible exact ih0 _ _ _ _ _ _)
      | (with_reducible exact ih1 _ _ _ _ _ _)
      | (with_reducible exact ih2 _ _ _ _ _)
      | (with_reducible exact ih3 _ _ _ _ _ _)
      | (with_reducible exact cron_reader_number.mono _ _ _ _ _)
      | (with_reducible exact LeO.refl _)
      | (with_reducible exact LeO.none _)
      | (with_reducible refine LeO.ite ?_ ?_)
      | (with_reducible refine LeO.bind ?_ (fun _ => ?_))
      | exact ih0 _ _ _ _ _ _
      | exact ih1 _ _ _ _ _ _
      | exact ih2 _ _ _ _ _
      | exact ih3 _ _ _ _ _ _
      | exact cron_reader_number.mono _ _ _ _ _
      | exact LeO.none _
      | refine LeO.ite ?_ ?_
      | refine LeO.bind ?_ (fun _ => ?_)
    · intro y0 y1 y2 y3 y4 y5
      unfold cron_reader_item.l0
      repeat' first
      | (with_reducible exact ih0 _ _ _ _ _ _)
      | (with_reducible exact ih1 _ _ _ _ _ _)
      | (with_reducible exact ih2 _ _ _ _ _)
      | (with_reducible exact ih3 _ _ _ _ _ _)
      | (with_reducible exact cron_reader_number.mono _ _ _ _ _)
      | (with_reducible exact LeO.refl _)
      | (with_reducible exact LeO.none _)
      | (with_reducible refine LeO.ite ?_ ?_)
      | (with_reducible refine LeO.bind ?_ (fun _ => ?_))
      | exact ih0 _ _ _ _ _ _
      | exact ih1 _ _ _ _ _ _
      | exact ih2 _ _ _ _ _
      | exact ih3 _ _ _ _ _ _
      | exact cron_reader_number.mono _ _ _ _ _
      | exact LeO.none _
      | refine LeO.ite ?_ ?_
      | refine LeO.bind ?_ (fun _ => ?_)
theorem cron_reader_item.mono : ∀ a0 a1 a2 a3 k, LeO (cron_reader_item.f k a0 a1 a2 a3) (cron_reader_item.f (k + 1) a0 a1 a2 a3) := by
  intro a0 a1 a2 a3 k
  obtain ⟨ih0, ih1, ih2, ih3⟩ := cron_reader_item.mono_l k
  unfold cron_reader_item.f
  repeat' first
      | (with_reducible exact ih0 _ _ _ _ _ _)
      | (with_reducible exact ih1 _ _ _ _ _ _)
      | (with_reducible exact ih2 _ _ _ _ _)
      | (with_reducible exact ih3 _ _ _ _ _ _)
      | (with_reducible exact cron_reader_number.mono _ _ _ _ _)
      | (with_reducible exact LeO.refl _)
      | (with_reducible exact LeO.none _)
      | (with_reducible refine LeO.ite ?_ ?_)
      | (with_reducible refine LeO.bind ?_ (fun _ => ?_))
      | exact ih0 _ _ _ _ _ _
      | exact ih1 _ _ _ _ _ _
      | exact ih2 _ _ _ _ _
      | exact ih3 _ _ _ _ _ _
      | exact cron_reader_number.mono _ _ _ _ _
      | exact LeO.none _
      | refine LeO.ite ?_ ?_
      | refine LeO.bind ?_ (fun _ => ?_)
set_option maxHeartbeats 8000000 in
set_option maxRecDepth 100000 in
theorem cron_reader_item.calls (k : Nat) (g : Nat) (s0_0 : ByteArray) (s0_1 : Int) (a1_0 : Int) (a1_1 : Int) (r1 : Int) (r2 : Bool) (r3 : ByteArray) (r4 : Int) (w0 w : World) (hI : IsS39 w0 w g s0_0 s0_1) (hB : Below w0.heap.size w0 w) (h : cron_reader_item.f k s0_0 s0_1 a1_0 a1_1 = some (r1, r2, r3, r4)) :
    Calls Tryd.prog 41 #[.pointer (some ⟨g, 0, none⟩), .agg #[.int .i64 a1_0, .int .i64 a1_1]] w fun e w' => e = .returned (.tuple #[.int .u64 r1, .bool r2]) ∧ IsS39 w0 w' g r3 r4 ∧ Below w0.heap.size w0 w' ∧ KeepBut w w' g none := by
  have hu42 := Tryd.underlying42
  have HI0 := Aside0.mk hI
  have HK := Aside0.mk (KeepBut.refl w g none)
  have HL := Aside0.mk hB.size
  clear hI
  have HW0 := Aside0.mk hB.size
  have HB := Aside0.mk hB
  clear hB
  have H : ((cron_reader_is.f s0_0 s0_1 42).bind fun bt112 => (if bt112.1 = true then (cron_reader_item.j0 k a1_0 a1_1 1 bt112.1 bt112.2.1 bt112.2.2) else ((cron_reader_number.f k bt112.2.1 bt112.2.2 a1_0 a1_1).bind fun bt115 => (if bt115.2.1 = true then ((cron_reader_is.f bt115.2.2.1 bt115.2.2.2 45).bind fun bt119 => (if bt119.1 = true then ((cron_reader_number.f k bt119.2.1 bt119.2.2 bt115.1 a1_1).bind fun bt122 => (if bt122.2.1 = true then (cron_reader_item.j0 k bt115.1 bt122.1 1 true bt122.2.2.1 bt122.2.2.2) else (some (0, false, bt122.2.2.1, bt122.2.2.2)))) else (cron_reader_item.j0 k bt115.1 bt115.1 1 bt112.1 bt119.2.1 bt119.2.2))) else (some (0, false, bt115.2.2.1, bt115.2.2.2)))))) = some (r1, r2, r3, r4) := h
  clear h
  replace H := Option.bind_eq_some_iff.mp H
  obtain ⟨⟨t112, t113, t114⟩, A30, H⟩ := H
  replace H : (if t112 = true then (cron_reader_item.j0 k a1_0 a1_1 1 t112 t113 t114) else ((cron_reader_number.f k t113 t114 a1_0 a1_1).bind fun bt115 => (if bt115.2.1 = true then ((cron_reader_is.f bt115.2.2.1 bt115.2.2.2 45).bind fun bt119 => (if bt119.1 = true then ((cron_reader_number.f k bt119.2.1 bt119.2.2 bt115.1 a1_1).bind fun bt122 => (if bt122.2.1 = true then (cron_reader_item.j0 k bt115.1 bt122.1 1 true bt122.2.2.1 bt122.2.2.2) else (some (0, false, bt122.2.2.1, bt122.2.2.2)))) else (cron_reader_item.j0 k bt115.1 bt115.1 1 t112 bt119.2.1 bt119.2.2))) else (some (0, false, bt115.2.2.1, bt115.2.2.2))))) = some (r1, r2, r3, r4) := H
  have A3 := Aside0.mk A30
  clear A30
  have HC4 := Aside0.mk H
  clear H
  go_enter Tryd.func41, Tryd.ntmps41
  go_upto_if 21 with (first | ((with_reducible refine gate_dst (N := 3) rfl ?_); refine box_event ?hg (N := 3) ?hd (cs := #[.int .i64 a1_0, .int .i64 a1_1]) (t := 42) ?hr ?_; (case hd => rfl); (case hg => rfl); (case hr => first | (go_simp; done) | (go_simp; rfl)); intro gb111 hg w5 hbox hb; have n0_ := Aside0.mk (IsS39.below (by repeat (first | (with_reducible first | exact HI0.out | apply IsS39.alloc | apply IsS39.drewN | apply IsS39.drew | apply IsS39.set_0 | apply IsS39.set_1) | exact HI0.out)) hb); have n1_ := Aside0.mk (KeepBut.trans (by repeat (first | (with_reducible first | exact HK.out | apply KeepBut.set_ | apply keep_drewN | apply keep_drew | apply keep_alloc) | exact HK.out)) (KeepBut.of_below hb g none) (.inl rfl)); have n2_ := Aside0.mk (below_step (by repeat (first | (with_reducible first | exact HB.out | apply below_alloc | apply pw_below_drewN | apply below_drew1 | refine below_set ?_ (IsS39.ge HI0.out)) | exact HB.out)) hb); have n3_ := Aside0.mk (hbox); have n4_ := Aside0.mk ((by rw [hg]; exact (keep_size (w := w) (g := g) (row := none) (by repeat (first | (with_reducible first | exact HK.out | apply KeepBut.set_ | apply keep_drewN | apply keep_drew | apply keep_alloc) | exact HK.out))) : w.heap.size ≤ gb111)); have n5_ := Aside0.mk ((Nat.le_trans HW0.out (by rw [hg]; exact (keep_size (w := w) (g := g) (row := none) (by repeat (first | (with_reducible first | exact HK.out | apply KeepBut.set_ | apply keep_drewN | apply keep_drew | apply keep_alloc) | exact HK.out))) : w.heap.size ≤ gb111) : w0.heap.size ≤ gb111)); have n6_ := Aside0.mk ((by rw [hg]; exact Nat.ne_of_lt (IsS39.lt (show IsS39 w0 _ g s0_0 s0_1 from by repeat (first | (with_reducible first | exact HI0.out | apply IsS39.alloc | apply IsS39.drewN | apply IsS39.drew | apply IsS39.set_0 | apply IsS39.set_1) | exact HI0.out))) : g ≠ gb111)); have n7_ := Aside0.mk ((by rw [hg]; exact Nat.ne_of_gt (IsS39.lt (show IsS39 w0 _ g s0_0 s0_1 from by repeat (first | (with_reducible first | exact HI0.out | apply IsS39.alloc | apply IsS39.drewN | apply IsS39.drew | apply IsS39.set_0 | apply IsS39.set_1) | exact HI0.out))) : gb111 ≠ g)); clear HI0; clear HK; clear HB; have HI0 := n0_; have HK := n1_; have HB := n2_; have BK111 := n3_; have GW111 := n4_; have GE111 := n5_; have NB0_111 := n6_; have NB111_0 := n7_; clear n0_ n1_ n2_ n3_ n4_ n5_ n6_ n7_; clear hb hbox hg; have hnb6 := NB111_0.out; have hnc6 := NB0_111.out; have hcz7_0 : w5.cell? ⟨gb111, 0, none⟩ = some (.int .i64 a1_0) := (blk_cell BK111.out 0).trans rfl; have hcz7_1 : w5.cell? ⟨gb111, 1, none⟩ = some (.int .i64 a1_1) := (blk_cell BK111.out 1).trans rfl; have hfz7_0 := blk_frozen BK111.out 0; have hfz7_1 := blk_frozen BK111.out 1) | (go_at_call 21; (with_reducible refine (cron_reader_is.calls g s0_0 s0_1 42 t112 t113 t114 w0 _ ?side1 ?side2 A3.out).mono ?_); (case side1 => repeat (first | (with_reducible first | exact HI0.out | apply IsS39.alloc | apply IsS39.drewN | apply IsS39.drew | apply IsS39.set_0 | apply IsS39.set_1 | refine IsS39.far ?_ NB0_111.out _) | exact HI0.out)); (case side2 => repeat (first | (with_reducible first | exact HB.out | apply below_alloc | apply pw_below_drewN | apply below_drew1 | refine below_set ?_ (IsS39.ge HI0.out) | refine below_set ?_ GE111.out) | exact HB.out)); rintro e w8 ⟨rfl, hi, hb, hk⟩; have n0_ := Aside0.mk (KeepBut.blk hk (g' := gb111) (o := .cells #[.int .i64 a1_0, .int .i64 a1_1] 42 (0, 0)) (by (with_reducible repeat (first | refine blk_drewN ?_ _ | refine blk_drew ?_ | refine blk_alloc ?_ _)); exact BK111.out) NB111_0.out (by simp)); have n1_ := Aside0.mk (KeepBut.trans (by repeat (first | (with_reducible first | exact HK.out | apply KeepBut.set_ | apply keep_drewN | apply keep_drew | apply keep_alloc | refine keep_far ?_ GW111.out _) | exact HK.out)) hk (.inl rfl)); have n2_ := Aside0.mk (hb); have n3_ := Aside0.mk (hi); clear BK111; clear HK; clear HB; clear HI0; have BK111 := n0_; have HK := n1_; have HB := n2_; have HI0 := n3_; clear n0_ n1_ n2_ n3_; (try clear hb); (try clear hb2); (try clear hk); (try clear hi)))
  repeat (go_quiet (first | ((with_reducible refine gate_dst (N := 3) rfl ?_); refine box_event ?hg (N := 3) ?hd (cs := #[.int .i64 a1_0, .int .i64 a1_1]) (t := 42) ?hr ?_; (case hd => rfl); (case hg => rfl); (case hr => first | (go_simp; done) | (go_simp; rfl)); intro gb111 hg w5 hbox hb; have n0_ := Aside0.mk (IsS39.below (by repeat (first | (with_reducible first | exact HI0.out | apply IsS39.alloc | apply IsS39.drewN | apply IsS39.drew | apply IsS39.set_0 | apply IsS39.set_1) | exact HI0.out)) hb); have n1_ := Aside0.mk (KeepBut.trans (by repeat (first | (with_reducible first | exact HK.out | apply KeepBut.set_ | apply keep_drewN | apply keep_drew | apply keep_alloc) | exact HK.out)) (KeepBut.of_below hb g none) (.inl rfl)); have n2_ := Aside0.mk (below_step (by repeat (first | (with_reducible first | exact HB.out | apply below_alloc | apply pw_below_drewN | apply below_drew1 | refine below_set ?_ (IsS39.ge HI0.out)) | exact HB.out)) hb); have n3_ := Aside0.mk (hbox); have n4_ := Aside0.mk ((by rw [hg]; exact (keep_size (w := w) (g := g) (row := none) (by repeat (first | (with_reducible first | exact HK.out | apply KeepBut.set_ | apply keep_drewN | apply keep_drew | apply keep_alloc) | exact HK.out))) : w.heap.size ≤ gb111)); have n5_ := Aside0.mk ((Nat.le_trans HW0.out (by rw [hg]; exact (keep_size (w := w) (g := g) (row := none) (by repeat (first | (with_reducible first | exact HK.out | apply KeepBut.set_ | apply keep_drewN | apply keep_drew | apply keep_alloc) | exact HK.out))) : w.heap.size ≤ gb111) : w0.heap.size ≤ gb111)); have n6_ := Aside0.mk ((by rw [hg]; exact Nat.ne_of_lt (IsS39.lt (show IsS39 w0 _ g s0_0 s0_1 from by repeat (first | (with_reducible first | exact HI0.out | apply IsS39.alloc | apply IsS39.drewN | apply IsS39.drew | apply IsS39.set_0 | apply IsS39.set_1) | exact HI0.out))) : g ≠ gb111)); have n7_ := Aside0.mk ((by rw [hg]; exact Nat.ne_of_gt (IsS39.lt (show IsS39 w0 _ g s0_0 s0_1 from by repeat (first | (with_reducible first | exact HI0.out | apply IsS39.alloc | apply IsS39.drewN | apply IsS39.drew | apply IsS39.set_0 | apply IsS39.set_1) | exact HI0.out))) : gb111 ≠ g)); clear HI0; clear HK; clear HB; have HI0 := n0_; have HK := n1_; have HB := n2_; have BK111 := n3_; have GW111 := n4_; have GE111 := n5_; have NB0_111 := n6_; have NB111_0 := n7_; clear n0_ n1_ n2_ n3_ n4_ n5_ n6_ n7_; clear hb hbox hg; have hnb6 := NB111_0.out; have hnc6 := NB0_111.out; have hcz7_0 : w5.cell? ⟨gb111, 0, none⟩ = some (.int .i64 a1_0) := (blk_cell BK111.out 0).trans rfl; have hcz7_1 : w5.cell? ⟨gb111, 1, none⟩ = some (.int .i64 a1_1) := (blk_cell BK111.out 1).trans rfl; have hfz7_0 := blk_frozen BK111.out 0; have hfz7_1 := blk_frozen BK111.out 1) | (go_at_call 21; (with_reducible refine (cron_reader_is.calls g s0_0 s0_1 42 t112 t113 t114 w0 _ ?side1 ?side2 A3.out).mono ?_); (case side1 => repeat (first | (with_reducible first | exact HI0.out | apply IsS39.alloc | apply IsS39.drewN | apply IsS39.drew | apply IsS39.set_0 | apply IsS39.set_1 | refine IsS39.far ?_ NB0_111.out _) | exact HI0.out)); (case side2 => repeat (first | (with_reducible first | exact HB.out | apply below_alloc | apply pw_below_drewN | apply below_drew1 | refine below_set ?_ (IsS39.ge HI0.out) | refine below_set ?_ GE111.out) | exact HB.out)); rintro e w8 ⟨rfl, hi, hb, hk⟩; have n0_ := Aside0.mk (KeepBut.blk hk (g' := gb111) (o := .cells #[.int .i64 a1_0, .int .i64 a1_1] 42 (0, 0)) (by (with_reducible repeat (first | refine blk_drewN ?_ _ | refine blk_drew ?_ | refine blk_alloc ?_ _)); exact BK111.out) NB111_0.out (by simp)); have n1_ := Aside0.mk (KeepBut.trans (by repeat (first | (with_reducible first | exact HK.out | apply KeepBut.set_ | apply keep_drewN | apply keep_drew | apply keep_alloc | refine keep_far ?_ GW111.out _) | exact HK.out)) hk (.inl rfl)); have n2_ := Aside0.mk (hb); have n3_ := Aside0.mk (hi); clear BK111; clear HK; clear HB; clear HI0; have BK111 := n0_; have HK := n1_; have HB := n2_; have HI0 := n3_; clear n0_ n1_ n2_ n3_; (try clear hb); (try clear hb2); (try clear hk); (try clear hi))); go_upto_if 21 with (first | ((with_reducible refine gate_dst (N := 3) rfl ?_); refine box_event ?hg (N := 3) ?hd (cs := #[.int .i64 a1_0, .int .i64 a1_1]) (t := 42) ?hr ?_; (case hd => rfl); (case hg => rfl); (case hr => first | (go_simp; done) | (go_simp; rfl)); intro gb111 hg w5 hbox hb; have n0_ := Aside0.mk (IsS39.below (by repeat (first | (with_reducible first | exact HI0.out | apply IsS39.alloc | apply IsS39.drewN | apply IsS39.drew | apply IsS39.set_0 | apply IsS39.set_1) | exact HI0.out)) hb); have n1_ := Aside0.mk (KeepBut.trans (by repeat (first | (with_reducible first | exact HK.out | apply KeepBut.set_ | apply keep_drewN | apply keep_drew | apply keep_alloc) | exact HK.out)) (KeepBut.of_below hb g none) (.inl rfl)); have n2_ := Aside0.mk (below_step (by repeat (first | (with_reducible first | exact HB.out | apply below_alloc | apply pw_below_drewN | apply below_drew1 | refine below_set ?_ (IsS39.ge HI0.out)) | exact HB.out)) hb); have n3_ := Aside0.mk (hbox); have n4_ := Aside0.mk ((by rw [hg]; exact (keep_size (w := w) (g := g) (row := none) (by repeat (first | (with_reducible first | exact HK.out | apply KeepBut.set_ | apply keep_drewN | apply keep_drew | apply keep_alloc) | exact HK.out))) : w.heap.size ≤ gb111)); have n5_ := Aside0.mk ((Nat.le_trans HW0.out (by rw [hg]; exact (keep_size (w := w) (g := g) (row := none) (by repeat (first | (with_reducible first | exact HK.out | apply KeepBut.set_ | apply keep_drewN | apply keep_drew | apply keep_alloc) | exact HK.out))) : w.heap.size ≤ gb111) : w0.heap.size ≤ gb111)); have n6_ := Aside0.mk ((by rw [hg]; exact Nat.ne_of_lt (IsS39.lt (show IsS39 w0 _ g s0_0 s0_1 from by repeat (first | (with_reducible first | exact HI0.out | apply IsS39.alloc | apply IsS39.drewN | apply IsS39.drew | apply IsS39.set_0 | apply IsS39.set_1) | exact HI0.out))) : g ≠ gb111)); have n7_ := Aside0.mk ((by rw [hg]; exact Nat.ne_of_gt (IsS39.lt (show IsS39 w0 _ g s0_0 s0_1 from by repeat (first | (with_reducible first | exact HI0.out | apply IsS39.alloc | apply IsS39.drewN | apply IsS39.drew | apply IsS39.set_0 | apply IsS39.set_1) | exact HI0.out))) : gb111 ≠ g)); clear HI0; clear HK; clear HB; have HI0 := n0_; have HK := n1_; have HB := n2_; have BK111 := n3_; have GW111 := n4_; have GE111 := n5_; have NB0_111 := n6_; have NB111_0 := n7_; clear n0_ n1_ n2_ n3_ n4_ n5_ n6_ n7_; clear hb hbox hg; have hnb6 := NB111_0.out; have hnc6 := NB0_111.out; have hcz7_0 : w5.cell? ⟨gb111, 0, none⟩ = some (.int .i64 a1_0) := (blk_cell BK111.out 0).trans rfl; have hcz7_1 : w5.cell? ⟨gb111, 1, none⟩ = some (.int .i64 a1_1) := (blk_cell BK111.out 1).trans rfl; have hfz7_0 := blk_frozen BK111.out 0; have hfz7_1 := blk_frozen BK111.out 1) | (go_at_call 21; (with_reducible refine (cron_reader_is.calls g s0_0 s0_1 42 t112 t113 t114 w0 _ ?side1 ?side2 A3.out).mono ?_); (case side1 => repeat (first | (with_reducible first | exact HI0.out | apply IsS39.alloc | apply IsS39.drewN | apply IsS39.drew | apply IsS39.set_0 | apply IsS39.set_1 | refine IsS39.far ?_ NB0_111.out _) | exact HI0.out)); (case side2 => repeat (first | (with_reducible first | exact HB.out | apply below_alloc | apply pw_below_drewN | apply below_drew1 | refine below_set ?_ (IsS39.ge HI0.out) | refine below_set ?_ GE111.out) | exact HB.out)); rintro e w8 ⟨rfl, hi, hb, hk⟩; have n0_ := Aside0.mk (KeepBut.blk hk (g' := gb111) (o := .cells #[.int .i64 a1_0, .int .i64 a1_1] 42 (0, 0)) (by (with_reducible repeat (first | refine blk_drewN ?_ _ | refine blk_drew ?_ | refine blk_alloc ?_ _)); exact BK111.out) NB111_0.out (by simp)); have n1_ := Aside0.mk (KeepBut.trans (by repeat (first | (with_reducible first | exact HK.out | apply KeepBut.set_ | apply keep_drewN | apply keep_drew | apply keep_alloc | refine keep_far ?_ GW111.out _) | exact HK.out)) hk (.inl rfl)); have n2_ := Aside0.mk (hb); have n3_ := Aside0.mk (hi); clear BK111; clear HK; clear HB; clear HI0; have BK111 := n0_; have HK := n1_; have HB := n2_; have HI0 := n3_; clear n0_ n1_ n2_ n3_; (try clear hb); (try clear hb2); (try clear hk); (try clear hi))))
  (try simp only [Act.put, List.setIfInBounds_toArray, List.set_cons_zero, List.set_cons_succ])
  go_cut [6, 7, 11] (fun v6 v7 v11 wc => ∃ (kq : Nat) (x6_3 : Int) (x7_3 : Int) (x11_3 : Bool) (x1000_3 : ByteArray) (x1001_3 : Int), v6 = .int .i64 x6_3 ∧ v7 = .int .i64 x7_3 ∧ v11 = .bool x11_3 ∧ Aside0 (cron_reader_item.j0 kq x6_3 x7_3 1 x11_3 x1000_3 x1001_3 = some (r1, r2, r3, r4)) ∧ Aside0 (kq ≤ k) ∧ Aside0 (wc.heap[gb111]? = some (.cells #[.int .i64 a1_0, .int .i64 a1_1] 42 (0, 0))) ∧ Aside0 (IsS39 w0 wc g x1000_3 x1001_3) ∧ Aside0 (KeepBut w wc g none) ∧ Aside0 (Below w0.heap.size w0 wc))
  case first =>
    have H := HC4.out
    clear HC4
    by_cases c9 : t112 = true
    · subst c9
      have H1 : (cron_reader_item.j0 k a1_0 a1_1 1 true t113 t114) = some (r1, r2, r3, r4) := by rw [if_pos rfl] at H; exact H
      clear H
      have H := H1
      clear H1
      have H' := Aside0.mk H
      clear H
      go_wp2
      repeat (go_quiet (fail); try go_wp2)
      go_meet
      case rel => exact ⟨_, (a1_0), (a1_1), (true), (t113), (t114), (by first | rfl | (simp; done) | (simp [*]; done)), (by first | rfl | (simp; done) | (simp [*]; done)), (by first | rfl | (simp; done) | (simp [*]; done)), H', ⟨by first | omega | exact Nat.le_refl _⟩, ⟨by (with_reducible repeat (first | refine blk_drewN ?_ _ | refine blk_drew ?_ | refine blk_alloc ?_ _)); exact BK111.out⟩, ⟨by repeat (first | (with_reducible first | exact HI0.out | apply IsS39.alloc | apply IsS39.drewN | apply IsS39.drew | apply IsS39.set_0 | apply IsS39.set_1 | refine IsS39.far ?_ NB0_111.out _) | exact HI0.out)⟩, ⟨by repeat (first | (with_reducible first | exact HK.out | apply KeepBut.set_ | apply keep_drewN | apply keep_drew | apply keep_alloc | refine keep_far ?_ GW111.out _) | exact HK.out)⟩, ⟨by repeat (first | (with_reducible first | exact HB.out | apply below_alloc | apply pw_below_drewN | apply below_drew1 | refine below_set ?_ (IsS39.ge HI0.out) | refine below_set ?_ GE111.out) | exact HB.out)⟩⟩
    · replace c9 := Bool.eq_false_iff.mpr c9
      subst c9
      have H1 : ((cron_reader_number.f k t113 t114 a1_0 a1_1).bind fun bt115 => (if bt115.2.1 = true then ((cron_reader_is.f bt115.2.2.1 bt115.2.2.2 45).bind fun bt119 => (if bt119.1 = true then ((cron_reader_number.f k bt119.2.1 bt119.2.2 bt115.1 a1_1).bind fun bt122 => (if bt122.2.1 = true then (cron_reader_item.j0 k bt115.1 bt122.1 1 true bt122.2.2.1 bt122.2.2.2) else (some (0, false, bt122.2.2.1, bt122.2.2.2)))) else (cron_reader_item.j0 k bt115.1 bt115.1 1 false bt119.2.1 bt119.2.2))) else (some (0, false, bt115.2.2.1, bt115.2.2.2)))) = some (r1, r2, r3, r4) := by rw [if_neg (show ¬ (false = true) by decide)] at H; exact H
      clear H
      have H := H1
      clear H1
      replace H := Option.bind_eq_some_iff.mp H
      obtain ⟨⟨t115, t116, t117, t118⟩, A100, H⟩ := H
      replace H : (if t116 = true then ((cron_reader_is.f t117 t118 45).bind fun bt119 => (if bt119.1 = true then ((cron_reader_number.f k bt119.2.1 bt119.2.2 t115 a1_1).bind fun bt122 => (if bt122.2.1 = true then (cron_reader_item.j0 k t115 bt122.1 1 true bt122.2.2.1 bt122.2.2.2) else (some (0, false, bt122.2.2.1, bt122.2.2.2)))) else (cron_reader_item.j0 k t115 t115 1 false bt119.2.1 bt119.2.2))) else (some (0, false, t117, t118))) = some (r1, r2, r3, r4) := H
      have A10 := Aside0.mk A100
      clear A100
      by_cases c11 : t116 = true
      · subst c11
        have H1 : ((cron_reader_is.f t117 t118 45).bind fun bt119 => (if bt119.1 = true then ((cron_reader_number.f k bt119.2.1 bt119.2.2 t115 a1_1).bind fun bt122 => (if bt122.2.1 = true then (cron_reader_item.j0 k t115 bt122.1 1 true bt122.2.2.1 bt122.2.2.2) else (some (0, false, bt122.2.2.1, bt122.2.2.2)))) else (cron_reader_item.j0 k t115 t115 1 false bt119.2.1 bt119.2.2))) = some (r1, r2, r3, r4) := by rw [if_pos rfl] at H; exact H
        clear H
        have H := H1
        clear H1
        replace H := Option.bind_eq_some_iff.mp H
        obtain ⟨⟨t119, t120, t121⟩, A120, H⟩ := H
        replace H : (if t119 = true then ((cron_reader_number.f k t120 t121 t115 a1_1).bind fun bt122 => (if bt122.2.1 = true then (cron_reader_item.j0 k t115 bt122.1 1 true bt122.2.2.1 bt122.2.2.2) else (some (0, false, bt122.2.2.1, bt122.2.2.2)))) else (cron_reader_item.j0 k t115 t115 1 false t120 t121)) = some (r1, r2, r3, r4) := H
        have A12 := Aside0.mk A120
        clear A120
        by_cases c13 : t119 = true
        · subst c13
          have H1 : ((cron_reader_number.f k t120 t121 t115 a1_1).bind fun bt122 => (if bt122.2.1 = true then (cron_reader_item.j0 k t115 bt122.1 1 true bt122.2.2.1 bt122.2.2.2) else (some (0, false, bt122.2.2.1, bt122.2.2.2)))) = some (r1, r2, r3, r4) := by rw [if_pos rfl] at H; exact H
          clear H
          have H := H1
          clear H1
          replace H := Option.bind_eq_some_iff.mp H
          obtain ⟨⟨t122, t123, t124, t125⟩, A140, H⟩ := H
          replace H : (if t123 = true then (cron_reader_item.j0 k t115 t122 1 true t124 t125) else (some (0, false, t124, t125))) = some (r1, r2, r3, r4) := H
          have A14 := Aside0.mk A140
          clear A140
          by_cases c15 : t123 = true
          · subst c15
            have H1 : (cron_reader_item.j0 k t115 t122 1 true t124 t125) = some (r1, r2, r3, r4) := by rw [if_pos rfl] at H; exact H
            clear H
            have H := H1
            clear H1
            have H' := Aside0.mk H
            clear H
            have hnb16 := NB111_0.out
            have hnc16 := NB0_111.out
            have hcz17_0 : w8.cell? ⟨gb111, 0, none⟩ = some (.int .i64 a1_0) := (blk_cell BK111.out 0).trans rfl
            have hcz17_1 : w8.cell? ⟨gb111, 1, none⟩ = some (.int .i64 a1_1) := (blk_cell BK111.out 1).trans rfl
            have hfz17_0 := blk_frozen BK111.out 0
            have hfz17_1 := blk_frozen BK111.out 1
            go_wp2_with (first | (go_at_call 48; (with_reducible refine (cron_reader_number.calls k g t113 t114 a1_0 a1_1 t115 true t117 t118 w0 _ ?side1 ?side2 A10.out).mono ?_); (case side1 => repeat (first | (with_reducible first | exact HI0.out | apply IsS39.alloc | apply IsS39.drewN | apply IsS39.drew | apply IsS39.set_0 | apply IsS39.set_1 | refine IsS39.far ?_ NB0_111.out _) | exact HI0.out)); (case side2 => repeat (first | (with_reducible first | exact HB.out | apply below_alloc | apply pw_below_drewN | apply below_drew1 | refine below_set ?_ (IsS39.ge HI0.out) | refine below_set ?_ GE111.out) | exact HB.out)); rintro e w18 ⟨rfl, hi, hb, hk⟩; have n0_ := Aside0.mk (KeepBut.blk hk (g' := gb111) (o := .cells #[.int .i64 a1_0, .int .i64 a1_1] 42 (0, 0)) (by (with_reducible repeat (first | refine blk_drewN ?_ _ | refine blk_drew ?_ | refine blk_alloc ?_ _)); exact BK111.out) NB111_0.out (by simp)); have n1_ := Aside0.mk (KeepBut.trans (by repeat (first | (with_reducible first | exact HK.out | apply KeepBut.set_ | apply keep_drewN | apply keep_drew | apply keep_alloc | refine keep_far ?_ GW111.out _) | exact HK.out)) hk (.inl rfl)); have n2_ := Aside0.mk (hb); have n3_ := Aside0.mk (hi); clear BK111; clear HK; clear HB; clear HI0; have BK111 := n0_; have HK := n1_; have HB := n2_; have HI0 := n3_; clear n0_ n1_ n2_ n3_; (try clear hb); (try clear hb2); (try clear hk); (try clear hi)) | (go_at_call 21; (with_reducible refine (cron_reader_is.calls g t117 t118 45 true t120 t121 w0 _ ?side1 ?side2 A12.out).mono ?_); (case side1 => repeat (first | (with_reducible first | exact HI0.out | apply IsS39.alloc | apply IsS39.drewN | apply IsS39.drew | apply IsS39.set_0 | apply IsS39.set_1 | refine IsS39.far ?_ NB0_111.out _) | exact HI0.out)); (case side2 => repeat (first | (with_reducible first | exact HB.out | apply below_alloc | apply pw_below_drewN | apply below_drew1 | refine below_set ?_ (IsS39.ge HI0.out) | refine below_set ?_ GE111.out) | exact HB.out)); rintro e w19 ⟨rfl, hi, hb, hk⟩; have n0_ := Aside0.mk (KeepBut.blk hk (g' := gb111) (o := .cells #[.int .i64 a1_0, .int .i64 a1_1] 42 (0, 0)) (by (with_reducible repeat (first | refine blk_drewN ?_ _ | refine blk_drew ?_ | refine blk_alloc ?_ _)); exact BK111.out) NB111_0.out (by simp)); have n1_ := Aside0.mk (KeepBut.trans (by repeat (first | (with_reducible first | exact HK.out | apply KeepBut.set_ | apply keep_drewN | apply keep_drew | apply keep_alloc | refine keep_far ?_ GW111.out _) | exact HK.out)) hk (.inl rfl)); have n2_ := Aside0.mk (hb); have n3_ := Aside0.mk (hi); clear BK111; clear HK; clear HB; clear HI0; have BK111 := n0_; have HK := n1_; have HB := n2_; have HI0 := n3_; clear n0_ n1_ n2_ n3_; (try clear hb); (try clear hb2); (try clear hk); (try clear hi); have hcz20_0 : w19.cell? ⟨gb111, 0, none⟩ = some (.int .i64 a1_0) := (blk_cell BK111.out 0).trans rfl; have hcz20_1 : w19.cell? ⟨gb111, 1, none⟩ = some (.int .i64 a1_1) := (blk_cell BK111.out 1).trans rfl; have hfz20_0 := blk_frozen BK111.out 0; have hfz20_1 := blk_frozen BK111.out 1) | (go_at_call 48; (with_reducible refine (cron_reader_number.calls k g t120 t121 t115 a1_1 t122 true t124 t125 w0 _ ?side1 ?side2 A14.out).mono ?_); (case side1 => repeat (first | (with_reducible first | exact HI0.out | apply IsS39.alloc | apply IsS39.drewN | apply IsS39.drew | apply IsS39.set_0 | apply IsS39.set_1 | refine IsS39.far ?_ NB0_111.out _) | exact HI0.out)); (case side2 => repeat (first | (with_reducible first | exact HB.out | apply below_alloc | apply pw_below_drewN | apply below_drew1 | refine below_set ?_ (IsS39.ge HI0.out) | refine below_set ?_ GE111.out) | exact HB.out)); rintro e w21 ⟨rfl, hi, hb, hk⟩; have n0_ := Aside0.mk (KeepBut.blk hk (g' := gb111) (o := .cells #[.int .i64 a1_0, .int .i64 a1_1] 42 (0, 0)) (by (with_reducible repeat (first | refine blk_drewN ?_ _ | refine blk_drew ?_ | refine blk_alloc ?_ _)); exact BK111.out) NB111_0.out (by simp)); have n1_ := Aside0.mk (KeepBut.trans (by repeat (first | (with_reducible first | exact HK.out | apply KeepBut.set_ | apply keep_drewN | apply keep_drew | apply keep_alloc | refine keep_far ?_ GW111.out _) | exact HK.out)) hk (.inl rfl)); have n2_ := Aside0.mk (hb); have n3_ := Aside0.mk (hi); clear BK111; clear HK; clear HB; clear HI0; have BK111 := n0_; have HK := n1_; have HB := n2_; have HI0 := n3_; clear n0_ n1_ n2_ n3_; (try clear hb); (try clear hb2); (try clear hk); (try clear hi)))
            repeat (go_quiet (first | (go_at_call 48; (with_reducible refine (cron_reader_number.calls k g t113 t114 a1_0 a1_1 t115 true t117 t118 w0 _ ?side1 ?side2 A10.out).mono ?_); (case side1 => repeat (first | (with_reducible first | exact HI0.out | apply IsS39.alloc | apply IsS39.drewN | apply IsS39.drew | apply IsS39.set_0 | apply IsS39.set_1 | refine IsS39.far ?_ NB0_111.out _) | exact HI0.out)); (case side2 => repeat (first | (with_reducible first | exact HB.out | apply below_alloc | apply pw_below_drewN | apply below_drew1 | refine below_set ?_ (IsS39.ge HI0.out) | refine below_set ?_ GE111.out) | exact HB.out)); rintro e w18 ⟨rfl, hi, hb, hk⟩; have n0_ := Aside0.mk (KeepBut.blk hk (g' := gb111) (o := .cells #[.int .i64 a1_0, .int .i64 a1_1] 42 (0, 0)) (by (with_reducible repeat (first | refine blk_drewN ?_ _ | refine blk_drew ?_ | refine blk_alloc ?_ _)); exact BK111.out) NB111_0.out (by simp)); have n1_ := Aside0.mk (KeepBut.trans (by repeat (first | (with_reducible first | exact HK.out | apply KeepBut.set_ | apply keep_drewN | apply keep_drew | apply keep_alloc | refine keep_far ?_ GW111.out _) | exact HK.out)) hk (.inl rfl)); have n2_ := Aside0.mk (hb); have n3_ := Aside0.mk (hi); clear BK111; clear HK; clear HB; clear HI0; have BK111 := n0_; have HK := n1_; have HB := n2_; have HI0 := n3_; clear n0_ n1_ n2_ n3_; (try clear hb); (try clear hb2); (try clear hk); (try clear hi)) | (go_at_call 21; (with_reducible refine (cron_reader_is.calls g t117 t118 45 true t120 t121 w0 _ ?side1 ?side2 A12.out).mono ?_); (case side1 => repeat (first | (with_reducible first | exact HI0.out | apply IsS39.alloc | apply IsS39.drewN | apply IsS39.drew | apply IsS39.set_0 | apply IsS39.set_1 | refine IsS39.far ?_ NB0_111.out _) | exact HI0.out)); (case side2 => repeat (first | (with_reducible first | exact HB.out | apply below_alloc | apply pw_below_drewN | apply below_drew1 | refine below_set ?_ (IsS39.ge HI0.out) | refine below_set ?_ GE111.out) | exact HB.out)); rintro e w19 ⟨rfl, hi, hb, hk⟩; have n0_ := Aside0.mk (KeepBut.blk hk (g' := gb111) (o := .cells #[.int .i64 a1_0, .int .i64 a1_1] 42 (0, 0)) (by (with_reducible repeat (first | refine blk_drewN ?_ _ | refine blk_drew ?_ | refine blk_alloc ?_ _)); exact BK111.out) NB111_0.out (by simp)); have n1_ := Aside0.mk (KeepBut.trans (by repeat (first | (with_reducible first | exact HK.out | apply KeepBut.set_ | apply keep_drewN | apply keep_drew | apply keep_alloc | refine keep_far ?_ GW111.out _) | exact HK.out)) hk (.inl rfl)); have n2_ := Aside0.mk (hb); have n3_ := Aside0.mk (hi); clear BK111; clear HK; clear HB; clear HI0; have BK111 := n0_; have HK := n1_; have HB := n2_; have HI0 := n3_; clear n0_ n1_ n2_ n3_; (try clear hb); (try clear hb2); (try clear hk); (try clear hi); have hcz20_0 : w19.cell? ⟨gb111, 0, none⟩ = some (.int .i64 a1_0) := (blk_cell BK111.out 0).trans rfl; have hcz20_1 : w19.cell? ⟨gb111, 1, none⟩ = some (.int .i64 a1_1) := (blk_cell BK111.out 1).trans rfl; have hfz20_0 := blk_frozen BK111.out 0; have hfz20_1 := blk_frozen BK111.out 1) | (go_at_call 48; (with_reducible refine (cron_reader_number.calls k g t120 t121 t115 a1_1 t122 true t124 t125 w0 _ ?side1 ?side2 A14.out).mono ?_); (case side1 => repeat (first | (with_reducible first | exact HI0.out | apply IsS39.alloc | apply IsS39.drewN | apply IsS39.drew | apply IsS39.set_0 | apply IsS39.set_1 | refine IsS39.far ?_ NB0_111.out _) | exact HI0.out)); (case side2 => repeat (first | (with_reducible first | exact HB.out | apply below_alloc | apply pw_below_drewN | apply below_drew1 | refine below_set ?_ (IsS39.ge HI0.out) | refine below_set ?_ GE111.out) | exact HB.out)); rintro e w21 ⟨rfl, hi, hb, hk⟩; have n0_ := Aside0.mk (KeepBut.blk hk (g' := gb111) (o := .cells #[.int .i64 a1_0, .int .i64 a1_1] 42 (0, 0)) (by (with_reducible repeat (first | refine blk_drewN ?_ _ | refine blk_drew ?_ | refine blk_alloc ?_ _)); exact BK111.out) NB111_0.out (by simp)); have n1_ := Aside0.mk (KeepBut.trans (by repeat (first | (with_reducible first | exact HK.out | apply KeepBut.set_ | apply keep_drewN | apply keep_drew | apply keep_alloc | refine keep_far ?_ GW111.out _) | exact HK.out)) hk (.inl rfl)); have n2_ := Aside0.mk (hb); have n3_ := Aside0.mk (hi); clear BK111; clear HK; clear HB; clear HI0; have BK111 := n0_; have HK := n1_; have HB := n2_; have HI0 := n3_; clear n0_ n1_ n2_ n3_; (try clear hb); (try clear hb2); (try clear hk); (try clear hi))); try go_wp2_with (first | (go_at_call 48; (with_reducible refine (cron_reader_number.calls k g t113 t114 a1_0 a1_1 t115 true t117 t118 w0 _ ?side1 ?side2 A10.out).mono ?_); (case side1 => repeat (first | (with_reducible first | exact HI0.out | apply IsS39.alloc | apply IsS39.drewN | apply IsS39.drew | apply IsS39.set_0 | apply IsS39.set_1 | refine IsS39.far ?_ NB0_111.out _) | exact HI0.out)); (case side2 => repeat (first | (with_reducible first | exact HB.out | apply below_alloc | apply pw_below_drewN | apply below_drew1 | refine below_set ?_ (IsS39.ge HI0.out) | refine below_set ?_ GE111.out) | exact HB.out)); rintro e w18 ⟨rfl, hi, hb, hk⟩; have n0_ := Aside0.mk (KeepBut.blk hk (g' := gb111) (o := .cells #[.int .i64 a1_0, .int .i64 a1_1] 42 (0, 0)) (by (with_reducible repeat (first | refine blk_drewN ?_ _ | refine blk_drew ?_ | refine blk_alloc ?_ _)); exact BK111.out) NB111_0.out (by simp)); have n1_ := Aside0.mk (KeepBut.trans (by repeat (first | (with_reducible first | exact HK.out | apply KeepBut.set_ | apply keep_drewN | apply keep_drew | apply keep_alloc | refine keep_far ?_ GW111.out _) | exact HK.out)) hk (.inl rfl)); have n2_ := Aside0.mk (hb); have n3_ := Aside0.mk (hi); clear BK111; clear HK; clear HB; clear HI0; have BK111 := n0_; have HK := n1_; have HB := n2_; have HI0 := n3_; clear n0_ n1_ n2_ n3_; (try clear hb); (try clear hb2); (try clear hk); (try clear hi)) | (go_at_call 21; (with_reducible refine (cron_reader_is.calls g t117 t118 45 true t120 t121 w0 _ ?side1 ?side2 A12.out).mono ?_); (case side1 => repeat (first | (with_reducible first | exact HI0.out | apply IsS39.alloc | apply IsS39.drewN | apply IsS39.drew | apply IsS39.set_0 | apply IsS39.set_1 | refine IsS39.far ?_ NB0_111.out _) | exact HI0.out)); (case side2 => repeat (first | (with_reducible first | exact HB.out | apply below_alloc | apply pw_below_drewN | apply below_drew1 | refine below_set ?_ (IsS39.ge HI0.out) | refine below_set ?_ GE111.out) | exact HB.out)); rintro e w19 ⟨rfl, hi, hb, hk⟩; have n0_ := Aside0.mk (KeepBut.blk hk (g' := gb111) (o := .cells #[.int .i64 a1_0, .int .i64 a1_1] 42 (0, 0)) (by (with_reducible repeat (first | refine blk_drewN ?_ _ | refine blk_drew ?_ | refine blk_alloc ?_ _)); exact BK111.out) NB111_0.out (by simp)); have n1_ := Aside0.mk (KeepBut.trans (by repeat (first | (with_reducible first | exact HK.out | apply KeepBut.set_ | apply keep_drewN | apply keep_drew | apply keep_alloc | refine keep_far ?_ GW111.out _) | exact HK.out)) hk (.inl rfl)); have n2_ := Aside0.mk (hb); have n3_ := Aside0.mk (hi); clear BK111; clear HK; clear HB; clear HI0; have BK111 := n0_; have HK := n1_; have HB := n2_; have HI0 := n3_; clear n0_ n1_ n2_ n3_; (try clear hb); (try clear hb2); (try clear hk); (try clear hi); have hcz20_0 : w19.cell? ⟨gb111, 0, none⟩ = some (.int .i64 a1_0) := (blk_cell BK111.out 0).trans rfl; have hcz20_1 : w19.cell? ⟨gb111, 1, none⟩ = some (.int .i64 a1_1) := (blk_cell BK111.out 1).trans rfl; have hfz20_0 := blk_frozen BK111.out 0; have hfz20_1 := blk_frozen BK111.out 1) | (go_at_call 48; (with_reducible refine (cron_reader_number.calls k g t120 t121 t115 a1_1 t122 true t124 t125 w0 _ ?side1 ?side2 A14.out).mono ?_); (case side1 => repeat (first | (with_reducible first | exact HI0.out | apply IsS39.alloc | apply IsS39.drewN | apply IsS39.drew | apply IsS39.set_0 | apply IsS39.set_1 | refine IsS39.far ?_ NB0_111.out _) | exact HI0.out)); (case side2 => repeat (first | (with_reducible first | exact HB.out | apply below_alloc | apply pw_below_drewN | apply below_drew1 | refine below_set ?_ (IsS39.ge HI0.out) | refine below_set ?_ GE111.out) | exact HB.out)); rintro e w21 ⟨rfl, hi, hb, hk⟩; have n0_ := Aside0.mk (KeepBut.blk hk (g' := gb111) (o := .cells #[.int .i64 a1_0, .int .i64 a1_1] 42 (0, 0)) (by (with_reducible repeat (first | refine blk_drewN ?_ _ | refine blk_drew ?_ | refine blk_alloc ?_ _)); exact BK111.out) NB111_0.out (by simp)); have n1_ := Aside0.mk (KeepBut.trans (by repeat (first | (with_reducible first | exact HK.out | apply KeepBut.set_ | apply keep_drewN | apply keep_drew | apply keep_alloc | refine keep_far ?_ GW111.out _) | exact HK.out)) hk (.inl rfl)); have n2_ := Aside0.mk (hb); have n3_ := Aside0.mk (hi); clear BK111; clear HK; clear HB; clear HI0; have BK111 := n0_; have HK := n1_; have HB := n2_; have HI0 := n3_; clear n0_ n1_ n2_ n3_; (try clear hb); (try clear hb2); (try clear hk); (try clear hi))))
            go_meet
            case rel => exact ⟨_, (t115), (t122), (true), (t124), (t125), (by first | rfl | (simp; done) | (simp [*]; done)), (by first | rfl | (simp; done) | (simp [*]; done)), (by first | rfl | (simp; done) | (simp [*]; done)), H', ⟨by first | omega | exact Nat.le_refl _⟩, ⟨by (with_reducible repeat (first | refine blk_drewN ?_ _ | refine blk_drew ?_ | refine blk_alloc ?_ _)); exact BK111.out⟩, ⟨by repeat (first | (with_reducible first | exact HI0.out | apply IsS39.alloc | apply IsS39.drewN | apply IsS39.drew | apply IsS39.set_0 | apply IsS39.set_1 | refine IsS39.far ?_ NB0_111.out _) | exact HI0.out)⟩, ⟨by repeat (first | (with_reducible first | exact HK.out | apply KeepBut.set_ | apply keep_drewN | apply keep_drew | apply keep_alloc | refine keep_far ?_ GW111.out _) | exact HK.out)⟩, ⟨by repeat (first | (with_reducible first | exact HB.out | apply below_alloc | apply pw_below_drewN | apply below_drew1 | refine below_set ?_ (IsS39.ge HI0.out) | refine below_set ?_ GE111.out) | exact HB.out)⟩⟩
          · replace c15 := Bool.eq_false_iff.mpr c15
            subst c15
            have H1 : (some (0, false, t124, t125)) = some (r1, r2, r3, r4) := by rw [if_neg (show ¬ (false = true) by decide)] at H; exact H
            clear H
            have H := H1
            clear H1
            simp only [Option.some.injEq, Prod.mk.injEq] at H
            obtain ⟨rfl, rfl, rfl, rfl⟩ := H
            have hnb22 := NB111_0.out
            have hnc22 := NB0_111.out
            have hcz23_0 : w8.cell? ⟨gb111, 0, none⟩ = some (.int .i64 a1_0) := (blk_cell BK111.out 0).trans rfl
            have hcz23_1 : w8.cell? ⟨gb111, 1, none⟩ = some (.int .i64 a1_1) := (blk_cell BK111.out 1).trans rfl
            have hfz23_0 := blk_frozen BK111.out 0
            have hfz23_1 := blk_frozen BK111.out 1
            go_wp2_with (first | (go_at_call 48; (with_reducible refine (cron_reader_number.calls k g t113 t114 a1_0 a1_1 t115 true t117 t118 w0 _ ?side1 ?side2 A10.out).mono ?_); (case side1 => repeat (first | (with_reducible first | exact HI0.out | apply IsS39.alloc | apply IsS39.drewN | apply IsS39.drew | apply IsS39.set_0 | apply IsS39.set_1 | refine IsS39.far ?_ NB0_111.out _) | exact HI0.out)); (case side2 => repeat (first | (with_reducible first | exact HB.out | apply below_alloc | apply pw_below_drewN | apply below_drew1 | refine below_set ?_ (IsS39.ge HI0.out) | refine below_set ?_ GE111.out) | exact HB.out)); rintro e w24 ⟨rfl, hi, hb, hk⟩; have n0_ := Aside0.mk (KeepBut.blk hk (g' := gb111) (o := .cells #[.int .i64 a1_0, .int .i64 a1_1] 42 (0, 0)) (by (with_reducible repeat (first | refine blk_drewN ?_ _ | refine blk_drew ?_ | refine blk_alloc ?_ _)); exact BK111.out) NB111_0.out (by simp)); have n1_ := Aside0.mk (KeepBut.trans (by repeat (first | (with_reducible first | exact HK.out | apply KeepBut.set_ | apply keep_drewN | apply keep_drew | apply keep_alloc | refine keep_far ?_ GW111.out _) | exact HK.out)) hk (.inl rfl)); have n2_ := Aside0.mk (hb); have n3_ := Aside0.mk (hi); clear BK111; clear HK; clear HB; clear HI0; have BK111 := n0_; have HK := n1_; have HB := n2_; have HI0 := n3_; clear n0_ n1_ n2_ n3_; (try clear hb); (try clear hb2); (try clear hk); (try clear hi)) | (go_at_call 21; (with_reducible refine (cron_reader_is.calls g t117 t118 45 true t120 t121 w0 _ ?side1 ?side2 A12.out).mono ?_); (case side1 => repeat (first | (with_reducible first | exact HI0.out | apply IsS39.alloc | apply IsS39.drewN | apply IsS39.drew | apply IsS39.set_0 | apply IsS39.set_1 | refine IsS39.far ?_ NB0_111.out _) | exact HI0.out)); (case side2 => repeat (first | (with_reducible first | exact HB.out | apply below_alloc | apply pw_below_drewN | apply below_drew1 | refine below_set ?_ (IsS39.ge HI0.out) | refine below_set ?_ GE111.out) | exact HB.out)); rintro e w25 ⟨rfl, hi, hb, hk⟩; have n0_ := Aside0.mk (KeepBut.blk hk (g' := gb111) (o := .cells #[.int .i64 a1_0, .int .i64 a1_1] 42 (0, 0)) (by (with_reducible repeat (first | refine blk_drewN ?_ _ | refine blk_drew ?_ | refine blk_alloc ?_ _)); exact BK111.out) NB111_0.out (by simp)); have n1_ := Aside0.mk (KeepBut.trans (by repeat (first | (with_reducible first | exact HK.out | apply KeepBut.set_ | apply keep_drewN | apply keep_drew | apply keep_alloc | refine keep_far ?_ GW111.out _) | exact HK.out)) hk (.inl rfl)); have n2_ := Aside0.mk (hb); have n3_ := Aside0.mk (hi); clear BK111; clear HK; clear HB; clear HI0; have BK111 := n0_; have HK := n1_; have HB := n2_; have HI0 := n3_; clear n0_ n1_ n2_ n3_; (try clear hb); (try clear hb2); (try clear hk); (try clear hi); have hcz26_0 : w25.cell? ⟨gb111, 0, none⟩ = some (.int .i64 a1_0) := (blk_cell BK111.out 0).trans rfl; have hcz26_1 : w25.cell? ⟨gb111, 1, none⟩ = some (.int .i64 a1_1) := (blk_cell BK111.out 1).trans rfl; have hfz26_0 := blk_frozen BK111.out 0; have hfz26_1 := blk_frozen BK111.out 1) | (go_at_call 48; (with_reducible refine (cron_reader_number.calls k g t120 t121 t115 a1_1 t122 false t124 t125 w0 _ ?side1 ?side2 A14.out).mono ?_); (case side1 => repeat (first | (with_reducible first | exact HI0.out | apply IsS39.alloc | apply IsS39.drewN | apply IsS39.drew | apply IsS39.set_0 | apply IsS39.set_1 | refine IsS39.far ?_ NB0_111.out _) | exact HI0.out)); (case side2 => repeat (first | (with_reducible first | exact HB.out | apply below_alloc | apply pw_below_drewN | apply below_drew1 | refine below_set ?_ (IsS39.ge HI0.out) | refine below_set ?_ GE111.out) | exact HB.out)); rintro e w27 ⟨rfl, hi, hb, hk⟩; have n0_ := Aside0.mk (KeepBut.blk hk (g' := gb111) (o := .cells #[.int .i64 a1_0, .int .i64 a1_1] 42 (0, 0)) (by (with_reducible repeat (first | refine blk_drewN ?_ _ | refine blk_drew ?_ | refine blk_alloc ?_ _)); exact BK111.out) NB111_0.out (by simp)); have n1_ := Aside0.mk (KeepBut.trans (by repeat (first | (with_reducible first | exact HK.out | apply KeepBut.set_ | apply keep_drewN | apply keep_drew | apply keep_alloc | refine keep_far ?_ GW111.out _) | exact HK.out)) hk (.inl rfl)); have n2_ := Aside0.mk (hb); have n3_ := Aside0.mk (hi); clear BK111; clear HK; clear HB; clear HI0; have BK111 := n0_; have HK := n1_; have HB := n2_; have HI0 := n3_; clear n0_ n1_ n2_ n3_; (try clear hb); (try clear hb2); (try clear hk); (try clear hi)))
            repeat (go_quiet (first | (go_at_call 48; (with_reducible refine (cron_reader_number.calls k g t113 t114 a1_0 a1_1 t115 true t117 t118 w0 _ ?side1 ?side2 A10.out).mono ?_); (case side1 => repeat (first | (with_reducible first | exact HI0.out | apply IsS39.alloc | apply IsS39.drewN | apply IsS39.drew | apply IsS39.set_0 | apply IsS39.set_1 | refine IsS39.far ?_ NB0_111.out _) | exact HI0.out)); (case side2 => repeat (first | (with_reducible first | exact HB.out | apply below_alloc | apply pw_below_drewN | apply below_drew1 | refine below_set ?_ (IsS39.ge HI0.out) | refine below_set ?_ GE111.out) | exact HB.out)); rintro e w24 ⟨rfl, hi, hb, hk⟩; have n0_ := Aside0.mk (KeepBut.blk hk (g' := gb111) (o := .cells #[.int .i64 a1_0, .int .i64 a1_1] 42 (0, 0)) (by (with_reducible repeat (first | refine blk_drewN ?_ _ | refine blk_drew ?_ | refine blk_alloc ?_ _)); exact BK111.out) NB111_0.out (by simp)); have n1_ := Aside0.mk (KeepBut.trans (by repeat (first | (with_reducible first | exact HK.out | apply KeepBut.set_ | apply keep_drewN | apply keep_drew | apply keep_alloc | refine keep_far ?_ GW111.out _) | exact HK.out)) hk (.inl rfl)); have n2_ := Aside0.mk (hb); have n3_ := Aside0.mk (hi); clear BK111; clear HK; clear HB; clear HI0; have BK111 := n0_; have HK := n1_; have HB := n2_; have HI0 := n3_; clear n0_ n1_ n2_ n3_; (try clear hb); (try clear hb2); (try clear hk); (try clear hi)) | (go_at_call 21; (with_reducible refine (cron_reader_is.calls g t117 t118 45 true t120 t121 w0 _ ?side1 ?side2 A12.out).mono ?_); (case side1 => repeat (first | (with_reducible first | exact HI0.out | apply IsS39.alloc | apply IsS39.drewN | apply IsS39.drew | apply IsS39.set_0 | apply IsS39.set_1 | refine IsS39.far ?_ NB0_111.out _) | exact HI0.out)); (case side2 => repeat (first | (with_reducible first | exact HB.out | apply below_alloc | apply pw_below_drewN | apply below_drew1 | refine below_set ?_ (IsS39.ge HI0.out) | refine below_set ?_ GE111.out) | exact HB.out)); rintro e w25 ⟨rfl, hi, hb, hk⟩; have n0_ := Aside0.mk (KeepBut.blk hk (g' := gb111) (o := .cells #[.int .i64 a1_0, .int .i64 a1_1] 42 (0, 0)) (by (with_reducible repeat (first | refine blk_drewN ?_ _ | refine blk_drew ?_ | refine blk_alloc ?_ _)); exact BK111.out) NB111_0.out (by simp)); have n1_ := Aside0.mk (KeepBut.trans (by repeat (first | (with_reducible first | exact HK.out | apply KeepBut.set_ | apply keep_drewN | apply keep_drew | apply keep_alloc | refine keep_far ?_ GW111.out _) | exact HK.out)) hk (.inl rfl)); have n2_ := Aside0.mk (hb); have n3_ := Aside0.mk (hi); clear BK111; clear HK; clear HB; clear HI0; have BK111 := n0_; have HK := n1_; have HB := n2_; have HI0 := n3_; clear n0_ n1_ n2_ n3_; (try clear hb); (try clear hb2); (try clear hk); (try clear hi); have hcz26_0 : w25.cell? ⟨gb111, 0, none⟩ = some (.int .i64 a1_0) := (blk_cell BK111.out 0).trans rfl; have hcz26_1 : w25.cell? ⟨gb111, 1, none⟩ = some (.int .i64 a1_1) := (blk_cell BK111.out 1).trans rfl; have hfz26_0 := blk_frozen BK111.out 0; have hfz26_1 := blk_frozen BK111.out 1) | (go_at_call 48; (with_reducible refine (cron_reader_number.calls k g t120 t121 t115 a1_1 t122 false t124 t125 w0 _ ?side1 ?side2 A14.out).mono ?_); (case side1 => repeat (first | (with_reducible first | exact HI0.out | apply IsS39.alloc | apply IsS39.drewN | apply IsS39.drew | apply IsS39.set_0 | apply IsS39.set_1 | refine IsS39.far ?_ NB0_111.out _) | exact HI0.out)); (case side2 => repeat (first | (with_reducible first | exact HB.out | apply below_alloc | apply pw_below_drewN | apply below_drew1 | refine below_set ?_ (IsS39.ge HI0.out) | refine below_set ?_ GE111.out) | exact HB.out)); rintro e w27 ⟨rfl, hi, hb, hk⟩; have n0_ := Aside0.mk (KeepBut.blk hk (g' := gb111) (o := .cells #[.int .i64 a1_0, .int .i64 a1_1] 42 (0, 0)) (by (with_reducible repeat (first | refine blk_drewN ?_ _ | refine blk_drew ?_ | refine blk_alloc ?_ _)); exact BK111.out) NB111_0.out (by simp)); have n1_ := Aside0.mk (KeepBut.trans (by repeat (first | (with_reducible first | exact HK.out | apply KeepBut.set_ | apply keep_drewN | apply keep_drew | apply keep_alloc | refine keep_far ?_ GW111.out _) | exact HK.out)) hk (.inl rfl)); have n2_ := Aside0.mk (hb); have n3_ := Aside0.mk (hi); clear BK111; clear HK; clear HB; clear HI0; have BK111 := n0_; have HK := n1_; have HB := n2_; have HI0 := n3_; clear n0_ n1_ n2_ n3_; (try clear hb); (try clear hb2); (try clear hk); (try clear hi))); try go_wp2_with (first | (go_at_call 48; (with_reducible refine (cron_reader_number.calls k g t113 t114 a1_0 a1_1 t115 true t117 t118 w0 _ ?side1 ?side2 A10.out).mono ?_); (case side1 => repeat (first | (with_reducible first | exact HI0.out | apply IsS39.alloc | apply IsS39.drewN | apply IsS39.drew | apply IsS39.set_0 | apply IsS39.set_1 | refine IsS39.far ?_ NB0_111.out _) | exact HI0.out)); (case side2 => repeat (first | (with_reducible first | exact HB.out | apply below_alloc | apply pw_below_drewN | apply below_drew1 | refine below_set ?_ (IsS39.ge HI0.out) | refine below_set ?_ GE111.out) | exact HB.out)); rintro e w24 ⟨rfl, hi, hb, hk⟩; have n0_ := Aside0.mk (KeepBut.blk hk (g' := gb111) (o := .cells #[.int .i64 a1_0, .int .i64 a1_1] 42 (0, 0)) (by (with_reducible repeat (first | refine blk_drewN ?_ _ | refine blk_drew ?_ | refine blk_alloc ?_ _)); exact BK111.out) NB111_0.out (by simp)); have n1_ := Aside0.mk (KeepBut.trans (by repeat (first | (with_reducible first | exact HK.out | apply KeepBut.set_ | apply keep_drewN | apply keep_drew | apply keep_alloc | refine keep_far ?_ GW111.out _) | exact HK.out)) hk (.inl rfl)); have n2_ := Aside0.mk (hb); have n3_ := Aside0.mk (hi); clear BK111; clear HK; clear HB; clear HI0; have BK111 := n0_; have HK := n1_; have HB := n2_; have HI0 := n3_; clear n0_ n1_ n2_ n3_; (try clear hb); (try clear hb2); (try clear hk); (try clear hi)) | (go_at_call 21; (with_reducible refine (cron_reader_is.calls g t117 t118 45 true t120 t121 w0 _ ?side1 ?side2 A12.out).mono ?_); (case side1 => repeat (first | (with_reducible first | exact HI0.out | apply IsS39.alloc | apply IsS39.drewN | apply IsS39.drew | apply IsS39.set_0 | apply IsS39.set_1 | refine IsS39.far ?_ NB0_111.out _) | exact HI0.out)); (case side2 => repeat (first | (with_reducible first | exact HB.out | apply below_alloc | apply pw_below_drewN | apply below_drew1 | refine below_set ?_ (IsS39.ge HI0.out) | refine below_set ?_ GE111.out) | exact HB.out)); rintro e w25 ⟨rfl, hi, hb, hk⟩; have n0_ := Aside0.mk (KeepBut.blk hk (g' := gb111) (o := .cells #[.int .i64 a1_0, .int .i64 a1_1] 42 (0, 0)) (by (with_reducible repeat (first | refine blk_drewN ?_ _ | refine blk_drew ?_ | refine blk_alloc ?_ _)); exact BK111.out) NB111_0.out (by simp)); have n1_ := Aside0.mk (KeepBut.trans (by repeat (first | (with_reducible first | exact HK.out | apply KeepBut.set_ | apply keep_drewN | apply keep_drew | apply keep_alloc | refine keep_far ?_ GW111.out _) | exact HK.out)) hk (.inl rfl)); have n2_ := Aside0.mk (hb); have n3_ := Aside0.mk (hi); clear BK111; clear HK; clear HB; clear HI0; have BK111 := n0_; have HK := n1_; have HB := n2_; have HI0 := n3_; clear n0_ n1_ n2_ n3_; (try clear hb); (try clear hb2); (try clear hk); (try clear hi); have hcz26_0 : w25.cell? ⟨gb111, 0, none⟩ = some (.int .i64 a1_0) := (blk_cell BK111.out 0).trans rfl; have hcz26_1 : w25.cell? ⟨gb111, 1, none⟩ = some (.int .i64 a1_1) := (blk_cell BK111.out 1).trans rfl; have hfz26_0 := blk_frozen BK111.out 0; have hfz26_1 := blk_frozen BK111.out 1) | (go_at_call 48; (with_reducible refine (cron_reader_number.calls k g t120 t121 t115 a1_1 t122 false t124 t125 w0 _ ?side1 ?side2 A14.out).mono ?_); (case side1 => repeat (first | (with_reducible first | exact HI0.out | apply IsS39.alloc | apply IsS39.drewN | apply IsS39.drew | apply IsS39.set_0 | apply IsS39.set_1 | refine IsS39.far ?_ NB0_111.out _) | exact HI0.out)); (case side2 => repeat (first | (with_reducible first | exact HB.out | apply below_alloc | apply pw_below_drewN | apply below_drew1 | refine below_set ?_ (IsS39.ge HI0.out) | refine below_set ?_ GE111.out) | exact HB.out)); rintro e w27 ⟨rfl, hi, hb, hk⟩; have n0_ := Aside0.mk (KeepBut.blk hk (g' := gb111) (o := .cells #[.int .i64 a1_0, .int .i64 a1_1] 42 (0, 0)) (by (with_reducible repeat (first | refine blk_drewN ?_ _ | refine blk_drew ?_ | refine blk_alloc ?_ _)); exact BK111.out) NB111_0.out (by simp)); have n1_ := Aside0.mk (KeepBut.trans (by repeat (first | (with_reducible first | exact HK.out | apply KeepBut.set_ | apply keep_drewN | apply keep_drew | apply keep_alloc | refine keep_far ?_ GW111.out _) | exact HK.out)) hk (.inl rfl)); have n2_ := Aside0.mk (hb); have n3_ := Aside0.mk (hi); clear BK111; clear HK; clear HB; clear HI0; have BK111 := n0_; have HK := n1_; have HB := n2_; have HI0 := n3_; clear n0_ n1_ n2_ n3_; (try clear hb); (try clear hb2); (try clear hk); (try clear hi))))
            go_ret2
            exact ⟨by first | rfl | (simp [errW_none, errW_some] <;> rfl) | (simp [*, errW_none, errW_some] <;> rfl), by repeat (first | (with_reducible first | exact HI0.out | apply IsS39.alloc | apply IsS39.drewN | apply IsS39.drew | apply IsS39.set_0 | apply IsS39.set_1 | refine IsS39.far ?_ NB0_111.out _) | exact HI0.out), by repeat (first | (with_reducible first | exact HB.out | apply below_alloc | apply pw_below_drewN | apply below_drew1 | refine below_set ?_ (IsS39.ge HI0.out) | refine below_set ?_ GE111.out) | exact HB.out), by repeat (first | (with_reducible first | exact HK.out | apply KeepBut.set_ | apply keep_drewN | apply keep_drew | apply keep_alloc | refine keep_far ?_ GW111.out _) | exact HK.out)⟩
        · replace c13 := Bool.eq_false_iff.mpr c13
          subst c13
          have H1 : (cron_reader_item.j0 k t115 t115 1 false t120 t121) = some (r1, r2, r3, r4) := by rw [if_neg (show ¬ (false = true) by decide)] at H; exact H
          clear H
          have H := H1
          clear H1
          have H' := Aside0.mk H
          clear H
          have hnb28 := NB111_0.out
          have hnc28 := NB0_111.out
          have hcz29_0 : w8.cell? ⟨gb111, 0, none⟩ = some (.int .i64 a1_0) := (blk_cell BK111.out 0).trans rfl
          have hcz29_1 : w8.cell? ⟨gb111, 1, none⟩ = some (.int .i64 a1_1) := (blk_cell BK111.out 1).trans rfl
          have hfz29_0 := blk_frozen BK111.out 0
          have hfz29_1 := blk_frozen BK111.out 1
          go_wp2_with (first | (go_at_call 48; (with_reducible refine (cron_reader_number.calls k g t113 t114 a1_0 a1_1 t115 true t117 t118 w0 _ ?side1 ?side2 A10.out).mono ?_); (case side1 => repeat (first | (with_reducible first | exact HI0.out | apply IsS39.alloc | apply IsS39.drewN | apply IsS39.drew | apply IsS39.set_0 | apply IsS39.set_1 | refine IsS39.far ?_ NB0_111.out _) | exact HI0.out)); (case side2 => repeat (first | (with_reducible first | exact HB.out | apply below_alloc | apply pw_below_drewN | apply below_drew1 | refine below_set ?_ (IsS39.ge HI0.out) | refine below_set ?_ GE111.out) | exact HB.out)); rintro e w30 ⟨rfl, hi, hb, hk⟩; have n0_ := Aside0.mk (KeepBut.blk hk (g' := gb111) (o := .cells #[.int .i64 a1_0, .int .i64 a1_1] 42 (0, 0)) (by (with_reducible repeat (first | refine blk_drewN ?_ _ | refine blk_drew ?_ | refine blk_alloc ?_ _)); exact BK111.out) NB111_0.out (by simp)); have n1_ := Aside0.mk (KeepBut.trans (by repeat (first | (with_reducible first | exact HK.out | apply KeepBut.set_ | apply keep_drewN | apply keep_drew | apply keep_alloc | refine keep_far ?_ GW111.out _) | exact HK.out)) hk (.inl rfl)); have n2_ := Aside0.mk (hb); have n3_ := Aside0.mk (hi); clear BK111; clear HK; clear HB; clear HI0; have BK111 := n0_; have HK := n1_; have HB := n2_; have HI0 := n3_; clear n0_ n1_ n2_ n3_; (try clear hb); (try clear hb2); (try clear hk); (try clear hi)) | (go_at_call 21; (with_reducible refine (cron_reader_is.calls g t117 t118 45 false t120 t121 w0 _ ?side1 ?side2 A12.out).mono ?_); (case side1 => repeat (first | (with_reducible first | exact HI0.out | apply IsS39.alloc | apply IsS39.drewN | apply IsS39.drew | apply IsS39.set_0 | apply IsS39.set_1 | refine IsS39.far ?_ NB0_111.out _) | exact HI0.out)); (case side2 => repeat (first | (with_reducible first | exact HB.out | apply below_alloc | apply pw_below_drewN | apply below_drew1 | refine below_set ?_ (IsS39.ge HI0.out) | refine below_set ?_ GE111.out) | exact HB.out)); rintro e w31 ⟨rfl, hi, hb, hk⟩; have n0_ := Aside0.mk (KeepBut.blk hk (g' := gb111) (o := .cells #[.int .i64 a1_0, .int .i64 a1_1] 42 (0, 0)) (by (with_reducible repeat (first | refine blk_drewN ?_ _ | refine blk_drew ?_ | refine blk_alloc ?_ _)); exact BK111.out) NB111_0.out (by simp)); have n1_ := Aside0.mk (KeepBut.trans (by repeat (first | (with_reducible first | exact HK.out | apply KeepBut.set_ | apply keep_drewN | apply keep_drew | apply keep_alloc | refine keep_far ?_ GW111.out _) | exact HK.out)) hk (.inl rfl)); have n2_ := Aside0.mk (hb); have n3_ := Aside0.mk (hi); clear BK111; clear HK; clear HB; clear HI0; have BK111 := n0_; have HK := n1_; have HB := n2_; have HI0 := n3_; clear n0_ n1_ n2_ n3_; (try clear hb); (try clear hb2); (try clear hk); (try clear hi)))
          repeat (go_quiet (first | (go_at_call 48; (with_reducible refine (cron_reader_number.calls k g t113 t114 a1_0 a1_1 t115 true t117 t118 w0 _ ?side1 ?side2 A10.out).mono ?_); (case side1 => repeat (first | (with_reducible first | exact HI0.out | apply IsS39.alloc | apply IsS39.drewN | apply IsS39.drew | apply IsS39.set_0 | apply IsS39.set_1 | refine IsS39.far ?_ NB0_111.out _) | exact HI0.out)); (case side2 => repeat (first | (with_reducible first | exact HB.out | apply below_alloc | apply pw_below_drewN | apply below_drew1 | refine below_set ?_ (IsS39.ge HI0.out) | refine below_set ?_ GE111.out) | exact HB.out)); rintro e w30 ⟨rfl, hi, hb, hk⟩; have n0_ := Aside0.mk (KeepBut.blk hk (g' := gb111) (o := .cells #[.int .i64 a1_0, .int .i64 a1_1] 42 (0, 0)) (by (with_reducible repeat (first | refine blk_drewN ?_ _ | refine blk_drew ?_ | refine blk_alloc ?_ _)); exact BK111.out) NB111_0.out (by simp)); have n1_ := Aside0.mk (KeepBut.trans (by repeat (first | (with_reducible first | exact HK.out | apply KeepBut.set_ | apply keep_drewN | apply keep_drew | apply keep_alloc | refine keep_far ?_ GW111.out _) | exact HK.out)) hk (.inl rfl)); have n2_ := Aside0.mk (hb); have n3_ := Aside0.mk (hi); clear BK111; clear HK; clear HB; clear HI0; have BK111 := n0_; have HK := n1_; have HB := n2_; have HI0 := n3_; clear n0_ n1_ n2_ n3_; (try clear hb); (try clear hb2); (try clear hk); (try clear hi)) | (go_at_call 21; (with_reducible refine (cron_reader_is.calls g t117 t118 45 false t120 t121 w0 _ ?side1 ?side2 A12.out).mono ?_); (case side1 => repeat (first | (with_reducible first | exact HI0.out | apply IsS39.alloc | apply IsS39.drewN | apply IsS39.drew | apply IsS39.set_0 | apply IsS39.set_1 | refine IsS39.far ?_ NB0_111.out _) | exact HI0.out)); (case side2 => repeat (first | (with_reducible first | exact HB.out | apply below_alloc | apply pw_below_drewN | apply below_drew1 | refine below_set ?_ (IsS39.ge HI0.out) | refine below_set ?_ GE111.out) | exact HB.out)); rintro e w31 ⟨rfl, hi, hb, hk⟩; have n0_ := Aside0.mk (KeepBut.blk hk (g' := gb111) (o := .cells #[.int .i64 a1_0, .int .i64 a1_1] 42 (0, 0)) (by (with_reducible repeat (first | refine blk_drewN ?_ _ | refine blk_drew ?_ | refine blk_alloc ?_ _)); exact BK111.out) NB111_0.out (by simp)); have n1_ := Aside0.mk (KeepBut.trans (by repeat (first | (with_reducible first | exact HK.out | apply KeepBut.set_ | apply keep_drewN | apply keep_drew | apply keep_alloc | refine keep_far ?_ GW111.out _) | exact HK.out)) hk (.inl rfl)); have n2_ := Aside0.mk (hb); have n3_ := Aside0.mk (hi); clear BK111; clear HK; clear HB; clear HI0; have BK111 := n0_; have HK := n1_; have HB := n2_; have HI0 := n3_; clear n0_ n1_ n2_ n3_; (try clear hb); (try clear hb2); (try clear hk); (try clear hi))); try go_wp2_with (first | (go_at_call 48; (with_reducible refine (cron_reader_number.calls k g t113 t114 a1_0 a1_1 t115 true t117 t118 w0 _ ?side1 ?side2 A10.out).mono ?_); (case side1 => repeat (first | (with_reducible first | exact HI0.out | apply IsS39.alloc | apply IsS39.drewN | apply IsS39.drew | apply IsS39.set_0 | apply IsS39.set_1 | refine IsS39.far ?_ NB0_111.out _) | exact HI0.out)); (case side2 => repeat (first | (with_reducible first | exact HB.out | apply below_alloc | apply pw_below_drewN | apply below_drew1 | refine below_set ?_ (IsS39.ge HI0.out) | refine below_set ?_ GE111.out) | exact HB.out)); rintro e w30 ⟨rfl, hi, hb, hk⟩; have n0_ := Aside0.mk (KeepBut.blk hk (g' := gb111) (o := .cells #[.int .i64 a1_0, .int .i64 a1_1] 42 (0, 0)) (by (with_reducible repeat (first | refine blk_drewN ?_ _ | refine blk_drew ?_ | refine blk_alloc ?_ _)); exact BK111.out) NB111_0.out (by simp)); have n1_ := Aside0.mk (KeepBut.trans (by repeat (first | (with_reducible first | exact HK.out | apply KeepBut.set_ | apply keep_drewN | apply keep_drew | apply keep_alloc | refine keep_far ?_ GW111.out _) | exact HK.out)) hk (.inl rfl)); have n2_ := Aside0.mk (hb); have n3_ := Aside0.mk (hi); clear BK111; clear HK; clear HB; clear HI0; have BK111 := n0_; have HK := n1_; have HB := n2_; have HI0 := n3_; clear n0_ n1_ n2_ n3_; (try clear hb); (try clear hb2); (try clear hk); (try clear hi)) | (go_at_call 21; (with_reducible refine (cron_reader_is.calls g t117 t118 45 false t120 t121 w0 _ ?side1 ?side2 A12.out).mono ?_); (case side1 => repeat (first | (with_reducible first | exact HI0.out | apply IsS39.alloc | apply IsS39.drewN | apply IsS39.drew | apply IsS39.set_0 | apply IsS39.set_1 | refine IsS39.far ?_ NB0_111.out _) | exact HI0.out)); (case side2 => repeat (first | (with_reducible first | exact HB.out | apply below_alloc | apply pw_below_drewN | apply below_drew1 | refine below_set ?_ (IsS39.ge HI0.out) | refine below_set ?_ GE111.out) | exact HB.out)); rintro e w31 ⟨rfl, hi, hb, hk⟩; have n0_ := Aside0.mk (KeepBut.blk hk (g' := gb111) (o := .cells #[.int .i64 a1_0, .int .i64 a1_1] 42 (0, 0)) (by (with_reducible repeat (first | refine blk_drewN ?_ _ | refine blk_drew ?_ | refine blk_alloc ?_ _)); exact BK111.out) NB111_0.out (by simp)); have n1_ := Aside0.mk (KeepBut.trans (by repeat (first | (with_reducible first | exact HK.out | apply KeepBut.set_ | apply keep_drewN | apply keep_drew | apply keep_alloc | refine keep_far ?_ GW111.out _) | exact HK.out)) hk (.inl rfl)); have n2_ := Aside0.mk (hb); have n3_ := Aside0.mk (hi); clear BK111; clear HK; clear HB; clear HI0; have BK111 := n0_; have HK := n1_; have HB := n2_; have HI0 := n3_; clear n0_ n1_ n2_ n3_; (try clear hb); (try clear hb2); (try clear hk); (try clear hi))))
          go_meet
          case rel => exact ⟨_, (t115), (t115), (false), (t120), (t121), (by first | rfl | (simp; done) | (simp [*]; done)), (by first | rfl | (simp; done) | (simp [*]; done)), (by first | rfl | (simp; done) | (simp [*]; done)), H', ⟨by first | omega | exact Nat.le_refl _⟩, ⟨by (with_reducible repeat (first | refine blk_drewN ?_ _ | refine blk_drew ?_ | refine blk_alloc ?_ _)); exact BK111.out⟩, ⟨by repeat (first | (with_reducible first | exact HI0.out | apply IsS39.alloc | apply IsS39.drewN | apply IsS39.drew | apply IsS39.set_0 | apply IsS39.set_1 | refine IsS39.far ?_ NB0_111.out _) | exact HI0.out)⟩, ⟨by repeat (first | (with_reducible first | exact HK.out | apply KeepBut.set_ | apply keep_drewN | apply keep_drew | apply keep_alloc | refine keep_far ?_ GW111.out _) | exact HK.out)⟩, ⟨by repeat (first | (with_reducible first | exact HB.out | apply below_alloc | apply pw_below_drewN | apply below_drew1 | refine below_set ?_ (IsS39.ge HI0.out) | refine below_set ?_ GE111.out) | exact HB.out)⟩⟩
      · replace c11 := Bool.eq_false_iff.mpr c11
        subst c11
        have H1 : (some (0, false, t117, t118)) = some (r1, r2, r3, r4) := by rw [if_neg (show ¬ (false = true) by decide)] at H; exact H
        clear H
        have H := H1
        clear H1
        simp only [Option.some.injEq, Prod.mk.injEq] at H
        obtain ⟨rfl, rfl, rfl, rfl⟩ := H
        have hnb32 := NB111_0.out
        have hnc32 := NB0_111.out
        have hcz33_0 : w8.cell? ⟨gb111, 0, none⟩ = some (.int .i64 a1_0) := (blk_cell BK111.out 0).trans rfl
        have hcz33_1 : w8.cell? ⟨gb111, 1, none⟩ = some (.int .i64 a1_1) := (blk_cell BK111.out 1).trans rfl
        have hfz33_0 := blk_frozen BK111.out 0
        have hfz33_1 := blk_frozen BK111.out 1
        go_wp2_with (first | (go_at_call 48; (with_reducible refine (cron_reader_number.calls k g t113 t114 a1_0 a1_1 t115 false t117 t118 w0 _ ?side1 ?side2 A10.out).mono ?_); (case side1 => repeat (first | (with_reducible first | exact HI0.out | apply IsS39.alloc | apply IsS39.drewN | apply IsS39.drew | apply IsS39.set_0 | apply IsS39.set_1 | refine IsS39.far ?_ NB0_111.out _) | exact HI0.out)); (case side2 => repeat (first | (with_reducible first | exact HB.out | apply below_alloc | apply pw_below_drewN | apply below_drew1 | refine below_set ?_ (IsS39.ge HI0.out) | refine below_set ?_ GE111.out) | exact HB.out)); rintro e w34 ⟨rfl, hi, hb, hk⟩; have n0_ := Aside0.mk (KeepBut.blk hk (g' := gb111) (o := .cells #[.int .i64 a1_0, .int .i64 a1_1] 42 (0, 0)) (by (with_reducible repeat (first | refine blk_drewN ?_ _ | refine blk_drew ?_ | refine blk_alloc ?_ _)); exact BK111.out) NB111_0.out (by simp)); have n1_ := Aside0.mk (KeepBut.trans (by repeat (first | (with_reducible first | exact HK.out | apply KeepBut.set_ | apply keep_drewN | apply keep_drew | apply keep_alloc | refine keep_far ?_ GW111.out _) | exact HK.out)) hk (.inl rfl)); have n2_ := Aside0.mk (hb); have n3_ := Aside0.mk (hi); clear BK111; clear HK; clear HB; clear HI0; have BK111 := n0_; have HK := n1_; have HB := n2_; have HI0 := n3_; clear n0_ n1_ n2_ n3_; (try clear hb); (try clear hb2); (try clear hk); (try clear hi)))
        repeat (go_quiet (first | (go_at_call 48; (with_reducible refine (cron_reader_number.calls k g t113 t114 a1_0 a1_1 t115 false t117 t118 w0 _ ?side1 ?side2 A10.out).mono ?_); (case side1 => repeat (first | (with_reducible first | exact HI0.out | apply IsS39.alloc | apply IsS39.drewN | apply IsS39.drew | apply IsS39.set_0 | apply IsS39.set_1 | refine IsS39.far ?_ NB0_111.out _) | exact HI0.out)); (case side2 => repeat (first | (with_reducible first | exact HB.out | apply below_alloc | apply pw_below_drewN | apply below_drew1 | refine below_set ?_ (IsS39.ge HI0.out) | refine below_set ?_ GE111.out) | exact HB.out)); rintro e w34 ⟨rfl, hi, hb, hk⟩; have n0_ := Aside0.mk (KeepBut.blk hk (g' := gb111) (o := .cells #[.int .i64 a1_0, .int .i64 a1_1] 42 (0, 0)) (by (with_reducible repeat (first | refine blk_drewN ?_ _ | refine blk_drew ?_ | refine blk_alloc ?_ _)); exact BK111.out) NB111_0.out (by simp)); have n1_ := Aside0.mk (KeepBut.trans (by repeat (first | (with_reducible first | exact HK.out | apply KeepBut.set_ | apply keep_drewN | apply keep_drew | apply keep_alloc | refine keep_far ?_ GW111.out _) | exact HK.out)) hk (.inl rfl)); have n2_ := Aside0.mk (hb); have n3_ := Aside0.mk (hi); clear BK111; clear HK; clear HB; clear HI0; have BK111 := n0_; have HK := n1_; have HB := n2_; have HI0 := n3_; clear n0_ n1_ n2_ n3_; (try clear hb); (try clear hb2); (try clear hk); (try clear hi))); try go_wp2_with (first | (go_at_call 48; (with_reducible refine (cron_reader_number.calls k g t113 t114 a1_0 a1_1 t115 false t117 t118 w0 _ ?side1 ?side2 A10.out).mono ?_); (case side1 => repeat (first | (with_reducible first | exact HI0.out | apply IsS39.alloc | apply IsS39.drewN | apply IsS39.drew | apply IsS39.set_0 | apply IsS39.set_1 | refine IsS39.far ?_ NB0_111.out _) | exact HI0.out)); (case side2 => repeat (first | (with_reducible first | exact HB.out | apply below_alloc | apply pw_below_drewN | apply below_drew1 | refine below_set ?_ (IsS39.ge HI0.out) | refine below_set ?_ GE111.out) | exact HB.out)); rintro e w34 ⟨rfl, hi, hb, hk⟩; have n0_ := Aside0.mk (KeepBut.blk hk (g' := gb111) (o := .cells #[.int .i64 a1_0, .int .i64 a1_1] 42 (0, 0)) (by (with_reducible repeat (first | refine blk_drewN ?_ _ | refine blk_drew ?_ | refine blk_alloc ?_ _)); exact BK111.out) NB111_0.out (by simp)); have n1_ := Aside0.mk (KeepBut.trans (by repeat (first | (with_reducible first | exact HK.out | apply KeepBut.set_ | apply keep_drewN | apply keep_drew | apply keep_alloc | refine keep_far ?_ GW111.out _) | exact HK.out)) hk (.inl rfl)); have n2_ := Aside0.mk (hb); have n3_ := Aside0.mk (hi); clear BK111; clear HK; clear HB; clear HI0; have BK111 := n0_; have HK := n1_; have HB := n2_; have HI0 := n3_; clear n0_ n1_ n2_ n3_; (try clear hb); (try clear hb2); (try clear hk); (try clear hi))))
        go_ret2
        exact ⟨by first | rfl | (simp [errW_none, errW_some] <;> rfl) | (simp [*, errW_none, errW_some] <;> rfl), by repeat (first | (with_reducible first | exact HI0.out | apply IsS39.alloc | apply IsS39.drewN | apply IsS39.drew | apply IsS39.set_0 | apply IsS39.set_1 | refine IsS39.far ?_ NB0_111.out _) | exact HI0.out), by repeat (first | (with_reducible first | exact HB.out | apply below_alloc | apply pw_below_drewN | apply below_drew1 | refine below_set ?_ (IsS39.ge HI0.out) | refine below_set ?_ GE111.out) | exact HB.out), by repeat (first | (with_reducible first | exact HK.out | apply KeepBut.set_ | apply keep_drewN | apply keep_drew | apply keep_alloc | refine keep_far ?_ GW111.out _) | exact HK.out)⟩
  case rest =>
    clear HC4
    try clear c1
    try clear c2
    try clear p2
    try clear c3
    try clear c4
    try clear c6
    try clear c9
    try clear c11
    try clear c13
    try clear c15
    try clear c16
    try clear c22
    try clear c28
    try clear c32
    try clear hcz17_0
    try clear hcz17_1
    try clear hcz20_0
    try clear hcz20_1
    try clear hcz23_0
    try clear hcz23_1
    try clear hcz26_0
    try clear hcz26_1
    try clear hcz29_0
    try clear hcz29_1
    try clear hcz33_0
    try clear hcz33_1
    try clear hcz7_0
    try clear hcz7_1
    try clear hfz17_0
    try clear hfz17_1
    try clear hfz20_0
    try clear hfz20_1
    try clear hfz23_0
    try clear hfz23_1
    try clear hfz26_0
    try clear hfz26_1
    try clear hfz29_0
    try clear hfz29_1
    try clear hfz33_0
    try clear hfz33_1
    try clear hfz7_0
    try clear hfz7_1
    obtain ⟨kq, x6_3, x7_3, x11_3, x1000_3, x1001_3, rfl, rfl, rfl, HA, HJ3, BK111, HI0, HK, HB⟩ := hcut
    cases kq with
    | zero => exact absurd HA.out (by simp [cron_reader_item.j0])
    | succ kj3 =>
      have H := HA.out
      clear HA
      simp only [cron_reader_item.j0] at H
      have HC35 := Aside0.mk H
      clear H
      go_upto_region 14 with (fail)
      repeat (go_quiet (fail); go_upto_region 14 with (fail))
      go_cut [50] (fun v50 wc => ∃ (kq : Nat) (x50_34 : Bool) (x1000_34 : ByteArray) (x1001_34 : Int), v50 = .bool x50_34 ∧ Aside0 (cron_reader_item.j1 kq x6_3 x7_3 1 x50_34 x1000_34 x1001_34 = some (r1, r2, r3, r4)) ∧ Aside0 (kq ≤ kj3) ∧ Aside0 (wc.heap[gb111]? = some (.cells #[.int .i64 a1_0, .int .i64 a1_1] 42 (0, 0))) ∧ Aside0 (IsS39 w0 wc g x1000_34 x1001_34) ∧ Aside0 (KeepBut w wc g none) ∧ Aside0 (Below w0.heap.size w0 wc))
      case first =>
        have H := HC35.out
        clear HC35
        by_cases c36 : x11_3 = true
        · subst c36
          have H1 : ((cron_reader_is.f x1000_3 x1001_3 47).bind fun bt126 => (cron_reader_item.j1 kj3 x6_3 x7_3 1 bt126.1 bt126.2.1 bt126.2.2)) = some (r1, r2, r3, r4) := by rw [if_pos rfl] at H; exact H
          clear H
          have H := H1
          clear H1
          replace H := Option.bind_eq_some_iff.mp H
          obtain ⟨⟨t126, t127, t128⟩, A370, H⟩ := H
          replace H : (cron_reader_item.j1 kj3 x6_3 x7_3 1 t126 t127 t128) = some (r1, r2, r3, r4) := H
          have A37 := Aside0.mk A370
          clear A370
          have H' := Aside0.mk H
          clear H
          go_wp2_with (first | (go_at_call 21; (with_reducible refine (cron_reader_is.calls g x1000_3 x1001_3 47 t126 t127 t128 w0 _ ?side1 ?side2 A37.out).mono ?_); (case side1 => repeat (first | (with_reducible first | exact HI0.out | apply IsS39.alloc | apply IsS39.drewN | apply IsS39.drew | apply IsS39.set_0 | apply IsS39.set_1 | refine IsS39.far ?_ NB0_111.out _) | exact HI0.out)); (case side2 => repeat (first | (with_reducible first | exact HB.out | apply below_alloc | apply pw_below_drewN | apply below_drew1 | refine below_set ?_ (IsS39.ge HI0.out) | refine below_set ?_ GE111.out) | exact HB.out)); rintro e w38 ⟨rfl, hi, hb, hk⟩; have n0_ := Aside0.mk (KeepBut.blk hk (g' := gb111) (o := .cells #[.int .i64 a1_0, .int .i64 a1_1] 42 (0, 0)) (by (with_reducible repeat (first | refine blk_drewN ?_ _ | refine blk_drew ?_ | refine blk_alloc ?_ _)); exact BK111.out) NB111_0.out (by simp)); have n1_ := Aside0.mk (KeepBut.trans (by repeat (first | (with_reducible first | exact HK.out | apply KeepBut.set_ | apply keep_drewN | apply keep_drew | apply keep_alloc | refine keep_far ?_ GW111.out _) | exact HK.out)) hk (.inl rfl)); have n2_ := Aside0.mk (hb); have n3_ := Aside0.mk (hi); clear BK111; clear HK; clear HB; clear HI0; have BK111 := n0_; have HK := n1_; have HB := n2_; have HI0 := n3_; clear n0_ n1_ n2_ n3_; (try clear hb); (try clear hb2); (try clear hk); (try clear hi)))
          repeat (go_quiet (first | (go_at_call 21; (with_reducible refine (cron_reader_is.calls g x1000_3 x1001_3 47 t126 t127 t128 w0 _ ?side1 ?side2 A37.out).mono ?_); (case side1 => repeat (first | (with_reducible first | exact HI0.out | apply IsS39.alloc | apply IsS39.drewN | apply IsS39.drew | apply IsS39.set_0 | apply IsS39.set_1 | refine IsS39.far ?_ NB0_111.out _) | exact HI0.out)); (case side2 => repeat (first | (with_reducible first | exact HB.out | apply below_alloc | apply pw_below_drewN | apply below_drew1 | refine below_set ?_ (IsS39.ge HI0.out) | refine below_set ?_ GE111.out) | exact HB.out)); rintro e w38 ⟨rfl, hi, hb, hk⟩; have n0_ := Aside0.mk (KeepBut.blk hk (g' := gb111) (o := .cells #[.int .i64 a1_0, .int .i64 a1_1] 42 (0, 0)) (by (with_reducible repeat (first | refine blk_drewN ?_ _ | refine blk_drew ?_ | refine blk_alloc ?_ _)); exact BK111.out) NB111_0.out (by simp)); have n1_ := Aside0.mk (KeepBut.trans (by repeat (first | (with_reducible first | exact HK.out | apply KeepBut.set_ | apply keep_drewN | apply keep_drew | apply keep_alloc | refine keep_far ?_ GW111.out _) | exact HK.out)) hk (.inl rfl)); have n2_ := Aside0.mk (hb); have n3_ := Aside0.mk (hi); clear BK111; clear HK; clear HB; clear HI0; have BK111 := n0_; have HK := n1_; have HB := n2_; have HI0 := n3_; clear n0_ n1_ n2_ n3_; (try clear hb); (try clear hb2); (try clear hk); (try clear hi))); try go_wp2_with (first | (go_at_call 21; (with_reducible refine (cron_reader_is.calls g x1000_3 x1001_3 47 t126 t127 t128 w0 _ ?side1 ?side2 A37.out).mono ?_); (case side1 => repeat (first | (with_reducible first | exact HI0.out | apply IsS39.alloc | apply IsS39.drewN | apply IsS39.drew | apply IsS39.set_0 | apply IsS39.set_1 | refine IsS39.far ?_ NB0_111.out _) | exact HI0.out)); (case side2 => repeat (first | (with_reducible first | exact HB.out | apply below_alloc | apply pw_below_drewN | apply below_drew1 | refine below_set ?_ (IsS39.ge HI0.out) | refine below_set ?_ GE111.out) | exact HB.out)); rintro e w38 ⟨rfl, hi, hb, hk⟩; have n0_ := Aside0.mk (KeepBut.blk hk (g' := gb111) (o := .cells #[.int .i64 a1_0, .int .i64 a1_1] 42 (0, 0)) (by (with_reducible repeat (first | refine blk_drewN ?_ _ | refine blk_drew ?_ | refine blk_alloc ?_ _)); exact BK111.out) NB111_0.out (by simp)); have n1_ := Aside0.mk (KeepBut.trans (by repeat (first | (with_reducible first | exact HK.out | apply KeepBut.set_ | apply keep_drewN | apply keep_drew | apply keep_alloc | refine keep_far ?_ GW111.out _) | exact HK.out)) hk (.inl rfl)); have n2_ := Aside0.mk (hb); have n3_ := Aside0.mk (hi); clear BK111; clear HK; clear HB; clear HI0; have BK111 := n0_; have HK := n1_; have HB := n2_; have HI0 := n3_; clear n0_ n1_ n2_ n3_; (try clear hb); (try clear hb2); (try clear hk); (try clear hi))))
          go_meet
          case rel => exact ⟨_, (t126), (t127), (t128), (by first | rfl | (simp; done) | (simp [*]; done)), H', ⟨by have := HJ3.out; first | omega | exact Nat.le_refl _⟩, ⟨by (with_reducible repeat (first | refine blk_drewN ?_ _ | refine blk_drew ?_ | refine blk_alloc ?_ _)); exact BK111.out⟩, ⟨by repeat (first | (with_reducible first | exact HI0.out | apply IsS39.alloc | apply IsS39.drewN | apply IsS39.drew | apply IsS39.set_0 | apply IsS39.set_1 | refine IsS39.far ?_ NB0_111.out _) | exact HI0.out)⟩, ⟨by repeat (first | (with_reducible first | exact HK.out | apply KeepBut.set_ | apply keep_drewN | apply keep_drew | apply keep_alloc | refine keep_far ?_ GW111.out _) | exact HK.out)⟩, ⟨by repeat (first | (with_reducible first | exact HB.out | apply below_alloc | apply pw_below_drewN | apply below_drew1 | refine below_set ?_ (IsS39.ge HI0.out) | refine below_set ?_ GE111.out) | exact HB.out)⟩⟩
        · replace c36 := Bool.eq_false_iff.mpr c36
          subst c36
          have H1 : (cron_reader_item.j1 kj3 x6_3 x7_3 1 false x1000_3 x1001_3) = some (r1, r2, r3, r4) := by rw [if_neg (show ¬ (false = true) by decide)] at H; exact H
          clear H
          have H := H1
          clear H1
          have H' := Aside0.mk H
          clear H
          go_wp2
          repeat (go_quiet (fail); try go_wp2)
          go_meet
          case rel => exact ⟨_, (false), (x1000_3), (x1001_3), (by first | rfl | (simp; done) | (simp [*]; done)), H', ⟨by have := HJ3.out; first | omega | exact Nat.le_refl _⟩, ⟨by (with_reducible repeat (first | refine blk_drewN ?_ _ | refine blk_drew ?_ | refine blk_alloc ?_ _)); exact BK111.out⟩, ⟨by repeat (first | (with_reducible first | exact HI0.out | apply IsS39.alloc | apply IsS39.drewN | apply IsS39.drew | apply IsS39.set_0 | apply IsS39.set_1 | refine IsS39.far ?_ NB0_111.out _) | exact HI0.out)⟩, ⟨by repeat (first | (with_reducible first | exact HK.out | apply KeepBut.set_ | apply keep_drewN | apply keep_drew | apply keep_alloc | refine keep_far ?_ GW111.out _) | exact HK.out)⟩, ⟨by repeat (first | (with_reducible first | exact HB.out | apply below_alloc | apply pw_below_drewN | apply below_drew1 | refine below_set ?_ (IsS39.ge HI0.out) | refine below_set ?_ GE111.out) | exact HB.out)⟩⟩
      case rest =>
        clear HC35
        try clear c1
        try clear c2
        try clear p2
        try clear c3
        try clear c4
        try clear c6
        try clear c9
        try clear c11
        try clear c13
        try clear c15
        try clear c16
        try clear c22
        try clear c28
        try clear c32
        try clear c36
        try clear hcz17_0
        try clear hcz17_1
        try clear hcz20_0
        try clear hcz20_1
        try clear hcz23_0
        try clear hcz23_1
        try clear hcz26_0
        try clear hcz26_1
        try clear hcz29_0
        try clear hcz29_1
        try clear hcz33_0
        try clear hcz33_1
        try clear hcz7_0
        try clear hcz7_1
        try clear hfz17_0
        try clear hfz17_1
        try clear hfz20_0
        try clear hfz20_1
        try clear hfz23_0
        try clear hfz23_1
        try clear hfz26_0
        try clear hfz26_1
        try clear hfz29_0
        try clear hfz29_1
        try clear hfz33_0
        try clear hfz33_1
        try clear hfz7_0
        try clear hfz7_1
        try clear p2
        obtain ⟨kq, x50_34, x1000_34, x1001_34, rfl, HA, HJ34, BK111, HI0, HK, HB⟩ := hcut
        cases kq with
        | zero => exact absurd HA.out (by simp [cron_reader_item.j1])
        | succ kj34 =>
          have H := HA.out
          clear HA
          simp only [cron_reader_item.j1] at H
          have HC39 := Aside0.mk H
          clear H
          go_upto_if 50 with (fail)
          repeat (go_quiet (fail); go_upto_if 50 with (fail))
          go_cut [8] (fun v8 wc => ∃ (kq : Nat) (x8_38 : Int) (x1000_38 : ByteArray) (x1001_38 : Int), v8 = .int .i64 x8_38 ∧ Aside0 (cron_reader_item.j2 kq x6_3 x7_3 x8_38 x1000_38 x1001_38 = some (r1, r2, r3, r4)) ∧ Aside0 (kq ≤ kj34) ∧ Aside0 (wc.heap[gb111]? = some (.cells #[.int .i64 a1_0, .int .i64 a1_1] 42 (0, 0))) ∧ Aside0 (IsS39 w0 wc g x1000_38 x1001_38) ∧ Aside0 (KeepBut w wc g none) ∧ Aside0 (Below w0.heap.size w0 wc))
          case first =>
            have H := HC39.out
            clear HC39
            by_cases c40 : x50_34 = true
            · subst c40
              have H1 : ((cron_reader_number.f kj34 x1000_34 x1001_34 1 99).bind fun bt129 => (if bt129.2.1 = true then (cron_reader_item.j2 kj34 x6_3 x7_3 bt129.1 bt129.2.2.1 bt129.2.2.2) else (some (0, false, bt129.2.2.1, bt129.2.2.2)))) = some (r1, r2, r3, r4) := by rw [if_pos rfl] at H; exact H
              clear H
              have H := H1
              clear H1
              replace H := Option.bind_eq_some_iff.mp H
              obtain ⟨⟨t129, t130, t131, t132⟩, A410, H⟩ := H
              replace H : (if t130 = true then (cron_reader_item.j2 kj34 x6_3 x7_3 t129 t131 t132) else (some (0, false, t131, t132))) = some (r1, r2, r3, r4) := H
              have A41 := Aside0.mk A410
              clear A410
              by_cases c42 : t130 = true
              · subst c42
                have H1 : (cron_reader_item.j2 kj34 x6_3 x7_3 t129 t131 t132) = some (r1, r2, r3, r4) := by rw [if_pos rfl] at H; exact H
                clear H
                have H := H1
                clear H1
                have H' := Aside0.mk H
                clear H
                go_wp2_with (first | (go_at_call 48; (with_reducible refine (cron_reader_number.calls kj34 g x1000_34 x1001_34 1 99 t129 true t131 t132 w0 _ ?side1 ?side2 A41.out).mono ?_); (case side1 => repeat (first | (with_reducible first | exact HI0.out | apply IsS39.alloc | apply IsS39.drewN | apply IsS39.drew | apply IsS39.set_0 | apply IsS39.set_1 | refine IsS39.far ?_ NB0_111.out _) | exact HI0.out)); (case side2 => repeat (first | (with_reducible first | exact HB.out | apply below_alloc | apply pw_below_drewN | apply below_drew1 | refine below_set ?_ (IsS39.ge HI0.out) | refine below_set ?_ GE111.out) | exact HB.out)); rintro e w43 ⟨rfl, hi, hb, hk⟩; have n0_ := Aside0.mk (KeepBut.blk hk (g' := gb111) (o := .cells #[.int .i64 a1_0, .int .i64 a1_1] 42 (0, 0)) (by (with_reducible repeat (first | refine blk_drewN ?_ _ | refine blk_drew ?_ | refine blk_alloc ?_ _)); exact BK111.out) NB111_0.out (by simp)); have n1_ := Aside0.mk (KeepBut.trans (by repeat (first | (with_reducible first | exact HK.out | apply KeepBut.set_ | apply keep_drewN | apply keep_drew | apply keep_alloc | refine keep_far ?_ GW111.out _) | exact HK.out)) hk (.inl rfl)); have n2_ := Aside0.mk (hb); have n3_ := Aside0.mk (hi); clear BK111; clear HK; clear HB; clear HI0; have BK111 := n0_; have HK := n1_; have HB := n2_; have HI0 := n3_; clear n0_ n1_ n2_ n3_; (try clear hb); (try clear hb2); (try clear hk); (try clear hi)))
                repeat (go_quiet (first | (go_at_call 48; (with_reducible refine (cron_reader_number.calls kj34 g x1000_34 x1001_34 1 99 t129 true t131 t132 w0 _ ?side1 ?side2 A41.out).mono ?_); (case side1 => repeat (first | (with_reducible first | exact HI0.out | apply IsS39.alloc | apply IsS39.drewN | apply IsS39.drew | apply IsS39.set_0 | apply IsS39.set_1 | refine IsS39.far ?_ NB0_111.out _) | exact HI0.out)); (case side2 => repeat (first | (with_reducible first | exact HB.out | apply below_alloc | apply pw_below_drewN | apply below_drew1 | refine below_set ?_ (IsS39.ge HI0.out) | refine below_set ?_ GE111.out) | exact HB.out)); rintro e w43 ⟨rfl, hi, hb, hk⟩; have n0_ := Aside0.mk (KeepBut.blk hk (g' := gb111) (o := .cells #[.int .i64 a1_0, .int .i64 a1_1] 42 (0, 0)) (by (with_reducible repeat (first | refine blk_drewN ?_ _ | refine blk_drew ?_ | refine blk_alloc ?_ _)); exact BK111.out) NB111_0.out (by simp)); have n1_ := Aside0.mk (KeepBut.trans (by repeat (first | (with_reducible first | exact HK.out | apply KeepBut.set_ | apply keep_drewN | apply keep_drew | apply keep_alloc | refine keep_far ?_ GW111.out _) | exact HK.out)) hk (.inl rfl)); have n2_ := Aside0.mk (hb); have n3_ := Aside0.mk (hi); clear BK111; clear HK; clear HB; clear HI0; have BK111 := n0_; have HK := n1_; have HB := n2_; have HI0 := n3_; clear n0_ n1_ n2_ n3_; (try clear hb); (try clear hb2); (try clear hk); (try clear hi))); try go_wp2_with (first | (go_at_call 48; (with_reducible refine (cron_reader_number.calls kj34 g x1000_34 x1001_34 1 99 t129 true t131 t132 w0 _ ?side1 ?side2 A41.out).mono ?_); (case side1 => repeat (first | (with_reducible first | exact HI0.out | apply IsS39.alloc | apply IsS39.drewN | apply IsS39.drew | apply IsS39.set_0 | apply IsS39.set_1 | refine IsS39.far ?_ NB0_111.out _) | exact HI0.out)); (case side2 => repeat (first | (with_reducible first | exact HB.out | apply below_alloc | apply pw_below_drewN | apply below_drew1 | refine below_set ?_ (IsS39.ge HI0.out) | refine below_set ?_ GE111.out) | exact HB.out)); rintro e w43 ⟨rfl, hi, hb, hk⟩; have n0_ := Aside0.mk (KeepBut.blk hk (g' := gb111) (o := .cells #[.int .i64 a1_0, .int .i64 a1_1] 42 (0, 0)) (by (with_reducible repeat (first | refine blk_drewN ?_ _ | refine blk_drew ?_ | refine blk_alloc ?_ _)); exact BK111.out) NB111_0.out (by simp)); have n1_ := Aside0.mk (KeepBut.trans (by repeat (first | (with_reducible first | exact HK.out | apply KeepBut.set_ | apply keep_drewN | apply keep_drew | apply keep_alloc | refine keep_far ?_ GW111.out _) | exact HK.out)) hk (.inl rfl)); have n2_ := Aside0.mk (hb); have n3_ := Aside0.mk (hi); clear BK111; clear HK; clear HB; clear HI0; have BK111 := n0_; have HK := n1_; have HB := n2_; have HI0 := n3_; clear n0_ n1_ n2_ n3_; (try clear hb); (try clear hb2); (try clear hk); (try clear hi))))
                go_meet
                case rel => exact ⟨_, (t129), (t131), (t132), (by first | rfl | (simp; done) | (simp [*]; done)), H', ⟨by have := HJ3.out; have := HJ34.out; first | omega | exact Nat.le_refl _⟩, ⟨by (with_reducible repeat (first | refine blk_drewN ?_ _ | refine blk_drew ?_ | refine blk_alloc ?_ _)); exact BK111.out⟩, ⟨by repeat (first | (with_reducible first | exact HI0.out | apply IsS39.alloc | apply IsS39.drewN | apply IsS39.drew | apply IsS39.set_0 | apply IsS39.set_1 | refine IsS39.far ?_ NB0_111.out _) | exact HI0.out)⟩, ⟨by repeat (first | (with_reducible first | exact HK.out | apply KeepBut.set_ | apply keep_drewN | apply keep_drew | apply keep_alloc | refine keep_far ?_ GW111.out _) | exact HK.out)⟩, ⟨by repeat (first | (with_reducible first | exact HB.out | apply below_alloc | apply pw_below_drewN | apply below_drew1 | refine below_set ?_ (IsS39.ge HI0.out) | refine below_set ?_ GE111.out) | exact HB.out)⟩⟩
              · replace c42 := Bool.eq_false_iff.mpr c42
                subst c42
                have H1 : (some (0, false, t131, t132)) = some (r1, r2, r3, r4) := by rw [if_neg (show ¬ (false = true) by decide)] at H; exact H
                clear H
                have H := H1
                clear H1
                simp only [Option.some.injEq, Prod.mk.injEq] at H
                obtain ⟨rfl, rfl, rfl, rfl⟩ := H
                go_wp2_with (first | (go_at_call 48; (with_reducible refine (cron_reader_number.calls kj34 g x1000_34 x1001_34 1 99 t129 false t131 t132 w0 _ ?side1 ?side2 A41.out).mono ?_); (case side1 => repeat (first | (with_reducible first | exact HI0.out | apply IsS39.alloc | apply IsS39.drewN | apply IsS39.drew | apply IsS39.set_0 | apply IsS39.set_1 | refine IsS39.far ?_ NB0_111.out _) | exact HI0.out)); (case side2 => repeat (first | (with_reducible first | exact HB.out | apply below_alloc | apply pw_below_drewN | apply below_drew1 | refine below_set ?_ (IsS39.ge HI0.out) | refine below_set ?_ GE111.out) | exact HB.out)); rintro e w44 ⟨rfl, hi, hb, hk⟩; have n0_ := Aside0.mk (KeepBut.blk hk (g' := gb111) (o := .cells #[.int .i64 a1_0, .int .i64 a1_1] 42 (0, 0)) (by (with_reducible repeat (first | refine blk_drewN ?_ _ | refine blk_drew ?_ | refine blk_alloc ?_ _)); exact BK111.out) NB111_0.out (by simp)); have n1_ := Aside0.mk (KeepBut.trans (by repeat (first | (with_reducible first | exact HK.out | apply KeepBut.set_ | apply keep_drewN | apply keep_drew | apply keep_alloc | refine keep_far ?_ GW111.out _) | exact HK.out)) hk (.inl rfl)); have n2_ := Aside0.mk (hb); have n3_ := Aside0.mk (hi); clear BK111; clear HK; clear HB; clear HI0; have BK111 := n0_; have HK := n1_; have HB := n2_; have HI0 := n3_; clear n0_ n1_ n2_ n3_; (try clear hb); (try clear hb2); (try clear hk); (try clear hi)))
                repeat (go_quiet (first | (go_at_call 48; (with_reducible refine (cron_reader_number.calls kj34 g x1000_34 x1001_34 1 99 t129 false t131 t132 w0 _ ?side1 ?side2 A41.out).mono ?_); (case side1 => repeat (first | (with_reducible first | exact HI0.out | apply IsS39.alloc | apply IsS39.drewN | apply IsS39.drew | apply IsS39.set_0 | apply IsS39.set_1 | refine IsS39.far ?_ NB0_111.out _) | exact HI0.out)); (case side2 => repeat (first | (with_reducible first | exact HB.out | apply below_alloc | apply pw_below_drewN | apply below_drew1 | refine below_set ?_ (IsS39.ge HI0.out) | refine below_set ?_ GE111.out) | exact HB.out)); rintro e w44 ⟨rfl, hi, hb, hk⟩; have n0_ := Aside0.mk (KeepBut.blk hk (g' := gb111) (o := .cells #[.int .i64 a1_0, .int .i64 a1_1] 42 (0, 0)) (by (with_reducible repeat (first | refine blk_drewN ?_ _ | refine blk_drew ?_ | refine blk_alloc ?_ _)); exact BK111.out) NB111_0.out (by simp)); have n1_ := Aside0.mk (KeepBut.trans (by repeat (first | (with_reducible first | exact HK.out | apply KeepBut.set_ | apply keep_drewN | apply keep_drew | apply keep_alloc | refine keep_far ?_ GW111.out _) | exact HK.out)) hk (.inl rfl)); have n2_ := Aside0.mk (hb); have n3_ := Aside0.mk (hi); clear BK111; clear HK; clear HB; clear HI0; have BK111 := n0_; have HK := n1_; have HB := n2_; have HI0 := n3_; clear n0_ n1_ n2_ n3_; (try clear hb); (try clear hb2); (try clear hk); (try clear hi))); try go_wp2_with (first | (go_at_call 48; (with_reducible refine (cron_reader_number.calls kj34 g x1000_34 x1001_34 1 99 t129 false t131 t132 w0 _ ?side1 ?side2 A41.out).mono ?_); (case side1 => repeat (first | (with_reducible first | exact HI0.out | apply IsS39.alloc | apply IsS39.drewN | apply IsS39.drew | apply IsS39.set_0 | apply IsS39.set_1 | refine IsS39.far ?_ NB0_111.out _) | exact HI0.out)); (case side2 => repeat (first | (with_reducible first | exact HB.out | apply below_alloc | apply pw_below_drewN | apply below_drew1 | refine below_set ?_ (IsS39.ge HI0.out) | refine below_set ?_ GE111.out) | exact HB.out)); rintro e w44 ⟨rfl, hi, hb, hk⟩; have n0_ := Aside0.mk (KeepBut.blk hk (g' := gb111) (o := .cells #[.int .i64 a1_0, .int .i64 a1_1] 42 (0, 0)) (by (with_reducible repeat (first | refine blk_drewN ?_ _ | refine blk_drew ?_ | refine blk_alloc ?_ _)); exact BK111.out) NB111_0.out (by simp)); have n1_ := Aside0.mk (KeepBut.trans (by repeat (first | (with_reducible first | exact HK.out | apply KeepBut.set_ | apply keep_drewN | apply keep_drew | apply keep_alloc | refine keep_far ?_ GW111.out _) | exact HK.out)) hk (.inl rfl)); have n2_ := Aside0.mk (hb); have n3_ := Aside0.mk (hi); clear BK111; clear HK; clear HB; clear HI0; have BK111 := n0_; have HK := n1_; have HB := n2_; have HI0 := n3_; clear n0_ n1_ n2_ n3_; (try clear hb); (try clear hb2); (try clear hk); (try clear hi))))
                go_ret2
                exact ⟨by first | rfl | (simp [errW_none, errW_some] <;> rfl) | (simp [*, errW_none, errW_some] <;> rfl), by repeat (first | (with_reducible first | exact HI0.out | apply IsS39.alloc | apply IsS39.drewN | apply IsS39.drew | apply IsS39.set_0 | apply IsS39.set_1 | refine IsS39.far ?_ NB0_111.out _) | exact HI0.out), by repeat (first | (with_reducible first | exact HB.out | apply below_alloc | apply pw_below_drewN | apply below_drew1 | refine below_set ?_ (IsS39.ge HI0.out) | refine below_set ?_ GE111.out) | exact HB.out), by repeat (first | (with_reducible first | exact HK.out | apply KeepBut.set_ | apply keep_drewN | apply keep_drew | apply keep_alloc | refine keep_far ?_ GW111.out _) | exact HK.out)⟩
            · replace c40 := Bool.eq_false_iff.mpr c40
              subst c40
              have H1 : (cron_reader_item.j2 kj34 x6_3 x7_3 1 x1000_34 x1001_34) = some (r1, r2, r3, r4) := by rw [if_neg (show ¬ (false = true) by decide)] at H; exact H
              clear H
              have H := H1
              clear H1
              have H' := Aside0.mk H
              clear H
              go_wp2
              repeat (go_quiet (fail); try go_wp2)
              go_meet
              case rel => exact ⟨_, (1), (x1000_34), (x1001_34), (by first | rfl | (simp; done) | (simp [*]; done)), H', ⟨by have := HJ3.out; have := HJ34.out; first | omega | exact Nat.le_refl _⟩, ⟨by (with_reducible repeat (first | refine blk_drewN ?_ _ | refine blk_drew ?_ | refine blk_alloc ?_ _)); exact BK111.out⟩, ⟨by repeat (first | (with_reducible first | exact HI0.out | apply IsS39.alloc | apply IsS39.drewN | apply IsS39.drew | apply IsS39.set_0 | apply IsS39.set_1 | refine IsS39.far ?_ NB0_111.out _) | exact HI0.out)⟩, ⟨by repeat (first | (with_reducible first | exact HK.out | apply KeepBut.set_ | apply keep_drewN | apply keep_drew | apply keep_alloc | refine keep_far ?_ GW111.out _) | exact HK.out)⟩, ⟨by repeat (first | (with_reducible first | exact HB.out | apply below_alloc | apply pw_below_drewN | apply below_drew1 | refine below_set ?_ (IsS39.ge HI0.out) | refine below_set ?_ GE111.out) | exact HB.out)⟩⟩
          case rest =>
            clear HC39
            try clear c1
            try clear c2
            try clear p2
            try clear c3
            try clear c4
            try clear c6
            try clear c9
            try clear c11
            try clear c13
            try clear c15
            try clear c16
            try clear c22
            try clear c28
            try clear c32
            try clear c36
            try clear c40
            try clear c41
            try clear c42
            try clear hcz17_0
            try clear hcz17_1
            try clear hcz20_0
            try clear hcz20_1
            try clear hcz23_0
            try clear hcz23_1
            try clear hcz26_0
            try clear hcz26_1
            try clear hcz29_0
            try clear hcz29_1
            try clear hcz33_0
            try clear hcz33_1
            try clear hcz7_0
            try clear hcz7_1
            try clear hfz17_0
            try clear hfz17_1
            try clear hfz20_0
            try clear hfz20_1
            try clear hfz23_0
            try clear hfz23_1
            try clear hfz26_0
            try clear hfz26_1
            try clear hfz29_0
            try clear hfz29_1
            try clear hfz33_0
            try clear hfz33_1
            try clear hfz7_0
            try clear hfz7_1
            try clear p2
            obtain ⟨kq, x8_38, x1000_38, x1001_38, rfl, HA, HJ38, BK111, HI0, HK, HB⟩ := hcut
            cases kq with
            | zero => exact absurd HA.out (by simp [cron_reader_item.j2])
            | succ kj38 =>
              have H := HA.out
              clear HA
              simp only [cron_reader_item.j2] at H
              have H' := Aside0.mk H
              clear H
              go_wp2
              repeat (go_quiet (fail); try go_wp2)
              go_loopg [6, 12] kj38 (fun kq v6 v12 w' => ∃ (x6_4 : Int) (x12_4 : Int), v6 = .int .i64 x6_4 ∧ v12 = .int .u64 x12_4 ∧ Aside0 (cron_reader_item.l0 kq x6_4 x7_3 x8_38 x12_4 x1000_38 x1001_38 = some (r1, r2, r3, r4)) ∧ Aside0 (kq ≤ kj38) ∧ Aside0 (w'.heap[gb111]? = some (.cells #[.int .i64 a1_0, .int .i64 a1_1] 42 (0, 0))) ∧ Aside0 (IsS39 w0 w' g x1000_38 x1001_38) ∧ Aside0 (KeepBut w w' g none) ∧ Aside0 (Below w0.heap.size w0 w'))
              case atStart => exact ⟨(x6_3), (0), (by first | rfl | (simp; done) | (simp [*]; done)), (by first | rfl | (simp; done) | (simp [*]; done)), H', ⟨Nat.le_refl _⟩, ⟨by (with_reducible repeat (first | refine blk_drewN ?_ _ | refine blk_drew ?_ | refine blk_alloc ?_ _)); exact BK111.out⟩, ⟨by repeat (first | (with_reducible first | exact HI0.out | apply IsS39.alloc | apply IsS39.drewN | apply IsS39.drew | apply IsS39.set_0 | apply IsS39.set_1 | refine IsS39.far ?_ NB0_111.out _) | exact HI0.out)⟩, ⟨by repeat (first | (with_reducible first | exact HK.out | apply KeepBut.set_ | apply keep_drewN | apply keep_drew | apply keep_alloc | refine keep_far ?_ GW111.out _) | exact HK.out)⟩, ⟨by repeat (first | (with_reducible first | exact HB.out | apply below_alloc | apply pw_below_drewN | apply below_drew1 | refine below_set ?_ (IsS39.ge HI0.out) | refine below_set ?_ GE111.out) | exact HB.out)⟩⟩
              case round =>
                clear H'
                try clear c1
                try clear c2
                try clear p2
                try clear c3
                try clear c4
                try clear c6
                try clear c9
                try clear c11
                try clear c13
                try clear c15
                try clear c16
                try clear c22
                try clear c28
                try clear c32
                try clear c36
                try clear c40
                try clear c41
                try clear c42
                try clear hcz17_0
                try clear hcz17_1
                try clear hcz20_0
                try clear hcz20_1
                try clear hcz23_0
                try clear hcz23_1
                try clear hcz26_0
                try clear hcz26_1
                try clear hcz29_0
                try clear hcz29_1
                try clear hcz33_0
                try clear hcz33_1
                try clear hcz7_0
                try clear hcz7_1
                try clear hfz17_0
                try clear hfz17_1
                try clear hfz20_0
                try clear hfz20_1
                try clear hfz23_0
                try clear hfz23_1
                try clear hfz26_0
                try clear hfz26_1
                try clear hfz29_0
                try clear hfz29_1
                try clear hfz33_0
                try clear hfz33_1
                try clear hfz7_0
                try clear hfz7_1
                try clear p2
                obtain ⟨x6_4, x12_4, rfl, rfl, HA, HK4, BK111, HI0, HK, HB⟩ := hrel
                cases gk with
                | zero => exact absurd HA.out (by simp [cron_reader_item.l0])
                | succ k4 =>
                  have H := HA.out
                  clear HA
                  simp only [cron_reader_item.l0] at H
                  by_cases c45 : x6_4 ≤ x7_3
                  · rw [if_pos c45] at H
                    have c45b0 : decide (x6_4 ≤ x7_3) = true := decide_eq_true c45
                    clear c45
                    obtain ⟨ji46, hji46⟩ : ∃ j_ : Int, (IntKind.u64.wrap (x6_4)) = j_ := ⟨_, rfl⟩
                    replace H : (if 0 ≤ (ji46) then (cron_reader_item.l0 k4 (wrap64 (x6_4 + x8_38)) x7_3 x8_38 (Go.bits .or .u64 x12_4 (shl .u64 1 (ji46))) x1000_38 x1001_38) else (none)) = some (r1, r2, r3, r4) := by first | (rw [hji46] at H; exact H) | (simp only [hji46] at H ⊢; exact H)
                    by_cases c47 : 0 ≤ (ji46)
                    · rw [if_pos c47] at H
                      have c47b0 := eq_true c47
                      have c47b1 : decide (0 ≤ (ji46)) = true := decide_eq_true c47
                      clear c47
                      obtain ⟨ji48, hji48⟩ : ∃ j_ : Int, (shl .u64 1 (ji46)) = j_ := ⟨_, rfl⟩
                      replace H : (cron_reader_item.l0 k4 (wrap64 (x6_4 + x8_38)) x7_3 x8_38 (Go.bits .or .u64 x12_4 (ji48)) x1000_38 x1001_38) = some (r1, r2, r3, r4) := by first | (rw [hji48] at H; exact H) | (simp only [hji48] at H ⊢; exact H)
                      have hji48_ : (IntKind.u64.wrap (1 * 2 ^ min (ji46).toNat 64)) = ji48 := hji48
                      have hji48z : (ji46) ≤ 64 → (IntKind.u64.wrap (1 * 2 ^ (ji46).toNat)) = ji48 := shl_small hji48
                      have hji48u : (IntKind.u64.wrap (2 ^ min (ji46).toNat 64)) = ji48 := by have h_ := hji48_; rw [Int.one_mul] at h_; exact h_
                      have hji48v : (ji46) ≤ 64 → (IntKind.u64.wrap (2 ^ (ji46).toNat)) = ji48 := fun hle_ => by have h_ := hji48z hle_; rw [Int.one_mul] at h_; exact h_
                      have H' := Aside0.mk H
                      clear H
                      go_wp2
                      repeat (go_quiet (fail); try go_wp2)
                      go_roundg k4
                      case measure => have := HJ3.out; have := HJ34.out; have := HJ38.out; have := HK4.out; omega
                      case rel => exact ⟨(wrap64 (x6_4 + x8_38)), (Go.bits .or .u64 x12_4 (ji48)), (by first | rfl | (simp; done) | (simp [*]; done)), (by first | rfl | (simp; done) | (simp only [← hji48] <;> (first | rfl | simp)) | (simp [*]; done)), H', ⟨by have := HJ3.out; have := HJ34.out; have := HJ38.out; have := HK4.out; omega⟩, ⟨by (with_reducible repeat (first | refine blk_drewN ?_ _ | refine blk_drew ?_ | refine blk_alloc ?_ _)); exact BK111.out⟩, ⟨by repeat (first | (with_reducible first | exact HI0.out | apply IsS39.alloc | apply IsS39.drewN | apply IsS39.drew | apply IsS39.set_0 | apply IsS39.set_1 | refine IsS39.far ?_ NB0_111.out _) | exact HI0.out)⟩, ⟨by repeat (first | (with_reducible first | exact HK.out | apply KeepBut.set_ | apply keep_drewN | apply keep_drew | apply keep_alloc | refine keep_far ?_ GW111.out _) | exact HK.out)⟩, ⟨by repeat (first | (with_reducible first | exact HB.out | apply below_alloc | apply pw_below_drewN | apply below_drew1 | refine below_set ?_ (IsS39.ge HI0.out) | refine below_set ?_ GE111.out) | exact HB.out)⟩⟩
                    · rw [if_neg c47] at H
                      exact absurd H (by simp)
                  · rw [if_neg c45] at H
                    have c45b0 : decide (x6_4 ≤ x7_3) = false := decide_eq_false c45
                    clear c45
                    simp only [Option.some.injEq, Prod.mk.injEq] at H
                    obtain ⟨rfl, rfl, rfl, rfl⟩ := H
                    go_wp2
                    repeat (go_quiet (fail); try go_wp2)
                    go_ret2
                    exact ⟨by first | rfl | (simp [errW_none, errW_some] <;> rfl) | (simp [*, errW_none, errW_some] <;> rfl), by repeat (first | (with_reducible first | exact HI0.out | apply IsS39.alloc | apply IsS39.drewN | apply IsS39.drew | apply IsS39.set_0 | apply IsS39.set_1 | refine IsS39.far ?_ NB0_111.out _) | exact HI0.out), by repeat (first | (with_reducible first | exact HB.out | apply below_alloc | apply pw_below_drewN | apply below_drew1 | refine below_set ?_ (IsS39.ge HI0.out) | refine below_set ?_ GE111.out) | exact HB.out), by repeat (first | (with_reducible first | exact HK.out | apply KeepBut.set_ | apply keep_drewN | apply keep_drew | apply keep_alloc | refine keep_far ?_ GW111.out _) | exact HK.out)⟩



/-! ### cron_reader_set: function 22 -/
def cron_reader_set.l0 : Nat → Int → ByteArray → Int → Int → Int → Option (Int × Bool × ByteArray × Int)
  | 0, _, _, _, _, _ => none
  | k + 1, x6, x1000, x1001, x134000, x134001 => (cron_reader_item.f k x1000 x1001 x134000 x134001).bind fun bt134 => (if bt134.2.1 = true then ((cron_reader_is.f bt134.2.2.1 bt134.2.2.2 44).bind fun bt138 => (if bt138.1 = true then (cron_reader_set.l0 k (Go.bits .or .u64 x6 bt134.1) bt138.2.1 bt138.2.2 x134000 x134001) else (some (Go.bits .or .u64 x6 bt134.1, true, bt138.2.1, bt138.2.2)))) else (some (0, false, bt134.2.2.1, bt134.2.2.2)))
def cron_reader_set.f (k : Nat) (s0_0 : ByteArray) (s0_1 : Int) (a1_0 : Int) (a1_1 : Int) : Option (Int × Bool × ByteArray × Int) := cron_reader_set.l0 k 0 s0_0 s0_1 a1_0 a1_1
theorem cron_reader_set.mono_l : ∀ k, (∀ y0 y1 y2 y3 y4, LeO (cron_reader_set.l0 k y0 y1 y2 y3 y4) (cron_reader_set.l0 (k + 1) y0 y1 y2 y3 y4))
  | 0 => fun _ _ _ _ _ r h => by simp [cron_reader_set.l0] at h
  | k + 1 => by
    have ih0 := cron_reader_set.mono_l k
    · intro y0 y1 y2 y3 y4
      unfold cron_reader_set.l0
      repeat' first
      | (with_reducible exact ih0 _ _ _ _ _)
      | (with_reducible exact cron_reader_item.mono _ _ _ _ _)
      | (with_reducible exact LeO.refl _)
      | (with_reducible exact LeO.none _)
      | (with_reducible refine LeO.ite ?_ ?_)
      | (with_reducible refine LeO.bind ?_ (fun _ => ?_))
      | exact ih0 _ _ _ _ _
      | exact cron_reader_item.mono _ _ _ _ _
      | exact LeO.none _
      | refine LeO.ite ?_ ?_
      | refine LeO.bind ?_ (fun _ => ?_)
theorem cron_reader_set.mono : ∀ a0 a1 a2 a3 k, LeO (cron_reader_set.f k a0 a1 a2 a3) (cron_reader_set.f (k + 1) a0 a1 a2 a3) := by
  intro a0 a1 a2 a3 k
  have ih0 := cron_reader_set.mono_l k
  unfold cron_reader_set.f
  repeat' first
      | (with_reducible exact ih0 _ _ _ _ _)
      | (with_reducible exact cron_reader_item.mono _ _ _ _ _)
      | (with_reducible exact LeO.refl _)
      | (with_reducible exact LeO.none _)
      | (with_reducible refine LeO.ite ?_ ?_)
      | (with_reducible refine LeO.bind ?_ (fun _ => ?_))
      | exact ih0 _ _ _ _ _
      | exact cron_reader_item.mono _ _ _ _ _
      | exact LeO.none _
      | refine LeO.ite ?_ ?_
      | refine LeO.bind ?_ (fun _ => ?_)
set_option maxHeartbeats 8000000 in
set_option maxRecDepth 100000 in
theorem cron_reader_set.calls (k : Nat) (g : Nat) (s0_0 : ByteArray) (s0_1 : Int) (a1_0 : Int) (a1_1 : Int) (r1 : Int) (r2 : Bool) (r3 : ByteArray) (r4 : Int) (w0 w : World) (hI : IsS39 w0 w g s0_0 s0_1) (hB : Below w0.heap.size w0 w) (h : cron_reader_set.f k s0_0 s0_1 a1_0 a1_1 = some (r1, r2, r3, r4)) :
    Calls Tryd.prog 22 #[.pointer (some ⟨g, 0, none⟩), .agg #[.int .i64 a1_0, .int .i64 a1_1]] w fun e w' => e = .returned (.tuple #[.int .u64 r1, .bool r2]) ∧ IsS39 w0 w' g r3 r4 ∧ Below w0.heap.size w0 w' ∧ KeepBut w w' g none := by
  have hu42 := Tryd.underlying42
  have HI0 := Aside0.mk hI
  have HK := Aside0.mk (KeepBut.refl w g none)
  have HL := Aside0.mk hB.size
  clear hI
  have HW0 := Aside0.mk hB.size
  have HB := Aside0.mk hB
  clear hB
  have H : (cron_reader_set.l0 k 0 s0_0 s0_1 a1_0 a1_1) = some (r1, r2, r3, r4) := h
  clear h
  have H' := Aside0.mk H
  clear H
  go_enter Tryd.func22, Tryd.ntmps22
  go_wp2_with (first | ((with_reducible refine gate_dst (N := 3) rfl ?_); refine box_event ?hg (N := 3) ?hd (cs := #[.int .i64 a1_0, .int .i64 a1_1]) (t := 42) ?hr ?_; (case hd => rfl); (case hg => rfl); (case hr => first | (go_simp; done) | (go_simp; rfl)); intro gb133 hg w3 hbox hb; have n0_ := Aside0.mk (IsS39.below (by repeat (first | (with_reducible first | exact HI0.out | apply IsS39.alloc | apply IsS39.drewN | apply IsS39.drew | apply IsS39.set_0 | apply IsS39.set_1) | exact HI0.out)) hb); have n1_ := Aside0.mk (KeepBut.trans (by repeat (first | (with_reducible first | exact HK.out | apply KeepBut.set_ | apply keep_drewN | apply keep_drew | apply keep_alloc) | exact HK.out)) (KeepBut.of_below hb g none) (.inl rfl)); have n2_ := Aside0.mk (below_step (by repeat (first | (with_reducible first | exact HB.out | apply below_alloc | apply pw_below_drewN | apply below_drew1 | refine below_set ?_ (IsS39.ge HI0.out)) | exact HB.out)) hb); have n3_ := Aside0.mk (hbox); have n4_ := Aside0.mk ((by rw [hg]; exact (keep_size (w := w) (g := g) (row := none) (by repeat (first | (with_reducible first | exact HK.out | apply KeepBut.set_ | apply keep_drewN | apply keep_drew | apply keep_alloc) | exact HK.out))) : w.heap.size ≤ gb133)); have n5_ := Aside0.mk ((Nat.le_trans HW0.out (by rw [hg]; exact (keep_size (w := w) (g := g) (row := none) (by repeat (first | (with_reducible first | exact HK.out | apply KeepBut.set_ | apply keep_drewN | apply keep_drew | apply keep_alloc) | exact HK.out))) : w.heap.size ≤ gb133) : w0.heap.size ≤ gb133)); have n6_ := Aside0.mk ((by rw [hg]; exact Nat.ne_of_lt (IsS39.lt (show IsS39 w0 _ g s0_0 s0_1 from by repeat (first | (with_reducible first | exact HI0.out | apply IsS39.alloc | apply IsS39.drewN | apply IsS39.drew | apply IsS39.set_0 | apply IsS39.set_1) | exact HI0.out))) : g ≠ gb133)); have n7_ := Aside0.mk ((by rw [hg]; exact Nat.ne_of_gt (IsS39.lt (show IsS39 w0 _ g s0_0 s0_1 from by repeat (first | (with_reducible first | exact HI0.out | apply IsS39.alloc | apply IsS39.drewN | apply IsS39.drew | apply IsS39.set_0 | apply IsS39.set_1) | exact HI0.out))) : gb133 ≠ g)); clear HI0; clear HK; clear HB; have HI0 := n0_; have HK := n1_; have HB := n2_; have BK133 := n3_; have GW133 := n4_; have GE133 := n5_; have NB0_133 := n6_; have NB133_0 := n7_; clear n0_ n1_ n2_ n3_ n4_ n5_ n6_ n7_; clear hb hbox hg))
  go_loopg [6] k (fun kq v6 w' => ∃ (x6_1 : Int) (x1000_1 : ByteArray) (x1001_1 : Int), v6 = .int .u64 x6_1 ∧ Aside0 (cron_reader_set.l0 kq x6_1 x1000_1 x1001_1 a1_0 a1_1 = some (r1, r2, r3, r4)) ∧ Aside0 (kq ≤ k) ∧ Aside0 (w'.heap[gb133]? = some (.cells #[.int .i64 a1_0, .int .i64 a1_1] 42 (0, 0))) ∧ Aside0 (IsS39 w0 w' g x1000_1 x1001_1) ∧ Aside0 (KeepBut w w' g none) ∧ Aside0 (Below w0.heap.size w0 w'))
  case atStart => exact ⟨(0), (s0_0), (s0_1), (by first | rfl | (simp; done) | (simp [*]; done)), H', ⟨Nat.le_refl _⟩, ⟨by (with_reducible repeat (first | refine blk_drewN ?_ _ | refine blk_drew ?_ | refine blk_alloc ?_ _)); exact BK133.out⟩, ⟨by repeat (first | (with_reducible first | exact HI0.out | apply IsS39.alloc | apply IsS39.drewN | apply IsS39.drew | apply IsS39.set_0 | apply IsS39.set_1 | refine IsS39.far ?_ NB0_133.out _) | exact HI0.out)⟩, ⟨by repeat (first | (with_reducible first | exact HK.out | apply KeepBut.set_ | apply keep_drewN | apply keep_drew | apply keep_alloc | refine keep_far ?_ GW133.out _) | exact HK.out)⟩, ⟨by repeat (first | (with_reducible first | exact HB.out | apply below_alloc | apply pw_below_drewN | apply below_drew1 | refine below_set ?_ (IsS39.ge HI0.out) | refine below_set ?_ GE133.out) | exact HB.out)⟩⟩
  case round =>
    clear H'
    try clear c2
    try clear p2
    obtain ⟨x6_1, x1000_1, x1001_1, rfl, HA, HK1, BK133, HI0, HK, HB⟩ := hrel
    cases gk with
    | zero => exact absurd HA.out (by simp [cron_reader_set.l0])
    | succ k1 =>
      have H := HA.out
      clear HA
      simp only [cron_reader_set.l0] at H
      replace H := Option.bind_eq_some_iff.mp H
      obtain ⟨⟨t134, t135, t136, t137⟩, A40, H⟩ := H
      replace H : (if t135 = true then ((cron_reader_is.f t136 t137 44).bind fun bt138 => (if bt138.1 = true then (cron_reader_set.l0 k1 (Go.bits .or .u64 x6_1 t134) bt138.2.1 bt138.2.2 a1_0 a1_1) else (some (Go.bits .or .u64 x6_1 t134, true, bt138.2.1, bt138.2.2)))) else (some (0, false, t136, t137))) = some (r1, r2, r3, r4) := H
      have A4 := Aside0.mk A40
      clear A40
      by_cases c5 : t135 = true
      · subst c5
        have H1 : ((cron_reader_is.f t136 t137 44).bind fun bt138 => (if bt138.1 = true then (cron_reader_set.l0 k1 (Go.bits .or .u64 x6_1 t134) bt138.2.1 bt138.2.2 a1_0 a1_1) else (some (Go.bits .or .u64 x6_1 t134, true, bt138.2.1, bt138.2.2)))) = some (r1, r2, r3, r4) := by rw [if_pos rfl] at H; exact H
        clear H
        have H := H1
        clear H1
        replace H := Option.bind_eq_some_iff.mp H
        obtain ⟨⟨t138, t139, t140⟩, A60, H⟩ := H
        replace H : (if t138 = true then (cron_reader_set.l0 k1 (Go.bits .or .u64 x6_1 t134) t139 t140 a1_0 a1_1) else (some (Go.bits .or .u64 x6_1 t134, true, t139, t140))) = some (r1, r2, r3, r4) := H
        have A6 := Aside0.mk A60
        clear A60
        by_cases c7 : t138 = true
        · subst c7
          have H1 : (cron_reader_set.l0 k1 (Go.bits .or .u64 x6_1 t134) t139 t140 a1_0 a1_1) = some (r1, r2, r3, r4) := by rw [if_pos rfl] at H; exact H
          clear H
          have H := H1
          clear H1
          have H' := Aside0.mk H
          clear H
          have hnb8 := NB133_0.out
          have hnc8 := NB0_133.out
          have hcz9_0 : wr.cell? ⟨gb133, 0, none⟩ = some (.int .i64 a1_0) := (blk_cell BK133.out 0).trans rfl
          have hcz9_1 : wr.cell? ⟨gb133, 1, none⟩ = some (.int .i64 a1_1) := (blk_cell BK133.out 1).trans rfl
          have hfz9_0 := blk_frozen BK133.out 0
          have hfz9_1 := blk_frozen BK133.out 1
          go_wp2_with (first | ((with_reducible refine gate_callee (f := 41) rfl ?_); refine goesL_ (some 12) rfl rfl Tryd.func41 (by kernel_rfl) rfl #[.pointer (some ⟨g, 0, none⟩), .agg #[.int .i64 a1_0, .int .i64 a1_1]] rfl (by (try simp only [List.map_toArray, List.map_cons, List.map_nil]); first | done | rfl | (simp only [List.length_drop, List.length_take]; rfl)) ?_; (with_reducible refine (cron_reader_item.calls k1 g x1000_1 x1001_1 a1_0 a1_1 t134 true t136 t137 w0 _ ?side1 ?side2 A4.out).mono ?_); (case side1 => repeat (first | (with_reducible first | exact HI0.out | apply IsS39.alloc | apply IsS39.drewN | apply IsS39.drew | apply IsS39.set_0 | apply IsS39.set_1 | refine IsS39.far ?_ NB0_133.out _) | exact HI0.out)); (case side2 => repeat (first | (with_reducible first | exact HB.out | apply below_alloc | apply pw_below_drewN | apply below_drew1 | refine below_set ?_ (IsS39.ge HI0.out) | refine below_set ?_ GE133.out) | exact HB.out)); rintro e w10 ⟨rfl, hi, hb, hk⟩; refine ⟨_, rfl, ?_⟩; have n0_ := Aside0.mk (KeepBut.blk hk (g' := gb133) (o := .cells #[.int .i64 a1_0, .int .i64 a1_1] 42 (0, 0)) (by (with_reducible repeat (first | refine blk_drewN ?_ _ | refine blk_drew ?_ | refine blk_alloc ?_ _)); exact BK133.out) NB133_0.out (by simp)); have n1_ := Aside0.mk (KeepBut.trans (by repeat (first | (with_reducible first | exact HK.out | apply KeepBut.set_ | apply keep_drewN | apply keep_drew | apply keep_alloc | refine keep_far ?_ GW133.out _) | exact HK.out)) hk (.inl rfl)); have n2_ := Aside0.mk (hb); have n3_ := Aside0.mk (hi); clear BK133; clear HK; clear HB; clear HI0; have BK133 := n0_; have HK := n1_; have HB := n2_; have HI0 := n3_; clear n0_ n1_ n2_ n3_; (try clear hb); (try clear hb2); (try clear hk); (try clear hi)) | ((with_reducible refine gate_callee (f := 21) rfl ?_); refine goesL_ (some 21) rfl rfl Tryd.func21 (by kernel_rfl) rfl #[.pointer (some ⟨g, 0, none⟩), .int .u8 44] rfl (by (try simp only [List.map_toArray, List.map_cons, List.map_nil]); first | done | rfl | (simp only [List.length_drop, List.length_take]; rfl)) ?_; (with_reducible refine (cron_reader_is.calls g t136 t137 44 true t139 t140 w0 _ ?side1 ?side2 A6.out).mono ?_); (case side1 => repeat (first | (with_reducible first | exact HI0.out | apply IsS39.alloc | apply IsS39.drewN | apply IsS39.drew | apply IsS39.set_0 | apply IsS39.set_1 | refine IsS39.far ?_ NB0_133.out _) | exact HI0.out)); (case side2 => repeat (first | (with_reducible first | exact HB.out | apply below_alloc | apply pw_below_drewN | apply below_drew1 | refine below_set ?_ (IsS39.ge HI0.out) | refine below_set ?_ GE133.out) | exact HB.out)); rintro e w11 ⟨rfl, hi, hb, hk⟩; refine ⟨_, rfl, ?_⟩; have n0_ := Aside0.mk (KeepBut.blk hk (g' := gb133) (o := .cells #[.int .i64 a1_0, .int .i64 a1_1] 42 (0, 0)) (by (with_reducible repeat (first | refine blk_drewN ?_ _ | refine blk_drew ?_ | refine blk_alloc ?_ _)); exact BK133.out) NB133_0.out (by simp)); have n1_ := Aside0.mk (KeepBut.trans (by repeat (first | (with_reducible first | exact HK.out | apply KeepBut.set_ | apply keep_drewN | apply keep_drew | apply keep_alloc | refine keep_far ?_ GW133.out _) | exact HK.out)) hk (.inl rfl)); have n2_ := Aside0.mk (hb); have n3_ := Aside0.mk (hi); clear BK133; clear HK; clear HB; clear HI0; have BK133 := n0_; have HK := n1_; have HB := n2_; have HI0 := n3_; clear n0_ n1_ n2_ n3_; (try clear hb); (try clear hb2); (try clear hk); (try clear hi)))
          go_roundg k1
          case measure => have := HK1.out; omega
          case rel => exact ⟨(Go.bits .or .u64 x6_1 t134), (t139), (t140), (by first | rfl | (simp; done) | (simp [*]; done)), H', ⟨by have := HK1.out; omega⟩, ⟨by (with_reducible repeat (first | refine blk_drewN ?_ _ | refine blk_drew ?_ | refine blk_alloc ?_ _)); exact BK133.out⟩, ⟨by repeat (first | (with_reducible first | exact HI0.out | apply IsS39.alloc | apply IsS39.drewN | apply IsS39.drew | apply IsS39.set_0 | apply IsS39.set_1 | refine IsS39.far ?_ NB0_133.out _) | exact HI0.out)⟩, ⟨by repeat (first | (with_reducible first | exact HK.out | apply KeepBut.set_ | apply keep_drewN | apply keep_drew | apply keep_alloc | refine keep_far ?_ GW133.out _) | exact HK.out)⟩, ⟨by repeat (first | (with_reducible first | exact HB.out | apply below_alloc | apply pw_below_drewN | apply below_drew1 | refine below_set ?_ (IsS39.ge HI0.out) | refine below_set ?_ GE133.out) | exact HB.out)⟩⟩
        · replace c7 := Bool.eq_false_iff.mpr c7
          subst c7
          have H1 : (some (Go.bits .or .u64 x6_1 t134, true, t139, t140)) = some (r1, r2, r3, r4) := by rw [if_neg (show ¬ (false = true) by decide)] at H; exact H
          clear H
          have H := H1
          clear H1
          simp only [Option.some.injEq, Prod.mk.injEq] at H
          obtain ⟨rfl, rfl, rfl, rfl⟩ := H
          have hnb12 := NB133_0.out
          have hnc12 := NB0_133.out
          have hcz13_0 : wr.cell? ⟨gb133, 0, none⟩ = some (.int .i64 a1_0) := (blk_cell BK133.out 0).trans rfl
          have hcz13_1 : wr.cell? ⟨gb133, 1, none⟩ = some (.int .i64 a1_1) := (blk_cell BK133.out 1).trans rfl
          have hfz13_0 := blk_frozen BK133.out 0
          have hfz13_1 := blk_frozen BK133.out 1
          go_wp2_with (first | ((with_reducible refine gate_callee (f := 41) rfl ?_); refine goesL_ (some 12) rfl rfl Tryd.func41 (by kernel_rfl) rfl #[.pointer (some ⟨g, 0, none⟩), .agg #[.int .i64 a1_0, .int .i64 a1_1]] rfl (by (try simp only [List.map_toArray, List.map_cons, List.map_nil]); first | done | rfl | (simp only [List.length_drop, List.length_take]; rfl)) ?_; (with_reducible refine (cron_reader_item.calls k1 g x1000_1 x1001_1 a1_0 a1_1 t134 true t136 t137 w0 _ ?side1 ?side2 A4.out).mono ?_); (case side1 => repeat (first | (with_reducible first | exact HI0.out | apply IsS39.alloc | apply IsS39.drewN | apply IsS39.drew | apply IsS39.set_0 | apply IsS39.set_1 | refine IsS39.far ?_ NB0_133.out _) | exact HI0.out)); (case side2 => repeat (first | (with_reducible first | exact HB.out | apply below_alloc | apply pw_below_drewN | apply below_drew1 | refine below_set ?_ (IsS39.ge HI0.out) | refine below_set ?_ GE133.out) | exact HB.out)); rintro e w14 ⟨rfl, hi, hb, hk⟩; refine ⟨_, rfl, ?_⟩; have n0_ := Aside0.mk (KeepBut.blk hk (g' := gb133) (o := .cells #[.int .i64 a1_0, .int .i64 a1_1] 42 (0, 0)) (by (with_reducible repeat (first | refine blk_drewN ?_ _ | refine blk_drew ?_ | refine blk_alloc ?_ _)); exact BK133.out) NB133_0.out (by simp)); have n1_ := Aside0.mk (KeepBut.trans (by repeat (first | (with_reducible first | exact HK.out | apply KeepBut.set_ | apply keep_drewN | apply keep_drew | apply keep_alloc | refine keep_far ?_ GW133.out _) | exact HK.out)) hk (.inl rfl)); have n2_ := Aside0.mk (hb); have n3_ := Aside0.mk (hi); clear BK133; clear HK; clear HB; clear HI0; have BK133 := n0_; have HK := n1_; have HB := n2_; have HI0 := n3_; clear n0_ n1_ n2_ n3_; (try clear hb); (try clear hb2); (try clear hk); (try clear hi)) | ((with_reducible refine gate_callee (f := 21) rfl ?_); refine goesL_ (some 21) rfl rfl Tryd.func21 (by kernel_rfl) rfl #[.pointer (some ⟨g, 0, none⟩), .int .u8 44] rfl (by (try simp only [List.map_toArray, List.map_cons, List.map_nil]); first | done | rfl | (simp only [List.length_drop, List.length_take]; rfl)) ?_; (with_reducible refine (cron_reader_is.calls g t136 t137 44 false t139 t140 w0 _ ?side1 ?side2 A6.out).mono ?_); (case side1 => repeat (first | (with_reducible first | exact HI0.out | apply IsS39.alloc | apply IsS39.drewN | apply IsS39.drew | apply IsS39.set_0 | apply IsS39.set_1 | refine IsS39.far ?_ NB0_133.out _) | exact HI0.out)); (case side2 => repeat (first | (with_reducible first | exact HB.out | apply below_alloc | apply pw_below_drewN | apply below_drew1 | refine below_set ?_ (IsS39.ge HI0.out) | refine below_set ?_ GE133.out) | exact HB.out)); rintro e w15 ⟨rfl, hi, hb, hk⟩; refine ⟨_, rfl, ?_⟩; have n0_ := Aside0.mk (KeepBut.blk hk (g' := gb133) (o := .cells #[.int .i64 a1_0, .int .i64 a1_1] 42 (0, 0)) (by (with_reducible repeat (first | refine blk_drewN ?_ _ | refine blk_drew ?_ | refine blk_alloc ?_ _)); exact BK133.out) NB133_0.out (by simp)); have n1_ := Aside0.mk (KeepBut.trans (by repeat (first | (with_reducible first | exact HK.out | apply KeepBut.set_ | apply keep_drewN | apply keep_drew | apply keep_alloc | refine keep_far ?_ GW133.out _) | exact HK.out)) hk (.inl rfl)); have n2_ := Aside0.mk (hb); have n3_ := Aside0.mk (hi); clear BK133; clear HK; clear HB; clear HI0; have BK133 := n0_; have HK := n1_; have HB := n2_; have HI0 := n3_; clear n0_ n1_ n2_ n3_; (try clear hb); (try clear hb2); (try clear hk); (try clear hi)))
          go_ret2
          exact ⟨by first | rfl | (simp [errW_none, errW_some] <;> rfl) | (simp [*, errW_none, errW_some] <;> rfl), by repeat (first | (with_reducible first | exact HI0.out | apply IsS39.alloc | apply IsS39.drewN | apply IsS39.drew | apply IsS39.set_0 | apply IsS39.set_1 | refine IsS39.far ?_ NB0_133.out _) | exact HI0.out), by repeat (first | (with_reducible first | exact HB.out | apply below_alloc | apply pw_below_drewN | apply below_drew1 | refine below_set ?_ (IsS39.ge HI0.out) | refine below_set ?_ GE133.out) | exact HB.out), by repeat (first | (with_reducible first | exact HK.out | apply KeepBut.set_ | apply keep_drewN | apply keep_drew | apply keep_alloc | refine keep_far ?_ GW133.out _) | exact HK.out)⟩
      · replace c5 := Bool.eq_false_iff.mpr c5
        subst c5
        have H1 : (some (0, false, t136, t137)) = some (r1, r2, r3, r4) := by rw [if_neg (show ¬ (false = true) by decide)] at H; exact H
        clear H
        have H := H1
        clear H1
        simp only [Option.some.injEq, Prod.mk.injEq] at H
        obtain ⟨rfl, rfl, rfl, rfl⟩ := H
        have hnb16 := NB133_0.out
        have hnc16 := NB0_133.out
        have hcz17_0 : wr.cell? ⟨gb133, 0, none⟩ = some (.int .i64 a1_0) := (blk_cell BK133.out 0).trans rfl
        have hcz17_1 : wr.cell? ⟨gb133, 1, none⟩ = some (.int .i64 a1_1) := (blk_cell BK133.out 1).trans rfl
        have hfz17_0 := blk_frozen BK133.out 0
        have hfz17_1 := blk_frozen BK133.out 1
        go_wp2_with (first | ((with_reducible refine gate_callee (f := 41) rfl ?_); refine goesL_ (some 12) rfl rfl Tryd.func41 (by kernel_rfl) rfl #[.pointer (some ⟨g, 0, none⟩), .agg #[.int .i64 a1_0, .int .i64 a1_1]] rfl (by (try simp only [List.map_toArray, List.map_cons, List.map_nil]); first | done | rfl | (simp only [List.length_drop, List.length_take]; rfl)) ?_; (with_reducible refine (cron_reader_item.calls k1 g x1000_1 x1001_1 a1_0 a1_1 t134 false t136 t137 w0 _ ?side1 ?side2 A4.out).mono ?_); (case side1 => repeat (first | (with_reducible first | exact HI0.out | apply IsS39.alloc | apply IsS39.drewN | apply IsS39.drew | apply IsS39.set_0 | apply IsS39.set_1 | refine IsS39.far ?_ NB0_133.out _) | exact HI0.out)); (case side2 => repeat (first | (with_reducible first | exact HB.out | apply below_alloc | apply pw_below_drewN | apply below_drew1 | refine below_set ?_ (IsS39.ge HI0.out) | refine below_set ?_ GE133.out) | exact HB.out)); rintro e w18 ⟨rfl, hi, hb, hk⟩; refine ⟨_, rfl, ?_⟩; have n0_ := Aside0.mk (KeepBut.blk hk (g' := gb133) (o := .cells #[.int .i64 a1_0, .int .i64 a1_1] 42 (0, 0)) (by (with_reducible repeat (first | refine blk_drewN ?_ _ | refine blk_drew ?_ | refine blk_alloc ?_ _)); exact BK133.out) NB133_0.out (by simp)); have n1_ := Aside0.mk (KeepBut.trans (by repeat (first | (with_reducible first | exact HK.out | apply KeepBut.set_ | apply keep_drewN | apply keep_drew | apply keep_alloc | refine keep_far ?_ GW133.out _) | exact HK.out)) hk (.inl rfl)); have n2_ := Aside0.mk (hb); have n3_ := Aside0.mk (hi); clear BK133; clear HK; clear HB; clear HI0; have BK133 := n0_; have HK := n1_; have HB := n2_; have HI0 := n3_; clear n0_ n1_ n2_ n3_; (try clear hb); (try clear hb2); (try clear hk); (try clear hi)))
        go_ret2
        exact ⟨by first | rfl | (simp [errW_none, errW_some] <;> rfl) | (simp [*, errW_none, errW_some] <;> rfl), by repeat (first | (with_reducible first | exact HI0.out | apply IsS39.alloc | apply IsS39.drewN | apply IsS39.drew | apply IsS39.set_0 | apply IsS39.set_1 | refine IsS39.far ?_ NB0_133.out _) | exact HI0.out), by repeat (first | (with_reducible first | exact HB.out | apply below_alloc | apply pw_below_drewN | apply below_drew1 | refine below_set ?_ (IsS39.ge HI0.out) | refine below_set ?_ GE133.out) | exact HB.out), by repeat (first | (with_reducible first | exact HK.out | apply KeepBut.set_ | apply keep_drewN | apply keep_drew | apply keep_alloc | refine keep_far ?_ GW133.out _) | exact HK.out)⟩



-- BY HAND: function 31 (Ca.low)

-- BY HAND: function 32 (Ca.high)



/-! ### civil_over: function 45 -/
def civil_over.f (a0 : Int) (a1 : Int) : Option (Int × Int) := if a1 = 0 then (none) else (if (Int.tmod a0 a1) < 0 then (some (wrap64 ((wrap64 (Int.tdiv a0 a1)) - 1), wrap64 ((Int.tmod a0 a1) + a1))) else (some (wrap64 (Int.tdiv a0 a1), Int.tmod a0 a1)))
set_option maxHeartbeats 8000000 in
set_option maxRecDepth 100000 in
theorem civil_over.calls (a0 : Int) (a1 : Int) (r1 : Int) (r2 : Int) (w : World) (h : civil_over.f a0 a1 = some (r1, r2)) :
    Calls Tryd.prog 45 #[.int .i64 a0, .int .i64 a1] w fun e w' => e = .returned (.tuple #[.int .i64 r1, .int .i64 r2]) ∧ Drawn0 w w' := by
  have H : (if a1 = 0 then (none) else (if (Int.tmod a0 a1) < 0 then (some (wrap64 ((wrap64 (Int.tdiv a0 a1)) - 1), wrap64 ((Int.tmod a0 a1) + a1))) else (some (wrap64 (Int.tdiv a0 a1), Int.tmod a0 a1)))) = some (r1, r2) := h
  clear h
  by_cases c3 : a1 = 0
  · rw [if_pos c3] at H
    exact absurd H (by simp)
  · rw [if_neg c3] at H
    have c3b0 : (a1 == 0) = false := beq_eq_false_iff_ne.mpr c3
    have c3b1 : (a1 != 0) = true := bne_iff_ne.mpr c3
    by_cases c4 : (Int.tmod a0 a1) < 0
    · rw [if_pos c4] at H
      have c4b0 : decide ((Int.tmod a0 a1) < 0) = true := decide_eq_true c4
      clear c4
      simp only [Option.some.injEq, Prod.mk.injEq] at H
      obtain ⟨rfl, rfl⟩ := H
      go_enter Tryd.func45, Tryd.ntmps45
      go_wp2
      repeat (go_quiet (fail); try go_wp2)
      go_ret2
      exact ⟨by first | rfl | (simp; done) | (simp [*]; done), by repeat (first | exact Drawn0.refl _ | apply Drawn0.step)⟩
    · rw [if_neg c4] at H
      have c4b0 : decide ((Int.tmod a0 a1) < 0) = false := decide_eq_false c4
      clear c4
      simp only [Option.some.injEq, Prod.mk.injEq] at H
      obtain ⟨rfl, rfl⟩ := H
      go_enter Tryd.func45, Tryd.ntmps45
      go_wp2
      repeat (go_quiet (fail); try go_wp2)
      go_ret2
      exact ⟨by first | rfl | (simp; done) | (simp [*]; done), by repeat (first | exact Drawn0.refl _ | apply Drawn0.step)⟩

end Go.Proofs.YtkmcmgfmahildaaDoor.OA
