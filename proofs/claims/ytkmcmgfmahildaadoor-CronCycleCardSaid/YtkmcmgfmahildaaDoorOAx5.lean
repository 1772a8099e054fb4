/- Walks of functions, written by a program (wip/tools/own.py) over hand contracts; conditions: as each theorem states. -/
import Derived.Test.YtkmcmgfmahildaaDoorOAx0
import Derived.Test.YtkmcmgfmahildaaDoorOAx3
namespace Go.Proofs.YtkmcmgfmahildaaDoor.OA
open Go.RowKit Go.Proofs.YtkmcmgfmahildaaDoorW.PrintWords Go.Proofs.YtkmcmgfmahildaaDoorW.PrintLast Go.Proofs.YtkmcmgfmahildaaDoorW.PrintMore
attribute [local go_sem] max2_int min2_int max_two min_two max_three min_three max_four min_four   -- for this text's walks alone
set_option linter.unusedVariables false
set_option linter.unusedSimpArgs false

/-! ### cron_reader_number: function 48 -/
mutual
def cron_reader_number.j1 : Nat → Int → Int → Int → ByteArray → Int → Option (Int × Bool × ByteArray × Int)
  | 0, _, _, _, _, _ => none
  | k + 1, x1, x2, x8, x1000, x1001 => if 0 ≤ x1001 then (if x1001 ≤ x8 then (if x8 ≤ (x1000.size : Int) then (if ((x1000.extract (x1001 : Int).toNat (x8 : Int).toNat).size : Int) < 1 then (cron_reader_number.j2 k x1 x2 x8 (x1000.extract (x1001 : Int).toNat (x8 : Int).toNat) true x1000 x1001) else (if ((x1000.extract (x1001 : Int).toNat (x8 : Int).toNat).size : Int) > 2 then (cron_reader_number.j2 k x1 x2 x8 (x1000.extract (x1001 : Int).toNat (x8 : Int).toNat) true x1000 x1001) else (if ((x1000.extract (x1001 : Int).toNat (x8 : Int).toNat).size : Int) = 2 then (if 0 < ((x1000.extract (x1001 : Int).toNat (x8 : Int).toNat).size : Int) then (cron_reader_number.j2 k x1 x2 x8 (x1000.extract (x1001 : Int).toNat (x8 : Int).toNat) ((bt (x1000.extract (x1001 : Int).toNat (x8 : Int).toNat) 0) == 48) x1000 x1001) else (none)) else (cron_reader_number.j2 k x1 x2 x8 (x1000.extract (x1001 : Int).toNat (x8 : Int).toNat) false x1000 x1001)))) else (none)) else (none)) else (none)
def cron_reader_number.j2 : Nat → Int → Int → Int → ByteArray → Bool → ByteArray → Int → Option (Int × Bool × ByteArray × Int)
  | 0, _, _, _, _, _, _, _ => none
  | k + 1, x1, x2, x8, x9, x70, x1000, x1001 => if x70 = true then (some (0, false, x1000, x1001)) else ((Ca.atoi.f x9).bind fun bt109 => (if bt109.1 < x1 then (some (0, false, x1000, x1001)) else (if bt109.1 > x2 then (some (0, false, x1000, x1001)) else (some (bt109.1, true, x1000, x8)))))
def cron_reader_number.l0 : Nat → Int → Int → Int → ByteArray → Int → Option (Int × Bool × ByteArray × Int)
  | 0, _, _, _, _, _ => none
  | k + 1, x1, x2, x8, x1000, x1001 => if x8 < (x1000.size : Int) then (if 0 ≤ x8 then (if (bt x1000 x8) ≥ 48 then (if (bt x1000 x8) ≤ 57 then (cron_reader_number.l0 k x1 x2 (wrap64 (x8 + 1)) x1000 x1001) else (cron_reader_number.j1 k x1 x2 x8 x1000 x1001)) else (cron_reader_number.j1 k x1 x2 x8 x1000 x1001)) else (none)) else (cron_reader_number.j1 k x1 x2 x8 x1000 x1001)
end
def cron_reader_number.f (k : Nat) (s0_0 : ByteArray) (s0_1 : Int) (a1 : Int) (a2 : Int) : Option (Int × Bool × ByteArray × Int) := cron_reader_number.l0 k a1 a2 s0_1 s0_0 s0_1
theorem cron_reader_number.mono_l : ∀ k, (∀ y0 y1 y2 y3 y4, LeO (cron_reader_number.j1 k y0 y1 y2 y3 y4) (cron_reader_number.j1 (k + 1) y0 y1 y2 y3 y4)) ∧ (∀ y0 y1 y2 y3 y4 y5 y6, LeO (cron_reader_number.j2 k y0 y1 y2 y3 y4 y5 y6) (cron_reader_number.j2 (k + 1) y0 y1 y2 y3 y4 y5 y6)) ∧ (∀ y0 y1 y2 y3 y4, LeO (cron_reader_number.l0 k y0 y1 y2 y3 y4) (cron_reader_number.l0 (k + 1) y0 y1 y2 y3 y4))
  | 0 => ⟨fun _ _ _ _ _ r h => by simp [cron_reader_number.j1] at h, fun _ _ _ _ _ _ _ r h => by simp [cron_reader_number.j2] at h, fun _ _ _ _ _ r h => by simp [cron_reader_number.l0] at h⟩
  | k + 1 => by
    obtain ⟨ih0, ih1, ih2⟩ := cron_reader_number.mono_l k
    refine ⟨?_, ?_, ?_⟩
    · intro y0 y1 y2 y3 y4
      unfold cron_reader_number.j1
      repeat' first
      | (with_reducible exact ih0 _ _ _ _ _)
      | (with_reducible exact ih1 _ _ _ _ _ _ _)
      | (with_reducible exact ih2 _ _ _ _ _)
      | (with_reducible exact LeO.refl _)
      | (with_reducible exact LeO.none _)
      | (with_reducible refine LeO.ite ?_ ?_)
      | (with_reducible refine LeO.bind ?_ (fun _ => ?_))
      | exact ih0 _ _ _ _ _
      | exact ih1 _ _ _ _ _ _ _
      | exact ih2 _ _ _ _ _
      | exact LeO.none _
      | refine LeO.ite ?_ ?_
      | refine LeO.bind ?_ (fun _ => ?_)
    · intro y0 y1 y2 y3 y4 y5 y6
      unfold cron_reader_number.j2
      repeat' first
      | (with_reducible exact ih0 _ _ _ _ _)
      | (with_reducible exact ih1 _ _ _ _ _ _ _)
      | (with_reducible exact ih2 _ _ _ _ _)
      | (with_reducible exact LeO.refl _)
      | (with_reducible exact LeO.none _)
      | (with_reducible refine LeO.ite ?_ ?_)
      | (with_reducible refine LeO.bind ?_ (fun _ => ?_))
      | exact ih0 _ _ _ _ _
      | exact ih1 _ _ _ _ _ _ _
      | exact ih2 _ _ _ _ _
      | exact LeO.none _
      | refine LeO.ite ?_ ?_
      | refine LeO.bind ?_ (fun _ => ?_)
    · intro y0 y1 y2 y3 y4
      unfold cron_reader_number.l0
      repeat' first
      | (with_reducible exact ih0 _ _ _ _ _)
      | (with_reducible exact ih1 _ _ _ _ _ _ _)
      | (with_reducible exact ih2 _ _ _ _ _)
      | (with_reducible exact LeO.refl _)
      | (with_reducible exact LeO.none _)
      | (with_reducible refine LeO.ite ?_ ?_)
      | (with_reducible refine LeO.bind ?_ (fun _ => ?_))
      | exact ih0 _ _ _ _ _
      | exact ih1 _ _ _ _ _ _ _
      | exact ih2 _ _ _ _ _
      | exact LeO.none _
      | refine LeO.ite ?_ ?_
      | refine LeO.bind ?_ (fun _ => ?_)
theorem cron_reader_number.mono : ∀ a0 a1 a2 a3 k, LeO (cron_reader_number.f k a0 a1 a2 a3) (cron_reader_number.f (k + 1) a0 a1 a2 a3) := by
  intro a0 a1 a2 a3 k
  obtain ⟨ih0, ih1, ih2⟩ := cron_reader_number.mono_l k
  unfold cron_reader_number.f
  repeat' first
      | (with_reducible exact ih0 _ _ _ _ _)
      | (with_reducible exact ih1 _ _ _ _ _ _ _)
      | (with_reducible exact ih2 _ _ _ _ _)
      | (with_reducible exact LeO.refl _)
      | (with_reducible exact LeO.none _)
      | (with_reducible refine LeO.ite ?_ ?_)
      | (with_reducible refine LeO.bind ?_ (fun _ => ?_))
      | exact ih0 _ _ _ _ _
      | exact ih1 _ _ _ _ _ _ _
      | exact ih2 _ _ _ _ _
      | exact LeO.none _
      | refine LeO.ite ?_ ?_
      | refine LeO.bind ?_ (fun _ => ?_)
set_option maxHeartbeats 8000000 in
set_option maxRecDepth 100000 in
theorem cron_reader_number.calls (k : Nat) (g : Nat) (s0_0 : ByteArray) (s0_1 : Int) (a1 : Int) (a2 : Int) (r1 : Int) (r2 : Bool) (r3 : ByteArray) (r4 : Int) (w0 w : World) (hI : IsS39 w0 w g s0_0 s0_1) (hB : Below w0.heap.size w0 w) (h : cron_reader_number.f k s0_0 s0_1 a1 a2 = some (r1, r2, r3, r4)) :
    Calls Tryd.prog 48 #[.pointer (some ⟨g, 0, none⟩), .int .i64 a1, .int .i64 a2] w fun e w' => e = .returned (.tuple #[.int .i64 r1, .bool r2]) ∧ IsS39 w0 w' g r3 r4 ∧ Below w0.heap.size w0 w' ∧ KeepBut w w' g none := by
  have HI0 := Aside0.mk hI
  have HK := Aside0.mk (KeepBut.refl w g none)
  have HL := Aside0.mk hB.size
  clear hI
  have HW0 := Aside0.mk hB.size
  have HB := Aside0.mk hB
  clear hB
  have H : (cron_reader_number.l0 k a1 a2 s0_1 s0_0 s0_1) = some (r1, r2, r3, r4) := h
  clear h
  have HC4 := Aside0.mk H
  clear H
  obtain ⟨HGz5, hgz5⟩ := HI0.out
  have hcz5_0 := cellS39_0 HGz5
  have hcz5_1 := cellS39_1 HGz5
  have hfz5_0 := blk_frozen HGz5 0
  have hfz5_1 := blk_frozen HGz5 1
  clear HGz5 hgz5
  go_enter Tryd.func48, Tryd.ntmps48
  go_upto_block 0 with (fail)
  repeat (go_quiet (fail); go_upto_block 0 with (fail))
  go_cut [8] (fun v8 wc => ∃ (kq : Nat) (x8_3 : Int), v8 = .int .i64 x8_3 ∧ Aside0 (cron_reader_number.j1 kq a1 a2 x8_3 s0_0 s0_1 = some (r1, r2, r3, r4)) ∧ Aside0 (kq ≤ k) ∧ Aside0 (IsS39 w0 wc g s0_0 s0_1) ∧ Aside0 (KeepBut w wc g none) ∧ Aside0 (Below w0.heap.size w0 wc))
  case first =>
    have H := HC4.out
    clear HC4
    have H' := Aside0.mk H
    clear H
    go_wp2
    repeat (go_quiet (fail); try go_wp2)
    go_loopg [8] k (fun kq v8 w' => ∃ (x8_1 : Int), v8 = .int .i64 x8_1 ∧ Aside0 (cron_reader_number.l0 kq a1 a2 x8_1 s0_0 s0_1 = some (r1, r2, r3, r4)) ∧ Aside0 (kq ≤ k) ∧ Aside0 (IsS39 w0 w' g s0_0 s0_1) ∧ Aside0 (KeepBut w w' g none) ∧ Aside0 (Below w0.heap.size w0 w'))
    case atStart => exact ⟨(s0_1), (by first | rfl | (simp; done) | (simp [*]; done)), H', ⟨Nat.le_refl _⟩, ⟨by repeat (first | (with_reducible first | exact HI0.out | apply IsS39.alloc | apply IsS39.drewN | apply IsS39.drew | apply IsS39.set_0 | apply IsS39.set_1) | exact HI0.out)⟩, ⟨by repeat (first | (with_reducible first | exact HK.out | apply KeepBut.set_ | apply keep_drewN | apply keep_drew | apply keep_alloc) | exact HK.out)⟩, ⟨by repeat (first | (with_reducible first | exact HB.out | apply below_alloc | apply pw_below_drewN | apply below_drew1 | refine below_set ?_ (IsS39.ge HI0.out)) | exact HB.out)⟩⟩
    case round =>
      clear H'
      try clear p2
      try clear c4
      try clear hcz5_0
      try clear hcz5_1
      try clear hfz5_0
      try clear hfz5_1
      obtain ⟨x8_1, rfl, HA, HK1, HI0, HK, HB⟩ := hrel
      cases gk with
      | zero => exact absurd HA.out (by simp [cron_reader_number.l0])
      | succ k1 =>
        have H := HA.out
        clear HA
        simp only [cron_reader_number.l0] at H
        by_cases c6 : x8_1 < (s0_0.size : Int)
        · rw [if_pos c6] at H
          have c6b0 : decide (x8_1 < (s0_0.size : Int)) = true := decide_eq_true c6
          clear c6
          (first | rw [c6b0] | (simp only [i64_w, i32_w]; rw [c6b0]) | skip)
          by_cases c7 : 0 ≤ x8_1
          · rw [if_pos c7] at H
            have c7b0 : decide (0 ≤ x8_1) = true := decide_eq_true c7
            clear c7
            by_cases c9 : (bt s0_0 x8_1) ≥ 48
            · rw [if_pos c9] at H
              have c9b0 : decide (48 ≤ (bt s0_0 x8_1)) = true := decide_eq_true c9
              clear c9
              by_cases c11 : (bt s0_0 x8_1) ≤ 57
              · rw [if_pos c11] at H
                have c11b0 : decide ((bt s0_0 x8_1) ≤ 57) = true := decide_eq_true c11
                clear c11
                have H' := Aside0.mk H
                clear H
                obtain ⟨HGz12, hgz12⟩ := HI0.out
                have hcz12_0 := cellS39_0 HGz12
                have hcz12_1 := cellS39_1 HGz12
                have hfz12_0 := blk_frozen HGz12 0
                have hfz12_1 := blk_frozen HGz12 1
                clear HGz12 hgz12
                have p8 : 0 ≤ (x8_1 : Int) := of_decide_eq_true (by first | (with_reducible assumption) | assumption)
                have q8 : x8_1 < (s0_0.size : Int) := of_decide_eq_true (by first | (with_reducible assumption) | assumption)
                have hx8 := bt_at s0_0 x8_1
                replace p8 := eq_true p8
                replace q8 := eq_true q8
                have p10 : 0 ≤ (x8_1 : Int) := of_decide_eq_true (by first | (with_reducible assumption) | assumption)
                have q10 : x8_1 < (s0_0.size : Int) := of_decide_eq_true (by first | (with_reducible assumption) | assumption)
                have hx10 := bt_at s0_0 x8_1
                replace p10 := eq_true p10
                replace q10 := eq_true q10
                go_wp2
                repeat (go_quiet (fail); try go_wp2)
                go_roundg k1
                case measure => have := HK1.out; omega
                case rel => exact ⟨(wrap64 (x8_1 + 1)), (by first | rfl | (simp; done) | (simp [*]; done)), H', ⟨by have := HK1.out; omega⟩, ⟨by repeat (first | (with_reducible first | exact HI0.out | apply IsS39.alloc | apply IsS39.drewN | apply IsS39.drew | apply IsS39.set_0 | apply IsS39.set_1) | exact HI0.out)⟩, ⟨by repeat (first | (with_reducible first | exact HK.out | apply KeepBut.set_ | apply keep_drewN | apply keep_drew | apply keep_alloc) | exact HK.out)⟩, ⟨by repeat (first | (with_reducible first | exact HB.out | apply below_alloc | apply pw_below_drewN | apply below_drew1 | refine below_set ?_ (IsS39.ge HI0.out)) | exact HB.out)⟩⟩
              · rw [if_neg c11] at H
                have c11b0 : decide ((bt s0_0 x8_1) ≤ 57) = false := decide_eq_false c11
                clear c11
                have H' := Aside0.mk H
                clear H
                obtain ⟨HGz13, hgz13⟩ := HI0.out
                have hcz13_0 := cellS39_0 HGz13
                have hcz13_1 := cellS39_1 HGz13
                have hfz13_0 := blk_frozen HGz13 0
                have hfz13_1 := blk_frozen HGz13 1
                clear HGz13 hgz13
                have p8 : 0 ≤ (x8_1 : Int) := of_decide_eq_true (by first | (with_reducible assumption) | assumption)
                have q8 : x8_1 < (s0_0.size : Int) := of_decide_eq_true (by first | (with_reducible assumption) | assumption)
                have hx8 := bt_at s0_0 x8_1
                replace p8 := eq_true p8
                replace q8 := eq_true q8
                have p10 : 0 ≤ (x8_1 : Int) := of_decide_eq_true (by first | (with_reducible assumption) | assumption)
                have q10 : x8_1 < (s0_0.size : Int) := of_decide_eq_true (by first | (with_reducible assumption) | assumption)
                have hx10 := bt_at s0_0 x8_1
                replace p10 := eq_true p10
                replace q10 := eq_true q10
                go_wp2
                repeat (go_quiet (fail); try go_wp2)
                go_meet
                case rel => exact ⟨_, (x8_1), (by first | rfl | (simp; done) | (simp [*]; done)), H', ⟨by have := HK1.out; first | omega | exact Nat.le_refl _⟩, ⟨by repeat (first | (with_reducible first | exact HI0.out | apply IsS39.alloc | apply IsS39.drewN | apply IsS39.drew | apply IsS39.set_0 | apply IsS39.set_1) | exact HI0.out)⟩, ⟨by repeat (first | (with_reducible first | exact HK.out | apply KeepBut.set_ | apply keep_drewN | apply keep_drew | apply keep_alloc) | exact HK.out)⟩, ⟨by repeat (first | (with_reducible first | exact HB.out | apply below_alloc | apply pw_below_drewN | apply below_drew1 | refine below_set ?_ (IsS39.ge HI0.out)) | exact HB.out)⟩⟩
            · rw [if_neg c9] at H
              have c9b0 : decide (48 ≤ (bt s0_0 x8_1)) = false := decide_eq_false c9
              clear c9
              have H' := Aside0.mk H
              clear H
              obtain ⟨HGz14, hgz14⟩ := HI0.out
              have hcz14_0 := cellS39_0 HGz14
              have hcz14_1 := cellS39_1 HGz14
              have hfz14_0 := blk_frozen HGz14 0
              have hfz14_1 := blk_frozen HGz14 1
              clear HGz14 hgz14
              have p8 : 0 ≤ (x8_1 : Int) := of_decide_eq_true (by first | (with_reducible assumption) | assumption)
              have q8 : x8_1 < (s0_0.size : Int) := of_decide_eq_true (by first | (with_reducible assumption) | assumption)
              have hx8 := bt_at s0_0 x8_1
              replace p8 := eq_true p8
              replace q8 := eq_true q8
              go_wp2
              repeat (go_quiet (fail); try go_wp2)
              go_meet
              case rel => exact ⟨_, (x8_1), (by first | rfl | (simp; done) | (simp [*]; done)), H', ⟨by have := HK1.out; first | omega | exact Nat.le_refl _⟩, ⟨by repeat (first | (with_reducible first | exact HI0.out | apply IsS39.alloc | apply IsS39.drewN | apply IsS39.drew | apply IsS39.set_0 | apply IsS39.set_1) | exact HI0.out)⟩, ⟨by repeat (first | (with_reducible first | exact HK.out | apply KeepBut.set_ | apply keep_drewN | apply keep_drew | apply keep_alloc) | exact HK.out)⟩, ⟨by repeat (first | (with_reducible first | exact HB.out | apply below_alloc | apply pw_below_drewN | apply below_drew1 | refine below_set ?_ (IsS39.ge HI0.out)) | exact HB.out)⟩⟩
          · rw [if_neg c7] at H
            exact absurd H (by simp)
        · rw [if_neg c6] at H
          have c6b0 : decide (x8_1 < (s0_0.size : Int)) = false := decide_eq_false c6
          clear c6
          (first | rw [c6b0] | (simp only [i64_w, i32_w]; rw [c6b0]) | skip)
          have H' := Aside0.mk H
          clear H
          obtain ⟨HGz15, hgz15⟩ := HI0.out
          have hcz15_0 := cellS39_0 HGz15
          have hcz15_1 := cellS39_1 HGz15
          have hfz15_0 := blk_frozen HGz15 0
          have hfz15_1 := blk_frozen HGz15 1
          clear HGz15 hgz15
          go_wp2
          repeat (go_quiet (fail); try go_wp2)
          go_meet
          case rel => exact ⟨_, (x8_1), (by first | rfl | (simp; done) | (simp [*]; done)), H', ⟨by have := HK1.out; first | omega | exact Nat.le_refl _⟩, ⟨by repeat (first | (with_reducible first | exact HI0.out | apply IsS39.alloc | apply IsS39.drewN | apply IsS39.drew | apply IsS39.set_0 | apply IsS39.set_1) | exact HI0.out)⟩, ⟨by repeat (first | (with_reducible first | exact HK.out | apply KeepBut.set_ | apply keep_drewN | apply keep_drew | apply keep_alloc) | exact HK.out)⟩, ⟨by repeat (first | (with_reducible first | exact HB.out | apply below_alloc | apply pw_below_drewN | apply below_drew1 | refine below_set ?_ (IsS39.ge HI0.out)) | exact HB.out)⟩⟩
  case rest =>
    clear HC4
    try clear c1
    try clear p1
    try clear q1
    try clear hx1
    try clear p2
    try clear c4
    try clear c6
    try clear c6b0
    try clear p6
    try clear c7
    try clear c7b0
    try clear p8
    try clear q8
    try clear hx8
    try clear c9
    try clear c9b0
    try clear p10
    try clear q10
    try clear hx10
    try clear c11
    try clear c11b0
    try clear hcz12_0
    try clear hcz12_1
    try clear hcz13_0
    try clear hcz13_1
    try clear hcz14_0
    try clear hcz14_1
    try clear hcz15_0
    try clear hcz15_1
    try clear hcz5_0
    try clear hcz5_1
    try clear hfz12_0
    try clear hfz12_1
    try clear hfz13_0
    try clear hfz13_1
    try clear hfz14_0
    try clear hfz14_1
    try clear hfz15_0
    try clear hfz15_1
    try clear hfz5_0
    try clear hfz5_1
    try clear p10
    try clear p2
    try clear p8
    try clear q10
    try clear q8
    obtain ⟨kq, x8_3, rfl, HA, HJ3, HI0, HK, HB⟩ := hcut
    cases kq with
    | zero => exact absurd HA.out (by simp [cron_reader_number.j1])
    | succ kj3 =>
      have H := HA.out
      clear HA
      simp only [cron_reader_number.j1] at H
      by_cases c16 : 0 ≤ s0_1
      · rw [if_pos c16] at H
        have c16b0 := eq_true c16
        have c16b1 : decide (0 ≤ s0_1) = true := decide_eq_true c16
        clear c16
        by_cases c17 : s0_1 ≤ x8_3
        · rw [if_pos c17] at H
          have c17b0 := eq_true c17
          have c17b1 : decide (s0_1 ≤ x8_3) = true := decide_eq_true c17
          clear c17
          by_cases c18 : x8_3 ≤ (s0_0.size : Int)
          · rw [if_pos c18] at H
            have c18b0 := eq_true c18
            have c18b1 : decide (x8_3 ≤ (s0_0.size : Int)) = true := decide_eq_true c18
            clear c18
            have HC19 := Aside0.mk H
            clear H
            obtain ⟨HGz20, hgz20⟩ := HI0.out
            have hcz20_0 := cellS39_0 HGz20
            have hcz20_1 := cellS39_1 HGz20
            have hfz20_0 := blk_frozen HGz20 0
            have hfz20_1 := blk_frozen HGz20 1
            clear HGz20 hgz20
            go_upto_region 5 with (fail)
            repeat (go_quiet (fail); go_upto_region 5 with (fail))
            go_cut [70] (fun v70 wc => ∃ (kq : Nat) (x70_18 : Bool), v70 = .bool x70_18 ∧ Aside0 (cron_reader_number.j2 kq a1 a2 x8_3 (s0_0.extract (s0_1 : Int).toNat (x8_3 : Int).toNat) x70_18 s0_0 s0_1 = some (r1, r2, r3, r4)) ∧ Aside0 (kq ≤ kj3) ∧ Aside0 (IsS39 w0 wc g s0_0 s0_1) ∧ Aside0 (KeepBut w wc g none) ∧ Aside0 (Below w0.heap.size w0 wc))
            case first =>
              have H := HC19.out
              clear HC19
              by_cases c21 : ((s0_0.extract (s0_1 : Int).toNat (x8_3 : Int).toNat).size : Int) < 1
              · rw [if_pos c21] at H
                have c21b0 : decide (((s0_0.extract (s0_1 : Int).toNat (x8_3 : Int).toNat).size : Int) < 1) = true := decide_eq_true c21
                try have c21s0 : decide ((((x8_3).toNat - (s0_1).toNat : Nat) : Int) < 1) = true := by (have h1_ : (x8_3) ≤ (s0_0.size : Int) := by first | assumption | simp [*]); (have hz_ : (s0_0.extract (s0_1).toNat (x8_3).toNat).size = (x8_3).toNat - (s0_1).toNat := by (simp only [ByteArray.size_extract]; omega)); have hy_ := c21b0; rw [hz_] at hy_; exact hy_
                try have c21p0 := of_decide_eq_true c21s0
                have c21b1 : decide ((s0_0.extract (s0_1 : Int).toNat (x8_3 : Int).toNat).size < 1) = true := decide_eq_true (by omega)
                try have c21s1 : decide (((x8_3).toNat - (s0_1).toNat : Nat) < 1) = true := by (have h1_ : (x8_3) ≤ (s0_0.size : Int) := by first | assumption | simp [*]); (have hz_ : (s0_0.extract (s0_1).toNat (x8_3).toNat).size = (x8_3).toNat - (s0_1).toNat := by (simp only [ByteArray.size_extract]; omega)); have hy_ := c21b1; rw [hz_] at hy_; exact hy_
                try have c21p1 := of_decide_eq_true c21s1
                clear c21
                (first | rw [c21b0] | (simp only [i64_w, i32_w]; rw [c21b0]) | skip)
                have H' := Aside0.mk H
                clear H
                go_wp2
                repeat (go_quiet (fail); try go_wp2)
                go_meet
                case rel => exact ⟨_, (true), (by first | rfl | (simp; done) | (simp [*]; done)), H', ⟨by have := HJ3.out; first | omega | exact Nat.le_refl _⟩, ⟨by repeat (first | (with_reducible first | exact HI0.out | apply IsS39.alloc | apply IsS39.drewN | apply IsS39.drew | apply IsS39.set_0 | apply IsS39.set_1) | exact HI0.out)⟩, ⟨by repeat (first | (with_reducible first | exact HK.out | apply KeepBut.set_ | apply keep_drewN | apply keep_drew | apply keep_alloc) | exact HK.out)⟩, ⟨by repeat (first | (with_reducible first | exact HB.out | apply below_alloc | apply pw_below_drewN | apply below_drew1 | refine below_set ?_ (IsS39.ge HI0.out)) | exact HB.out)⟩⟩
              · rw [if_neg c21] at H
                have c21b0 : decide (((s0_0.extract (s0_1 : Int).toNat (x8_3 : Int).toNat).size : Int) < 1) = false := decide_eq_false c21
                try have c21s0 : decide ((((x8_3).toNat - (s0_1).toNat : Nat) : Int) < 1) = false := by (have h1_ : (x8_3) ≤ (s0_0.size : Int) := by first | assumption | simp [*]); (have hz_ : (s0_0.extract (s0_1).toNat (x8_3).toNat).size = (x8_3).toNat - (s0_1).toNat := by (simp only [ByteArray.size_extract]; omega)); have hy_ := c21b0; rw [hz_] at hy_; exact hy_
                try have c21p0 := of_decide_eq_false c21s0
                have c21b1 : decide ((s0_0.extract (s0_1 : Int).toNat (x8_3 : Int).toNat).size < 1) = false := decide_eq_false (by omega)
                try have c21s1 : decide (((x8_3).toNat - (s0_1).toNat : Nat) < 1) = false := by (have h1_ : (x8_3) ≤ (s0_0.size : Int) := by first | assumption | simp [*]); (have hz_ : (s0_0.extract (s0_1).toNat (x8_3).toNat).size = (x8_3).toNat - (s0_1).toNat := by (simp only [ByteArray.size_extract]; omega)); have hy_ := c21b1; rw [hz_] at hy_; exact hy_
                try have c21p1 := of_decide_eq_false c21s1
                clear c21
                (first | rw [c21b0] | (simp only [i64_w, i32_w]; rw [c21b0]) | skip)
                by_cases c22 : ((s0_0.extract (s0_1 : Int).toNat (x8_3 : Int).toNat).size : Int) > 2
                · rw [if_pos c22] at H
                  have c22b0 : decide (2 < ((s0_0.extract (s0_1 : Int).toNat (x8_3 : Int).toNat).size : Int)) = true := decide_eq_true c22
                  try have c22s0 : decide (2 < (((x8_3).toNat - (s0_1).toNat : Nat) : Int)) = true := by (have h1_ : (x8_3) ≤ (s0_0.size : Int) := by first | assumption | simp [*]); (have hz_ : (s0_0.extract (s0_1).toNat (x8_3).toNat).size = (x8_3).toNat - (s0_1).toNat := by (simp only [ByteArray.size_extract]; omega)); have hy_ := c22b0; rw [hz_] at hy_; exact hy_
                  try have c22p0 := of_decide_eq_true c22s0
                  have c22b1 : decide (2 < (s0_0.extract (s0_1 : Int).toNat (x8_3 : Int).toNat).size) = true := decide_eq_true (by omega)
                  try have c22s1 : decide (2 < ((x8_3).toNat - (s0_1).toNat : Nat)) = true := by (have h1_ : (x8_3) ≤ (s0_0.size : Int) := by first | assumption | simp [*]); (have hz_ : (s0_0.extract (s0_1).toNat (x8_3).toNat).size = (x8_3).toNat - (s0_1).toNat := by (simp only [ByteArray.size_extract]; omega)); have hy_ := c22b1; rw [hz_] at hy_; exact hy_
                  try have c22p1 := of_decide_eq_true c22s1
                  clear c22
                  have H' := Aside0.mk H
                  clear H
                  go_wp2
                  repeat (go_quiet (fail); try go_wp2)
                  go_meet
                  case rel => exact ⟨_, (true), (by first | rfl | (simp; done) | (simp [*]; done)), H', ⟨by have := HJ3.out; first | omega | exact Nat.le_refl _⟩, ⟨by repeat (first | (with_reducible first | exact HI0.out | apply IsS39.alloc | apply IsS39.drewN | apply IsS39.drew | apply IsS39.set_0 | apply IsS39.set_1) | exact HI0.out)⟩, ⟨by repeat (first | (with_reducible first | exact HK.out | apply KeepBut.set_ | apply keep_drewN | apply keep_drew | apply keep_alloc) | exact HK.out)⟩, ⟨by repeat (first | (with_reducible first | exact HB.out | apply below_alloc | apply pw_below_drewN | apply below_drew1 | refine below_set ?_ (IsS39.ge HI0.out)) | exact HB.out)⟩⟩
                · rw [if_neg c22] at H
                  have c22b0 : decide (2 < ((s0_0.extract (s0_1 : Int).toNat (x8_3 : Int).toNat).size : Int)) = false := decide_eq_false c22
                  try have c22s0 : decide (2 < (((x8_3).toNat - (s0_1).toNat : Nat) : Int)) = false := by (have h1_ : (x8_3) ≤ (s0_0.size : Int) := by first | assumption | simp [*]); (have hz_ : (s0_0.extract (s0_1).toNat (x8_3).toNat).size = (x8_3).toNat - (s0_1).toNat := by (simp only [ByteArray.size_extract]; omega)); have hy_ := c22b0; rw [hz_] at hy_; exact hy_
                  try have c22p0 := of_decide_eq_false c22s0
                  have c22b1 : decide (2 < (s0_0.extract (s0_1 : Int).toNat (x8_3 : Int).toNat).size) = false := decide_eq_false (by omega)
                  try have c22s1 : decide (2 < ((x8_3).toNat - (s0_1).toNat : Nat)) = false := by (have h1_ : (x8_3) ≤ (s0_0.size : Int) := by first | assumption | simp [*]); (have hz_ : (s0_0.extract (s0_1).toNat (x8_3).toNat).size = (x8_3).toNat - (s0_1).toNat := by (simp only [ByteArray.size_extract]; omega)); have hy_ := c22b1; rw [hz_] at hy_; exact hy_
                  try have c22p1 := of_decide_eq_false c22s1
                  clear c22
                  by_cases c23 : ((s0_0.extract (s0_1 : Int).toNat (x8_3 : Int).toNat).size : Int) = 2
                  · rw [if_pos c23] at H
                    have c23b0 : (((s0_0.extract (s0_1 : Int).toNat (x8_3 : Int).toNat).size : Int) == 2) = true := beq_iff_eq.mpr c23
                    try have c23s0 : ((((x8_3).toNat - (s0_1).toNat : Nat) : Int) == 2) = true := by (have h1_ : (x8_3) ≤ (s0_0.size : Int) := by first | assumption | simp [*]); (have hz_ : (s0_0.extract (s0_1).toNat (x8_3).toNat).size = (x8_3).toNat - (s0_1).toNat := by (simp only [ByteArray.size_extract]; omega)); have hy_ := c23b0; rw [hz_] at hy_; exact hy_
                    have c23b1 : (((s0_0.extract (s0_1 : Int).toNat (x8_3 : Int).toNat).size : Int) != 2) = false := bne_eq_false_iff_eq.mpr c23
                    try have c23s1 : ((((x8_3).toNat - (s0_1).toNat : Nat) : Int) != 2) = false := by (have h1_ : (x8_3) ≤ (s0_0.size : Int) := by first | assumption | simp [*]); (have hz_ : (s0_0.extract (s0_1).toNat (x8_3).toNat).size = (x8_3).toNat - (s0_1).toNat := by (simp only [ByteArray.size_extract]; omega)); have hy_ := c23b1; rw [hz_] at hy_; exact hy_
                    clear c23
                    by_cases c24 : 0 < ((s0_0.extract (s0_1 : Int).toNat (x8_3 : Int).toNat).size : Int)
                    · rw [if_pos c24] at H
                      have c24b0 : decide (0 < ((s0_0.extract (s0_1 : Int).toNat (x8_3 : Int).toNat).size : Int)) = true := decide_eq_true c24
                      try have c24s0 : decide (0 < (((x8_3).toNat - (s0_1).toNat : Nat) : Int)) = true := by (have h1_ : (x8_3) ≤ (s0_0.size : Int) := by first | assumption | simp [*]); (have hz_ : (s0_0.extract (s0_1).toNat (x8_3).toNat).size = (x8_3).toNat - (s0_1).toNat := by (simp only [ByteArray.size_extract]; omega)); have hy_ := c24b0; rw [hz_] at hy_; exact hy_
                      try have c24p0 := of_decide_eq_true c24s0
                      have c24b1 : decide (0 < (s0_0.extract (s0_1 : Int).toNat (x8_3 : Int).toNat).size) = true := decide_eq_true (by omega)
                      try have c24s1 : decide (0 < ((x8_3).toNat - (s0_1).toNat : Nat)) = true := by (have h1_ : (x8_3) ≤ (s0_0.size : Int) := by first | assumption | simp [*]); (have hz_ : (s0_0.extract (s0_1).toNat (x8_3).toNat).size = (x8_3).toNat - (s0_1).toNat := by (simp only [ByteArray.size_extract]; omega)); have hy_ := c24b1; rw [hz_] at hy_; exact hy_
                      try have c24p1 := of_decide_eq_true c24s1
                      clear c24
                      have H' := Aside0.mk H
                      clear H
                      have p25 : 0 ≤ (0 : Int) := (by omega)
                      have q25 : 0 < (s0_0.extract (s0_1 : Int).toNat (x8_3 : Int).toNat).size := (by have : (0 : Int) < ((s0_0.extract (s0_1 : Int).toNat (x8_3 : Int).toNat).size : Int) := of_decide_eq_true (by first | (with_reducible assumption) | assumption); omega)
                      have hx25 : ∀ h : 0 < (s0_0.extract (s0_1 : Int).toNat (x8_3 : Int).toNat).size, (((s0_0.extract (s0_1 : Int).toNat (x8_3 : Int).toNat)[0]'h).toNat : Int) = bt (s0_0.extract (s0_1 : Int).toNat (x8_3 : Int).toNat) 0 := bt_at (s0_0.extract (s0_1 : Int).toNat (x8_3 : Int).toNat) 0
                      clear p25
                      have qi25 : (0 < ((s0_0.extract (s0_1 : Int).toNat (x8_3 : Int).toNat).size : Int)) = True := eq_true (of_decide_eq_true (by first | (with_reducible assumption) | assumption))
                      replace q25 := eq_true q25
                      go_wp2
                      repeat (go_quiet (fail); try go_wp2)
                      go_meet
                      case rel => exact ⟨_, (((bt (s0_0.extract (s0_1 : Int).toNat (x8_3 : Int).toNat) 0) == 48)), (by first | rfl | (simp; done) | (simp [*]; done)), H', ⟨by have := HJ3.out; first | omega | exact Nat.le_refl _⟩, ⟨by repeat (first | (with_reducible first | exact HI0.out | apply IsS39.alloc | apply IsS39.drewN | apply IsS39.drew | apply IsS39.set_0 | apply IsS39.set_1) | exact HI0.out)⟩, ⟨by repeat (first | (with_reducible first | exact HK.out | apply KeepBut.set_ | apply keep_drewN | apply keep_drew | apply keep_alloc) | exact HK.out)⟩, ⟨by repeat (first | (with_reducible first | exact HB.out | apply below_alloc | apply pw_below_drewN | apply below_drew1 | refine below_set ?_ (IsS39.ge HI0.out)) | exact HB.out)⟩⟩
                    · rw [if_neg c24] at H
                      exact absurd H (by simp)
                  · rw [if_neg c23] at H
                    have c23b0 : (((s0_0.extract (s0_1 : Int).toNat (x8_3 : Int).toNat).size : Int) == 2) = false := beq_eq_false_iff_ne.mpr c23
                    try have c23s0 : ((((x8_3).toNat - (s0_1).toNat : Nat) : Int) == 2) = false := by (have h1_ : (x8_3) ≤ (s0_0.size : Int) := by first | assumption | simp [*]); (have hz_ : (s0_0.extract (s0_1).toNat (x8_3).toNat).size = (x8_3).toNat - (s0_1).toNat := by (simp only [ByteArray.size_extract]; omega)); have hy_ := c23b0; rw [hz_] at hy_; exact hy_
                    have c23b1 : (((s0_0.extract (s0_1 : Int).toNat (x8_3 : Int).toNat).size : Int) != 2) = true := bne_iff_ne.mpr c23
                    try have c23s1 : ((((x8_3).toNat - (s0_1).toNat : Nat) : Int) != 2) = true := by (have h1_ : (x8_3) ≤ (s0_0.size : Int) := by first | assumption | simp [*]); (have hz_ : (s0_0.extract (s0_1).toNat (x8_3).toNat).size = (x8_3).toNat - (s0_1).toNat := by (simp only [ByteArray.size_extract]; omega)); have hy_ := c23b1; rw [hz_] at hy_; exact hy_
                    have H' := Aside0.mk H
                    clear H
                    go_wp2
                    repeat (go_quiet (fail); try go_wp2)
                    go_meet
                    case rel => exact ⟨_, (false), (by first | rfl | (simp; done) | (simp [*]; done)), H', ⟨by have := HJ3.out; first | omega | exact Nat.le_refl _⟩, ⟨by repeat (first | (with_reducible first | exact HI0.out | apply IsS39.alloc | apply IsS39.drewN | apply IsS39.drew | apply IsS39.set_0 | apply IsS39.set_1) | exact HI0.out)⟩, ⟨by repeat (first | (with_reducible first | exact HK.out | apply KeepBut.set_ | apply keep_drewN | apply keep_drew | apply keep_alloc) | exact HK.out)⟩, ⟨by repeat (first | (with_reducible first | exact HB.out | apply below_alloc | apply pw_below_drewN | apply below_drew1 | refine below_set ?_ (IsS39.ge HI0.out)) | exact HB.out)⟩⟩
            case rest =>
              clear HC19
              try clear c1
              try clear p1
              try clear q1
              try clear hx1
              try clear c2
              try clear p2
              try clear q2
              try clear hx2
              try clear qi2
              try clear c4
              try clear c6
              try clear c6b0
              try clear p6
              try clear c7
              try clear c7b0
              try clear p8
              try clear q8
              try clear hx8
              try clear c9
              try clear c9b0
              try clear p10
              try clear q10
              try clear hx10
              try clear c11
              try clear c11b0
              try clear c16
              try clear c16b0
              try clear c16b1
              try clear c17
              try clear c17b0
              try clear c17b1
              try clear c18
              try clear c18b0
              try clear c18b1
              try clear c21
              try clear c21b0
              try clear c21b1
              try clear c22
              try clear c22b0
              try clear c22b1
              try clear c23
              try clear c23b0
              try clear c23b1
              try clear c24
              try clear c24b0
              try clear c24b1
              try clear p25
              try clear q25
              try clear hx25
              try clear qi25
              try clear hcz12_0
              try clear hcz12_1
              try clear hcz13_0
              try clear hcz13_1
              try clear hcz14_0
              try clear hcz14_1
              try clear hcz15_0
              try clear hcz15_1
              try clear hcz20_0
              try clear hcz20_1
              try clear hcz5_0
              try clear hcz5_1
              try clear hfz12_0
              try clear hfz12_1
              try clear hfz13_0
              try clear hfz13_1
              try clear hfz14_0
              try clear hfz14_1
              try clear hfz15_0
              try clear hfz15_1
              try clear hfz20_0
              try clear hfz20_1
              try clear hfz5_0
              try clear hfz5_1
              try clear p1
              try clear p10
              try clear p2
              try clear p25
              try clear p6
              try clear p8
              try clear q1
              try clear q10
              try clear q25
              try clear q8
              obtain ⟨kq, x70_18, rfl, HA, HJ18, HI0, HK, HB⟩ := hcut
              cases kq with
              | zero => exact absurd HA.out (by simp [cron_reader_number.j2])
              | succ kj18 =>
                have H := HA.out
                clear HA
                simp only [cron_reader_number.j2] at H
                by_cases c26 : x70_18 = true
                · subst c26
                  have H1 : (some (0, false, s0_0, s0_1)) = some (r1, r2, r3, r4) := by rw [if_pos rfl] at H; exact H
                  clear H
                  have H := H1
                  clear H1
                  simp only [Option.some.injEq, Prod.mk.injEq] at H
                  obtain ⟨rfl, rfl, rfl, rfl⟩ := H
                  go_wp2
                  repeat (go_quiet (fail); try go_wp2)
                  go_ret2
                  exact ⟨by first | rfl | (simp [errW_none, errW_some] <;> rfl) | (simp [*, errW_none, errW_some] <;> rfl), by repeat (first | (with_reducible first | exact HI0.out | apply IsS39.alloc | apply IsS39.drewN | apply IsS39.drew | apply IsS39.set_0 | apply IsS39.set_1) | exact HI0.out), by repeat (first | (with_reducible first | exact HB.out | apply below_alloc | apply pw_below_drewN | apply below_drew1 | refine below_set ?_ (IsS39.ge HI0.out)) | exact HB.out), by repeat (first | (with_reducible first | exact HK.out | apply KeepBut.set_ | apply keep_drewN | apply keep_drew | apply keep_alloc) | exact HK.out)⟩
                · replace c26 := Bool.eq_false_iff.mpr c26
                  subst c26
                  have H1 : ((Ca.atoi.f (s0_0.extract (s0_1 : Int).toNat (x8_3 : Int).toNat)).bind fun bt109 => (if bt109.1 < a1 then (some (0, false, s0_0, s0_1)) else (if bt109.1 > a2 then (some (0, false, s0_0, s0_1)) else (some (bt109.1, true, s0_0, x8_3))))) = some (r1, r2, r3, r4) := by rw [if_neg (show ¬ (false = true) by decide)] at H; exact H
                  clear H
                  have H := H1
                  clear H1
                  replace H := Option.bind_eq_some_iff.mp H
                  obtain ⟨⟨t109, t110⟩, A270, H⟩ := H
                  replace H : (if t109 < a1 then (some (0, false, s0_0, s0_1)) else (if t109 > a2 then (some (0, false, s0_0, s0_1)) else (some (t109, true, s0_0, x8_3)))) = some (r1, r2, r3, r4) := H
                  have A27 := Aside0.mk A270
                  clear A270
                  by_cases c28 : t109 < a1
                  · rw [if_pos c28] at H
                    have c28b0 : decide (t109 < a1) = true := decide_eq_true c28
                    clear c28
                    simp only [Option.some.injEq, Prod.mk.injEq] at H
                    obtain ⟨rfl, rfl, rfl, rfl⟩ := H
                    go_wp2_with (first | (go_at_call 50; (with_reducible refine (Ca.atoi.calls (s0_0.extract (s0_1 : Int).toNat (x8_3 : Int).toNat) t109 t110 _ A27.out).mono ?_); rintro e w29 ⟨rfl, hb⟩; have n0_ := Aside0.mk (IsS39.below (by repeat (first | (with_reducible first | exact HI0.out | apply IsS39.alloc | apply IsS39.drewN | apply IsS39.drew | apply IsS39.set_0 | apply IsS39.set_1) | exact HI0.out)) hb); have n1_ := Aside0.mk (KeepBut.trans (by repeat (first | (with_reducible first | exact HK.out | apply KeepBut.set_ | apply keep_drewN | apply keep_drew | apply keep_alloc) | exact HK.out)) (KeepBut.of_below hb g none) (.inl rfl)); have n2_ := Aside0.mk (below_step (by repeat (first | (with_reducible first | exact HB.out | apply below_alloc | apply pw_below_drewN | apply below_drew1 | refine below_set ?_ (IsS39.ge HI0.out)) | exact HB.out)) hb); clear HI0; clear HK; clear HB; have HI0 := n0_; have HK := n1_; have HB := n2_; clear n0_ n1_ n2_; (try clear hb); (try clear hb2); (try clear hk); (try clear hi); (try simp only [errW_none, errW_some])))
                    repeat (go_quiet (first | (go_at_call 50; (with_reducible refine (Ca.atoi.calls (s0_0.extract (s0_1 : Int).toNat (x8_3 : Int).toNat) t109 t110 _ A27.out).mono ?_); rintro e w29 ⟨rfl, hb⟩; have n0_ := Aside0.mk (IsS39.below (by repeat (first | (with_reducible first | exact HI0.out | apply IsS39.alloc | apply IsS39.drewN | apply IsS39.drew | apply IsS39.set_0 | apply IsS39.set_1) | exact HI0.out)) hb); have n1_ := Aside0.mk (KeepBut.trans (by repeat (first | (with_reducible first | exact HK.out | apply KeepBut.set_ | apply keep_drewN | apply keep_drew | apply keep_alloc) | exact HK.out)) (KeepBut.of_below hb g none) (.inl rfl)); have n2_ := Aside0.mk (below_step (by repeat (first | (with_reducible first | exact HB.out | apply below_alloc | apply pw_below_drewN | apply below_drew1 | refine below_set ?_ (IsS39.ge HI0.out)) | exact HB.out)) hb); clear HI0; clear HK; clear HB; have HI0 := n0_; have HK := n1_; have HB := n2_; clear n0_ n1_ n2_; (try clear hb); (try clear hb2); (try clear hk); (try clear hi); (try simp only [errW_none, errW_some]))); try go_wp2_with (first | (go_at_call 50; (with_reducible refine (Ca.atoi.calls (s0_0.extract (s0_1 : Int).toNat (x8_3 : Int).toNat) t109 t110 _ A27.out).mono ?_); rintro e w29 ⟨rfl, hb⟩; have n0_ := Aside0.mk (IsS39.below (by repeat (first | (with_reducible first | exact HI0.out | apply IsS39.alloc | apply IsS39.drewN | apply IsS39.drew | apply IsS39.set_0 | apply IsS39.set_1) | exact HI0.out)) hb); have n1_ := Aside0.mk (KeepBut.trans (by repeat (first | (with_reducible first | exact HK.out | apply KeepBut.set_ | apply keep_drewN | apply keep_drew | apply keep_alloc) | exact HK.out)) (KeepBut.of_below hb g none) (.inl rfl)); have n2_ := Aside0.mk (below_step (by repeat (first | (with_reducible first | exact HB.out | apply below_alloc | apply pw_below_drewN | apply below_drew1 | refine below_set ?_ (IsS39.ge HI0.out)) | exact HB.out)) hb); clear HI0; clear HK; clear HB; have HI0 := n0_; have HK := n1_; have HB := n2_; clear n0_ n1_ n2_; (try clear hb); (try clear hb2); (try clear hk); (try clear hi); (try simp only [errW_none, errW_some]))))
                    go_ret2
                    exact ⟨by first | rfl | (simp [errW_none, errW_some] <;> rfl) | (simp [*, errW_none, errW_some] <;> rfl), by repeat (first | (with_reducible first | exact HI0.out | apply IsS39.alloc | apply IsS39.drewN | apply IsS39.drew | apply IsS39.set_0 | apply IsS39.set_1) | exact HI0.out), by repeat (first | (with_reducible first | exact HB.out | apply below_alloc | apply pw_below_drewN | apply below_drew1 | refine below_set ?_ (IsS39.ge HI0.out)) | exact HB.out), by repeat (first | (with_reducible first | exact HK.out | apply KeepBut.set_ | apply keep_drewN | apply keep_drew | apply keep_alloc) | exact HK.out)⟩
                  · rw [if_neg c28] at H
                    have c28b0 : decide (t109 < a1) = false := decide_eq_false c28
                    clear c28
                    by_cases c30 : t109 > a2
                    · rw [if_pos c30] at H
                      have c30b0 : decide (a2 < t109) = true := decide_eq_true c30
                      clear c30
                      simp only [Option.some.injEq, Prod.mk.injEq] at H
                      obtain ⟨rfl, rfl, rfl, rfl⟩ := H
                      go_wp2_with (first | (go_at_call 50; (with_reducible refine (Ca.atoi.calls (s0_0.extract (s0_1 : Int).toNat (x8_3 : Int).toNat) t109 t110 _ A27.out).mono ?_); rintro e w31 ⟨rfl, hb⟩; have n0_ := Aside0.mk (IsS39.below (by repeat (first | (with_reducible first | exact HI0.out | apply IsS39.alloc | apply IsS39.drewN | apply IsS39.drew | apply IsS39.set_0 | apply IsS39.set_1) | exact HI0.out)) hb); have n1_ := Aside0.mk (KeepBut.trans (by repeat (first | (with_reducible first | exact HK.out | apply KeepBut.set_ | apply keep_drewN | apply keep_drew | apply keep_alloc) | exact HK.out)) (KeepBut.of_below hb g none) (.inl rfl)); have n2_ := Aside0.mk (below_step (by repeat (first | (with_reducible first | exact HB.out | apply below_alloc | apply pw_below_drewN | apply below_drew1 | refine below_set ?_ (IsS39.ge HI0.out)) | exact HB.out)) hb); clear HI0; clear HK; clear HB; have HI0 := n0_; have HK := n1_; have HB := n2_; clear n0_ n1_ n2_; (try clear hb); (try clear hb2); (try clear hk); (try clear hi); (try simp only [errW_none, errW_some])))
                      repeat (go_quiet (first | (go_at_call 50; (with_reducible refine (Ca.atoi.calls (s0_0.extract (s0_1 : Int).toNat (x8_3 : Int).toNat) t109 t110 _ A27.out).mono ?_); rintro e w31 ⟨rfl, hb⟩; have n0_ := Aside0.mk (IsS39.below (by repeat (first | (with_reducible first | exact HI0.out | apply IsS39.alloc | apply IsS39.drewN | apply IsS39.drew | apply IsS39.set_0 | apply IsS39.set_1) | exact HI0.out)) hb); have n1_ := Aside0.mk (KeepBut.trans (by repeat (first | (with_reducible first | exact HK.out | apply KeepBut.set_ | apply keep_drewN | apply keep_drew | apply keep_alloc) | exact HK.out)) (KeepBut.of_below hb g none) (.inl rfl)); have n2_ := Aside0.mk (below_step (by repeat (first | (with_reducible first | exact HB.out | apply below_alloc | apply pw_below_drewN | apply below_drew1 | refine below_set ?_ (IsS39.ge HI0.out)) | exact HB.out)) hb); clear HI0; clear HK; clear HB; have HI0 := n0_; have HK := n1_; have HB := n2_; clear n0_ n1_ n2_; (try clear hb); (try clear hb2); (try clear hk); (try clear hi); (try simp only [errW_none, errW_some]))); try go_wp2_with (first | (go_at_call 50; (with_reducible refine (Ca.atoi.calls (s0_0.extract (s0_1 : Int).toNat (x8_3 : Int).toNat) t109 t110 _ A27.out).mono ?_); rintro e w31 ⟨rfl, hb⟩; have n0_ := Aside0.mk (IsS39.below (by repeat (first | (with_reducible first | exact HI0.out | apply IsS39.alloc | apply IsS39.drewN | apply IsS39.drew | apply IsS39.set_0 | apply IsS39.set_1) | exact HI0.out)) hb); have n1_ := Aside0.mk (KeepBut.trans (by repeat (first | (with_reducible first | exact HK.out | apply KeepBut.set_ | apply keep_drewN | apply keep_drew | apply keep_alloc) | exact HK.out)) (KeepBut.of_below hb g none) (.inl rfl)); have n2_ := Aside0.mk (below_step (by repeat (first | (with_reducible first | exact HB.out | apply below_alloc | apply pw_below_drewN | apply below_drew1 | refine below_set ?_ (IsS39.ge HI0.out)) | exact HB.out)) hb); clear HI0; clear HK; clear HB; have HI0 := n0_; have HK := n1_; have HB := n2_; clear n0_ n1_ n2_; (try clear hb); (try clear hb2); (try clear hk); (try clear hi); (try simp only [errW_none, errW_some]))))
                      go_ret2
                      exact ⟨by first | rfl | (simp [errW_none, errW_some] <;> rfl) | (simp [*, errW_none, errW_some] <;> rfl), by repeat (first | (with_reducible first | exact HI0.out | apply IsS39.alloc | apply IsS39.drewN | apply IsS39.drew | apply IsS39.set_0 | apply IsS39.set_1) | exact HI0.out), by repeat (first | (with_reducible first | exact HB.out | apply below_alloc | apply pw_below_drewN | apply below_drew1 | refine below_set ?_ (IsS39.ge HI0.out)) | exact HB.out), by repeat (first | (with_reducible first | exact HK.out | apply KeepBut.set_ | apply keep_drewN | apply keep_drew | apply keep_alloc) | exact HK.out)⟩
                    · rw [if_neg c30] at H
                      have c30b0 : decide (a2 < t109) = false := decide_eq_false c30
                      clear c30
                      simp only [Option.some.injEq, Prod.mk.injEq] at H
                      obtain ⟨rfl, rfl, rfl, rfl⟩ := H
                      go_wp2_with (first | (go_at_call 50; (with_reducible refine (Ca.atoi.calls (s0_0.extract (s0_1 : Int).toNat (x8_3 : Int).toNat) t109 t110 _ A27.out).mono ?_); rintro e w32 ⟨rfl, hb⟩; have n0_ := Aside0.mk (IsS39.below (by repeat (first | (with_reducible first | exact HI0.out | apply IsS39.alloc | apply IsS39.drewN | apply IsS39.drew | apply IsS39.set_0 | apply IsS39.set_1) | exact HI0.out)) hb); have n1_ := Aside0.mk (KeepBut.trans (by repeat (first | (with_reducible first | exact HK.out | apply KeepBut.set_ | apply keep_drewN | apply keep_drew | apply keep_alloc) | exact HK.out)) (KeepBut.of_below hb g none) (.inl rfl)); have n2_ := Aside0.mk (below_step (by repeat (first | (with_reducible first | exact HB.out | apply below_alloc | apply pw_below_drewN | apply below_drew1 | refine below_set ?_ (IsS39.ge HI0.out)) | exact HB.out)) hb); clear HI0; clear HK; clear HB; have HI0 := n0_; have HK := n1_; have HB := n2_; clear n0_ n1_ n2_; (try clear hb); (try clear hb2); (try clear hk); (try clear hi); (try simp only [errW_none, errW_some]); obtain ⟨HGz33, hgz33⟩ := HI0.out; have hcz33_0 := cellS39_0 HGz33; have hcz33_1 := cellS39_1 HGz33; have hfz33_0 := blk_frozen HGz33 0; have hfz33_1 := blk_frozen HGz33 1; clear HGz33 hgz33))
                      repeat (go_quiet (first | (go_at_call 50; (with_reducible refine (Ca.atoi.calls (s0_0.extract (s0_1 : Int).toNat (x8_3 : Int).toNat) t109 t110 _ A27.out).mono ?_); rintro e w32 ⟨rfl, hb⟩; have n0_ := Aside0.mk (IsS39.below (by repeat (first | (with_reducible first | exact HI0.out | apply IsS39.alloc | apply IsS39.drewN | apply IsS39.drew | apply IsS39.set_0 | apply IsS39.set_1) | exact HI0.out)) hb); have n1_ := Aside0.mk (KeepBut.trans (by repeat (first | (with_reducible first | exact HK.out | apply KeepBut.set_ | apply keep_drewN | apply keep_drew | apply keep_alloc) | exact HK.out)) (KeepBut.of_below hb g none) (.inl rfl)); have n2_ := Aside0.mk (below_step (by repeat (first | (with_reducible first | exact HB.out | apply below_alloc | apply pw_below_drewN | apply below_drew1 | refine below_set ?_ (IsS39.ge HI0.out)) | exact HB.out)) hb); clear HI0; clear HK; clear HB; have HI0 := n0_; have HK := n1_; have HB := n2_; clear n0_ n1_ n2_; (try clear hb); (try clear hb2); (try clear hk); (try clear hi); (try simp only [errW_none, errW_some]); obtain ⟨HGz33, hgz33⟩ := HI0.out; have hcz33_0 := cellS39_0 HGz33; have hcz33_1 := cellS39_1 HGz33; have hfz33_0 := blk_frozen HGz33 0; have hfz33_1 := blk_frozen HGz33 1; clear HGz33 hgz33)); try go_wp2_with (first | (go_at_call 50; (with_reducible refine (Ca.atoi.calls (s0_0.extract (s0_1 : Int).toNat (x8_3 : Int).toNat) t109 t110 _ A27.out).mono ?_); rintro e w32 ⟨rfl, hb⟩; have n0_ := Aside0.mk (IsS39.below (by repeat (first | (with_reducible first | exact HI0.out | apply IsS39.alloc | apply IsS39.drewN | apply IsS39.drew | apply IsS39.set_0 | apply IsS39.set_1) | exact HI0.out)) hb); have n1_ := Aside0.mk (KeepBut.trans (by repeat (first | (with_reducible first | exact HK.out | apply KeepBut.set_ | apply keep_drewN | apply keep_drew | apply keep_alloc) | exact HK.out)) (KeepBut.of_below hb g none) (.inl rfl)); have n2_ := Aside0.mk (below_step (by repeat (first | (with_reducible first | exact HB.out | apply below_alloc | apply pw_below_drewN | apply below_drew1 | refine below_set ?_ (IsS39.ge HI0.out)) | exact HB.out)) hb); clear HI0; clear HK; clear HB; have HI0 := n0_; have HK := n1_; have HB := n2_; clear n0_ n1_ n2_; (try clear hb); (try clear hb2); (try clear hk); (try clear hi); (try simp only [errW_none, errW_some]); obtain ⟨HGz33, hgz33⟩ := HI0.out; have hcz33_0 := cellS39_0 HGz33; have hcz33_1 := cellS39_1 HGz33; have hfz33_0 := blk_frozen HGz33 0; have hfz33_1 := blk_frozen HGz33 1; clear HGz33 hgz33)))
                      go_ret2
                      exact ⟨by first | rfl | (simp [errW_none, errW_some] <;> rfl) | (simp [*, errW_none, errW_some] <;> rfl), by repeat (first | (with_reducible first | exact HI0.out | apply IsS39.alloc | apply IsS39.drewN | apply IsS39.drew | apply IsS39.set_0 | apply IsS39.set_1) | exact HI0.out), by repeat (first | (with_reducible first | exact HB.out | apply below_alloc | apply pw_below_drewN | apply below_drew1 | refine below_set ?_ (IsS39.ge HI0.out)) | exact HB.out), by repeat (first | (with_reducible first | exact HK.out | apply KeepBut.set_ | apply keep_drewN | apply keep_drew | apply keep_alloc) | exact HK.out)⟩
          · rw [if_neg c18] at H
            exact absurd H (by simp)
        · rw [if_neg c17] at H
          exact absurd H (by simp)
      · rw [if_neg c16] at H
        exact absurd H (by simp)

end Go.Proofs.YtkmcmgfmahildaaDoor.OA
