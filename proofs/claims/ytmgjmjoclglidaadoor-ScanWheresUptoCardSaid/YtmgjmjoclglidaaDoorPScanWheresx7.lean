-- PRINTED BY print.sh 35421559b90ae4d0a3588c463048766b98c2df88dd9212a6774a882060cdf62d: not written by this session
import Derived.Test.YtmgjmjoclglidaaDoorPScanWheresx0
import Derived.Test.YtmgjmjoclglidaaDoorPScanWheresx6
namespace Go.Proofs.YtmgjmjoclglidaaDoor.PScanWheres
open Go.RowKit Go.Proofs.YtmgjmjoclglidaaDoorW.PrintWords Go.Proofs.YtmgjmjoclglidaaDoorW.PrintLast Go.Proofs.YtmgjmjoclglidaaDoorW.PrintMore
attribute [local go_sem] max2_int min2_int max_two min_two max_three min_three max_four min_four   -- for this text's walks alone
set_option linter.unusedVariables false
set_option linter.unusedSimpArgs false

/-! ### capstanref09_Where: function 11 -/
def capstanref09_Where.l0 : Nat → Int → List (S36) → Int → Int → Int → Option (Int × Int × Int)
  | 0, _, _, _, _, _ => none
  | k + 1, x1, x7, x10, x11, x12 => if x12 < (x7.length : Int) then (if 0 ≤ x12 then (if ((rd_T36 x7 x12).f1) = x1 then (some (x10, wrap64 ((wrap64 (x12 - x11)) + 1), 0)) else (if ((rd_T36 x7 x12).f0) = 10 then (capstanref09_Where.l0 k x1 x7 (wrap64 (x10 + 1)) (wrap64 (x12 + 1)) (wrap64 (x12 + 1))) else (capstanref09_Where.l0 k x1 x7 x10 x11 (wrap64 (x12 + 1))))) else (none)) else (some (0, 0, 3))
def capstanref09_Where.f (k : Nat) (a0 : ByteArray) (a1 : Int) : Option (Int × Int × Int) := (capstanref09_Pieces.f k a0).bind fun bt107 => (if bt107.2.2 = 0 then (if bt107.1.length < 8796093022208 then (capstanref09_Where.l0 k a1 (bt107.1 ++ [(⟨(-1), (a0.size : Int)⟩ : S36)]) 1 0 0) else (none)) else (some (0, 0, bt107.2.2)))
theorem capstanref09_Where.mono_l : ∀ k, (∀ y0 y1 y2 y3 y4, LeO (capstanref09_Where.l0 k y0 y1 y2 y3 y4) (capstanref09_Where.l0 (k + 1) y0 y1 y2 y3 y4))
  | 0 => fun _ _ _ _ _ r h => by simp [capstanref09_Where.l0] at h
  | k + 1 => by
    have ih0 := capstanref09_Where.mono_l k
    · intro y0 y1 y2 y3 y4
      unfold capstanref09_Where.l0
      repeat' first
      | (with_reducible exact ih0 _ _ _ _ _)
      | (with_reducible exact capstanref09_Pieces.mono _ _)
      | (with_reducible exact LeO.refl _)
      | (with_reducible exact LeO.none _)
      | (with_reducible refine LeO.ite ?_ ?_)
      | (with_reducible refine LeO.bind ?_ (fun _ => ?_))
      | exact ih0 _ _ _ _ _
      | exact capstanref09_Pieces.mono _ _
      | exact LeO.none _
      | refine LeO.ite ?_ ?_
      | refine LeO.bind ?_ (fun _ => ?_)
theorem capstanref09_Where.mono : ∀ a0 a1 k, LeO (capstanref09_Where.f k a0 a1) (capstanref09_Where.f (k + 1) a0 a1) := by
  intro a0 a1 k
  have ih0 := capstanref09_Where.mono_l k
  unfold capstanref09_Where.f
  repeat' first
      | (with_reducible exact ih0 _ _ _ _ _)
      | (with_reducible exact capstanref09_Pieces.mono _ _)
      | (with_reducible exact LeO.refl _)
      | (with_reducible exact LeO.none _)
      | (with_reducible refine LeO.ite ?_ ?_)
      | (with_reducible refine LeO.bind ?_ (fun _ => ?_))
      | exact ih0 _ _ _ _ _
      | exact capstanref09_Pieces.mono _ _
      | exact LeO.none _
      | refine LeO.ite ?_ ?_
      | refine LeO.bind ?_ (fun _ => ?_)
set_option maxHeartbeats 8000000 in
set_option maxRecDepth 100000 in
theorem capstanref09_Where.calls (k : Nat) (a0 : ByteArray) (a1 : Int) (r1 : Int) (r2 : Int) (r3 : Int) (w : World) (h : capstanref09_Where.f k a0 a1 = some (r1, r2, r3)) :
    Calls Tryd.prog 11 #[.string a0, .int .i64 a1] w fun e w' => e = .returned (.tuple #[.int .i64 r1, .int .i64 r2, .int .i64 r3]) ∧ Below w.heap.size w w' := by
  have hu36 := Tryd.underlying36
  have HB := Aside0.mk (Below.refl w.heap.size w)
  have H : ((capstanref09_Pieces.f k a0).bind fun bt107 => (if bt107.2.2 = 0 then (if bt107.1.length < 8796093022208 then (capstanref09_Where.l0 k a1 (bt107.1 ++ [(⟨(-1), (a0.size : Int)⟩ : S36)]) 1 0 0) else (none)) else (some (0, 0, bt107.2.2)))) = some (r1, r2, r3) := h
  clear h
  replace H := Option.bind_eq_some_iff.mp H
  obtain ⟨⟨t107, t108, t109⟩, A30, H⟩ := H
  replace H : (if t109 = 0 then (if t107.length < 8796093022208 then (capstanref09_Where.l0 k a1 (t107 ++ [(⟨(-1), (a0.size : Int)⟩ : S36)]) 1 0 0) else (none)) else (some (0, 0, t109))) = some (r1, r2, r3) := H
  have A3 := Aside0.mk A30
  clear A30
  by_cases c4 : t109 = 0
  · rw [if_pos c4] at H
    have c4b0 : (t109 == 0) = true := beq_iff_eq.mpr c4
    have c4b1 : (t109 != 0) = false := bne_eq_false_iff_eq.mpr c4
    clear c4
    by_cases c5 : t107.length < 8796093022208
    · rw [if_pos c5] at H
      have LMc5 := Aside0.mk c5
      clear c5
      obtain ⟨y112, hy112⟩ : ∃ y_ : List (S36), y_ = (t107 ++ [(⟨(-1), (a0.size : Int)⟩ : S36)]) := ⟨_, rfl⟩
      replace H : (capstanref09_Where.l0 k a1 y112 1 0 0) = some (r1, r2, r3) := by first | (rw [hy112]; with_reducible exact H) | (have H2_ := (Option.bind_some _ _).symm.trans H; rw [hy112]; with_reducible exact H2_) | (have H2_ := (Option.bind_some _ _).symm.trans H; with_reducible exact H2_) | with_reducible exact H | (rw [hy112]; exact H) | exact H
      have Ny112 := Aside0.mk hy112
      clear hy112
      have H' := Aside0.mk H
      clear H
      go_enter Tryd.func11, Tryd.ntmps11
      go_wp2_with (first | ((with_reducible refine gate_callee (f := 13) rfl ?_); refine goesL_ (some 15) rfl rfl Tryd.func13 (by kernel_rfl) rfl #[.string a0] rfl (by (try simp only [List.map_toArray, List.map_cons, List.map_nil]); first | done | rfl | (simp only [List.length_drop, List.length_take]; rfl)) ?_; (with_reducible refine (capstanref09_Pieces.calls k a0 t107 t108 t109 _ A3.out).mono ?_); rintro e w6 ⟨v110, rfl, ho0, hb⟩; refine ⟨_, rfl, ?_⟩; have n0_ := Aside0.mk (Kd.R_lower ho0 (below_size (by repeat (first | (with_reducible first | exact HB.out | apply below_alloc | apply pw_below_drewN | apply below_drew1) | exact HB.out)))); have n1_ := Aside0.mk (below_step (by repeat (first | (with_reducible first | exact HB.out | apply below_alloc | apply pw_below_drewN | apply below_drew1) | exact HB.out)) hb); clear HB; have HO111 := n0_; have HB := n1_; clear n0_ n1_; (try clear hb); (try clear hb2); (try clear hk); (try clear hi); (try clear ho0)) | ((with_reducible refine gate_builtin (b := .append) (xs := #[.tmp 22, .tmp 26]) rfl ?_); at_builtin; refine Kd.R_append k36 (w0 := w) w.heap.size rfl (.tmp 22) (.tmp 26) 29 36 (.agg #[(.int .i64 0), (.int .i64 0)]) 16 rfl Tryd.underlying29 info36 rfl (by decide) (by omega) v110 t107 (⟨(-1), (a0.size : Int)⟩ : S36) [.int .i64 (-1), .int .i64 (a0.size : Int)] (fun _ => True) (fun _ => False) rfl rfl ?aP (fun _ hk => hk.elim) ?aF ?aO ?aB ?aS ?aL ?_; (case aP => exact k36_mkM _ _ _ (⟨(-1), (a0.size : Int)⟩ : S36)); (case aB => exact (by repeat (first | (with_reducible first | exact HB.out | apply below_alloc | apply pw_below_drewN | apply below_drew1) | exact HB.out))); (case aF => exact (fun _ _ => trivial)); (case aO => exact (by (with_reducible repeat (first | apply Kd.R_alloc | apply Kd.R_drewN | apply Kd.R_drew)); exact HO111.out)); (case aS => exact (below_size (by repeat (first | (with_reducible first | exact HB.out | apply below_alloc | apply pw_below_drewN | apply below_drew1) | exact HB.out)))); (case aL => have := LMc5.out; omega); intro v113 w7 ho hb hg hat; rw [← Ny112.out] at ho; have n0_ := Aside0.mk (hb); have n1_ := Aside0.mk (ho); clear HB; clear HO111; have HB := n0_; have HO114 := n1_; clear n0_ n1_; clear ho hb hg hat))
      go_loopg [10, 11, 12] k (fun kq v10 v11 v12 w' => ∃ (x10_1 : Int) (x11_1 : Int) (x12_1 : Int), v10 = .int .i64 x10_1 ∧ v11 = .int .i64 x11_1 ∧ v12 = .int .i64 x12_1 ∧ Aside0 (capstanref09_Where.l0 kq a1 y112 x10_1 x11_1 x12_1 = some (r1, r2, r3)) ∧ Aside0 (kq ≤ k) ∧ Aside0 (Kd.R k36 36 w' w.heap.size (fun _ => True) v113 y112) ∧ Aside0 (Below w.heap.size w w'))
      case atStart => exact ⟨(1), (0), (0), (by first | rfl | (simp; done) | (simp [*]; done)), (by first | rfl | (simp; done) | (simp [*]; done)), (by first | rfl | (simp; done) | (simp [*]; done)), H', ⟨Nat.le_refl _⟩, ⟨by (with_reducible repeat (first | apply Kd.R_alloc | apply Kd.R_drewN | apply Kd.R_drew)); exact HO114.out⟩, ⟨by repeat (first | (with_reducible first | exact HB.out | apply below_alloc | apply pw_below_drewN | apply below_drew1) | exact HB.out)⟩⟩
      case round =>
        clear H'
        try clear c1
        try clear p2
        try clear c4
        try clear c4b0
        try clear c4b1
        try clear c5
        obtain ⟨x10_1, x11_1, x12_1, rfl, rfl, rfl, HA, HK1, HO_7, HB⟩ := hrel
        cases gk with
        | zero => exact absurd HA.out (by simp [capstanref09_Where.l0])
        | succ k1 =>
          have H := HA.out
          clear HA
          simp only [capstanref09_Where.l0] at H
          by_cases c8 : x12_1 < (y112.length : Int)
          · rw [if_pos c8] at H
            have c8b0 : decide (x12_1 < (y112.length : Int)) = true := decide_eq_true c8
            clear c8
            by_cases c9 : 0 ≤ x12_1
            · rw [if_pos c9] at H
              have c9b0 : decide (0 ≤ x12_1) = true := decide_eq_true c9
              clear c9
              by_cases c10 : ((rd_T36 y112 x12_1).f1) = a1
              · rw [if_pos c10] at H
                have c10b0 : (((rd_T36 y112 x12_1).f1) == a1) = true := beq_iff_eq.mpr c10
                have c10b1 : (((rd_T36 y112 x12_1).f1) != a1) = false := bne_eq_false_iff_eq.mpr c10
                clear c10
                simp only [Option.some.injEq, Prod.mk.injEq] at H
                obtain ⟨rfl, rfl, rfl⟩ := H
                obtain ⟨Ao11, co11, eo11⟩ := Kd.R_slice HO_7.out
                subst eo11
                have p115 : 0 ≤ (x12_1 : Int) := of_decide_eq_true (by first | (with_reducible assumption) | assumption)
                have q115 : x12_1 < (y112.length : Int) := of_decide_eq_true (by first | (with_reducible assumption) | assumption)
                obtain ⟨ad115, e115, hx115_0, hx115_1⟩ := at_T36 (Kd.R_reads' HO_7.out).2.2 x12_1 p115 q115
                cases e115
                replace p115 := eq_true p115
                replace q115 := eq_true q115
                go_wp2
                go_ret3
                exact ⟨by first | rfl | (simp [errW_none, errW_some] <;> rfl) | (simp [*, errW_none, errW_some] <;> rfl), by repeat (first | (with_reducible first | exact HB.out | apply below_alloc | apply pw_below_drewN | apply below_drew1) | exact HB.out)⟩
              · rw [if_neg c10] at H
                have c10b0 : (((rd_T36 y112 x12_1).f1) == a1) = false := beq_eq_false_iff_ne.mpr c10
                have c10b1 : (((rd_T36 y112 x12_1).f1) != a1) = true := bne_iff_ne.mpr c10
                by_cases c12 : ((rd_T36 y112 x12_1).f0) = 10
                · rw [if_pos c12] at H
                  have c12b0 : (((rd_T36 y112 x12_1).f0) == 10) = true := beq_iff_eq.mpr c12
                  have c12b1 : (((rd_T36 y112 x12_1).f0) != 10) = false := bne_eq_false_iff_eq.mpr c12
                  clear c12
                  have H' := Aside0.mk H
                  clear H
                  obtain ⟨Ao13, co13, eo13⟩ := Kd.R_slice HO_7.out
                  subst eo13
                  have p115 : 0 ≤ (x12_1 : Int) := of_decide_eq_true (by first | (with_reducible assumption) | assumption)
                  have q115 : x12_1 < (y112.length : Int) := of_decide_eq_true (by first | (with_reducible assumption) | assumption)
                  obtain ⟨ad115, e115, hx115_0, hx115_1⟩ := at_T36 (Kd.R_reads' HO_7.out).2.2 x12_1 p115 q115
                  cases e115
                  replace p115 := eq_true p115
                  replace q115 := eq_true q115
                  have p116 : 0 ≤ (x12_1 : Int) := of_decide_eq_true (by first | (with_reducible assumption) | assumption)
                  have q116 : x12_1 < (y112.length : Int) := of_decide_eq_true (by first | (with_reducible assumption) | assumption)
                  obtain ⟨ad116, e116, hx116_0, hx116_1⟩ := at_T36 (Kd.R_reads' HO_7.out).2.2 x12_1 p116 q116
                  obtain rfl : ad115 = ad116 := (by injection e116)
                  replace p116 := eq_true p116
                  replace q116 := eq_true q116
                  go_wp2
                  go_roundg k1
                  case measure => have := HK1.out; omega
                  case rel => exact ⟨(wrap64 (x10_1 + 1)), (wrap64 (x12_1 + 1)), (wrap64 (x12_1 + 1)), (by first | rfl | (simp; done) | (simp [*]; done)), (by first | rfl | (simp; done) | (simp [*]; done)), (by first | rfl | (simp; done) | (simp [*]; done)), H', ⟨by have := HK1.out; omega⟩, ⟨by (with_reducible repeat (first | apply Kd.R_alloc | apply Kd.R_drewN | apply Kd.R_drew)); exact HO_7.out⟩, ⟨by repeat (first | (with_reducible first | exact HB.out | apply below_alloc | apply pw_below_drewN | apply below_drew1) | exact HB.out)⟩⟩
                · rw [if_neg c12] at H
                  have c12b0 : (((rd_T36 y112 x12_1).f0) == 10) = false := beq_eq_false_iff_ne.mpr c12
                  have c12b1 : (((rd_T36 y112 x12_1).f0) != 10) = true := bne_iff_ne.mpr c12
                  have H' := Aside0.mk H
                  clear H
                  obtain ⟨Ao14, co14, eo14⟩ := Kd.R_slice HO_7.out
                  subst eo14
                  have p115 : 0 ≤ (x12_1 : Int) := of_decide_eq_true (by first | (with_reducible assumption) | assumption)
                  have q115 : x12_1 < (y112.length : Int) := of_decide_eq_true (by first | (with_reducible assumption) | assumption)
                  obtain ⟨ad115, e115, hx115_0, hx115_1⟩ := at_T36 (Kd.R_reads' HO_7.out).2.2 x12_1 p115 q115
                  cases e115
                  replace p115 := eq_true p115
                  replace q115 := eq_true q115
                  have p116 : 0 ≤ (x12_1 : Int) := of_decide_eq_true (by first | (with_reducible assumption) | assumption)
                  have q116 : x12_1 < (y112.length : Int) := of_decide_eq_true (by first | (with_reducible assumption) | assumption)
                  obtain ⟨ad116, e116, hx116_0, hx116_1⟩ := at_T36 (Kd.R_reads' HO_7.out).2.2 x12_1 p116 q116
                  obtain rfl : ad115 = ad116 := (by injection e116)
                  replace p116 := eq_true p116
                  replace q116 := eq_true q116
                  go_wp2
                  go_roundg k1
                  case measure => have := HK1.out; omega
                  case rel => exact ⟨(x10_1), (x11_1), (wrap64 (x12_1 + 1)), (by first | rfl | (simp; done) | (simp [*]; done)), (by first | rfl | (simp; done) | (simp [*]; done)), (by first | rfl | (simp; done) | (simp [*]; done)), H', ⟨by have := HK1.out; omega⟩, ⟨by (with_reducible repeat (first | apply Kd.R_alloc | apply Kd.R_drewN | apply Kd.R_drew)); exact HO_7.out⟩, ⟨by repeat (first | (with_reducible first | exact HB.out | apply below_alloc | apply pw_below_drewN | apply below_drew1) | exact HB.out)⟩⟩
            · rw [if_neg c9] at H
              exact absurd H (by simp)
          · rw [if_neg c8] at H
            have c8b0 : decide (x12_1 < (y112.length : Int)) = false := decide_eq_false c8
            clear c8
            simp only [Option.some.injEq, Prod.mk.injEq] at H
            obtain ⟨rfl, rfl, rfl⟩ := H
            obtain ⟨Ao15, co15, eo15⟩ := Kd.R_slice HO_7.out
            subst eo15
            go_wp2
            go_ret3
            exact ⟨by first | rfl | (simp [errW_none, errW_some] <;> rfl) | (simp [*, errW_none, errW_some] <;> rfl), by repeat (first | (with_reducible first | exact HB.out | apply below_alloc | apply pw_below_drewN | apply below_drew1) | exact HB.out)⟩
    · rw [if_neg c5] at H
      exact absurd H (by simp)
  · rw [if_neg c4] at H
    have c4b0 : (t109 == 0) = false := beq_eq_false_iff_ne.mpr c4
    have c4b1 : (t109 != 0) = true := bne_iff_ne.mpr c4
    simp only [Option.some.injEq, Prod.mk.injEq] at H
    obtain ⟨rfl, rfl, rfl⟩ := H
    go_enter Tryd.func11, Tryd.ntmps11
    go_wp2_with (first | ((with_reducible refine gate_callee (f := 13) rfl ?_); refine goesL_ (some 15) rfl rfl Tryd.func13 (by kernel_rfl) rfl #[.string a0] rfl (by (try simp only [List.map_toArray, List.map_cons, List.map_nil]); first | done | rfl | (simp only [List.length_drop, List.length_take]; rfl)) ?_; (with_reducible refine (capstanref09_Pieces.calls k a0 t107 t108 t109 _ A3.out).mono ?_); rintro e w16 ⟨v110, rfl, ho0, hb⟩; refine ⟨_, rfl, ?_⟩; have n0_ := Aside0.mk (Kd.R_lower ho0 (below_size (by repeat (first | (with_reducible first | exact HB.out | apply below_alloc | apply pw_below_drewN | apply below_drew1) | exact HB.out)))); have n1_ := Aside0.mk (below_step (by repeat (first | (with_reducible first | exact HB.out | apply below_alloc | apply pw_below_drewN | apply below_drew1) | exact HB.out)) hb); clear HB; have HO111 := n0_; have HB := n1_; clear n0_ n1_; (try clear hb); (try clear hb2); (try clear hk); (try clear hi); (try clear ho0)))
    go_ret3
    exact ⟨by first | rfl | (simp [errW_none, errW_some] <;> rfl) | (simp [*, errW_none, errW_some] <;> rfl), by repeat (first | (with_reducible first | exact HB.out | apply below_alloc | apply pw_below_drewN | apply below_drew1) | exact HB.out)⟩

end Go.Proofs.YtmgjmjoclglidaaDoor.PScanWheres
