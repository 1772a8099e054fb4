/- Walks of functions, written by a program (wip/tools/own.py) over hand contracts; conditions: as each theorem states. -/
import Derived.Test.YtkdboaaganmagaaOLx0
namespace Go.Proofs.Ytkdboaaganmagaa.OL
open Go.Proofs.Ytkdboaaganmagaa.OP
open Go.RowKit Go.Proofs.YtkdboaaganmagaaW.PrintWords Go.Proofs.YtkdboaaganmagaaW.PrintLast Go.Proofs.YtkdboaaganmagaaW.PrintMore
attribute [local go_sem] max2_int min2_int max_two min_two max_three min_three max_four min_four   -- for this text's walks alone
set_option linter.unusedVariables false
set_option linter.unusedSimpArgs false

/-! ### capstanlaw22_awake: function 9 -/
def capstanlaw22_awake.f (k : Nat)  : Option (Bool) := (OP.capstanlaw22_least.f).bind fun bt101 => ((Cb.Enc.f k bt101.1 bt101.2.1 bt101.2.2.1 bt101.2.2.2.1 bt101.2.2.2.2.1 bt101.2.2.2.2.2.1 bt101.2.2.2.2.2.2.1 bt101.2.2.2.2.2.2.2.1 bt101.2.2.2.2.2.2.2.2.1 bt101.2.2.2.2.2.2.2.2.2.1 bt101.2.2.2.2.2.2.2.2.2.2.1 bt101.2.2.2.2.2.2.2.2.2.2.2).bind fun bt121 => ((Cf.Dec.f k bt121.1).bind fun bt125 => (if (bt121.1.length : Int) = 81 then (if bt121.2 = 0 then (if bt125.2.2.2.2.2.2.2.2.2.2.2.2 = 0 then ((OP.capstanlaw22_least.f).bind fun bt147 => ((OP.capstanref21_Same.f k bt125.1 bt125.2.1 bt125.2.2.1 bt125.2.2.2.1 bt125.2.2.2.2.1 bt125.2.2.2.2.2.1 bt125.2.2.2.2.2.2.1 bt125.2.2.2.2.2.2.2.1 bt125.2.2.2.2.2.2.2.2.1 bt125.2.2.2.2.2.2.2.2.2.1 bt125.2.2.2.2.2.2.2.2.2.2.1 bt125.2.2.2.2.2.2.2.2.2.2.2.1 bt147.1 bt147.2.1 bt147.2.2.1 bt147.2.2.2.1 bt147.2.2.2.2.1 bt147.2.2.2.2.2.1 bt147.2.2.2.2.2.2.1 bt147.2.2.2.2.2.2.2.1 bt147.2.2.2.2.2.2.2.2.1 bt147.2.2.2.2.2.2.2.2.2.1 bt147.2.2.2.2.2.2.2.2.2.2.1 bt147.2.2.2.2.2.2.2.2.2.2.2).bind fun t167 => (some t167))) else (some false)) else (some false)) else (some false))))
theorem capstanlaw22_awake.mono : ∀ k, LeO (capstanlaw22_awake.f k ) (capstanlaw22_awake.f (k + 1) ) := by
 intro  k
 unfold capstanlaw22_awake.f
 repeat' first
   | (with_reducible exact Cb.Enc.mono _ _ _ _ _ _ _ _ _ _ _ _ _)
   | (with_reducible exact Cf.Dec.mono _ _)
   | (with_reducible exact OP.capstanref21_Same.mono _ _ _ _ _ _ _ _ _ _ _ _ _ _ _ _ _ _ _ _ _ _ _ _ _)
   | (with_reducible exact LeO.refl _)
   | (with_reducible exact LeO.none _)
   | (with_reducible refine LeO.ite ?_ ?_)
   | (with_reducible refine LeO.bind ?_ (fun _ => ?_))
   | exact Cb.Enc.mono _ _ _ _ _ _ _ _ _ _ _ _ _
   | exact Cf.Dec.mono _ _
   | exact OP.capstanref21_Same.mono _ _ _ _ _ _ _ _ _ _ _ _ _ _ _ _ _ _ _ _ _ _ _ _ _
   | exact LeO.none _
   | refine LeO.ite ?_ ?_
   | refine LeO.bind ?_ (fun _ => ?_)
def capstanlaw22_awake.T3 : Bool × List (List Nat × List Nat) := (true, [([], []), ([0], [0]), ([1], [1]), ([2], [2]), ([3], [3]), ([4, 3], [3, 4]), ([3, 5], [3, 5]), ([6, 3], [6]), ([7], [7]), ([8, 7], [7, 8]), ([7, 9], [7, 9]), ([10, 7], [10]), ([11], [11]), ([11, 11], [11]), ([12, 13, 13, 11], [11, 12, 13]), ([11, 14], [11, 14]), ([15, 14, 0, 1, 2, 3, 4, 5, 6, 7, 8, 9, 10, 11, 12, 13, 14, 15], [15])])
def capstanlaw22_awake.B3 : List Nat := [0, 1, 3, 7, 15, 31, 63, 127, 255, 511, 1023, 2047, 4095, 4095, 16383, 32767, 65535]
theorem capstanlaw22_awake.tab3 : rtab .any (opsOf Try.f9 3) = capstanlaw22_awake.T3 := by kernel_rfl
theorem capstanlaw22_awake.bits3 : waitsOk capstanlaw22_awake.T3.2 capstanlaw22_awake.B3 = true := by kernel_rfl
set_option maxHeartbeats 8000000 in
set_option maxRecDepth 100000 in
theorem capstanlaw22_awake.calls (k : Nat)  (r : Bool) (w : World) (h : capstanlaw22_awake.f k  = some r) (hr_ : r = true) :
  Calls Try.prog 9 #[] w fun e w' => e = .returned (.bool r) ∧ Below w.heap.size w w' := by
 have HR_ := Aside0.mk hr_
 clear hr_
 have hu29 := Try.underlying29
 have HB := Aside0.mk (Below.refl w.heap.size w)
 have H : ((OP.capstanlaw22_least.f).bind fun bt101 => ((Cb.Enc.f k bt101.1 bt101.2.1 bt101.2.2.1 bt101.2.2.2.1 bt101.2.2.2.2.1 bt101.2.2.2.2.2.1 bt101.2.2.2.2.2.2.1 bt101.2.2.2.2.2.2.2.1 bt101.2.2.2.2.2.2.2.2.1 bt101.2.2.2.2.2.2.2.2.2.1 bt101.2.2.2.2.2.2.2.2.2.2.1 bt101.2.2.2.2.2.2.2.2.2.2.2).bind fun bt121 => ((Cf.Dec.f k bt121.1).bind fun bt125 => (if (bt121.1.length : Int) = 81 then (if bt121.2 = 0 then (if bt125.2.2.2.2.2.2.2.2.2.2.2.2 = 0 then ((OP.capstanlaw22_least.f).bind fun bt147 => ((OP.capstanref21_Same.f k bt125.1 bt125.2.1 bt125.2.2.1 bt125.2.2.2.1 bt125.2.2.2.2.1 bt125.2.2.2.2.2.1 bt125.2.2.2.2.2.2.1 bt125.2.2.2.2.2.2.2.1 bt125.2.2.2.2.2.2.2.2.1 bt125.2.2.2.2.2.2.2.2.2.1 bt125.2.2.2.2.2.2.2.2.2.2.1 bt125.2.2.2.2.2.2.2.2.2.2.2.1 bt147.1 bt147.2.1 bt147.2.2.1 bt147.2.2.2.1 bt147.2.2.2.2.1 bt147.2.2.2.2.2.1 bt147.2.2.2.2.2.2.1 bt147.2.2.2.2.2.2.2.1 bt147.2.2.2.2.2.2.2.2.1 bt147.2.2.2.2.2.2.2.2.2.1 bt147.2.2.2.2.2.2.2.2.2.2.1 bt147.2.2.2.2.2.2.2.2.2.2.2).bind fun t167 => (some t167))) else (some false)) else (some false)) else (some false))))) = some r := h
 clear h
 replace H := Option.bind_eq_some_iff.mp H
 obtain ⟨⟨t101, t102, t103, t104, t105, t106, t107, t110, t113, t116, t117, t118⟩, A10, H⟩ := H
 replace H : ((Cb.Enc.f k t101 t102 t103 t104 t105 t106 t107 t110 t113 t116 t117 t118).bind fun bt121 => ((Cf.Dec.f k bt121.1).bind fun bt125 => (if (bt121.1.length : Int) = 81 then (if bt121.2 = 0 then (if bt125.2.2.2.2.2.2.2.2.2.2.2.2 = 0 then ((OP.capstanlaw22_least.f).bind fun bt147 => ((OP.capstanref21_Same.f k bt125.1 bt125.2.1 bt125.2.2.1 bt125.2.2.2.1 bt125.2.2.2.2.1 bt125.2.2.2.2.2.1 bt125.2.2.2.2.2.2.1 bt125.2.2.2.2.2.2.2.1 bt125.2.2.2.2.2.2.2.2.1 bt125.2.2.2.2.2.2.2.2.2.1 bt125.2.2.2.2.2.2.2.2.2.2.1 bt125.2.2.2.2.2.2.2.2.2.2.2.1 bt147.1 bt147.2.1 bt147.2.2.1 bt147.2.2.2.1 bt147.2.2.2.2.1 bt147.2.2.2.2.2.1 bt147.2.2.2.2.2.2.1 bt147.2.2.2.2.2.2.2.1 bt147.2.2.2.2.2.2.2.2.1 bt147.2.2.2.2.2.2.2.2.2.1 bt147.2.2.2.2.2.2.2.2.2.2.1 bt147.2.2.2.2.2.2.2.2.2.2.2).bind fun t167 => (some t167))) else (some false)) else (some false)) else (some false)))) = some r := H
 have A1 := Aside0.mk A10
 clear A10
 replace H := Option.bind_eq_some_iff.mp H
 obtain ⟨⟨t121, t124⟩, A20, H⟩ := H
 replace H : ((Cf.Dec.f k t121).bind fun bt125 => (if (t121.length : Int) = 81 then (if t124 = 0 then (if bt125.2.2.2.2.2.2.2.2.2.2.2.2 = 0 then ((OP.capstanlaw22_least.f).bind fun bt147 => ((OP.capstanref21_Same.f k bt125.1 bt125.2.1 bt125.2.2.1 bt125.2.2.2.1 bt125.2.2.2.2.1 bt125.2.2.2.2.2.1 bt125.2.2.2.2.2.2.1 bt125.2.2.2.2.2.2.2.1 bt125.2.2.2.2.2.2.2.2.1 bt125.2.2.2.2.2.2.2.2.2.1 bt125.2.2.2.2.2.2.2.2.2.2.1 bt125.2.2.2.2.2.2.2.2.2.2.2.1 bt147.1 bt147.2.1 bt147.2.2.1 bt147.2.2.2.1 bt147.2.2.2.2.1 bt147.2.2.2.2.2.1 bt147.2.2.2.2.2.2.1 bt147.2.2.2.2.2.2.2.1 bt147.2.2.2.2.2.2.2.2.1 bt147.2.2.2.2.2.2.2.2.2.1 bt147.2.2.2.2.2.2.2.2.2.2.1 bt147.2.2.2.2.2.2.2.2.2.2.2).bind fun t167 => (some t167))) else (some false)) else (some false)) else (some false))) = some r := H
 have A2 := Aside0.mk A20
 clear A20
 replace H := Option.bind_eq_some_iff.mp H
 obtain ⟨⟨t125, t126, t127, t128, t129, t130, t131, t134, t137, t140, t141, t142, t145⟩, A30, H⟩ := H
 replace H : (if (t121.length : Int) = 81 then (if t124 = 0 then (if t145 = 0 then ((OP.capstanlaw22_least.f).bind fun bt147 => ((OP.capstanref21_Same.f k t125 t126 t127 t128 t129 t130 t131 t134 t137 t140 t141 t142 bt147.1 bt147.2.1 bt147.2.2.1 bt147.2.2.2.1 bt147.2.2.2.2.1 bt147.2.2.2.2.2.1 bt147.2.2.2.2.2.2.1 bt147.2.2.2.2.2.2.2.1 bt147.2.2.2.2.2.2.2.2.1 bt147.2.2.2.2.2.2.2.2.2.1 bt147.2.2.2.2.2.2.2.2.2.2.1 bt147.2.2.2.2.2.2.2.2.2.2.2).bind fun t167 => (some t167))) else (some false)) else (some false)) else (some false)) = some r := H
 have A3 := Aside0.mk A30
 clear A30
 by_cases c4 : (t121.length : Int) = 81
 ·rw [if_pos c4] at H
  have c4b0 : ((t121.length : Int) == 81) = true := beq_iff_eq.mpr c4
  have c4b1 : ((t121.length : Int) != 81) = false := bne_eq_false_iff_eq.mpr c4
  clear c4
  by_cases c5 : t124 = 0
  ·rw [if_pos c5] at H
   have c5b0 : (t124 == 0) = true := beq_iff_eq.mpr c5
   have c5b1 : (t124 != 0) = false := bne_eq_false_iff_eq.mpr c5
   clear c5
   by_cases c6 : t145 = 0
   ·rw [if_pos c6] at H
    have c6b0 : (t145 == 0) = true := beq_iff_eq.mpr c6
    have c6b1 : (t145 != 0) = false := bne_eq_false_iff_eq.mpr c6
    clear c6
    replace H := Option.bind_eq_some_iff.mp H
    obtain ⟨⟨t147, t148, t149, t150, t151, t152, t153, t156, t159, t162, t163, t164⟩, A70, H⟩ := H
    replace H : ((OP.capstanref21_Same.f k t125 t126 t127 t128 t129 t130 t131 t134 t137 t140 t141 t142 t147 t148 t149 t150 t151 t152 t153 t156 t159 t162 t163 t164).bind fun t167 => (some t167)) = some r := H
    have A7 := Aside0.mk A70
    clear A70
    replace H := Option.bind_eq_some_iff.mp H
    obtain ⟨t167, A80, H⟩ := H
    replace H : (some t167) = some r := H
    have A8 := Aside0.mk A80
    clear A80
    obtain rfl := Option.some.inj H
    go_enter Try.func9, Try.ntmps9
    try go_wp2_with (first | ((with_reducible refine gate_callee (f := 16) rfl ?_); refine goesL_ (some 6) rfl rfl Try.func16 (by kernel_rfl) rfl #[] rfl (by (try simp only [List.map_toArray, List.map_cons, List.map_nil]); first | done | rfl | (simp only [List.length_drop, List.length_take]; rfl)) ?_; (with_reducible refine (OP.capstanlaw22_least.calls  t101 t102 t103 t104 t105 t106 t107 t110 t113 t116 t117 t118 _ A1.out).mono ?_); rintro e w9 ⟨v108, v111, v114, v119, rfl, ho0, ho1, ho2, ho3, hb⟩; refine ⟨_, rfl, ?_⟩; have n0_ := Aside0.mk (Kd.R_lower ho0 (below_size (by repeat (first | (with_reducible first | exact HB.out | apply below_alloc | apply pw_below_drewN | apply below_drew1) | exact HB.out)))); have n1_ := Aside0.mk (Kd.R_lower ho1 (below_size (by repeat (first | (with_reducible first | exact HB.out | apply below_alloc | apply pw_below_drewN | apply below_drew1) | exact HB.out)))); have n2_ := Aside0.mk (Kd.R_lower ho2 (below_size (by repeat (first | (with_reducible first | exact HB.out | apply below_alloc | apply pw_below_drewN | apply below_drew1) | exact HB.out)))); have n3_ := Aside0.mk (Kd.R_lower ho3 (below_size (by repeat (first | (with_reducible first | exact HB.out | apply below_alloc | apply pw_below_drewN | apply below_drew1) | exact HB.out)))); have n4_ := Aside0.mk (below_step (by repeat (first | (with_reducible first | exact HB.out | apply below_alloc | apply pw_below_drewN | apply below_drew1) | exact HB.out)) hb); clear HB; have HO109 := n0_; have HO112 := n1_; have HO115 := n2_; have HO120 := n3_; have HB := n4_; clear n0_ n1_ n2_ n3_ n4_; (try clear hb); (try clear hb2); (try clear hk); (try clear hi); (try clear ho0); (try clear ho1); (try clear ho2); (try clear ho3); obtain ⟨Ao10, co10, eo10⟩ := Kd.R_slice HO109.out; subst eo10; obtain ⟨Ao11, co11, eo11⟩ := Kd.R_slice HO112.out; subst eo11; obtain ⟨Ao12, co12, eo12⟩ := Kd.R_slice HO115.out; subst eo12; obtain ⟨Ao13, co13, eo13⟩ := Kd.R_slice HO120.out; subst eo13) | ((with_reducible refine gate_callee (f := 10) rfl ?_); refine goesL_ (some 7) rfl rfl Try.func10 (by kernel_rfl) rfl #[.agg #[.int .i64 t101, .int .i64 t102, .int .i64 t103, .int .i64 t104, .int .i64 t105, .int .i64 t106, .slice Ao10 t107.length co10, .slice Ao11 t110.length co11, .slice Ao12 t113.length co12, .int .i64 t116, .int .i64 t117, .slice Ao13 t118.length co13]] rfl (by (try simp only [List.map_toArray, List.map_cons, List.map_nil]); first | done | rfl | (simp only [List.length_drop, List.length_take]; rfl)) ?_; (with_reducible refine (Cb.Enc.calls k t101 t102 t103 t104 t105 t106 _ _ t107 _ _ t110 _ _ t113 t116 t117 _ _ t118 t121 t124 _ ?side1 ?side2 ?side3 ?side4 ?side5 ?side6 ?side7 ?side8 A2.out).mono ?_); (case side1 => repeat (first | exact (Kd.R_reads' HO109.out).2.2 | (with_reducible refine Kd.C_alloc ?_ _) | (with_reducible refine Kd.C_drewN ?_ _) | (with_reducible refine Kd.C_drew ?_))); (case side2 => exact (Kd.R_reads' HO109.out).2.1); (case side3 => repeat (first | exact (Kd.R_reads' HO112.out).2.2 | (with_reducible refine Kd.C_alloc ?_ _) | (with_reducible refine Kd.C_drewN ?_ _) | (with_reducible refine Kd.C_drew ?_))); (case side4 => exact (Kd.R_reads' HO112.out).2.1); (case side5 => repeat (first | exact (Kd.R_reads' HO115.out).2.2 | (with_reducible refine Kd.C_alloc ?_ _) | (with_reducible refine Kd.C_drewN ?_ _) | (with_reducible refine Kd.C_drew ?_))); (case side6 => exact (Kd.R_reads' HO115.out).2.1); (case side7 => repeat (first | exact (Kd.R_reads' HO120.out).2.2 | (with_reducible refine Kd.C_alloc ?_ _) | (with_reducible refine Kd.C_drewN ?_ _) | (with_reducible refine Kd.C_drew ?_))); (case side8 => exact (Kd.R_reads' HO120.out).2.1); rintro e w14 ⟨v122, rfl, ho0, hb⟩; refine ⟨_, rfl, ?_⟩; have n0_ := Aside0.mk (Kd.R_below (by (with_reducible repeat (first | apply Kd.R_alloc | apply Kd.R_drewN | apply Kd.R_drew)); exact HO109.out) hb); have n1_ := Aside0.mk (Kd.R_below (by (with_reducible repeat (first | apply Kd.R_alloc | apply Kd.R_drewN | apply Kd.R_drew)); exact HO112.out) hb); have n2_ := Aside0.mk (Kd.R_below (by (with_reducible repeat (first | apply Kd.R_alloc | apply Kd.R_drewN | apply Kd.R_drew)); exact HO115.out) hb); have n3_ := Aside0.mk (Kd.R_below (by (with_reducible repeat (first | apply Kd.R_alloc | apply Kd.R_drewN | apply Kd.R_drew)); exact HO120.out) hb); have n4_ := Aside0.mk (Kd.R_lower ho0 (below_size (by repeat (first | (with_reducible first | exact HB.out | apply below_alloc | apply pw_below_drewN | apply below_drew1) | exact HB.out)))); have n5_ := Aside0.mk (below_step (by repeat (first | (with_reducible first | exact HB.out | apply below_alloc | apply pw_below_drewN | apply below_drew1) | exact HB.out)) hb); clear HO109; clear HO112; clear HO115; clear HO120; clear HB; have HO109 := n0_; have HO112 := n1_; have HO115 := n2_; have HO120 := n3_; have HO123 := n4_; have HB := n5_; clear n0_ n1_ n2_ n3_ n4_ n5_; (try clear hb); (try clear hb2); (try clear hk); (try clear hi); (try clear ho0); obtain ⟨Ao15, co15, eo15⟩ := Kd.R_slice HO123.out; subst eo15) | ((with_reducible refine gate_callee (f := 13) rfl ?_); refine goesL_ (some 12) rfl rfl Try.func13 (by kernel_rfl) rfl #[.slice Ao15 t121.length co15] rfl (by (try simp only [List.map_toArray, List.map_cons, List.map_nil]); first | done | rfl | (simp only [List.length_drop, List.length_take]; rfl)) ?_; (with_reducible refine (Cf.Dec.calls k _ _ t121 t125 t126 t127 t128 t129 t130 t131 t134 t137 t140 t141 t142 t145 _ ?side1 ?side2 A3.out).mono ?_); (case side1 => repeat (first | exact (Kd.R_reads' HO123.out).2.2 | (with_reducible refine Kd.C_alloc ?_ _) | (with_reducible refine Kd.C_drewN ?_ _) | (with_reducible refine Kd.C_drew ?_))); (case side2 => exact (Kd.R_reads' HO123.out).2.1); rintro e w16 ⟨v132, v135, v138, v143, rfl, ho0, ho1, ho2, ho3, hb⟩; refine ⟨_, rfl, ?_⟩; have n0_ := Aside0.mk (Kd.R_elder' (by (with_reducible repeat (first | apply Kd.R_alloc | apply Kd.R_drewN | apply Kd.R_drew)); exact HO109.out) (Kd.R_base ho0) hb); have n1_ := Aside0.mk (Kd.R_elder' (by (with_reducible repeat (first | apply Kd.R_alloc | apply Kd.R_drewN | apply Kd.R_drew)); exact HO112.out) (Kd.R_base ho1) hb); have n2_ := Aside0.mk (Kd.R_elder' (by (with_reducible repeat (first | apply Kd.R_alloc | apply Kd.R_drewN | apply Kd.R_drew)); exact HO115.out) (Kd.R_base ho2) hb); have n3_ := Aside0.mk (Kd.R_elder' (by (with_reducible repeat (first | apply Kd.R_alloc | apply Kd.R_drewN | apply Kd.R_drew)); exact HO120.out) (Kd.R_base ho3) hb); have n4_ := Aside0.mk (Kd.R_below (by (with_reducible repeat (first | apply Kd.R_alloc | apply Kd.R_drewN | apply Kd.R_drew)); exact HO123.out) hb); have n5_ := Aside0.mk (Kd.R_lower (Kd.R_new' ho0 (Kd.R_lt (by (with_reducible repeat (first | apply Kd.R_alloc | apply Kd.R_drewN | apply Kd.R_drew)); exact HO109.out))) (below_size (by repeat (first | (with_reducible first | exact HB.out | apply below_alloc | apply pw_below_drewN | apply below_drew1) | exact HB.out)))); have n6_ := Aside0.mk (Kd.R_lower (Kd.R_new' ho1 (Kd.R_lt (by (with_reducible repeat (first | apply Kd.R_alloc | apply Kd.R_drewN | apply Kd.R_drew)); exact HO112.out))) (below_size (by repeat (first | (with_reducible first | exact HB.out | apply below_alloc | apply pw_below_drewN | apply below_drew1) | exact HB.out)))); have n7_ := Aside0.mk (Kd.R_lower (Kd.R_new' ho2 (Kd.R_lt (by (with_reducible repeat (first | apply Kd.R_alloc | apply Kd.R_drewN | apply Kd.R_drew)); exact HO115.out))) (below_size (by repeat (first | (with_reducible first | exact HB.out | apply below_alloc | apply pw_below_drewN | apply below_drew1) | exact HB.out)))); have n8_ := Aside0.mk (Kd.R_lower (Kd.R_new' ho3 (Kd.R_lt (by (with_reducible repeat (first | apply Kd.R_alloc | apply Kd.R_drewN | apply Kd.R_drew)); exact HO120.out))) (below_size (by repeat (first | (with_reducible first | exact HB.out | apply below_alloc | apply pw_below_drewN | apply below_drew1) | exact HB.out)))); have n9_ := Aside0.mk (below_step (by repeat (first | (with_reducible first | exact HB.out | apply below_alloc | apply pw_below_drewN | apply below_drew1) | exact HB.out)) hb); clear HO109; clear HO112; clear HO115; clear HO120; clear HO123; clear HB; have HO109 := n0_; have HO112 := n1_; have HO115 := n2_; have HO120 := n3_; have HO123 := n4_; have HO133 := n5_; have HO136 := n6_; have HO139 := n7_; have HO144 := n8_; have HB := n9_; clear n0_ n1_ n2_ n3_ n4_ n5_ n6_ n7_ n8_ n9_; (try clear hb); (try clear hb2); (try clear hk); (try clear hi); (try clear ho0); (try clear ho1); (try clear ho2); (try clear ho3)) | ((with_reducible refine gate_dst (N := 3) rfl ?_); refine box_event ?hg (N := 3) ?hd (cs := #[.int .i64 0, .int .i64 0, .int .i64 0, .int .i64 0, .int .i64 0, .int .i64 0, .slice none 0 0, .slice none 0 0, .slice none 0 0, .int .i64 0, .int .i64 0, .slice none 0 0]) (t := 29) ?hr ?_; (case hd => rfl); (case hg => rfl); (case hr => first | (go_simp; done) | (go_simp; rfl)); intro gb146 hg w17 hbox hb; have n0_ := Aside0.mk (Kd.R_below (by (with_reducible repeat (first | apply Kd.R_alloc | apply Kd.R_drewN | apply Kd.R_drew)); exact HO109.out) hb); have n1_ := Aside0.mk (Kd.R_below (by (with_reducible repeat (first | apply Kd.R_alloc | apply Kd.R_drewN | apply Kd.R_drew)); exact HO112.out) hb); have n2_ := Aside0.mk (Kd.R_below (by (with_reducible repeat (first | apply Kd.R_alloc | apply Kd.R_drewN | apply Kd.R_drew)); exact HO115.out) hb); have n3_ := Aside0.mk (Kd.R_below (by (with_reducible repeat (first | apply Kd.R_alloc | apply Kd.R_drewN | apply Kd.R_drew)); exact HO120.out) hb); have n4_ := Aside0.mk (Kd.R_below (by (with_reducible repeat (first | apply Kd.R_alloc | apply Kd.R_drewN | apply Kd.R_drew)); exact HO123.out) hb); have n5_ := Aside0.mk (Kd.R_below (by (with_reducible repeat (first | apply Kd.R_alloc | apply Kd.R_drewN | apply Kd.R_drew)); exact HO133.out) hb); have n6_ := Aside0.mk (Kd.R_below (by (with_reducible repeat (first | apply Kd.R_alloc | apply Kd.R_drewN | apply Kd.R_drew)); exact HO136.out) hb); have n7_ := Aside0.mk (Kd.R_below (by (with_reducible repeat (first | apply Kd.R_alloc | apply Kd.R_drewN | apply Kd.R_drew)); exact HO139.out) hb); have n8_ := Aside0.mk (Kd.R_below (by (with_reducible repeat (first | apply Kd.R_alloc | apply Kd.R_drewN | apply Kd.R_drew)); exact HO144.out) hb); have n9_ := Aside0.mk (below_step (by repeat (first | (with_reducible first | exact HB.out | apply below_alloc | apply pw_below_drewN | apply below_drew1) | exact HB.out)) hb); have n10_ := Aside0.mk (hbox); have n11_ := Aside0.mk ((by rw [hg]; exact (below_size (by repeat (first | (with_reducible first | exact HB.out | apply below_alloc | apply pw_below_drewN | apply below_drew1) | exact HB.out))) : w.heap.size ≤ gb146)); have n12_ := Aside0.mk ((by rw [hg]; exact (below_size (by repeat (first | (with_reducible first | exact HB.out | apply below_alloc | apply pw_below_drewN | apply below_drew1) | exact HB.out))) : w.heap.size ≤ gb146)); clear HO109; clear HO112; clear HO115; clear HO120; clear HO123; clear HO133; clear HO136; clear HO139; clear HO144; clear HB; have HO109 := n0_; have HO112 := n1_; have HO115 := n2_; have HO120 := n3_; have HO123 := n4_; have HO133 := n5_; have HO136 := n6_; have HO139 := n7_; have HO144 := n8_; have HB := n9_; have BK146 := n10_; have GW146 := n11_; have GE146 := n12_; clear n0_ n1_ n2_ n3_ n4_ n5_ n6_ n7_ n8_ n9_ n10_ n11_ n12_; clear hb hbox hg; have hcz18_0 : w17.cell? ⟨gb146, 0, none⟩ = some (.int .i64 0) := (blk_cell BK146.out 0).trans rfl; have hcz18_1 : w17.cell? ⟨gb146, 1, none⟩ = some (.int .i64 0) := (blk_cell BK146.out 1).trans rfl; have hcz18_2 : w17.cell? ⟨gb146, 2, none⟩ = some (.int .i64 0) := (blk_cell BK146.out 2).trans rfl; have hcz18_3 : w17.cell? ⟨gb146, 3, none⟩ = some (.int .i64 0) := (blk_cell BK146.out 3).trans rfl; have hcz18_4 : w17.cell? ⟨gb146, 4, none⟩ = some (.int .i64 0) := (blk_cell BK146.out 4).trans rfl; have hcz18_5 : w17.cell? ⟨gb146, 5, none⟩ = some (.int .i64 0) := (blk_cell BK146.out 5).trans rfl; have hcz18_6 : w17.cell? ⟨gb146, 6, none⟩ = some (.slice none 0 0) := (blk_cell BK146.out 6).trans rfl; have hcz18_7 : w17.cell? ⟨gb146, 7, none⟩ = some (.slice none 0 0) := (blk_cell BK146.out 7).trans rfl; have hcz18_8 : w17.cell? ⟨gb146, 8, none⟩ = some (.slice none 0 0) := (blk_cell BK146.out 8).trans rfl; have hcz18_9 : w17.cell? ⟨gb146, 9, none⟩ = some (.int .i64 0) := (blk_cell BK146.out 9).trans rfl; have hcz18_10 : w17.cell? ⟨gb146, 10, none⟩ = some (.int .i64 0) := (blk_cell BK146.out 10).trans rfl; have hcz18_11 : w17.cell? ⟨gb146, 11, none⟩ = some (.slice none 0 0) := (blk_cell BK146.out 11).trans rfl; have hfz18_0 := blk_frozen BK146.out 0; have hfz18_1 := blk_frozen BK146.out 1; have hfz18_2 := blk_frozen BK146.out 2; have hfz18_3 := blk_frozen BK146.out 3; have hfz18_4 := blk_frozen BK146.out 4; have hfz18_5 := blk_frozen BK146.out 5; have hfz18_6 := blk_frozen BK146.out 6; have hfz18_7 := blk_frozen BK146.out 7; have hfz18_8 := blk_frozen BK146.out 8; have hfz18_9 := blk_frozen BK146.out 9; have hfz18_10 := blk_frozen BK146.out 10; have hfz18_11 := blk_frozen BK146.out 11; obtain ⟨Ao19, co19, eo19⟩ := Kd.R_slice HO133.out; subst eo19; obtain ⟨Ao20, co20, eo20⟩ := Kd.R_slice HO136.out; subst eo20; obtain ⟨Ao21, co21, eo21⟩ := Kd.R_slice HO139.out; subst eo21; obtain ⟨Ao22, co22, eo22⟩ := Kd.R_slice HO144.out; subst eo22))
    have n0_ : Aside0 (Kd.R (Kd.int .i64) 2 ((((((((((((w17.setCell ⟨gb146, 0, none⟩ (.int .i64 t125)).setCell ⟨gb146, 1, none⟩ (.int .i64 t126)).setCell ⟨gb146, 2, none⟩ (.int .i64 t127)).setCell ⟨gb146, 3, none⟩ (.int .i64 t128)).setCell ⟨gb146, 4, none⟩ (.int .i64 t129)).setCell ⟨gb146, 5, none⟩ (.int .i64 t130)).setCell ⟨gb146, 6, none⟩ (.slice Ao19 t131.length co19)).setCell ⟨gb146, 7, none⟩ (.slice Ao20 t134.length co20)).setCell ⟨gb146, 8, none⟩ (.slice Ao21 t137.length co21)).setCell ⟨gb146, 9, none⟩ (.int .i64 t140)).setCell ⟨gb146, 10, none⟩ (.int .i64 t141)).setCell ⟨gb146, 11, none⟩ (.slice Ao22 t142.length co22)) w.heap.size (fun k_ => some k_ ≠ (.slice Ao19 t131.length co19 : Value).ownBlock) (.slice Ao10 t107.length co10) t107) := ⟨by (with_reducible repeat (first | apply Kd.R_alloc | apply Kd.R_drewN | apply Kd.R_drew)); exact Kd.R_mono (Kd.R_far (p := ⟨gb146, 11, none⟩) (Kd.R_far (p := ⟨gb146, 10, none⟩) (Kd.R_far (p := ⟨gb146, 9, none⟩) (Kd.R_far (p := ⟨gb146, 8, none⟩) (Kd.R_far (p := ⟨gb146, 7, none⟩) (Kd.R_far (p := ⟨gb146, 6, none⟩) (Kd.R_far (p := ⟨gb146, 5, none⟩) (Kd.R_far (p := ⟨gb146, 4, none⟩) (Kd.R_far (p := ⟨gb146, 3, none⟩) (Kd.R_far (p := ⟨gb146, 2, none⟩) (Kd.R_far (p := ⟨gb146, 1, none⟩) (Kd.R_far (p := ⟨gb146, 0, none⟩) (Kd.R_types HO109.out BK146.out (by decide)) (fun _ hk => hk.2) (.int .i64 t125)) (fun _ hk => hk.2) (.int .i64 t126)) (fun _ hk => hk.2) (.int .i64 t127)) (fun _ hk => hk.2) (.int .i64 t128)) (fun _ hk => hk.2) (.int .i64 t129)) (fun _ hk => hk.2) (.int .i64 t130)) (fun _ hk => hk.2) (.slice Ao19 t131.length co19)) (fun _ hk => hk.2) (.slice Ao20 t134.length co20)) (fun _ hk => hk.2) (.slice Ao21 t137.length co21)) (fun _ hk => hk.2) (.int .i64 t140)) (fun _ hk => hk.2) (.int .i64 t141)) (fun _ hk => hk.2) (.slice Ao22 t142.length co22)) (fun _ hk => hk.1.2)⟩
    have n1_ : Aside0 (Kd.R k51 51 ((((((((((((w17.setCell ⟨gb146, 0, none⟩ (.int .i64 t125)).setCell ⟨gb146, 1, none⟩ (.int .i64 t126)).setCell ⟨gb146, 2, none⟩ (.int .i64 t127)).setCell ⟨gb146, 3, none⟩ (.int .i64 t128)).setCell ⟨gb146, 4, none⟩ (.int .i64 t129)).setCell ⟨gb146, 5, none⟩ (.int .i64 t130)).setCell ⟨gb146, 6, none⟩ (.slice Ao19 t131.length co19)).setCell ⟨gb146, 7, none⟩ (.slice Ao20 t134.length co20)).setCell ⟨gb146, 8, none⟩ (.slice Ao21 t137.length co21)).setCell ⟨gb146, 9, none⟩ (.int .i64 t140)).setCell ⟨gb146, 10, none⟩ (.int .i64 t141)).setCell ⟨gb146, 11, none⟩ (.slice Ao22 t142.length co22)) w.heap.size (fun k_ => some k_ ≠ (.slice Ao20 t134.length co20 : Value).ownBlock) (.slice Ao11 t110.length co11) t110) := ⟨by (with_reducible repeat (first | apply Kd.R_alloc | apply Kd.R_drewN | apply Kd.R_drew)); exact Kd.R_mono (Kd.R_far (p := ⟨gb146, 11, none⟩) (Kd.R_far (p := ⟨gb146, 10, none⟩) (Kd.R_far (p := ⟨gb146, 9, none⟩) (Kd.R_far (p := ⟨gb146, 8, none⟩) (Kd.R_far (p := ⟨gb146, 7, none⟩) (Kd.R_far (p := ⟨gb146, 6, none⟩) (Kd.R_far (p := ⟨gb146, 5, none⟩) (Kd.R_far (p := ⟨gb146, 4, none⟩) (Kd.R_far (p := ⟨gb146, 3, none⟩) (Kd.R_far (p := ⟨gb146, 2, none⟩) (Kd.R_far (p := ⟨gb146, 1, none⟩) (Kd.R_far (p := ⟨gb146, 0, none⟩) (Kd.R_types HO112.out BK146.out (by decide)) (fun _ hk => hk.2) (.int .i64 t125)) (fun _ hk => hk.2) (.int .i64 t126)) (fun _ hk => hk.2) (.int .i64 t127)) (fun _ hk => hk.2) (.int .i64 t128)) (fun _ hk => hk.2) (.int .i64 t129)) (fun _ hk => hk.2) (.int .i64 t130)) (fun _ hk => hk.2) (.slice Ao19 t131.length co19)) (fun _ hk => hk.2) (.slice Ao20 t134.length co20)) (fun _ hk => hk.2) (.slice Ao21 t137.length co21)) (fun _ hk => hk.2) (.int .i64 t140)) (fun _ hk => hk.2) (.int .i64 t141)) (fun _ hk => hk.2) (.slice Ao22 t142.length co22)) (fun _ hk => hk.1.2)⟩
    have n2_ : Aside0 (Kd.R k54 54 ((((((((((((w17.setCell ⟨gb146, 0, none⟩ (.int .i64 t125)).setCell ⟨gb146, 1, none⟩ (.int .i64 t126)).setCell ⟨gb146, 2, none⟩ (.int .i64 t127)).setCell ⟨gb146, 3, none⟩ (.int .i64 t128)).setCell ⟨gb146, 4, none⟩ (.int .i64 t129)).setCell ⟨gb146, 5, none⟩ (.int .i64 t130)).setCell ⟨gb146, 6, none⟩ (.slice Ao19 t131.length co19)).setCell ⟨gb146, 7, none⟩ (.slice Ao20 t134.length co20)).setCell ⟨gb146, 8, none⟩ (.slice Ao21 t137.length co21)).setCell ⟨gb146, 9, none⟩ (.int .i64 t140)).setCell ⟨gb146, 10, none⟩ (.int .i64 t141)).setCell ⟨gb146, 11, none⟩ (.slice Ao22 t142.length co22)) w.heap.size (fun k_ => some k_ ≠ (.slice Ao21 t137.length co21 : Value).ownBlock) (.slice Ao12 t113.length co12) t113) := ⟨by (with_reducible repeat (first | apply Kd.R_alloc | apply Kd.R_drewN | apply Kd.R_drew)); exact Kd.R_mono (Kd.R_far (p := ⟨gb146, 11, none⟩) (Kd.R_far (p := ⟨gb146, 10, none⟩) (Kd.R_far (p := ⟨gb146, 9, none⟩) (Kd.R_far (p := ⟨gb146, 8, none⟩) (Kd.R_far (p := ⟨gb146, 7, none⟩) (Kd.R_far (p := ⟨gb146, 6, none⟩) (Kd.R_far (p := ⟨gb146, 5, none⟩) (Kd.R_far (p := ⟨gb146, 4, none⟩) (Kd.R_far (p := ⟨gb146, 3, none⟩) (Kd.R_far (p := ⟨gb146, 2, none⟩) (Kd.R_far (p := ⟨gb146, 1, none⟩) (Kd.R_far (p := ⟨gb146, 0, none⟩) (Kd.R_types HO115.out BK146.out (by decide)) (fun _ hk => hk.2) (.int .i64 t125)) (fun _ hk => hk.2) (.int .i64 t126)) (fun _ hk => hk.2) (.int .i64 t127)) (fun _ hk => hk.2) (.int .i64 t128)) (fun _ hk => hk.2) (.int .i64 t129)) (fun _ hk => hk.2) (.int .i64 t130)) (fun _ hk => hk.2) (.slice Ao19 t131.length co19)) (fun _ hk => hk.2) (.slice Ao20 t134.length co20)) (fun _ hk => hk.2) (.slice Ao21 t137.length co21)) (fun _ hk => hk.2) (.int .i64 t140)) (fun _ hk => hk.2) (.int .i64 t141)) (fun _ hk => hk.2) (.slice Ao22 t142.length co22)) (fun _ hk => hk.1.2)⟩
    have n3_ : Aside0 (Kd.R k45 45 ((((((((((((w17.setCell ⟨gb146, 0, none⟩ (.int .i64 t125)).setCell ⟨gb146, 1, none⟩ (.int .i64 t126)).setCell ⟨gb146, 2, none⟩ (.int .i64 t127)).setCell ⟨gb146, 3, none⟩ (.int .i64 t128)).setCell ⟨gb146, 4, none⟩ (.int .i64 t129)).setCell ⟨gb146, 5, none⟩ (.int .i64 t130)).setCell ⟨gb146, 6, none⟩ (.slice Ao19 t131.length co19)).setCell ⟨gb146, 7, none⟩ (.slice Ao20 t134.length co20)).setCell ⟨gb146, 8, none⟩ (.slice Ao21 t137.length co21)).setCell ⟨gb146, 9, none⟩ (.int .i64 t140)).setCell ⟨gb146, 10, none⟩ (.int .i64 t141)).setCell ⟨gb146, 11, none⟩ (.slice Ao22 t142.length co22)) w.heap.size (fun k_ => some k_ ≠ (.slice Ao22 t142.length co22 : Value).ownBlock) (.slice Ao13 t118.length co13) t118) := ⟨by (with_reducible repeat (first | apply Kd.R_alloc | apply Kd.R_drewN | apply Kd.R_drew)); exact Kd.R_mono (Kd.R_far (p := ⟨gb146, 11, none⟩) (Kd.R_far (p := ⟨gb146, 10, none⟩) (Kd.R_far (p := ⟨gb146, 9, none⟩) (Kd.R_far (p := ⟨gb146, 8, none⟩) (Kd.R_far (p := ⟨gb146, 7, none⟩) (Kd.R_far (p := ⟨gb146, 6, none⟩) (Kd.R_far (p := ⟨gb146, 5, none⟩) (Kd.R_far (p := ⟨gb146, 4, none⟩) (Kd.R_far (p := ⟨gb146, 3, none⟩) (Kd.R_far (p := ⟨gb146, 2, none⟩) (Kd.R_far (p := ⟨gb146, 1, none⟩) (Kd.R_far (p := ⟨gb146, 0, none⟩) (Kd.R_types HO120.out BK146.out (by decide)) (fun _ hk => hk.2) (.int .i64 t125)) (fun _ hk => hk.2) (.int .i64 t126)) (fun _ hk => hk.2) (.int .i64 t127)) (fun _ hk => hk.2) (.int .i64 t128)) (fun _ hk => hk.2) (.int .i64 t129)) (fun _ hk => hk.2) (.int .i64 t130)) (fun _ hk => hk.2) (.slice Ao19 t131.length co19)) (fun _ hk => hk.2) (.slice Ao20 t134.length co20)) (fun _ hk => hk.2) (.slice Ao21 t137.length co21)) (fun _ hk => hk.2) (.int .i64 t140)) (fun _ hk => hk.2) (.int .i64 t141)) (fun _ hk => hk.2) (.slice Ao22 t142.length co22)) (fun _ hk => hk.1.2)⟩
    have n4_ : Aside0 (Kd.R (Kd.int .u8) 5 ((((((((((((w17.setCell ⟨gb146, 0, none⟩ (.int .i64 t125)).setCell ⟨gb146, 1, none⟩ (.int .i64 t126)).setCell ⟨gb146, 2, none⟩ (.int .i64 t127)).setCell ⟨gb146, 3, none⟩ (.int .i64 t128)).setCell ⟨gb146, 4, none⟩ (.int .i64 t129)).setCell ⟨gb146, 5, none⟩ (.int .i64 t130)).setCell ⟨gb146, 6, none⟩ (.slice Ao19 t131.length co19)).setCell ⟨gb146, 7, none⟩ (.slice Ao20 t134.length co20)).setCell ⟨gb146, 8, none⟩ (.slice Ao21 t137.length co21)).setCell ⟨gb146, 9, none⟩ (.int .i64 t140)).setCell ⟨gb146, 10, none⟩ (.int .i64 t141)).setCell ⟨gb146, 11, none⟩ (.slice Ao22 t142.length co22)) w.heap.size (fun _ => True) (.slice Ao15 t121.length co15) t121) := ⟨by (with_reducible repeat (first | apply Kd.R_alloc | apply Kd.R_drewN | apply Kd.R_drew)); exact Kd.R_mono (Kd.R_far (p := ⟨gb146, 11, none⟩) (Kd.R_far (p := ⟨gb146, 10, none⟩) (Kd.R_far (p := ⟨gb146, 9, none⟩) (Kd.R_far (p := ⟨gb146, 8, none⟩) (Kd.R_far (p := ⟨gb146, 7, none⟩) (Kd.R_far (p := ⟨gb146, 6, none⟩) (Kd.R_far (p := ⟨gb146, 5, none⟩) (Kd.R_far (p := ⟨gb146, 4, none⟩) (Kd.R_far (p := ⟨gb146, 3, none⟩) (Kd.R_far (p := ⟨gb146, 2, none⟩) (Kd.R_far (p := ⟨gb146, 1, none⟩) (Kd.R_far (p := ⟨gb146, 0, none⟩) (Kd.R_types HO123.out BK146.out (by decide)) (fun _ hk => hk.2) (.int .i64 t125)) (fun _ hk => hk.2) (.int .i64 t126)) (fun _ hk => hk.2) (.int .i64 t127)) (fun _ hk => hk.2) (.int .i64 t128)) (fun _ hk => hk.2) (.int .i64 t129)) (fun _ hk => hk.2) (.int .i64 t130)) (fun _ hk => hk.2) (.slice Ao19 t131.length co19)) (fun _ hk => hk.2) (.slice Ao20 t134.length co20)) (fun _ hk => hk.2) (.slice Ao21 t137.length co21)) (fun _ hk => hk.2) (.int .i64 t140)) (fun _ hk => hk.2) (.int .i64 t141)) (fun _ hk => hk.2) (.slice Ao22 t142.length co22)) (fun _ hk => trivial)⟩
    have n5_ : Aside0 (Kd.R (Kd.int .i64) 2 ((((((((((((w17.setCell ⟨gb146, 0, none⟩ (.int .i64 t125)).setCell ⟨gb146, 1, none⟩ (.int .i64 t126)).setCell ⟨gb146, 2, none⟩ (.int .i64 t127)).setCell ⟨gb146, 3, none⟩ (.int .i64 t128)).setCell ⟨gb146, 4, none⟩ (.int .i64 t129)).setCell ⟨gb146, 5, none⟩ (.int .i64 t130)).setCell ⟨gb146, 6, none⟩ (.slice Ao19 t131.length co19)).setCell ⟨gb146, 7, none⟩ (.slice Ao20 t134.length co20)).setCell ⟨gb146, 8, none⟩ (.slice Ao21 t137.length co21)).setCell ⟨gb146, 9, none⟩ (.int .i64 t140)).setCell ⟨gb146, 10, none⟩ (.int .i64 t141)).setCell ⟨gb146, 11, none⟩ (.slice Ao22 t142.length co22)) w.heap.size (fun k_ => some k_ ≠ (.slice Ao10 t107.length co10 : Value).ownBlock) (.slice Ao19 t131.length co19) t131) := ⟨by (with_reducible repeat (first | apply Kd.R_alloc | apply Kd.R_drewN | apply Kd.R_drew)); exact Kd.R_mono (Kd.R_far (p := ⟨gb146, 11, none⟩) (Kd.R_far (p := ⟨gb146, 10, none⟩) (Kd.R_far (p := ⟨gb146, 9, none⟩) (Kd.R_far (p := ⟨gb146, 8, none⟩) (Kd.R_far (p := ⟨gb146, 7, none⟩) (Kd.R_far (p := ⟨gb146, 6, none⟩) (Kd.R_far (p := ⟨gb146, 5, none⟩) (Kd.R_far (p := ⟨gb146, 4, none⟩) (Kd.R_far (p := ⟨gb146, 3, none⟩) (Kd.R_far (p := ⟨gb146, 2, none⟩) (Kd.R_far (p := ⟨gb146, 1, none⟩) (Kd.R_far (p := ⟨gb146, 0, none⟩) (Kd.R_types HO133.out BK146.out (by decide)) (fun _ hk => hk.2) (.int .i64 t125)) (fun _ hk => hk.2) (.int .i64 t126)) (fun _ hk => hk.2) (.int .i64 t127)) (fun _ hk => hk.2) (.int .i64 t128)) (fun _ hk => hk.2) (.int .i64 t129)) (fun _ hk => hk.2) (.int .i64 t130)) (fun _ hk => hk.2) (.slice Ao19 t131.length co19)) (fun _ hk => hk.2) (.slice Ao20 t134.length co20)) (fun _ hk => hk.2) (.slice Ao21 t137.length co21)) (fun _ hk => hk.2) (.int .i64 t140)) (fun _ hk => hk.2) (.int .i64 t141)) (fun _ hk => hk.2) (.slice Ao22 t142.length co22)) (fun _ hk => hk.1.2)⟩
    have n6_ : Aside0 (Kd.R k51 51 ((((((((((((w17.setCell ⟨gb146, 0, none⟩ (.int .i64 t125)).setCell ⟨gb146, 1, none⟩ (.int .i64 t126)).setCell ⟨gb146, 2, none⟩ (.int .i64 t127)).setCell ⟨gb146, 3, none⟩ (.int .i64 t128)).setCell ⟨gb146, 4, none⟩ (.int .i64 t129)).setCell ⟨gb146, 5, none⟩ (.int .i64 t130)).setCell ⟨gb146, 6, none⟩ (.slice Ao19 t131.length co19)).setCell ⟨gb146, 7, none⟩ (.slice Ao20 t134.length co20)).setCell ⟨gb146, 8, none⟩ (.slice Ao21 t137.length co21)).setCell ⟨gb146, 9, none⟩ (.int .i64 t140)).setCell ⟨gb146, 10, none⟩ (.int .i64 t141)).setCell ⟨gb146, 11, none⟩ (.slice Ao22 t142.length co22)) w.heap.size (fun k_ => some k_ ≠ (.slice Ao11 t110.length co11 : Value).ownBlock) (.slice Ao20 t134.length co20) t134) := ⟨by (with_reducible repeat (first | apply Kd.R_alloc | apply Kd.R_drewN | apply Kd.R_drew)); exact Kd.R_mono (Kd.R_far (p := ⟨gb146, 11, none⟩) (Kd.R_far (p := ⟨gb146, 10, none⟩) (Kd.R_far (p := ⟨gb146, 9, none⟩) (Kd.R_far (p := ⟨gb146, 8, none⟩) (Kd.R_far (p := ⟨gb146, 7, none⟩) (Kd.R_far (p := ⟨gb146, 6, none⟩) (Kd.R_far (p := ⟨gb146, 5, none⟩) (Kd.R_far (p := ⟨gb146, 4, none⟩) (Kd.R_far (p := ⟨gb146, 3, none⟩) (Kd.R_far (p := ⟨gb146, 2, none⟩) (Kd.R_far (p := ⟨gb146, 1, none⟩) (Kd.R_far (p := ⟨gb146, 0, none⟩) (Kd.R_types HO136.out BK146.out (by decide)) (fun _ hk => hk.2) (.int .i64 t125)) (fun _ hk => hk.2) (.int .i64 t126)) (fun _ hk => hk.2) (.int .i64 t127)) (fun _ hk => hk.2) (.int .i64 t128)) (fun _ hk => hk.2) (.int .i64 t129)) (fun _ hk => hk.2) (.int .i64 t130)) (fun _ hk => hk.2) (.slice Ao19 t131.length co19)) (fun _ hk => hk.2) (.slice Ao20 t134.length co20)) (fun _ hk => hk.2) (.slice Ao21 t137.length co21)) (fun _ hk => hk.2) (.int .i64 t140)) (fun _ hk => hk.2) (.int .i64 t141)) (fun _ hk => hk.2) (.slice Ao22 t142.length co22)) (fun _ hk => hk.1.2)⟩
    have n7_ : Aside0 (Kd.R k54 54 ((((((((((((w17.setCell ⟨gb146, 0, none⟩ (.int .i64 t125)).setCell ⟨gb146, 1, none⟩ (.int .i64 t126)).setCell ⟨gb146, 2, none⟩ (.int .i64 t127)).setCell ⟨gb146, 3, none⟩ (.int .i64 t128)).setCell ⟨gb146, 4, none⟩ (.int .i64 t129)).setCell ⟨gb146, 5, none⟩ (.int .i64 t130)).setCell ⟨gb146, 6, none⟩ (.slice Ao19 t131.length co19)).setCell ⟨gb146, 7, none⟩ (.slice Ao20 t134.length co20)).setCell ⟨gb146, 8, none⟩ (.slice Ao21 t137.length co21)).setCell ⟨gb146, 9, none⟩ (.int .i64 t140)).setCell ⟨gb146, 10, none⟩ (.int .i64 t141)).setCell ⟨gb146, 11, none⟩ (.slice Ao22 t142.length co22)) w.heap.size (fun k_ => some k_ ≠ (.slice Ao12 t113.length co12 : Value).ownBlock) (.slice Ao21 t137.length co21) t137) := ⟨by (with_reducible repeat (first | apply Kd.R_alloc | apply Kd.R_drewN | apply Kd.R_drew)); exact Kd.R_mono (Kd.R_far (p := ⟨gb146, 11, none⟩) (Kd.R_far (p := ⟨gb146, 10, none⟩) (Kd.R_far (p := ⟨gb146, 9, none⟩) (Kd.R_far (p := ⟨gb146, 8, none⟩) (Kd.R_far (p := ⟨gb146, 7, none⟩) (Kd.R_far (p := ⟨gb146, 6, none⟩) (Kd.R_far (p := ⟨gb146, 5, none⟩) (Kd.R_far (p := ⟨gb146, 4, none⟩) (Kd.R_far (p := ⟨gb146, 3, none⟩) (Kd.R_far (p := ⟨gb146, 2, none⟩) (Kd.R_far (p := ⟨gb146, 1, none⟩) (Kd.R_far (p := ⟨gb146, 0, none⟩) (Kd.R_types HO139.out BK146.out (by decide)) (fun _ hk => hk.2) (.int .i64 t125)) (fun _ hk => hk.2) (.int .i64 t126)) (fun _ hk => hk.2) (.int .i64 t127)) (fun _ hk => hk.2) (.int .i64 t128)) (fun _ hk => hk.2) (.int .i64 t129)) (fun _ hk => hk.2) (.int .i64 t130)) (fun _ hk => hk.2) (.slice Ao19 t131.length co19)) (fun _ hk => hk.2) (.slice Ao20 t134.length co20)) (fun _ hk => hk.2) (.slice Ao21 t137.length co21)) (fun _ hk => hk.2) (.int .i64 t140)) (fun _ hk => hk.2) (.int .i64 t141)) (fun _ hk => hk.2) (.slice Ao22 t142.length co22)) (fun _ hk => hk.1.2)⟩
    have n8_ : Aside0 (Kd.R k45 45 ((((((((((((w17.setCell ⟨gb146, 0, none⟩ (.int .i64 t125)).setCell ⟨gb146, 1, none⟩ (.int .i64 t126)).setCell ⟨gb146, 2, none⟩ (.int .i64 t127)).setCell ⟨gb146, 3, none⟩ (.int .i64 t128)).setCell ⟨gb146, 4, none⟩ (.int .i64 t129)).setCell ⟨gb146, 5, none⟩ (.int .i64 t130)).setCell ⟨gb146, 6, none⟩ (.slice Ao19 t131.length co19)).setCell ⟨gb146, 7, none⟩ (.slice Ao20 t134.length co20)).setCell ⟨gb146, 8, none⟩ (.slice Ao21 t137.length co21)).setCell ⟨gb146, 9, none⟩ (.int .i64 t140)).setCell ⟨gb146, 10, none⟩ (.int .i64 t141)).setCell ⟨gb146, 11, none⟩ (.slice Ao22 t142.length co22)) w.heap.size (fun k_ => some k_ ≠ (.slice Ao13 t118.length co13 : Value).ownBlock) (.slice Ao22 t142.length co22) t142) := ⟨by (with_reducible repeat (first | apply Kd.R_alloc | apply Kd.R_drewN | apply Kd.R_drew)); exact Kd.R_mono (Kd.R_far (p := ⟨gb146, 11, none⟩) (Kd.R_far (p := ⟨gb146, 10, none⟩) (Kd.R_far (p := ⟨gb146, 9, none⟩) (Kd.R_far (p := ⟨gb146, 8, none⟩) (Kd.R_far (p := ⟨gb146, 7, none⟩) (Kd.R_far (p := ⟨gb146, 6, none⟩) (Kd.R_far (p := ⟨gb146, 5, none⟩) (Kd.R_far (p := ⟨gb146, 4, none⟩) (Kd.R_far (p := ⟨gb146, 3, none⟩) (Kd.R_far (p := ⟨gb146, 2, none⟩) (Kd.R_far (p := ⟨gb146, 1, none⟩) (Kd.R_far (p := ⟨gb146, 0, none⟩) (Kd.R_types HO144.out BK146.out (by decide)) (fun _ hk => hk.2) (.int .i64 t125)) (fun _ hk => hk.2) (.int .i64 t126)) (fun _ hk => hk.2) (.int .i64 t127)) (fun _ hk => hk.2) (.int .i64 t128)) (fun _ hk => hk.2) (.int .i64 t129)) (fun _ hk => hk.2) (.int .i64 t130)) (fun _ hk => hk.2) (.slice Ao19 t131.length co19)) (fun _ hk => hk.2) (.slice Ao20 t134.length co20)) (fun _ hk => hk.2) (.slice Ao21 t137.length co21)) (fun _ hk => hk.2) (.int .i64 t140)) (fun _ hk => hk.2) (.int .i64 t141)) (fun _ hk => hk.2) (.slice Ao22 t142.length co22)) (fun _ hk => hk.1.2)⟩
    have n9_ : Aside0 (((((((((((((w17.setCell ⟨gb146, 0, none⟩ (.int .i64 t125)).setCell ⟨gb146, 1, none⟩ (.int .i64 t126)).setCell ⟨gb146, 2, none⟩ (.int .i64 t127)).setCell ⟨gb146, 3, none⟩ (.int .i64 t128)).setCell ⟨gb146, 4, none⟩ (.int .i64 t129)).setCell ⟨gb146, 5, none⟩ (.int .i64 t130)).setCell ⟨gb146, 6, none⟩ (.slice Ao19 t131.length co19)).setCell ⟨gb146, 7, none⟩ (.slice Ao20 t134.length co20)).setCell ⟨gb146, 8, none⟩ (.slice Ao21 t137.length co21)).setCell ⟨gb146, 9, none⟩ (.int .i64 t140)).setCell ⟨gb146, 10, none⟩ (.int .i64 t141)).setCell ⟨gb146, 11, none⟩ (.slice Ao22 t142.length co22)).heap[gb146]? = some (.cells #[.int .i64 t125, .int .i64 t126, .int .i64 t127, .int .i64 t128, .int .i64 t129, .int .i64 t130, .slice Ao19 t131.length co19, .slice Ao20 t134.length co20, .slice Ao21 t137.length co21, .int .i64 t140, .int .i64 t141, .slice Ao22 t142.length co22] 29 (0, 0))) := ⟨by (with_reducible repeat (first | refine blk_drewN ?_ _ | refine blk_drew ?_ | refine blk_alloc ?_ _)); refine blk_put (cs := #[.int .i64 t125, .int .i64 t126, .int .i64 t127, .int .i64 t128, .int .i64 t129, .int .i64 t130, .slice Ao19 t131.length co19, .slice Ao20 t134.length co20, .slice Ao21 t137.length co21, .int .i64 t140, .int .i64 t141, .slice none 0 0]) ?_ 11 _ rfl; (with_reducible repeat (first | refine blk_drewN ?_ _ | refine blk_drew ?_ | refine blk_alloc ?_ _)); refine blk_put (cs := #[.int .i64 t125, .int .i64 t126, .int .i64 t127, .int .i64 t128, .int .i64 t129, .int .i64 t130, .slice Ao19 t131.length co19, .slice Ao20 t134.length co20, .slice Ao21 t137.length co21, .int .i64 t140, .int .i64 0, .slice none 0 0]) ?_ 10 _ rfl; (with_reducible repeat (first | refine blk_drewN ?_ _ | refine blk_drew ?_ | refine blk_alloc ?_ _)); refine blk_put (cs := #[.int .i64 t125, .int .i64 t126, .int .i64 t127, .int .i64 t128, .int .i64 t129, .int .i64 t130, .slice Ao19 t131.length co19, .slice Ao20 t134.length co20, .slice Ao21 t137.length co21, .int .i64 0, .int .i64 0, .slice none 0 0]) ?_ 9 _ rfl; (with_reducible repeat (first | refine blk_drewN ?_ _ | refine blk_drew ?_ | refine blk_alloc ?_ _)); refine blk_put (cs := #[.int .i64 t125, .int .i64 t126, .int .i64 t127, .int .i64 t128, .int .i64 t129, .int .i64 t130, .slice Ao19 t131.length co19, .slice Ao20 t134.length co20, .slice none 0 0, .int .i64 0, .int .i64 0, .slice none 0 0]) ?_ 8 _ rfl; (with_reducible repeat (first | refine blk_drewN ?_ _ | refine blk_drew ?_ | refine blk_alloc ?_ _)); refine blk_put (cs := #[.int .i64 t125, .int .i64 t126, .int .i64 t127, .int .i64 t128, .int .i64 t129, .int .i64 t130, .slice Ao19 t131.length co19, .slice none 0 0, .slice none 0 0, .int .i64 0, .int .i64 0, .slice none 0 0]) ?_ 7 _ rfl; (with_reducible repeat (first | refine blk_drewN ?_ _ | refine blk_drew ?_ | refine blk_alloc ?_ _)); refine blk_put (cs := #[.int .i64 t125, .int .i64 t126, .int .i64 t127, .int .i64 t128, .int .i64 t129, .int .i64 t130, .slice none 0 0, .slice none 0 0, .slice none 0 0, .int .i64 0, .int .i64 0, .slice none 0 0]) ?_ 6 _ rfl; (with_reducible repeat (first | refine blk_drewN ?_ _ | refine blk_drew ?_ | refine blk_alloc ?_ _)); refine blk_put (cs := #[.int .i64 t125, .int .i64 t126, .int .i64 t127, .int .i64 t128, .int .i64 t129, .int .i64 0, .slice none 0 0, .slice none 0 0, .slice none 0 0, .int .i64 0, .int .i64 0, .slice none 0 0]) ?_ 5 _ rfl; (with_reducible repeat (first | refine blk_drewN ?_ _ | refine blk_drew ?_ | refine blk_alloc ?_ _)); refine blk_put (cs := #[.int .i64 t125, .int .i64 t126, .int .i64 t127, .int .i64 t128, .int .i64 0, .int .i64 0, .slice none 0 0, .slice none 0 0, .slice none 0 0, .int .i64 0, .int .i64 0, .slice none 0 0]) ?_ 4 _ rfl; (with_reducible repeat (first | refine blk_drewN ?_ _ | refine blk_drew ?_ | refine blk_alloc ?_ _)); refine blk_put (cs := #[.int .i64 t125, .int .i64 t126, .int .i64 t127, .int .i64 0, .int .i64 0, .int .i64 0, .slice none 0 0, .slice none 0 0, .slice none 0 0, .int .i64 0, .int .i64 0, .slice none 0 0]) ?_ 3 _ rfl; (with_reducible repeat (first | refine blk_drewN ?_ _ | refine blk_drew ?_ | refine blk_alloc ?_ _)); refine blk_put (cs := #[.int .i64 t125, .int .i64 t126, .int .i64 0, .int .i64 0, .int .i64 0, .int .i64 0, .slice none 0 0, .slice none 0 0, .slice none 0 0, .int .i64 0, .int .i64 0, .slice none 0 0]) ?_ 2 _ rfl; (with_reducible repeat (first | refine blk_drewN ?_ _ | refine blk_drew ?_ | refine blk_alloc ?_ _)); refine blk_put (cs := #[.int .i64 t125, .int .i64 0, .int .i64 0, .int .i64 0, .int .i64 0, .int .i64 0, .slice none 0 0, .slice none 0 0, .slice none 0 0, .int .i64 0, .int .i64 0, .slice none 0 0]) ?_ 1 _ rfl; (with_reducible repeat (first | refine blk_drewN ?_ _ | refine blk_drew ?_ | refine blk_alloc ?_ _)); refine blk_put (cs := #[.int .i64 0, .int .i64 0, .int .i64 0, .int .i64 0, .int .i64 0, .int .i64 0, .slice none 0 0, .slice none 0 0, .slice none 0 0, .int .i64 0, .int .i64 0, .slice none 0 0]) ?_ 0 _ rfl; (with_reducible repeat (first | refine blk_drewN ?_ _ | refine blk_drew ?_ | refine blk_alloc ?_ _)); exact BK146.out⟩
    have n10_ : Aside0 (Below w.heap.size w ((((((((((((w17.setCell ⟨gb146, 0, none⟩ (.int .i64 t125)).setCell ⟨gb146, 1, none⟩ (.int .i64 t126)).setCell ⟨gb146, 2, none⟩ (.int .i64 t127)).setCell ⟨gb146, 3, none⟩ (.int .i64 t128)).setCell ⟨gb146, 4, none⟩ (.int .i64 t129)).setCell ⟨gb146, 5, none⟩ (.int .i64 t130)).setCell ⟨gb146, 6, none⟩ (.slice Ao19 t131.length co19)).setCell ⟨gb146, 7, none⟩ (.slice Ao20 t134.length co20)).setCell ⟨gb146, 8, none⟩ (.slice Ao21 t137.length co21)).setCell ⟨gb146, 9, none⟩ (.int .i64 t140)).setCell ⟨gb146, 10, none⟩ (.int .i64 t141)).setCell ⟨gb146, 11, none⟩ (.slice Ao22 t142.length co22))) := ⟨by repeat (first | (with_reducible first | exact HB.out | apply below_alloc | apply pw_below_drewN | apply below_drew1 | refine below_set ?_ GE146.out) | exact HB.out)⟩
    (try clear HO109)
    (try clear HO112)
    (try clear HO115)
    (try clear HO120)
    (try clear HO123)
    (try clear HO133)
    (try clear HO136)
    (try clear HO139)
    (try clear HO144)
    (try clear BK146)
    (try clear HB)
    generalize ((((((((((((w17.setCell ⟨gb146, 0, none⟩ (.int .i64 t125)).setCell ⟨gb146, 1, none⟩ (.int .i64 t126)).setCell ⟨gb146, 2, none⟩ (.int .i64 t127)).setCell ⟨gb146, 3, none⟩ (.int .i64 t128)).setCell ⟨gb146, 4, none⟩ (.int .i64 t129)).setCell ⟨gb146, 5, none⟩ (.int .i64 t130)).setCell ⟨gb146, 6, none⟩ (.slice Ao19 t131.length co19)).setCell ⟨gb146, 7, none⟩ (.slice Ao20 t134.length co20)).setCell ⟨gb146, 8, none⟩ (.slice Ao21 t137.length co21)).setCell ⟨gb146, 9, none⟩ (.int .i64 t140)).setCell ⟨gb146, 10, none⟩ (.int .i64 t141)).setCell ⟨gb146, 11, none⟩ (.slice Ao22 t142.length co22)) = w23 at n0_ n1_ n2_ n3_ n4_ n5_ n6_ n7_ n8_ n9_ n10_ ⊢
    have HO109 := n0_
    have HO112 := n1_
    have HO115 := n2_
    have HO120 := n3_
    have HO123 := n4_
    have HO133 := n5_
    have HO136 := n6_
    have HO139 := n7_
    have HO144 := n8_
    have BK146 := n9_
    have HB := n10_
    clear n0_ n1_ n2_ n3_ n4_ n5_ n6_ n7_ n8_ n9_ n10_
    have n0_ := Aside0.mk (Kd.R_drew HO109.out)
    have n1_ := Aside0.mk (Kd.R_drew HO112.out)
    have n2_ := Aside0.mk (Kd.R_drew HO115.out)
    have n3_ := Aside0.mk (Kd.R_drew HO120.out)
    have n4_ := Aside0.mk (Kd.R_drew HO123.out)
    have n5_ := Aside0.mk (Kd.R_drew HO133.out)
    have n6_ := Aside0.mk (Kd.R_drew HO136.out)
    have n7_ := Aside0.mk (Kd.R_drew HO139.out)
    have n8_ := Aside0.mk (Kd.R_drew HO144.out)
    have n9_ := Aside0.mk (blk_drew BK146.out)
    have n10_ := Aside0.mk (below_drew1 HB.out)
    clear HO109
    clear HO112
    clear HO115
    clear HO120
    clear HO123
    clear HO133
    clear HO136
    clear HO139
    clear HO144
    clear BK146
    clear HB
    have HO109 := n0_
    have HO112 := n1_
    have HO115 := n2_
    have HO120 := n3_
    have HO123 := n4_
    have HO133 := n5_
    have HO136 := n6_
    have HO139 := n7_
    have HO144 := n8_
    have BK146 := n9_
    have HB := n10_
    clear n0_ n1_ n2_ n3_ n4_ n5_ n6_ n7_ n8_ n9_ n10_
    refine start_ (n := 17) (S := fun w' => w'.cell? ⟨gb146, 0, none⟩ = some (.int .i64 t125) ∧ w'.cell? ⟨gb146, 1, none⟩ = some (.int .i64 t126) ∧ w'.cell? ⟨gb146, 2, none⟩ = some (.int .i64 t127) ∧ w'.cell? ⟨gb146, 3, none⟩ = some (.int .i64 t128) ∧ w'.cell? ⟨gb146, 4, none⟩ = some (.int .i64 t129) ∧ w'.cell? ⟨gb146, 5, none⟩ = some (.int .i64 t130) ∧ w'.cell? ⟨gb146, 6, none⟩ = some (.slice Ao19 t131.length co19) ∧ w'.cell? ⟨gb146, 7, none⟩ = some (.slice Ao20 t134.length co20) ∧ w'.cell? ⟨gb146, 8, none⟩ = some (.slice Ao21 t137.length co21) ∧ w'.cell? ⟨gb146, 9, none⟩ = some (.int .i64 t140) ∧ w'.cell? ⟨gb146, 10, none⟩ = some (.int .i64 t141) ∧ w'.cell? ⟨gb146, 11, none⟩ = some (.slice Ao22 t142.length co22)) (ds := []) #[false, false, false, false, false, false, false, false, false, false, false, false, false, false, false, false, false] (by kernel_rfl) rfl rfl ⟨(blk_cell BK146.out 0).trans rfl, (blk_cell BK146.out 1).trans rfl, (blk_cell BK146.out 2).trans rfl, (blk_cell BK146.out 3).trans rfl, (blk_cell BK146.out 4).trans rfl, (blk_cell BK146.out 5).trans rfl, (blk_cell BK146.out 6).trans rfl, (blk_cell BK146.out 7).trans rfl, (blk_cell BK146.out 8).trans rfl, (blk_cell BK146.out 9).trans rfl, (blk_cell BK146.out 10).trans rfl, (blk_cell BK146.out 11).trans rfl⟩ (fun hHeld => ?_); refine with_tabW capstanlaw22_awake.tab3 capstanlaw22_awake.bits3 (fun HT_ HW_ => ?_)
    generalize w23.drew = w24 at HO109 HO112 HO115 HO120 HO123 HO133 HO136 HO139 HO144 BK146 HB hHeld ⊢
    refine pure_ (i := 0) (N := some 15) (v := ?_) (a' := ?_) #[true, false, false, false, false, false, false, false, false, false, false, false, false, false, false, false, false] rfl rfl (any_of HT_.out (by kernel_rfl)) (fun _ _ _ h => h) (Or.inl ⟨by rfl, ?_⟩) ?_ ?_
    rotate_left
    ·intro w'
     go_simp
     with_reducible rfl
    rotate_left
    ·simp only [Act.put, List.setIfInBounds_toArray, List.set_cons_zero, List.set_cons_succ, i64_w, i32_w]
     rfl
    refine pure_ (i := 1) (N := some 16) (v := ?_) (a' := ?_) #[true, true, false, false, false, false, false, false, false, false, false, false, false, false, false, false, false] rfl rfl (any_of HT_.out (by kernel_rfl)) (fun _ _ _ h => h) (Or.inl ⟨by rfl, ?_⟩) ?_ ?_
    rotate_left
    ·intro w'
     go_simp
     with_reducible rfl
    rotate_left
    ·simp only [Act.put, List.setIfInBounds_toArray, List.set_cons_zero, List.set_cons_succ, i64_w, i32_w]
     rfl
    refine pure_ (i := 2) (N := some 17) (v := ?_) (a' := ?_) #[true, true, true, false, false, false, false, false, false, false, false, false, false, false, false, false, false] rfl rfl (any_of HT_.out (by kernel_rfl)) (fun _ _ _ h => h) (Or.inl ⟨by rfl, ?_⟩) ?_ ?_
    rotate_left
    ·intro w'
     go_simp
     with_reducible rfl
    rotate_left
    ·simp only [Act.put, List.setIfInBounds_toArray, List.set_cons_zero, List.set_cons_succ, i64_w, i32_w]
     rfl
    refine pure_ (i := 3) (N := some 18) (v := ?_) (a' := ?_) #[true, true, true, true, false, false, false, false, false, false, false, false, false, false, false, false, false] rfl rfl (any_of HT_.out (by kernel_rfl)) (fun _ _ _ h => h) (Or.inl ⟨by rfl, ?_⟩) ?_ ?_
    rotate_left
    ·intro w'
     go_simp
     with_reducible rfl
    rotate_left
    ·simp only [Act.put, List.setIfInBounds_toArray, List.set_cons_zero, List.set_cons_succ, i64_w, i32_w]
     rfl
    refine pure_ (i := 4) (N := some 19) (v := ?_) (a' := ?_) #[true, true, true, true, true, false, false, false, false, false, false, false, false, false, false, false, false] rfl rfl (any_of HT_.out (by kernel_rfl)) (fun _ _ _ h => h) (Or.inl ⟨by rfl, ?_⟩) ?_ ?_
    rotate_left
    ·intro w'
     go_simp
     with_reducible rfl
    rotate_left
    ·simp only [Act.put, List.setIfInBounds_toArray, List.set_cons_zero, List.set_cons_succ, i64_w, i32_w]
     rfl
    refine pure_ (i := 5) (N := some 20) (v := ?_) (a' := ?_) #[true, true, true, true, true, true, false, false, false, false, false, false, false, false, false, false, false] rfl rfl (any_of HT_.out (by kernel_rfl)) (fun _ _ _ h => h) (Or.inl ⟨by rfl, ?_⟩) ?_ ?_
    rotate_left
    ·intro w'
     go_simp
     with_reducible rfl
    rotate_left
    ·simp only [Act.put, List.setIfInBounds_toArray, List.set_cons_zero, List.set_cons_succ, i64_w, i32_w]
     rfl
    refine pure_ (i := 6) (N := some 21) (v := ?_) (a' := ?_) #[true, true, true, true, true, true, true, false, false, false, false, false, false, false, false, false, false] rfl rfl (any_of HT_.out (by kernel_rfl)) (fun _ _ _ h => h) (Or.inl ⟨by rfl, ?_⟩) ?_ ?_
    rotate_left
    ·intro w'
     go_simp
     with_reducible rfl
    rotate_left
    ·simp only [Act.put, List.setIfInBounds_toArray, List.set_cons_zero, List.set_cons_succ, i64_w, i32_w]
     rfl
    refine pure_ (i := 7) (N := some 22) (v := ?_) (a' := ?_) #[true, true, true, true, true, true, true, true, false, false, false, false, false, false, false, false, false] rfl rfl (any_of HT_.out (by kernel_rfl)) (fun _ _ _ h => h) (Or.inl ⟨by rfl, ?_⟩) ?_ ?_
    rotate_left
    ·intro w'
     go_simp
     with_reducible rfl
    rotate_left
    ·simp only [Act.put, List.setIfInBounds_toArray, List.set_cons_zero, List.set_cons_succ, i64_w, i32_w]
     rfl
    refine pure_ (i := 8) (N := some 23) (v := ?_) (a' := ?_) #[true, true, true, true, true, true, true, true, true, false, false, false, false, false, false, false, false] rfl rfl (any_of HT_.out (by kernel_rfl)) (fun _ _ _ h => h) (Or.inl ⟨by rfl, ?_⟩) ?_ ?_
    rotate_left
    ·intro w'
     go_simp
     with_reducible rfl
    rotate_left
    ·simp only [Act.put, List.setIfInBounds_toArray, List.set_cons_zero, List.set_cons_succ, i64_w, i32_w]
     rfl
    refine pure_ (i := 9) (N := some 24) (v := ?_) (a' := ?_) #[true, true, true, true, true, true, true, true, true, true, false, false, false, false, false, false, false] rfl rfl (any_of HT_.out (by kernel_rfl)) (fun _ _ _ h => h) (Or.inl ⟨by rfl, ?_⟩) ?_ ?_
    rotate_left
    ·intro w'
     go_simp
     with_reducible rfl
    rotate_left
    ·simp only [Act.put, List.setIfInBounds_toArray, List.set_cons_zero, List.set_cons_succ, i64_w, i32_w]
     rfl
    refine pure_ (i := 10) (N := some 25) (v := ?_) (a' := ?_) #[true, true, true, true, true, true, true, true, true, true, true, false, false, false, false, false, false] rfl rfl (any_of HT_.out (by kernel_rfl)) (fun _ _ _ h => h) (Or.inl ⟨by rfl, ?_⟩) ?_ ?_
    rotate_left
    ·intro w'
     go_simp
     with_reducible rfl
    rotate_left
    ·simp only [Act.put, List.setIfInBounds_toArray, List.set_cons_zero, List.set_cons_succ, i64_w, i32_w]
     rfl
    refine pure_ (i := 11) (N := some 26) (v := ?_) (a' := ?_) #[true, true, true, true, true, true, true, true, true, true, true, true, false, false, false, false, false] rfl rfl (any_of HT_.out (by kernel_rfl)) (fun _ _ _ h => h) (Or.inl ⟨by rfl, ?_⟩) ?_ ?_
    rotate_left
    ·intro w'
     go_simp
     with_reducible rfl
    rotate_left
    ·simp only [Act.put, List.setIfInBounds_toArray, List.set_cons_zero, List.set_cons_succ, i64_w, i32_w]
     rfl
    refine take_ (i := 12) (N := some 27) (v := ?_) (a' := ?_) #[true, true, true, true, true, true, true, true, true, true, true, true, true, false, false, false, false] rfl rfl (take_ofW HT_.out HW_.out (by kernel_rfl)) (fun _ _ _ h => h) (Or.inl ⟨by rfl, ?_⟩) hHeld ?_ ?_
    rotate_left
    ·rintro w' ⟨s0, s1, s2, s3, s4, s5, s6, s7, s8, s9, s10, s11⟩
     go_simp
     with_reducible rfl
    rotate_left
    ·simp only [Act.put, List.setIfInBounds_toArray, List.set_cons_zero, List.set_cons_succ, i64_w, i32_w]
     rfl
    refine one_ (i := 13) (N := some 28) #[true, true, true, true, true, true, true, true, true, true, true, true, true, true, false, false, false] rfl rfl (one_of HT_.out (by kernel_rfl)) (by decide) (fun K hK => ?_)
    refine goes_ Try.func16 (by kernel_rfl) rfl #[] (by rfl) rfl rfl (by (try simp only [List.map_toArray, List.map_cons, List.map_nil]); first | done | rfl | (simp only [List.length_drop, List.length_take]; rfl)) ?_
    with_reducible refine (OP.capstanlaw22_least.calls  t147 t148 t149 t150 t151 t152 t153 t156 t159 t162 t163 t164 _ A7.out).mono ?_
    rintro e w25 ⟨v154, v157, v160, v165, rfl, ho0, ho1, ho2, ho3, hb⟩
    refine ⟨_, rfl, ?_⟩
    have n0_ := Aside0.mk (Kd.R_elder' (by (with_reducible repeat (first | apply Kd.R_alloc | apply Kd.R_drewN | apply Kd.R_drew)); exact HO109.out) (Kd.R_base ho0) hb)
    have n1_ := Aside0.mk (Kd.R_elder' (by (with_reducible repeat (first | apply Kd.R_alloc | apply Kd.R_drewN | apply Kd.R_drew)); exact HO112.out) (Kd.R_base ho1) hb)
    have n2_ := Aside0.mk (Kd.R_elder' (by (with_reducible repeat (first | apply Kd.R_alloc | apply Kd.R_drewN | apply Kd.R_drew)); exact HO115.out) (Kd.R_base ho2) hb)
    have n3_ := Aside0.mk (Kd.R_elder' (by (with_reducible repeat (first | apply Kd.R_alloc | apply Kd.R_drewN | apply Kd.R_drew)); exact HO120.out) (Kd.R_base ho3) hb)
    have n4_ := Aside0.mk (Kd.R_below (by (with_reducible repeat (first | apply Kd.R_alloc | apply Kd.R_drewN | apply Kd.R_drew)); exact HO123.out) hb)
    have n5_ := Aside0.mk (Kd.R_elder' (by (with_reducible repeat (first | apply Kd.R_alloc | apply Kd.R_drewN | apply Kd.R_drew)); exact HO133.out) (Kd.R_base ho0) hb)
    have n6_ := Aside0.mk (Kd.R_elder' (by (with_reducible repeat (first | apply Kd.R_alloc | apply Kd.R_drewN | apply Kd.R_drew)); exact HO136.out) (Kd.R_base ho1) hb)
    have n7_ := Aside0.mk (Kd.R_elder' (by (with_reducible repeat (first | apply Kd.R_alloc | apply Kd.R_drewN | apply Kd.R_drew)); exact HO139.out) (Kd.R_base ho2) hb)
    have n8_ := Aside0.mk (Kd.R_elder' (by (with_reducible repeat (first | apply Kd.R_alloc | apply Kd.R_drewN | apply Kd.R_drew)); exact HO144.out) (Kd.R_base ho3) hb)
    have n9_ := Aside0.mk (Kd.R_lower (Kd.R_new' (Kd.R_new' ho0 (Kd.R_lt (by (with_reducible repeat (first | apply Kd.R_alloc | apply Kd.R_drewN | apply Kd.R_drew)); exact HO109.out))) (Kd.R_lt (by (with_reducible repeat (first | apply Kd.R_alloc | apply Kd.R_drewN | apply Kd.R_drew)); exact HO133.out))) (below_size (by repeat (first | (with_reducible first | exact HB.out | apply below_alloc | apply pw_below_drewN | apply below_drew1 | refine below_set ?_ GE146.out) | exact HB.out))))
    have n10_ := Aside0.mk (Kd.R_lower (Kd.R_new' (Kd.R_new' ho1 (Kd.R_lt (by (with_reducible repeat (first | apply Kd.R_alloc | apply Kd.R_drewN | apply Kd.R_drew)); exact HO112.out))) (Kd.R_lt (by (with_reducible repeat (first | apply Kd.R_alloc | apply Kd.R_drewN | apply Kd.R_drew)); exact HO136.out))) (below_size (by repeat (first | (with_reducible first | exact HB.out | apply below_alloc | apply pw_below_drewN | apply below_drew1 | refine below_set ?_ GE146.out) | exact HB.out))))
    have n11_ := Aside0.mk (Kd.R_lower (Kd.R_new' (Kd.R_new' ho2 (Kd.R_lt (by (with_reducible repeat (first | apply Kd.R_alloc | apply Kd.R_drewN | apply Kd.R_drew)); exact HO115.out))) (Kd.R_lt (by (with_reducible repeat (first | apply Kd.R_alloc | apply Kd.R_drewN | apply Kd.R_drew)); exact HO139.out))) (below_size (by repeat (first | (with_reducible first | exact HB.out | apply below_alloc | apply pw_below_drewN | apply below_drew1 | refine below_set ?_ GE146.out) | exact HB.out))))
    have n12_ := Aside0.mk (Kd.R_lower (Kd.R_new' (Kd.R_new' ho3 (Kd.R_lt (by (with_reducible repeat (first | apply Kd.R_alloc | apply Kd.R_drewN | apply Kd.R_drew)); exact HO120.out))) (Kd.R_lt (by (with_reducible repeat (first | apply Kd.R_alloc | apply Kd.R_drewN | apply Kd.R_drew)); exact HO144.out))) (below_size (by repeat (first | (with_reducible first | exact HB.out | apply below_alloc | apply pw_below_drewN | apply below_drew1 | refine below_set ?_ GE146.out) | exact HB.out))))
    have n13_ := Aside0.mk (blk_below (g := gb146) (o := .cells #[.int .i64 t125, .int .i64 t126, .int .i64 t127, .int .i64 t128, .int .i64 t129, .int .i64 t130, .slice Ao19 t131.length co19, .slice Ao20 t134.length co20, .slice Ao21 t137.length co21, .int .i64 t140, .int .i64 t141, .slice Ao22 t142.length co22] 29 (0, 0)) (by (with_reducible repeat (first | refine blk_drewN ?_ _ | refine blk_drew ?_ | refine blk_alloc ?_ _)); exact BK146.out) hb)
    have n14_ := Aside0.mk (below_step (by repeat (first | (with_reducible first | exact HB.out | apply below_alloc | apply pw_below_drewN | apply below_drew1 | refine below_set ?_ GE146.out) | exact HB.out)) hb)
    clear HO109
    clear HO112
    clear HO115
    clear HO120
    clear HO123
    clear HO133
    clear HO136
    clear HO139
    clear HO144
    clear BK146
    clear HB
    have HO109 := n0_
    have HO112 := n1_
    have HO115 := n2_
    have HO120 := n3_
    have HO123 := n4_
    have HO133 := n5_
    have HO136 := n6_
    have HO139 := n7_
    have HO144 := n8_
    have HO155 := n9_
    have HO158 := n10_
    have HO161 := n11_
    have HO166 := n12_
    have BK146 := n13_
    have HB := n14_
    clear n0_ n1_ n2_ n3_ n4_ n5_ n6_ n7_ n8_ n9_ n10_ n11_ n12_ n13_ n14_
    (try clear hb)
    (try clear hb2)
    (try clear hk)
    (try clear hi)
    (try clear ho0)
    (try clear ho1)
    (try clear ho2)
    (try clear ho3)
    obtain ⟨Ao26, co26, eo26⟩ := Kd.R_slice HO155.out
    (first | subst eo26 | (injection eo26 with f1_ f2_ f3_; have f4_ := f1_.symm; have f5_ := f3_.symm; clear f1_ f2_ f3_; subst f4_; subst f5_))
    obtain ⟨Ao27, co27, eo27⟩ := Kd.R_slice HO158.out
    (first | subst eo27 | (injection eo27 with f1_ f2_ f3_; have f4_ := f1_.symm; have f5_ := f3_.symm; clear f1_ f2_ f3_; subst f4_; subst f5_))
    obtain ⟨Ao28, co28, eo28⟩ := Kd.R_slice HO161.out
    (first | subst eo28 | (injection eo28 with f1_ f2_ f3_; have f4_ := f1_.symm; have f5_ := f3_.symm; clear f1_ f2_ f3_; subst f4_; subst f5_))
    obtain ⟨Ao29, co29, eo29⟩ := Kd.R_slice HO166.out
    (first | subst eo29 | (injection eo29 with f1_ f2_ f3_; have f4_ := f1_.symm; have f5_ := f3_.symm; clear f1_ f2_ f3_; subst f4_; subst f5_))
    refine hK.out _ _ ⟨(blk_cell BK146.out 0).trans rfl, (blk_cell BK146.out 1).trans rfl, (blk_cell BK146.out 2).trans rfl, (blk_cell BK146.out 3).trans rfl, (blk_cell BK146.out 4).trans rfl, (blk_cell BK146.out 5).trans rfl, (blk_cell BK146.out 6).trans rfl, (blk_cell BK146.out 7).trans rfl, (blk_cell BK146.out 8).trans rfl, (blk_cell BK146.out 9).trans rfl, (blk_cell BK146.out 10).trans rfl, (blk_cell BK146.out 11).trans rfl⟩ (fun hHeld => ?_)
    clear hK K
    refine norm_ (a' := ?_) ?_ ?_
    rotate_left
    ·show Act.put _ (some 28) _ = _
     simp only [Act.put, List.setIfInBounds_toArray, List.set_cons_zero, List.set_cons_succ, i64_w, i32_w]
     rfl
    refine one_ (i := 14) (N := some 29) #[true, true, true, true, true, true, true, true, true, true, true, true, true, true, true, false, false] rfl rfl (one_of HT_.out (by kernel_rfl)) (by decide) (fun K hK => ?_)
    refine goes_ Try.func15 (by kernel_rfl) rfl #[.agg #[.int .i64 t125, .int .i64 t126, .int .i64 t127, .int .i64 t128, .int .i64 t129, .int .i64 t130, .slice Ao19 t131.length co19, .slice Ao20 t134.length co20, .slice Ao21 t137.length co21, .int .i64 t140, .int .i64 t141, .slice Ao22 t142.length co22], .agg #[.int .i64 t147, .int .i64 t148, .int .i64 t149, .int .i64 t150, .int .i64 t151, .int .i64 t152, .slice Ao26 t153.length co26, .slice Ao27 t156.length co27, .slice Ao28 t159.length co28, .int .i64 t162, .int .i64 t163, .slice Ao29 t164.length co29]] (by rfl) rfl rfl (by (try simp only [List.map_toArray, List.map_cons, List.map_nil]); first | done | rfl | (simp only [List.length_drop, List.length_take]; rfl)) ?_
    with_reducible refine (OP.capstanref21_Same.calls k t125 t126 t127 t128 t129 t130 _ _ t131 _ _ t134 _ _ t137 t140 t141 _ _ t142 t147 t148 t149 t150 t151 t152 _ _ t153 _ _ t156 _ _ t159 t162 t163 _ _ t164 t167 _ ?side1 ?side2 ?side3 ?side4 ?side5 ?side6 ?side7 ?side8 ?side9 ?side10 ?side11 ?side12 ?side13 ?side14 ?side15 ?side16 A8.out).mono ?_
    (case side1 => repeat (first | exact (Kd.R_reads' HO133.out).2.2 | (with_reducible refine Kd.C_alloc ?_ _) | (with_reducible refine Kd.C_drewN ?_ _) | (with_reducible refine Kd.C_drew ?_)))
    (case side2 => exact (Kd.R_reads' HO133.out).2.1)
    (case side3 => repeat (first | exact (Kd.R_reads' HO136.out).2.2 | (with_reducible refine Kd.C_alloc ?_ _) | (with_reducible refine Kd.C_drewN ?_ _) | (with_reducible refine Kd.C_drew ?_)))
    (case side4 => exact (Kd.R_reads' HO136.out).2.1)
    (case side5 => repeat (first | exact (Kd.R_reads' HO139.out).2.2 | (with_reducible refine Kd.C_alloc ?_ _) | (with_reducible refine Kd.C_drewN ?_ _) | (with_reducible refine Kd.C_drew ?_)))
    (case side6 => exact (Kd.R_reads' HO139.out).2.1)
    (case side7 => repeat (first | exact (Kd.R_reads' HO144.out).2.2 | (with_reducible refine Kd.C_alloc ?_ _) | (with_reducible refine Kd.C_drewN ?_ _) | (with_reducible refine Kd.C_drew ?_)))
    (case side8 => exact (Kd.R_reads' HO144.out).2.1)
    (case side9 => repeat (first | exact (Kd.R_reads' HO155.out).2.2 | (with_reducible refine Kd.C_alloc ?_ _) | (with_reducible refine Kd.C_drewN ?_ _) | (with_reducible refine Kd.C_drew ?_)))
    (case side10 => exact (Kd.R_reads' HO155.out).2.1)
    (case side11 => repeat (first | exact (Kd.R_reads' HO158.out).2.2 | (with_reducible refine Kd.C_alloc ?_ _) | (with_reducible refine Kd.C_drewN ?_ _) | (with_reducible refine Kd.C_drew ?_)))
    (case side12 => exact (Kd.R_reads' HO158.out).2.1)
    (case side13 => repeat (first | exact (Kd.R_reads' HO161.out).2.2 | (with_reducible refine Kd.C_alloc ?_ _) | (with_reducible refine Kd.C_drewN ?_ _) | (with_reducible refine Kd.C_drew ?_)))
    (case side14 => exact (Kd.R_reads' HO161.out).2.1)
    (case side15 => repeat (first | exact (Kd.R_reads' HO166.out).2.2 | (with_reducible refine Kd.C_alloc ?_ _) | (with_reducible refine Kd.C_drewN ?_ _) | (with_reducible refine Kd.C_drew ?_)))
    (case side16 => exact (Kd.R_reads' HO166.out).2.1)
    rintro e w30 ⟨rfl, hb⟩
    refine ⟨_, rfl, ?_⟩
    have n0_ := Aside0.mk (Kd.R_below (by (with_reducible repeat (first | apply Kd.R_alloc | apply Kd.R_drewN | apply Kd.R_drew)); exact HO109.out) hb)
    have n1_ := Aside0.mk (Kd.R_below (by (with_reducible repeat (first | apply Kd.R_alloc | apply Kd.R_drewN | apply Kd.R_drew)); exact HO112.out) hb)
    have n2_ := Aside0.mk (Kd.R_below (by (with_reducible repeat (first | apply Kd.R_alloc | apply Kd.R_drewN | apply Kd.R_drew)); exact HO115.out) hb)
    have n3_ := Aside0.mk (Kd.R_below (by (with_reducible repeat (first | apply Kd.R_alloc | apply Kd.R_drewN | apply Kd.R_drew)); exact HO120.out) hb)
    have n4_ := Aside0.mk (Kd.R_below (by (with_reducible repeat (first | apply Kd.R_alloc | apply Kd.R_drewN | apply Kd.R_drew)); exact HO123.out) hb)
    have n5_ := Aside0.mk (Kd.R_below (by (with_reducible repeat (first | apply Kd.R_alloc | apply Kd.R_drewN | apply Kd.R_drew)); exact HO133.out) hb)
    have n6_ := Aside0.mk (Kd.R_below (by (with_reducible repeat (first | apply Kd.R_alloc | apply Kd.R_drewN | apply Kd.R_drew)); exact HO136.out) hb)
    have n7_ := Aside0.mk (Kd.R_below (by (with_reducible repeat (first | apply Kd.R_alloc | apply Kd.R_drewN | apply Kd.R_drew)); exact HO139.out) hb)
    have n8_ := Aside0.mk (Kd.R_below (by (with_reducible repeat (first | apply Kd.R_alloc | apply Kd.R_drewN | apply Kd.R_drew)); exact HO144.out) hb)
    have n9_ := Aside0.mk (Kd.R_below (by (with_reducible repeat (first | apply Kd.R_alloc | apply Kd.R_drewN | apply Kd.R_drew)); exact HO155.out) hb)
    have n10_ := Aside0.mk (Kd.R_below (by (with_reducible repeat (first | apply Kd.R_alloc | apply Kd.R_drewN | apply Kd.R_drew)); exact HO158.out) hb)
    have n11_ := Aside0.mk (Kd.R_below (by (with_reducible repeat (first | apply Kd.R_alloc | apply Kd.R_drewN | apply Kd.R_drew)); exact HO161.out) hb)
    have n12_ := Aside0.mk (Kd.R_below (by (with_reducible repeat (first | apply Kd.R_alloc | apply Kd.R_drewN | apply Kd.R_drew)); exact HO166.out) hb)
    have n13_ := Aside0.mk (blk_below (g := gb146) (o := .cells #[.int .i64 t125, .int .i64 t126, .int .i64 t127, .int .i64 t128, .int .i64 t129, .int .i64 t130, .slice Ao19 t131.length co19, .slice Ao20 t134.length co20, .slice Ao21 t137.length co21, .int .i64 t140, .int .i64 t141, .slice Ao22 t142.length co22] 29 (0, 0)) (by (with_reducible repeat (first | refine blk_drewN ?_ _ | refine blk_drew ?_ | refine blk_alloc ?_ _)); exact BK146.out) hb)
    have n14_ := Aside0.mk (below_step (by repeat (first | (with_reducible first | exact HB.out | apply below_alloc | apply pw_below_drewN | apply below_drew1 | refine below_set ?_ GE146.out) | exact HB.out)) hb)
    clear HO109
    clear HO112
    clear HO115
    clear HO120
    clear HO123
    clear HO133
    clear HO136
    clear HO139
    clear HO144
    clear HO155
    clear HO158
    clear HO161
    clear HO166
    clear BK146
    clear HB
    have HO109 := n0_
    have HO112 := n1_
    have HO115 := n2_
    have HO120 := n3_
    have HO123 := n4_
    have HO133 := n5_
    have HO136 := n6_
    have HO139 := n7_
    have HO144 := n8_
    have HO155 := n9_
    have HO158 := n10_
    have HO161 := n11_
    have HO166 := n12_
    have BK146 := n13_
    have HB := n14_
    clear n0_ n1_ n2_ n3_ n4_ n5_ n6_ n7_ n8_ n9_ n10_ n11_ n12_ n13_ n14_
    (try clear hb)
    (try clear hb2)
    (try clear hk)
    (try clear hi)
    refine hK.out _ _ ⟨(blk_cell BK146.out 0).trans rfl, (blk_cell BK146.out 1).trans rfl, (blk_cell BK146.out 2).trans rfl, (blk_cell BK146.out 3).trans rfl, (blk_cell BK146.out 4).trans rfl, (blk_cell BK146.out 5).trans rfl, (blk_cell BK146.out 6).trans rfl, (blk_cell BK146.out 7).trans rfl, (blk_cell BK146.out 8).trans rfl, (blk_cell BK146.out 9).trans rfl, (blk_cell BK146.out 10).trans rfl, (blk_cell BK146.out 11).trans rfl⟩ (fun hHeld => ?_)
    clear hK K
    refine norm_ (a' := ?_) ?_ ?_
    rotate_left
    ·show Act.put _ (some 29) _ = _
     simp only [Act.put, List.setIfInBounds_toArray, List.set_cons_zero, List.set_cons_succ, i64_w, i32_w]
     rfl
    refine pure_ (i := 15) (N := some 30) (v := ?_) (a' := ?_) #[true, true, true, true, true, true, true, true, true, true, true, true, true, true, true, true, false] rfl rfl (any_of HT_.out (by kernel_rfl)) (fun _ _ _ h => h) (Or.inl ⟨by rfl, ?_⟩) ?_ ?_
    rotate_left
    ·intro w'
     go_simp
     with_reducible rfl
    rotate_left
    ·simp only [Act.put, List.setIfInBounds_toArray, List.set_cons_zero, List.set_cons_succ, i64_w, i32_w]
     rfl
    refine pure_ (i := 16) (N := some 0) (v := ?_) (a' := ?_) #[true, true, true, true, true, true, true, true, true, true, true, true, true, true, true, true, true] rfl rfl (any_of HT_.out (by kernel_rfl)) (fun _ _ _ h => h) (Or.inl ⟨by rfl, ?_⟩) ?_ ?_
    rotate_left
    ·intro w'
     go_simp
     with_reducible rfl
    rotate_left
    ·simp only [Act.put, List.setIfInBounds_toArray, List.set_cons_zero, List.set_cons_succ, i64_w, i32_w]
     rfl
    refine done_ (done_of HT_.out (by kernel_rfl)) ?_
    try go_wp2
    go_ret
    exact ⟨by first | rfl | (simp [errW_none, errW_some] <;> rfl) | (simp [*, errW_none, errW_some] <;> rfl), by repeat (first | (with_reducible first | exact HB.out | apply below_alloc | apply pw_below_drewN | apply below_drew1 | refine below_set ?_ GE146.out) | exact HB.out)⟩
   ·rw [if_neg c6] at H
    exact absurd (H.trans (congrArg some HR_.out)) (by decide)
  ·rw [if_neg c5] at H
   exact absurd (H.trans (congrArg some HR_.out)) (by decide)
 ·rw [if_neg c4] at H
  exact absurd (H.trans (congrArg some HR_.out)) (by decide)
end Go.Proofs.Ytkdboaaganmagaa.OL
