/- Walks of functions, written by a program (wip/tools/own.py) over hand contracts; conditions: as each theorem states. -/
import Derived.Test.YtkdboaaganmagaaOLx0
import Derived.Test.YtkdboaaganmagaaTf
namespace Go.Proofs.Ytkdboaaganmagaa.OL
open Go.Proofs.Ytkdboaaganmagaa.OP
open Go.RowKit Go.Proofs.YtkdboaaganmagaaW.PrintWords Go.Proofs.YtkdboaaganmagaaW.PrintLast Go.Proofs.YtkdboaaganmagaaW.PrintMore
attribute [local go_sem] max2_int min2_int max_two min_two max_three min_three max_four min_four   -- for this text's walks alone
set_option linter.unusedVariables false
set_option linter.unusedSimpArgs false

/-! ### capstanlaw22_CodecTurns: function 7 -/
def capstanlaw22_CodecTurns.j0 : Nat → List Int → List Int → Bool → Int → Int → Int → Int → Int → Int → List Int → List (S51) → List (S54) → Int → Int → List (S45) → Int → Int → Int → Int → Int → Int → List Int → List (S51) → List (S54) → Int → Int → List (S45) → Option (Bool)
 | 0, _, _, _, _, _, _, _, _, _, _, _, _, _, _, _, _, _, _, _, _, _, _, _, _, _, _, _ => none
 | k + 1, x5, x7, x26, x297000, x297001, x297002, x297003, x297004, x297005, x297006, x297007, x297008, x297009, x297010, x297011, x298000, x298001, x298002, x298003, x298004, x298005, x298006, x298007, x298008, x298009, x298010, x298011 => if x26 = true then (some true) else ((OP.capstanref22_SameBytes.f x5 x7).bind fun t307 => ((OP.capstanref21_Same.f k x297000 x297001 x297002 x297003 x297004 x297005 x297006 x297007 x297008 x297009 x297010 x297011 x298000 x298001 x298002 x298003 x298004 x298005 x298006 x298007 x298008 x298009 x298010 x298011).bind fun t308 => (some (t307 == t308))))
def capstanlaw22_CodecTurns.f (k : Nat) (a0_0 : Int) (a0_1 : Int) (a0_2 : Int) (a0_3 : Int) (a0_4 : Int) (a0_5 : Int) (l0_6 : List Int) (l0_7 : List (S51)) (l0_8 : List (S54)) (a0_9 : Int) (a0_10 : Int) (l0_11 : List (S45)) (a1_0 : Int) (a1_1 : Int) (a1_2 : Int) (a1_3 : Int) (a1_4 : Int) (a1_5 : Int) (l1_6 : List Int) (l1_7 : List (S51)) (l1_8 : List (S54)) (a1_9 : Int) (a1_10 : Int) (l1_11 : List (S45)) : Option (Bool) := (capstanlaw22_awake.f k).bind fun t298 => (if t298 = true then ((Cb.Enc.f k a0_0 a0_1 a0_2 a0_3 a0_4 a0_5 l0_6 l0_7 l0_8 a0_9 a0_10 l0_11).bind fun bt299 => ((Cb.Enc.f k a1_0 a1_1 a1_2 a1_3 a1_4 a1_5 l1_6 l1_7 l1_8 a1_9 a1_10 l1_11).bind fun bt303 => (if bt299.2 = 0 then (capstanlaw22_CodecTurns.j0 k bt299.1 bt303.1 (bt303.2 != 0) a0_0 a0_1 a0_2 a0_3 a0_4 a0_5 l0_6 l0_7 l0_8 a0_9 a0_10 l0_11 a1_0 a1_1 a1_2 a1_3 a1_4 a1_5 l1_6 l1_7 l1_8 a1_9 a1_10 l1_11) else (capstanlaw22_CodecTurns.j0 k bt299.1 bt303.1 true a0_0 a0_1 a0_2 a0_3 a0_4 a0_5 l0_6 l0_7 l0_8 a0_9 a0_10 l0_11 a1_0 a1_1 a1_2 a1_3 a1_4 a1_5 l1_6 l1_7 l1_8 a1_9 a1_10 l1_11)))) else (some false))
theorem capstanlaw22_CodecTurns.mono_l : ∀ k, (∀ y0 y1 y2 y3 y4 y5 y6 y7 y8 y9 y10 y11 y12 y13 y14 y15 y16 y17 y18 y19 y20 y21 y22 y23 y24 y25 y26, LeO (capstanlaw22_CodecTurns.j0 k y0 y1 y2 y3 y4 y5 y6 y7 y8 y9 y10 y11 y12 y13 y14 y15 y16 y17 y18 y19 y20 y21 y22 y23 y24 y25 y26) (capstanlaw22_CodecTurns.j0 (k + 1) y0 y1 y2 y3 y4 y5 y6 y7 y8 y9 y10 y11 y12 y13 y14 y15 y16 y17 y18 y19 y20 y21 y22 y23 y24 y25 y26))
 | 0 => fun _ _ _ _ _ _ _ _ _ _ _ _ _ _ _ _ _ _ _ _ _ _ _ _ _ _ _ r h => by simp [capstanlaw22_CodecTurns.j0] at h
 | k + 1 => by
  have ih0 := capstanlaw22_CodecTurns.mono_l k
  ·intro y0 y1 y2 y3 y4 y5 y6 y7 y8 y9 y10 y11 y12 y13 y14 y15 y16 y17 y18 y19 y20 y21 y22 y23 y24 y25 y26
   unfold capstanlaw22_CodecTurns.j0
   repeat' first
   | (with_reducible exact ih0 _ _ _ _ _ _ _ _ _ _ _ _ _ _ _ _ _ _ _ _ _ _ _ _ _ _ _)
   | (with_reducible exact Cb.Enc.mono _ _ _ _ _ _ _ _ _ _ _ _ _)
   | (with_reducible exact OP.capstanref21_Same.mono _ _ _ _ _ _ _ _ _ _ _ _ _ _ _ _ _ _ _ _ _ _ _ _ _)
   | (with_reducible exact capstanlaw22_awake.mono _)
   | (with_reducible exact LeO.refl _)
   | (with_reducible exact LeO.none _)
   | (with_reducible refine LeO.ite ?_ ?_)
   | (with_reducible refine LeO.bind ?_ (fun _ => ?_))
   | exact ih0 _ _ _ _ _ _ _ _ _ _ _ _ _ _ _ _ _ _ _ _ _ _ _ _ _ _ _
   | exact Cb.Enc.mono _ _ _ _ _ _ _ _ _ _ _ _ _
   | exact OP.capstanref21_Same.mono _ _ _ _ _ _ _ _ _ _ _ _ _ _ _ _ _ _ _ _ _ _ _ _ _
   | exact capstanlaw22_awake.mono _
   | exact LeO.none _
   | refine LeO.ite ?_ ?_
   | refine LeO.bind ?_ (fun _ => ?_)
theorem capstanlaw22_CodecTurns.mono : ∀ a0 a1 a2 a3 a4 a5 a6 a7 a8 a9 a10 a11 a12 a13 a14 a15 a16 a17 a18 a19 a20 a21 a22 a23 k, LeO (capstanlaw22_CodecTurns.f k a0 a1 a2 a3 a4 a5 a6 a7 a8 a9 a10 a11 a12 a13 a14 a15 a16 a17 a18 a19 a20 a21 a22 a23) (capstanlaw22_CodecTurns.f (k + 1) a0 a1 a2 a3 a4 a5 a6 a7 a8 a9 a10 a11 a12 a13 a14 a15 a16 a17 a18 a19 a20 a21 a22 a23) := by
 intro a0 a1 a2 a3 a4 a5 a6 a7 a8 a9 a10 a11 a12 a13 a14 a15 a16 a17 a18 a19 a20 a21 a22 a23 k
 have ih0 := capstanlaw22_CodecTurns.mono_l k
 unfold capstanlaw22_CodecTurns.f
 repeat' first
   | (with_reducible exact ih0 _ _ _ _ _ _ _ _ _ _ _ _ _ _ _ _ _ _ _ _ _ _ _ _ _ _ _)
   | (with_reducible exact Cb.Enc.mono _ _ _ _ _ _ _ _ _ _ _ _ _)
   | (with_reducible exact OP.capstanref21_Same.mono _ _ _ _ _ _ _ _ _ _ _ _ _ _ _ _ _ _ _ _ _ _ _ _ _)
   | (with_reducible exact capstanlaw22_awake.mono _)
   | (with_reducible exact LeO.refl _)
   | (with_reducible exact LeO.none _)
   | (with_reducible refine LeO.ite ?_ ?_)
   | (with_reducible refine LeO.bind ?_ (fun _ => ?_))
   | exact ih0 _ _ _ _ _ _ _ _ _ _ _ _ _ _ _ _ _ _ _ _ _ _ _ _ _ _ _
   | exact Cb.Enc.mono _ _ _ _ _ _ _ _ _ _ _ _ _
   | exact OP.capstanref21_Same.mono _ _ _ _ _ _ _ _ _ _ _ _ _ _ _ _ _ _ _ _ _ _ _ _ _
   | exact capstanlaw22_awake.mono _
   | exact LeO.none _
   | refine LeO.ite ?_ ?_
   | refine LeO.bind ?_ (fun _ => ?_)
def capstanlaw22_CodecTurns.T7 : Bool × List (List Nat × List Nat) := (true, [([], []), ([], []), ([0, 1], [0, 1]), ([], []), ([], []), ([3, 4, 2], [3, 4]), ([2, 5], [2, 5]), ([6, 5, 0, 1, 2, 3, 4, 5, 6], [6])])
def capstanlaw22_CodecTurns.B7 : List Nat := [0, 0, 3, 0, 0, 31, 63, 127]
theorem capstanlaw22_CodecTurns.tab7 : rtab .any (opsOf Try.f7 7) = capstanlaw22_CodecTurns.T7 := by kernel_rfl
theorem capstanlaw22_CodecTurns.bits7 : waitsOk capstanlaw22_CodecTurns.T7.2 capstanlaw22_CodecTurns.B7 = true := by kernel_rfl
set_option maxHeartbeats 8000000 in
set_option maxRecDepth 100000 in
theorem capstanlaw22_CodecTurns.calls (k : Nat) (a0_0 : Int) (a0_1 : Int) (a0_2 : Int) (a0_3 : Int) (a0_4 : Int) (a0_5 : Int) (A0_6 : Option Addr) (c0_6 : Nat) (l0_6 : List Int) (A0_7 : Option Addr) (c0_7 : Nat) (l0_7 : List (S51)) (A0_8 : Option Addr) (c0_8 : Nat) (l0_8 : List (S54)) (a0_9 : Int) (a0_10 : Int) (A0_11 : Option Addr) (c0_11 : Nat) (l0_11 : List (S45)) (a1_0 : Int) (a1_1 : Int) (a1_2 : Int) (a1_3 : Int) (a1_4 : Int) (a1_5 : Int) (A1_6 : Option Addr) (c1_6 : Nat) (l1_6 : List Int) (A1_7 : Option Addr) (c1_7 : Nat) (l1_7 : List (S51)) (A1_8 : Option Addr) (c1_8 : Nat) (l1_8 : List (S54)) (a1_9 : Int) (a1_10 : Int) (A1_11 : Option Addr) (c1_11 : Nat) (l1_11 : List (S45)) (r : Bool) (w : World) (hr0_6 : Kd.C (Kd.int .i64) w A0_6 l0_6.length l0_6) (hc0_6 : l0_6.length ≤ c0_6) (hr0_7 : Kd.C k51 w A0_7 l0_7.length l0_7) (hc0_7 : l0_7.length ≤ c0_7) (hr0_8 : Kd.C k54 w A0_8 l0_8.length l0_8) (hc0_8 : l0_8.length ≤ c0_8) (hr0_11 : Kd.C k45 w A0_11 l0_11.length l0_11) (hc0_11 : l0_11.length ≤ c0_11) (hr1_6 : Kd.C (Kd.int .i64) w A1_6 l1_6.length l1_6) (hc1_6 : l1_6.length ≤ c1_6) (hr1_7 : Kd.C k51 w A1_7 l1_7.length l1_7) (hc1_7 : l1_7.length ≤ c1_7) (hr1_8 : Kd.C k54 w A1_8 l1_8.length l1_8) (hc1_8 : l1_8.length ≤ c1_8) (hr1_11 : Kd.C k45 w A1_11 l1_11.length l1_11) (hc1_11 : l1_11.length ≤ c1_11) (h : capstanlaw22_CodecTurns.f k a0_0 a0_1 a0_2 a0_3 a0_4 a0_5 l0_6 l0_7 l0_8 a0_9 a0_10 l0_11 a1_0 a1_1 a1_2 a1_3 a1_4 a1_5 l1_6 l1_7 l1_8 a1_9 a1_10 l1_11 = some r) (hr_ : r = true) :
  Calls Try.prog 7 #[.agg #[.int .i64 a0_0, .int .i64 a0_1, .int .i64 a0_2, .int .i64 a0_3, .int .i64 a0_4, .int .i64 a0_5, .slice A0_6 l0_6.length c0_6, .slice A0_7 l0_7.length c0_7, .slice A0_8 l0_8.length c0_8, .int .i64 a0_9, .int .i64 a0_10, .slice A0_11 l0_11.length c0_11], .agg #[.int .i64 a1_0, .int .i64 a1_1, .int .i64 a1_2, .int .i64 a1_3, .int .i64 a1_4, .int .i64 a1_5, .slice A1_6 l1_6.length c1_6, .slice A1_7 l1_7.length c1_7, .slice A1_8 l1_8.length c1_8, .int .i64 a1_9, .int .i64 a1_10, .slice A1_11 l1_11.length c1_11]] w fun e w' => e = .returned (.bool r) ∧ Below w.heap.size w w' := by
 have HR_ := Aside0.mk hr_
 clear hr_
 have hu29 := Try.underlying29
 have HR0_6 := Aside0.mk hr0_6
 have HC0_6 := Aside0.mk hc0_6
 clear hr0_6 hc0_6
 have HR0_7 := Aside0.mk hr0_7
 have HC0_7 := Aside0.mk hc0_7
 clear hr0_7 hc0_7
 have HR0_8 := Aside0.mk hr0_8
 have HC0_8 := Aside0.mk hc0_8
 clear hr0_8 hc0_8
 have HR0_11 := Aside0.mk hr0_11
 have HC0_11 := Aside0.mk hc0_11
 clear hr0_11 hc0_11
 have HR1_6 := Aside0.mk hr1_6
 have HC1_6 := Aside0.mk hc1_6
 clear hr1_6 hc1_6
 have HR1_7 := Aside0.mk hr1_7
 have HC1_7 := Aside0.mk hc1_7
 clear hr1_7 hc1_7
 have HR1_8 := Aside0.mk hr1_8
 have HC1_8 := Aside0.mk hc1_8
 clear hr1_8 hc1_8
 have HR1_11 := Aside0.mk hr1_11
 have HC1_11 := Aside0.mk hc1_11
 clear hr1_11 hc1_11
 have HB := Aside0.mk (Below.refl w.heap.size w)
 have H : ((capstanlaw22_awake.f k).bind fun t298 => (if t298 = true then ((Cb.Enc.f k a0_0 a0_1 a0_2 a0_3 a0_4 a0_5 l0_6 l0_7 l0_8 a0_9 a0_10 l0_11).bind fun bt299 => ((Cb.Enc.f k a1_0 a1_1 a1_2 a1_3 a1_4 a1_5 l1_6 l1_7 l1_8 a1_9 a1_10 l1_11).bind fun bt303 => (if bt299.2 = 0 then (capstanlaw22_CodecTurns.j0 k bt299.1 bt303.1 (bt303.2 != 0) a0_0 a0_1 a0_2 a0_3 a0_4 a0_5 l0_6 l0_7 l0_8 a0_9 a0_10 l0_11 a1_0 a1_1 a1_2 a1_3 a1_4 a1_5 l1_6 l1_7 l1_8 a1_9 a1_10 l1_11) else (capstanlaw22_CodecTurns.j0 k bt299.1 bt303.1 true a0_0 a0_1 a0_2 a0_3 a0_4 a0_5 l0_6 l0_7 l0_8 a0_9 a0_10 l0_11 a1_0 a1_1 a1_2 a1_3 a1_4 a1_5 l1_6 l1_7 l1_8 a1_9 a1_10 l1_11)))) else (some false))) = some r := h
 clear h
 replace H := Option.bind_eq_some_iff.mp H
 obtain ⟨t298, A30, H⟩ := H
 replace H : (if t298 = true then ((Cb.Enc.f k a0_0 a0_1 a0_2 a0_3 a0_4 a0_5 l0_6 l0_7 l0_8 a0_9 a0_10 l0_11).bind fun bt299 => ((Cb.Enc.f k a1_0 a1_1 a1_2 a1_3 a1_4 a1_5 l1_6 l1_7 l1_8 a1_9 a1_10 l1_11).bind fun bt303 => (if bt299.2 = 0 then (capstanlaw22_CodecTurns.j0 k bt299.1 bt303.1 (bt303.2 != 0) a0_0 a0_1 a0_2 a0_3 a0_4 a0_5 l0_6 l0_7 l0_8 a0_9 a0_10 l0_11 a1_0 a1_1 a1_2 a1_3 a1_4 a1_5 l1_6 l1_7 l1_8 a1_9 a1_10 l1_11) else (capstanlaw22_CodecTurns.j0 k bt299.1 bt303.1 true a0_0 a0_1 a0_2 a0_3 a0_4 a0_5 l0_6 l0_7 l0_8 a0_9 a0_10 l0_11 a1_0 a1_1 a1_2 a1_3 a1_4 a1_5 l1_6 l1_7 l1_8 a1_9 a1_10 l1_11)))) else (some false)) = some r := H
 have A3 := Aside0.mk A30
 clear A30
 by_cases c4 : t298 = true
 ·subst c4
  have H1 : ((Cb.Enc.f k a0_0 a0_1 a0_2 a0_3 a0_4 a0_5 l0_6 l0_7 l0_8 a0_9 a0_10 l0_11).bind fun bt299 => ((Cb.Enc.f k a1_0 a1_1 a1_2 a1_3 a1_4 a1_5 l1_6 l1_7 l1_8 a1_9 a1_10 l1_11).bind fun bt303 => (if bt299.2 = 0 then (capstanlaw22_CodecTurns.j0 k bt299.1 bt303.1 (bt303.2 != 0) a0_0 a0_1 a0_2 a0_3 a0_4 a0_5 l0_6 l0_7 l0_8 a0_9 a0_10 l0_11 a1_0 a1_1 a1_2 a1_3 a1_4 a1_5 l1_6 l1_7 l1_8 a1_9 a1_10 l1_11) else (capstanlaw22_CodecTurns.j0 k bt299.1 bt303.1 true a0_0 a0_1 a0_2 a0_3 a0_4 a0_5 l0_6 l0_7 l0_8 a0_9 a0_10 l0_11 a1_0 a1_1 a1_2 a1_3 a1_4 a1_5 l1_6 l1_7 l1_8 a1_9 a1_10 l1_11)))) = some r := by rw [if_pos rfl] at H; exact H
  clear H
  have H := H1
  clear H1
  replace H := Option.bind_eq_some_iff.mp H
  obtain ⟨⟨t299, t302⟩, A50, H⟩ := H
  replace H : ((Cb.Enc.f k a1_0 a1_1 a1_2 a1_3 a1_4 a1_5 l1_6 l1_7 l1_8 a1_9 a1_10 l1_11).bind fun bt303 => (if t302 = 0 then (capstanlaw22_CodecTurns.j0 k t299 bt303.1 (bt303.2 != 0) a0_0 a0_1 a0_2 a0_3 a0_4 a0_5 l0_6 l0_7 l0_8 a0_9 a0_10 l0_11 a1_0 a1_1 a1_2 a1_3 a1_4 a1_5 l1_6 l1_7 l1_8 a1_9 a1_10 l1_11) else (capstanlaw22_CodecTurns.j0 k t299 bt303.1 true a0_0 a0_1 a0_2 a0_3 a0_4 a0_5 l0_6 l0_7 l0_8 a0_9 a0_10 l0_11 a1_0 a1_1 a1_2 a1_3 a1_4 a1_5 l1_6 l1_7 l1_8 a1_9 a1_10 l1_11))) = some r := H
  have A5 := Aside0.mk A50
  clear A50
  replace H := Option.bind_eq_some_iff.mp H
  obtain ⟨⟨t303, t306⟩, A60, H⟩ := H
  replace H : (if t302 = 0 then (capstanlaw22_CodecTurns.j0 k t299 t303 (t306 != 0) a0_0 a0_1 a0_2 a0_3 a0_4 a0_5 l0_6 l0_7 l0_8 a0_9 a0_10 l0_11 a1_0 a1_1 a1_2 a1_3 a1_4 a1_5 l1_6 l1_7 l1_8 a1_9 a1_10 l1_11) else (capstanlaw22_CodecTurns.j0 k t299 t303 true a0_0 a0_1 a0_2 a0_3 a0_4 a0_5 l0_6 l0_7 l0_8 a0_9 a0_10 l0_11 a1_0 a1_1 a1_2 a1_3 a1_4 a1_5 l1_6 l1_7 l1_8 a1_9 a1_10 l1_11)) = some r := H
  have A6 := Aside0.mk A60
  clear A60
  have HC7 := Aside0.mk H
  clear H
  go_enter Try.func7, Try.ntmps7
  go_upto_region 5 with (first | ((with_reducible refine gate_dst (N := 2) rfl ?_); refine box_event ?hg (N := 2) ?hd (cs := #[.int .i64 a0_0, .int .i64 a0_1, .int .i64 a0_2, .int .i64 a0_3, .int .i64 a0_4, .int .i64 a0_5, .slice A0_6 l0_6.length c0_6, .slice A0_7 l0_7.length c0_7, .slice A0_8 l0_8.length c0_8, .int .i64 a0_9, .int .i64 a0_10, .slice A0_11 l0_11.length c0_11]) (t := 29) ?hr ?_; (case hd => rfl); (case hg => rfl); (case hr => first | (go_simp; done) | (go_simp; rfl)); intro gb296 hg w8 hbox hb; have n0_ := Aside0.mk (below_step (by repeat (first | (with_reducible first | exact HB.out | apply below_alloc | apply pw_below_drewN | apply below_drew1) | exact HB.out)) hb); have n1_ := Aside0.mk (hbox); have n2_ := Aside0.mk ((by rw [hg]; exact (below_size (by repeat (first | (with_reducible first | exact HB.out | apply below_alloc | apply pw_below_drewN | apply below_drew1) | exact HB.out))) : w.heap.size ≤ gb296)); have n3_ := Aside0.mk ((by rw [hg]; exact (below_size (by repeat (first | (with_reducible first | exact HB.out | apply below_alloc | apply pw_below_drewN | apply below_drew1) | exact HB.out))) : w.heap.size ≤ gb296)); clear HB; have HB := n0_; have BK296 := n1_; have GW296 := n2_; have GE296 := n3_; clear n0_ n1_ n2_ n3_; clear hb hbox hg) | ((with_reducible refine gate_dst (N := 3) rfl ?_); refine box_event ?hg (N := 3) ?hd (cs := #[.int .i64 a1_0, .int .i64 a1_1, .int .i64 a1_2, .int .i64 a1_3, .int .i64 a1_4, .int .i64 a1_5, .slice A1_6 l1_6.length c1_6, .slice A1_7 l1_7.length c1_7, .slice A1_8 l1_8.length c1_8, .int .i64 a1_9, .int .i64 a1_10, .slice A1_11 l1_11.length c1_11]) (t := 29) ?hr ?_; (case hd => rfl); (case hg => rfl); (case hr => first | (go_simp; done) | (go_simp; rfl)); intro gb297 hg w9 hbox hb; have n0_ := Aside0.mk (blk_below (g := gb296) (o := .cells #[.int .i64 a0_0, .int .i64 a0_1, .int .i64 a0_2, .int .i64 a0_3, .int .i64 a0_4, .int .i64 a0_5, .slice A0_6 l0_6.length c0_6, .slice A0_7 l0_7.length c0_7, .slice A0_8 l0_8.length c0_8, .int .i64 a0_9, .int .i64 a0_10, .slice A0_11 l0_11.length c0_11] 29 (0, 0)) (by (with_reducible repeat (first | refine blk_drewN ?_ _ | refine blk_drew ?_ | refine blk_alloc ?_ _)); exact BK296.out) hb); have n1_ := Aside0.mk (below_step (by repeat (first | (with_reducible first | exact HB.out | apply below_alloc | apply pw_below_drewN | apply below_drew1 | refine below_set ?_ GE296.out) | exact HB.out)) hb); have n2_ := Aside0.mk (hbox); have n3_ := Aside0.mk ((by rw [hg]; exact (below_size (by repeat (first | (with_reducible first | exact HB.out | apply below_alloc | apply pw_below_drewN | apply below_drew1 | refine below_set ?_ GE296.out) | exact HB.out))) : w.heap.size ≤ gb297)); have n4_ := Aside0.mk ((by rw [hg]; exact (below_size (by repeat (first | (with_reducible first | exact HB.out | apply below_alloc | apply pw_below_drewN | apply below_drew1 | refine below_set ?_ GE296.out) | exact HB.out))) : w.heap.size ≤ gb297)); have n5_ := Aside0.mk ((by rw [hg]; exact Nat.ne_of_lt (blk_lt (g := gb296) (o := .cells #[.int .i64 a0_0, .int .i64 a0_1, .int .i64 a0_2, .int .i64 a0_3, .int .i64 a0_4, .int .i64 a0_5, .slice A0_6 l0_6.length c0_6, .slice A0_7 l0_7.length c0_7, .slice A0_8 l0_8.length c0_8, .int .i64 a0_9, .int .i64 a0_10, .slice A0_11 l0_11.length c0_11] 29 (0, 0)) (by (with_reducible repeat (first | refine blk_drewN ?_ _ | refine blk_drew ?_ | refine blk_alloc ?_ _)); exact BK296.out)) : gb296 ≠ gb297)); have n6_ := Aside0.mk ((by rw [hg]; exact Nat.ne_of_gt (blk_lt (g := gb296) (o := .cells #[.int .i64 a0_0, .int .i64 a0_1, .int .i64 a0_2, .int .i64 a0_3, .int .i64 a0_4, .int .i64 a0_5, .slice A0_6 l0_6.length c0_6, .slice A0_7 l0_7.length c0_7, .slice A0_8 l0_8.length c0_8, .int .i64 a0_9, .int .i64 a0_10, .slice A0_11 l0_11.length c0_11] 29 (0, 0)) (by (with_reducible repeat (first | refine blk_drewN ?_ _ | refine blk_drew ?_ | refine blk_alloc ?_ _)); exact BK296.out)) : gb297 ≠ gb296)); clear BK296; clear HB; have BK296 := n0_; have HB := n1_; have BK297 := n2_; have GW297 := n3_; have GE297 := n4_; have NB296_297 := n5_; have NB297_296 := n6_; clear n0_ n1_ n2_ n3_ n4_ n5_ n6_; clear hb hbox hg) | ((with_reducible refine gate_callee (f := 9) rfl ?_); refine goesL_ (some 9) rfl rfl Try.func9 (by kernel_rfl) rfl #[] rfl (by (try simp only [List.map_toArray, List.map_cons, List.map_nil]); first | done | rfl | (simp only [List.length_drop, List.length_take]; rfl)) ?_; (with_reducible refine (capstanlaw22_awake.callsA k  true _ A3.out).mono ?_); rintro e w10 ⟨rfl, hb⟩; refine ⟨_, rfl, ?_⟩; have n0_ := Aside0.mk (blk_below (g := gb296) (o := .cells #[.int .i64 a0_0, .int .i64 a0_1, .int .i64 a0_2, .int .i64 a0_3, .int .i64 a0_4, .int .i64 a0_5, .slice A0_6 l0_6.length c0_6, .slice A0_7 l0_7.length c0_7, .slice A0_8 l0_8.length c0_8, .int .i64 a0_9, .int .i64 a0_10, .slice A0_11 l0_11.length c0_11] 29 (0, 0)) (by (with_reducible repeat (first | refine blk_drewN ?_ _ | refine blk_drew ?_ | refine blk_alloc ?_ _)); exact BK296.out) hb); have n1_ := Aside0.mk (blk_below (g := gb297) (o := .cells #[.int .i64 a1_0, .int .i64 a1_1, .int .i64 a1_2, .int .i64 a1_3, .int .i64 a1_4, .int .i64 a1_5, .slice A1_6 l1_6.length c1_6, .slice A1_7 l1_7.length c1_7, .slice A1_8 l1_8.length c1_8, .int .i64 a1_9, .int .i64 a1_10, .slice A1_11 l1_11.length c1_11] 29 (0, 0)) (by (with_reducible repeat (first | refine blk_drewN ?_ _ | refine blk_drew ?_ | refine blk_alloc ?_ _)); exact BK297.out) hb); have n2_ := Aside0.mk (below_step (by repeat (first | (with_reducible first | exact HB.out | apply below_alloc | apply pw_below_drewN | apply below_drew1 | refine below_set ?_ GE296.out | refine below_set ?_ GE297.out) | exact HB.out)) hb); clear BK296; clear BK297; clear HB; have BK296 := n0_; have BK297 := n1_; have HB := n2_; clear n0_ n1_ n2_; (try clear hb); (try clear hb2); (try clear hk); (try clear hi); have hnb11 := NB296_297.out; have hnc11 := NB297_296.out; have hcz12_0 : w10.cell? ⟨gb296, 0, none⟩ = some (.int .i64 a0_0) := (blk_cell BK296.out 0).trans rfl; have hcz12_1 : w10.cell? ⟨gb296, 1, none⟩ = some (.int .i64 a0_1) := (blk_cell BK296.out 1).trans rfl; have hcz12_2 : w10.cell? ⟨gb296, 2, none⟩ = some (.int .i64 a0_2) := (blk_cell BK296.out 2).trans rfl; have hcz12_3 : w10.cell? ⟨gb296, 3, none⟩ = some (.int .i64 a0_3) := (blk_cell BK296.out 3).trans rfl; have hcz12_4 : w10.cell? ⟨gb296, 4, none⟩ = some (.int .i64 a0_4) := (blk_cell BK296.out 4).trans rfl; have hcz12_5 : w10.cell? ⟨gb296, 5, none⟩ = some (.int .i64 a0_5) := (blk_cell BK296.out 5).trans rfl; have hcz12_6 : w10.cell? ⟨gb296, 6, none⟩ = some (.slice A0_6 l0_6.length c0_6) := (blk_cell BK296.out 6).trans rfl; have hcz12_7 : w10.cell? ⟨gb296, 7, none⟩ = some (.slice A0_7 l0_7.length c0_7) := (blk_cell BK296.out 7).trans rfl; have hcz12_8 : w10.cell? ⟨gb296, 8, none⟩ = some (.slice A0_8 l0_8.length c0_8) := (blk_cell BK296.out 8).trans rfl; have hcz12_9 : w10.cell? ⟨gb296, 9, none⟩ = some (.int .i64 a0_9) := (blk_cell BK296.out 9).trans rfl; have hcz12_10 : w10.cell? ⟨gb296, 10, none⟩ = some (.int .i64 a0_10) := (blk_cell BK296.out 10).trans rfl; have hcz12_11 : w10.cell? ⟨gb296, 11, none⟩ = some (.slice A0_11 l0_11.length c0_11) := (blk_cell BK296.out 11).trans rfl; have hfz12_0 := blk_frozen BK296.out 0; have hfz12_1 := blk_frozen BK296.out 1; have hfz12_2 := blk_frozen BK296.out 2; have hfz12_3 := blk_frozen BK296.out 3; have hfz12_4 := blk_frozen BK296.out 4; have hfz12_5 := blk_frozen BK296.out 5; have hfz12_6 := blk_frozen BK296.out 6; have hfz12_7 := blk_frozen BK296.out 7; have hfz12_8 := blk_frozen BK296.out 8; have hfz12_9 := blk_frozen BK296.out 9; have hfz12_10 := blk_frozen BK296.out 10; have hfz12_11 := blk_frozen BK296.out 11) | ((with_reducible refine gate_callee (f := 10) rfl ?_); refine goesL_ (some 13) rfl rfl Try.func10 (by kernel_rfl) rfl #[.agg #[.int .i64 a0_0, .int .i64 a0_1, .int .i64 a0_2, .int .i64 a0_3, .int .i64 a0_4, .int .i64 a0_5, .slice A0_6 l0_6.length c0_6, .slice A0_7 l0_7.length c0_7, .slice A0_8 l0_8.length c0_8, .int .i64 a0_9, .int .i64 a0_10, .slice A0_11 l0_11.length c0_11]] rfl (by (try simp only [List.map_toArray, List.map_cons, List.map_nil]); first | done | rfl | (simp only [List.length_drop, List.length_take]; rfl)) ?_; (with_reducible refine (Cb.Enc.calls k a0_0 a0_1 a0_2 a0_3 a0_4 a0_5 _ _ l0_6 _ _ l0_7 _ _ l0_8 a0_9 a0_10 _ _ l0_11 t299 t302 _ ?side1 ?side2 ?side3 ?side4 ?side5 ?side6 ?side7 ?side8 A5.out).mono ?_); (case side1 => repeat (first | exact (Kd.C_below HR0_6.out HB.out) | (with_reducible refine Kd.C_alloc ?_ _) | (with_reducible refine Kd.C_drewN ?_ _) | (with_reducible refine Kd.C_drew ?_))); (case side2 => exact HC0_6.out); (case side3 => repeat (first | exact (Kd.C_below HR0_7.out HB.out) | (with_reducible refine Kd.C_alloc ?_ _) | (with_reducible refine Kd.C_drewN ?_ _) | (with_reducible refine Kd.C_drew ?_))); (case side4 => exact HC0_7.out); (case side5 => repeat (first | exact (Kd.C_below HR0_8.out HB.out) | (with_reducible refine Kd.C_alloc ?_ _) | (with_reducible refine Kd.C_drewN ?_ _) | (with_reducible refine Kd.C_drew ?_))); (case side6 => exact HC0_8.out); (case side7 => repeat (first | exact (Kd.C_below HR0_11.out HB.out) | (with_reducible refine Kd.C_alloc ?_ _) | (with_reducible refine Kd.C_drewN ?_ _) | (with_reducible refine Kd.C_drew ?_))); (case side8 => exact HC0_11.out); rintro e w13 ⟨v300, rfl, ho0, hb⟩; refine ⟨_, rfl, ?_⟩; have n0_ := Aside0.mk (Kd.R_lower ho0 (below_size (by repeat (first | (with_reducible first | exact HB.out | apply below_alloc | apply pw_below_drewN | apply below_drew1 | refine below_set ?_ GE296.out | refine below_set ?_ GE297.out) | exact HB.out)))); have n1_ := Aside0.mk (blk_below (g := gb296) (o := .cells #[.int .i64 a0_0, .int .i64 a0_1, .int .i64 a0_2, .int .i64 a0_3, .int .i64 a0_4, .int .i64 a0_5, .slice A0_6 l0_6.length c0_6, .slice A0_7 l0_7.length c0_7, .slice A0_8 l0_8.length c0_8, .int .i64 a0_9, .int .i64 a0_10, .slice A0_11 l0_11.length c0_11] 29 (0, 0)) (by (with_reducible repeat (first | refine blk_drewN ?_ _ | refine blk_drew ?_ | refine blk_alloc ?_ _)); exact BK296.out) hb); have n2_ := Aside0.mk (blk_below (g := gb297) (o := .cells #[.int .i64 a1_0, .int .i64 a1_1, .int .i64 a1_2, .int .i64 a1_3, .int .i64 a1_4, .int .i64 a1_5, .slice A1_6 l1_6.length c1_6, .slice A1_7 l1_7.length c1_7, .slice A1_8 l1_8.length c1_8, .int .i64 a1_9, .int .i64 a1_10, .slice A1_11 l1_11.length c1_11] 29 (0, 0)) (by (with_reducible repeat (first | refine blk_drewN ?_ _ | refine blk_drew ?_ | refine blk_alloc ?_ _)); exact BK297.out) hb); have n3_ := Aside0.mk (below_step (by repeat (first | (with_reducible first | exact HB.out | apply below_alloc | apply pw_below_drewN | apply below_drew1 | refine below_set ?_ GE296.out | refine below_set ?_ GE297.out) | exact HB.out)) hb); clear BK296; clear BK297; clear HB; have HO301 := n0_; have BK296 := n1_; have BK297 := n2_; have HB := n3_; clear n0_ n1_ n2_ n3_; (try clear hb); (try clear hb2); (try clear hk); (try clear hi); (try clear ho0); have hcz14_0 : w13.cell? ⟨gb297, 0, none⟩ = some (.int .i64 a1_0) := (blk_cell BK297.out 0).trans rfl; have hcz14_1 : w13.cell? ⟨gb297, 1, none⟩ = some (.int .i64 a1_1) := (blk_cell BK297.out 1).trans rfl; have hcz14_2 : w13.cell? ⟨gb297, 2, none⟩ = some (.int .i64 a1_2) := (blk_cell BK297.out 2).trans rfl; have hcz14_3 : w13.cell? ⟨gb297, 3, none⟩ = some (.int .i64 a1_3) := (blk_cell BK297.out 3).trans rfl; have hcz14_4 : w13.cell? ⟨gb297, 4, none⟩ = some (.int .i64 a1_4) := (blk_cell BK297.out 4).trans rfl; have hcz14_5 : w13.cell? ⟨gb297, 5, none⟩ = some (.int .i64 a1_5) := (blk_cell BK297.out 5).trans rfl; have hcz14_6 : w13.cell? ⟨gb297, 6, none⟩ = some (.slice A1_6 l1_6.length c1_6) := (blk_cell BK297.out 6).trans rfl; have hcz14_7 : w13.cell? ⟨gb297, 7, none⟩ = some (.slice A1_7 l1_7.length c1_7) := (blk_cell BK297.out 7).trans rfl; have hcz14_8 : w13.cell? ⟨gb297, 8, none⟩ = some (.slice A1_8 l1_8.length c1_8) := (blk_cell BK297.out 8).trans rfl; have hcz14_9 : w13.cell? ⟨gb297, 9, none⟩ = some (.int .i64 a1_9) := (blk_cell BK297.out 9).trans rfl; have hcz14_10 : w13.cell? ⟨gb297, 10, none⟩ = some (.int .i64 a1_10) := (blk_cell BK297.out 10).trans rfl; have hcz14_11 : w13.cell? ⟨gb297, 11, none⟩ = some (.slice A1_11 l1_11.length c1_11) := (blk_cell BK297.out 11).trans rfl; have hfz14_0 := blk_frozen BK297.out 0; have hfz14_1 := blk_frozen BK297.out 1; have hfz14_2 := blk_frozen BK297.out 2; have hfz14_3 := blk_frozen BK297.out 3; have hfz14_4 := blk_frozen BK297.out 4; have hfz14_5 := blk_frozen BK297.out 5; have hfz14_6 := blk_frozen BK297.out 6; have hfz14_7 := blk_frozen BK297.out 7; have hfz14_8 := blk_frozen BK297.out 8; have hfz14_9 := blk_frozen BK297.out 9; have hfz14_10 := blk_frozen BK297.out 10; have hfz14_11 := blk_frozen BK297.out 11) | ((with_reducible refine gate_callee (f := 10) rfl ?_); refine goesL_ (some 18) rfl rfl Try.func10 (by kernel_rfl) rfl #[.agg #[.int .i64 a1_0, .int .i64 a1_1, .int .i64 a1_2, .int .i64 a1_3, .int .i64 a1_4, .int .i64 a1_5, .slice A1_6 l1_6.length c1_6, .slice A1_7 l1_7.length c1_7, .slice A1_8 l1_8.length c1_8, .int .i64 a1_9, .int .i64 a1_10, .slice A1_11 l1_11.length c1_11]] rfl (by (try simp only [List.map_toArray, List.map_cons, List.map_nil]); first | done | rfl | (simp only [List.length_drop, List.length_take]; rfl)) ?_; (with_reducible refine (Cb.Enc.calls k a1_0 a1_1 a1_2 a1_3 a1_4 a1_5 _ _ l1_6 _ _ l1_7 _ _ l1_8 a1_9 a1_10 _ _ l1_11 t303 t306 _ ?side1 ?side2 ?side3 ?side4 ?side5 ?side6 ?side7 ?side8 A6.out).mono ?_); (case side1 => repeat (first | exact (Kd.C_below HR1_6.out HB.out) | (with_reducible refine Kd.C_alloc ?_ _) | (with_reducible refine Kd.C_drewN ?_ _) | (with_reducible refine Kd.C_drew ?_))); (case side2 => exact HC1_6.out); (case side3 => repeat (first | exact (Kd.C_below HR1_7.out HB.out) | (with_reducible refine Kd.C_alloc ?_ _) | (with_reducible refine Kd.C_drewN ?_ _) | (with_reducible refine Kd.C_drew ?_))); (case side4 => exact HC1_7.out); (case side5 => repeat (first | exact (Kd.C_below HR1_8.out HB.out) | (with_reducible refine Kd.C_alloc ?_ _) | (with_reducible refine Kd.C_drewN ?_ _) | (with_reducible refine Kd.C_drew ?_))); (case side6 => exact HC1_8.out); (case side7 => repeat (first | exact (Kd.C_below HR1_11.out HB.out) | (with_reducible refine Kd.C_alloc ?_ _) | (with_reducible refine Kd.C_drewN ?_ _) | (with_reducible refine Kd.C_drew ?_))); (case side8 => exact HC1_11.out); rintro e w15 ⟨v304, rfl, ho0, hb⟩; refine ⟨_, rfl, ?_⟩; have n0_ := Aside0.mk (Kd.R_elder' (by (with_reducible repeat (first | apply Kd.R_alloc | apply Kd.R_drewN | apply Kd.R_drew)); exact HO301.out) (Kd.R_base ho0) hb); have n1_ := Aside0.mk (Kd.R_lower (Kd.R_new' ho0 (Kd.R_lt (by (with_reducible repeat (first | apply Kd.R_alloc | apply Kd.R_drewN | apply Kd.R_drew)); exact HO301.out))) (below_size (by repeat (first | (with_reducible first | exact HB.out | apply below_alloc | apply pw_below_drewN | apply below_drew1 | refine below_set ?_ GE296.out | refine below_set ?_ GE297.out) | exact HB.out)))); have n2_ := Aside0.mk (blk_below (g := gb296) (o := .cells #[.int .i64 a0_0, .int .i64 a0_1, .int .i64 a0_2, .int .i64 a0_3, .int .i64 a0_4, .int .i64 a0_5, .slice A0_6 l0_6.length c0_6, .slice A0_7 l0_7.length c0_7, .slice A0_8 l0_8.length c0_8, .int .i64 a0_9, .int .i64 a0_10, .slice A0_11 l0_11.length c0_11] 29 (0, 0)) (by (with_reducible repeat (first | refine blk_drewN ?_ _ | refine blk_drew ?_ | refine blk_alloc ?_ _)); exact BK296.out) hb); have n3_ := Aside0.mk (blk_below (g := gb297) (o := .cells #[.int .i64 a1_0, .int .i64 a1_1, .int .i64 a1_2, .int .i64 a1_3, .int .i64 a1_4, .int .i64 a1_5, .slice A1_6 l1_6.length c1_6, .slice A1_7 l1_7.length c1_7, .slice A1_8 l1_8.length c1_8, .int .i64 a1_9, .int .i64 a1_10, .slice A1_11 l1_11.length c1_11] 29 (0, 0)) (by (with_reducible repeat (first | refine blk_drewN ?_ _ | refine blk_drew ?_ | refine blk_alloc ?_ _)); exact BK297.out) hb); have n4_ := Aside0.mk (below_step (by repeat (first | (with_reducible first | exact HB.out | apply below_alloc | apply pw_below_drewN | apply below_drew1 | refine below_set ?_ GE296.out | refine below_set ?_ GE297.out) | exact HB.out)) hb); clear HO301; clear BK296; clear BK297; clear HB; have HO301 := n0_; have HO305 := n1_; have BK296 := n2_; have BK297 := n3_; have HB := n4_; clear n0_ n1_ n2_ n3_ n4_; (try clear hb); (try clear hb2); (try clear hk); (try clear hi); (try clear ho0)))
  (try simp only [Act.put, List.setIfInBounds_toArray, List.set_cons_zero, List.set_cons_succ])
  go_cut [26] (fun v26 wc => ∃ (kq : Nat) (x26_6 : Bool), v26 = .bool x26_6 ∧ Aside0 (capstanlaw22_CodecTurns.j0 kq t299 t303 x26_6 a0_0 a0_1 a0_2 a0_3 a0_4 a0_5 l0_6 l0_7 l0_8 a0_9 a0_10 l0_11 a1_0 a1_1 a1_2 a1_3 a1_4 a1_5 l1_6 l1_7 l1_8 a1_9 a1_10 l1_11 = some r) ∧ Aside0 (kq ≤ k) ∧ Aside0 (Kd.R (Kd.int .u8) 5 wc w.heap.size (fun k_ => some k_ ≠ (v304 : Value).ownBlock) v300 t299) ∧ Aside0 (Kd.R (Kd.int .u8) 5 wc w.heap.size (fun k_ => some k_ ≠ (v300 : Value).ownBlock) v304 t303) ∧ Aside0 (wc.heap[gb296]? = some (.cells #[.int .i64 a0_0, .int .i64 a0_1, .int .i64 a0_2, .int .i64 a0_3, .int .i64 a0_4, .int .i64 a0_5, (.slice A0_6 l0_6.length c0_6), (.slice A0_7 l0_7.length c0_7), (.slice A0_8 l0_8.length c0_8), .int .i64 a0_9, .int .i64 a0_10, (.slice A0_11 l0_11.length c0_11)] 29 (0, 0))) ∧ Aside0 (wc.heap[gb297]? = some (.cells #[.int .i64 a1_0, .int .i64 a1_1, .int .i64 a1_2, .int .i64 a1_3, .int .i64 a1_4, .int .i64 a1_5, (.slice A1_6 l1_6.length c1_6), (.slice A1_7 l1_7.length c1_7), (.slice A1_8 l1_8.length c1_8), .int .i64 a1_9, .int .i64 a1_10, (.slice A1_11 l1_11.length c1_11)] 29 (0, 0))) ∧ Aside0 (Below w.heap.size w wc))
  case first =>
   have H := HC7.out
   clear HC7
   by_cases c16 : t302 = 0
   ·rw [if_pos c16] at H
    have c16b0 : (t302 == 0) = true := beq_iff_eq.mpr c16
    have c16b1 : (t302 != 0) = false := bne_eq_false_iff_eq.mpr c16
    clear c16
    (first | rw [c16b0] | (simp only [i64_w, i32_w]; rw [c16b0]) | skip)
    have H' := Aside0.mk H
    clear H
    go_wp2
    go_meet
    case rel => exact ⟨_, ((t306 != 0)), (by first | rfl | (simp; done) | (simp [*]; done)), H', ⟨by first | omega | exact Nat.le_refl _⟩, ⟨by (with_reducible repeat (first | apply Kd.R_alloc | apply Kd.R_drewN | apply Kd.R_drew)); exact Kd.R_mono HO301.out (fun _ hk => hk.2)⟩, ⟨by (with_reducible repeat (first | apply Kd.R_alloc | apply Kd.R_drewN | apply Kd.R_drew)); exact Kd.R_mono HO305.out (fun _ hk => hk.2)⟩, ⟨by (with_reducible repeat (first | refine blk_drewN ?_ _ | refine blk_drew ?_ | refine blk_alloc ?_ _)); exact BK296.out⟩, ⟨by (with_reducible repeat (first | refine blk_drewN ?_ _ | refine blk_drew ?_ | refine blk_alloc ?_ _)); exact BK297.out⟩, ⟨by repeat (first | (with_reducible first | exact HB.out | apply below_alloc | apply pw_below_drewN | apply below_drew1 | refine below_set ?_ GE296.out | refine below_set ?_ GE297.out) | exact HB.out)⟩⟩
   ·rw [if_neg c16] at H
    have c16b0 : (t302 == 0) = false := beq_eq_false_iff_ne.mpr c16
    have c16b1 : (t302 != 0) = true := bne_iff_ne.mpr c16
    (first | rw [c16b0] | (simp only [i64_w, i32_w]; rw [c16b0]) | skip)
    have H' := Aside0.mk H
    clear H
    go_wp2
    go_meet
    case rel => exact ⟨_, (true), (by first | rfl | (simp; done) | (simp [*]; done)), H', ⟨by first | omega | exact Nat.le_refl _⟩, ⟨by (with_reducible repeat (first | apply Kd.R_alloc | apply Kd.R_drewN | apply Kd.R_drew)); exact Kd.R_mono HO301.out (fun _ hk => hk.2)⟩, ⟨by (with_reducible repeat (first | apply Kd.R_alloc | apply Kd.R_drewN | apply Kd.R_drew)); exact Kd.R_mono HO305.out (fun _ hk => hk.2)⟩, ⟨by (with_reducible repeat (first | refine blk_drewN ?_ _ | refine blk_drew ?_ | refine blk_alloc ?_ _)); exact BK296.out⟩, ⟨by (with_reducible repeat (first | refine blk_drewN ?_ _ | refine blk_drew ?_ | refine blk_alloc ?_ _)); exact BK297.out⟩, ⟨by repeat (first | (with_reducible first | exact HB.out | apply below_alloc | apply pw_below_drewN | apply below_drew1 | refine below_set ?_ GE296.out | refine below_set ?_ GE297.out) | exact HB.out)⟩⟩
  case rest =>
   clear HC7
   try clear c1
   try clear p2
   try clear c4
   try clear c7
   try clear c9
   try clear c10
   try clear c11
   try clear c16
   try clear c16b0
   try clear c16b1
   try clear hcz12_0
   try clear hcz12_1
   try clear hcz12_10
   try clear hcz12_11
   try clear hcz12_2
   try clear hcz12_3
   try clear hcz12_4
   try clear hcz12_5
   try clear hcz12_6
   try clear hcz12_7
   try clear hcz12_8
   try clear hcz12_9
   try clear hcz14_0
   try clear hcz14_1
   try clear hcz14_10
   try clear hcz14_11
   try clear hcz14_2
   try clear hcz14_3
   try clear hcz14_4
   try clear hcz14_5
   try clear hcz14_6
   try clear hcz14_7
   try clear hcz14_8
   try clear hcz14_9
   try clear hfz12_0
   try clear hfz12_1
   try clear hfz12_10
   try clear hfz12_11
   try clear hfz12_2
   try clear hfz12_3
   try clear hfz12_4
   try clear hfz12_5
   try clear hfz12_6
   try clear hfz12_7
   try clear hfz12_8
   try clear hfz12_9
   try clear hfz14_0
   try clear hfz14_1
   try clear hfz14_10
   try clear hfz14_11
   try clear hfz14_2
   try clear hfz14_3
   try clear hfz14_4
   try clear hfz14_5
   try clear hfz14_6
   try clear hfz14_7
   try clear hfz14_8
   try clear hfz14_9
   obtain ⟨kq, x26_6, rfl, HA, HJ6, HO_5, HO_7, BK296, BK297, HB⟩ := hcut
   cases kq with
   | zero => exact absurd HA.out (by simp [capstanlaw22_CodecTurns.j0])
   | succ kj6 =>
    have H := HA.out
    clear HA
    simp only [capstanlaw22_CodecTurns.j0] at H
    by_cases c17 : x26_6 = true
    ·subst c17
     have H1 : (some true) = some r := by rw [if_pos rfl] at H; exact H
     clear H
     have H := H1
     clear H1
     obtain rfl := Option.some.inj H
     go_wp2
     go_ret
     exact ⟨by first | rfl | (simp [errW_none, errW_some] <;> rfl) | (simp [*, errW_none, errW_some] <;> rfl), by repeat (first | (with_reducible first | exact HB.out | apply below_alloc | apply pw_below_drewN | apply below_drew1 | refine below_set ?_ GE296.out | refine below_set ?_ GE297.out) | exact HB.out)⟩
    ·replace c17 := Bool.eq_false_iff.mpr c17
     subst c17
     have H1 : ((OP.capstanref22_SameBytes.f t299 t303).bind fun t307 => ((OP.capstanref21_Same.f kj6 a0_0 a0_1 a0_2 a0_3 a0_4 a0_5 l0_6 l0_7 l0_8 a0_9 a0_10 l0_11 a1_0 a1_1 a1_2 a1_3 a1_4 a1_5 l1_6 l1_7 l1_8 a1_9 a1_10 l1_11).bind fun t308 => (some (t307 == t308)))) = some r := by rw [if_neg (show ¬ (false = true) by decide)] at H; exact H
     clear H
     have H := H1
     clear H1
     replace H := Option.bind_eq_some_iff.mp H
     obtain ⟨t307, A180, H⟩ := H
     replace H : ((OP.capstanref21_Same.f kj6 a0_0 a0_1 a0_2 a0_3 a0_4 a0_5 l0_6 l0_7 l0_8 a0_9 a0_10 l0_11 a1_0 a1_1 a1_2 a1_3 a1_4 a1_5 l1_6 l1_7 l1_8 a1_9 a1_10 l1_11).bind fun t308 => (some (t307 == t308))) = some r := H
     have A18 := Aside0.mk A180
     clear A180
     replace H := Option.bind_eq_some_iff.mp H
     obtain ⟨t308, A190, H⟩ := H
     replace H : (some (t307 == t308)) = some r := H
     have A19 := Aside0.mk A190
     clear A190
     obtain rfl := Option.some.inj H
     try go_wp2
     have n0_ := Aside0.mk (Kd.R_drew HO_5.out)
     have n1_ := Aside0.mk (Kd.R_drew HO_7.out)
     have n2_ := Aside0.mk (blk_drew BK296.out)
     have n3_ := Aside0.mk (blk_drew BK297.out)
     have n4_ := Aside0.mk (below_drew1 HB.out)
     clear HO_5
     clear HO_7
     clear BK296
     clear BK297
     clear HB
     have HO_5 := n0_
     have HO_7 := n1_
     have BK296 := n2_
     have BK297 := n3_
     have HB := n4_
     clear n0_ n1_ n2_ n3_ n4_
     obtain ⟨Ao21, co21, eo21⟩ := Kd.R_slice HO_5.out
     (first | subst eo21 | (injection eo21 with f1_ f2_ f3_; have f4_ := f1_.symm; have f5_ := f3_.symm; clear f1_ f2_ f3_; subst f4_; subst f5_))
     obtain ⟨Ao22, co22, eo22⟩ := Kd.R_slice HO_7.out
     (first | subst eo22 | (injection eo22 with f1_ f2_ f3_; have f4_ := f1_.symm; have f5_ := f3_.symm; clear f1_ f2_ f3_; subst f4_; subst f5_))
     refine start_ (n := 8) (S := fun w' => w'.cell? ⟨gb296, 0, none⟩ = some (.int .i64 a0_0) ∧ w'.cell? ⟨gb296, 1, none⟩ = some (.int .i64 a0_1) ∧ w'.cell? ⟨gb296, 2, none⟩ = some (.int .i64 a0_2) ∧ w'.cell? ⟨gb296, 3, none⟩ = some (.int .i64 a0_3) ∧ w'.cell? ⟨gb296, 4, none⟩ = some (.int .i64 a0_4) ∧ w'.cell? ⟨gb296, 5, none⟩ = some (.int .i64 a0_5) ∧ w'.cell? ⟨gb296, 6, none⟩ = some (.slice A0_6 l0_6.length c0_6) ∧ w'.cell? ⟨gb296, 7, none⟩ = some (.slice A0_7 l0_7.length c0_7) ∧ w'.cell? ⟨gb296, 8, none⟩ = some (.slice A0_8 l0_8.length c0_8) ∧ w'.cell? ⟨gb296, 9, none⟩ = some (.int .i64 a0_9) ∧ w'.cell? ⟨gb296, 10, none⟩ = some (.int .i64 a0_10) ∧ w'.cell? ⟨gb296, 11, none⟩ = some (.slice A0_11 l0_11.length c0_11) ∧ w'.cell? ⟨gb297, 0, none⟩ = some (.int .i64 a1_0) ∧ w'.cell? ⟨gb297, 1, none⟩ = some (.int .i64 a1_1) ∧ w'.cell? ⟨gb297, 2, none⟩ = some (.int .i64 a1_2) ∧ w'.cell? ⟨gb297, 3, none⟩ = some (.int .i64 a1_3) ∧ w'.cell? ⟨gb297, 4, none⟩ = some (.int .i64 a1_4) ∧ w'.cell? ⟨gb297, 5, none⟩ = some (.int .i64 a1_5) ∧ w'.cell? ⟨gb297, 6, none⟩ = some (.slice A1_6 l1_6.length c1_6) ∧ w'.cell? ⟨gb297, 7, none⟩ = some (.slice A1_7 l1_7.length c1_7) ∧ w'.cell? ⟨gb297, 8, none⟩ = some (.slice A1_8 l1_8.length c1_8) ∧ w'.cell? ⟨gb297, 9, none⟩ = some (.int .i64 a1_9) ∧ w'.cell? ⟨gb297, 10, none⟩ = some (.int .i64 a1_10) ∧ w'.cell? ⟨gb297, 11, none⟩ = some (.slice A1_11 l1_11.length c1_11)) (ds := []) #[false, false, false, false, false, false, false, false] (by kernel_rfl) rfl rfl ⟨(blk_cell BK296.out 0).trans rfl, (blk_cell BK296.out 1).trans rfl, (blk_cell BK296.out 2).trans rfl, (blk_cell BK296.out 3).trans rfl, (blk_cell BK296.out 4).trans rfl, (blk_cell BK296.out 5).trans rfl, (blk_cell BK296.out 6).trans rfl, (blk_cell BK296.out 7).trans rfl, (blk_cell BK296.out 8).trans rfl, (blk_cell BK296.out 9).trans rfl, (blk_cell BK296.out 10).trans rfl, (blk_cell BK296.out 11).trans rfl, (blk_cell BK297.out 0).trans rfl, (blk_cell BK297.out 1).trans rfl, (blk_cell BK297.out 2).trans rfl, (blk_cell BK297.out 3).trans rfl, (blk_cell BK297.out 4).trans rfl, (blk_cell BK297.out 5).trans rfl, (blk_cell BK297.out 6).trans rfl, (blk_cell BK297.out 7).trans rfl, (blk_cell BK297.out 8).trans rfl, (blk_cell BK297.out 9).trans rfl, (blk_cell BK297.out 10).trans rfl, (blk_cell BK297.out 11).trans rfl⟩ (fun hHeld => ?_); refine with_tabW capstanlaw22_CodecTurns.tab7 capstanlaw22_CodecTurns.bits7 (fun HT_ HW_ => ?_)
     generalize wc.drew = w20 at HO_5 HO_7 BK296 BK297 HB hHeld ⊢
     refine pure_ (i := 0) (N := some 27) (v := ?_) (a' := ?_) #[true, false, false, false, false, false, false, false] rfl rfl (any_of HT_.out (by kernel_rfl)) (fun _ _ _ h => h) (Or.inl ⟨by rfl, ?_⟩) ?_ ?_
     rotate_left
     ·intro w'
      go_simp
      with_reducible rfl
     rotate_left
     ·simp only [Act.put, List.setIfInBounds_toArray, List.set_cons_zero, List.set_cons_succ, i64_w, i32_w]
      rfl
     refine pure_ (i := 1) (N := some 28) (v := ?_) (a' := ?_) #[true, true, false, false, false, false, false, false] rfl rfl (any_of HT_.out (by kernel_rfl)) (fun _ _ _ h => h) (Or.inl ⟨by rfl, ?_⟩) ?_ ?_
     rotate_left
     ·intro w'
      go_simp
      with_reducible rfl
     rotate_left
     ·simp only [Act.put, List.setIfInBounds_toArray, List.set_cons_zero, List.set_cons_succ, i64_w, i32_w]
      rfl
     refine take_ (i := 3) (N := some 30) (v := ?_) (a' := ?_) #[true, true, false, true, false, false, false, false] rfl rfl (take_ofW HT_.out HW_.out (by kernel_rfl)) (fun _ _ _ h => h) (Or.inl ⟨by rfl, ?_⟩) hHeld ?_ ?_
     rotate_left
     ·rintro w' ⟨s0, s1, s2, s3, s4, s5, s6, s7, s8, s9, s10, s11, s12, s13, s14, s15, s16, s17, s18, s19, s20, s21, s22, s23⟩
      go_simp
      with_reducible rfl
     rotate_left
     ·simp only [Act.put, List.setIfInBounds_toArray, List.set_cons_zero, List.set_cons_succ, i64_w, i32_w]
      rfl
     refine take_ (i := 4) (N := some 31) (v := ?_) (a' := ?_) #[true, true, false, true, true, false, false, false] rfl rfl (take_ofW HT_.out HW_.out (by kernel_rfl)) (fun _ _ _ h => h) (Or.inl ⟨by rfl, ?_⟩) hHeld ?_ ?_
     rotate_left
     ·rintro w' ⟨s0, s1, s2, s3, s4, s5, s6, s7, s8, s9, s10, s11, s12, s13, s14, s15, s16, s17, s18, s19, s20, s21, s22, s23⟩
      go_simp
      with_reducible rfl
     rotate_left
     ·simp only [Act.put, List.setIfInBounds_toArray, List.set_cons_zero, List.set_cons_succ, i64_w, i32_w]
      rfl
     refine one_ (i := 2) (N := some 29) #[true, true, true, true, true, false, false, false] rfl rfl (one_of HT_.out (by kernel_rfl)) (by decide) (fun K hK => ?_)
     refine goes_ Try.func12 (by kernel_rfl) rfl #[.slice Ao21 t299.length co21, .slice Ao22 t303.length co22] (by rfl) rfl rfl (by (try simp only [List.map_toArray, List.map_cons, List.map_nil]); first | done | rfl | (simp only [List.length_drop, List.length_take]; rfl)) ?_
     with_reducible refine (OP.capstanref22_SameBytes.calls _ _ t299 _ _ t303 t307 _ ?side1 ?side2 ?side3 ?side4 A18.out).mono ?_
     (case side1 => repeat (first | exact (Kd.R_reads' HO_5.out).2.2 | (with_reducible refine Kd.C_alloc ?_ _) | (with_reducible refine Kd.C_drewN ?_ _) | (with_reducible refine Kd.C_drew ?_)))
     (case side2 => exact (Kd.R_reads' HO_5.out).2.1)
     (case side3 => repeat (first | exact (Kd.R_reads' HO_7.out).2.2 | (with_reducible refine Kd.C_alloc ?_ _) | (with_reducible refine Kd.C_drewN ?_ _) | (with_reducible refine Kd.C_drew ?_)))
     (case side4 => exact (Kd.R_reads' HO_7.out).2.1)
     rintro e w' ⟨rfl, ⟨nd, rfl⟩⟩
     refine ⟨_, rfl, ?_⟩
     refine hK.out _ _ ⟨(blk_cell BK296.out 0).trans rfl, (blk_cell BK296.out 1).trans rfl, (blk_cell BK296.out 2).trans rfl, (blk_cell BK296.out 3).trans rfl, (blk_cell BK296.out 4).trans rfl, (blk_cell BK296.out 5).trans rfl, (blk_cell BK296.out 6).trans rfl, (blk_cell BK296.out 7).trans rfl, (blk_cell BK296.out 8).trans rfl, (blk_cell BK296.out 9).trans rfl, (blk_cell BK296.out 10).trans rfl, (blk_cell BK296.out 11).trans rfl, (blk_cell BK297.out 0).trans rfl, (blk_cell BK297.out 1).trans rfl, (blk_cell BK297.out 2).trans rfl, (blk_cell BK297.out 3).trans rfl, (blk_cell BK297.out 4).trans rfl, (blk_cell BK297.out 5).trans rfl, (blk_cell BK297.out 6).trans rfl, (blk_cell BK297.out 7).trans rfl, (blk_cell BK297.out 8).trans rfl, (blk_cell BK297.out 9).trans rfl, (blk_cell BK297.out 10).trans rfl, (blk_cell BK297.out 11).trans rfl⟩ (fun hHeld => ?_)
     clear hK K
     refine norm_ (a' := ?_) ?_ ?_
     rotate_left
     ·show Act.put _ (some 29) _ = _
      simp only [Act.put, List.setIfInBounds_toArray, List.set_cons_zero, List.set_cons_succ, i64_w, i32_w]
      rfl
     refine one_ (i := 5) (N := some 32) #[true, true, true, true, true, true, false, false] rfl rfl (one_of HT_.out (by kernel_rfl)) (by decide) (fun K hK => ?_)
     refine goes_ Try.func15 (by kernel_rfl) rfl #[.agg #[.int .i64 a0_0, .int .i64 a0_1, .int .i64 a0_2, .int .i64 a0_3, .int .i64 a0_4, .int .i64 a0_5, .slice A0_6 l0_6.length c0_6, .slice A0_7 l0_7.length c0_7, .slice A0_8 l0_8.length c0_8, .int .i64 a0_9, .int .i64 a0_10, .slice A0_11 l0_11.length c0_11], .agg #[.int .i64 a1_0, .int .i64 a1_1, .int .i64 a1_2, .int .i64 a1_3, .int .i64 a1_4, .int .i64 a1_5, .slice A1_6 l1_6.length c1_6, .slice A1_7 l1_7.length c1_7, .slice A1_8 l1_8.length c1_8, .int .i64 a1_9, .int .i64 a1_10, .slice A1_11 l1_11.length c1_11]] (by rfl) rfl rfl (by (try simp only [List.map_toArray, List.map_cons, List.map_nil]); first | done | rfl | (simp only [List.length_drop, List.length_take]; rfl)) ?_
     with_reducible refine (OP.capstanref21_Same.calls kj6 a0_0 a0_1 a0_2 a0_3 a0_4 a0_5 _ _ l0_6 _ _ l0_7 _ _ l0_8 a0_9 a0_10 _ _ l0_11 a1_0 a1_1 a1_2 a1_3 a1_4 a1_5 _ _ l1_6 _ _ l1_7 _ _ l1_8 a1_9 a1_10 _ _ l1_11 t308 _ ?side1 ?side2 ?side3 ?side4 ?side5 ?side6 ?side7 ?side8 ?side9 ?side10 ?side11 ?side12 ?side13 ?side14 ?side15 ?side16 A19.out).mono ?_
     (case side1 => repeat (first | exact (Kd.C_below HR0_6.out (by repeat (first | (with_reducible first | exact HB.out | apply below_alloc | apply pw_below_drewN | apply below_drew1 | refine below_set ?_ GE296.out | refine below_set ?_ GE297.out) | exact HB.out))) | (with_reducible refine Kd.C_alloc ?_ _) | (with_reducible refine Kd.C_drewN ?_ _) | (with_reducible refine Kd.C_drew ?_)))
     (case side2 => exact HC0_6.out)
     (case side3 => repeat (first | exact (Kd.C_below HR0_7.out (by repeat (first | (with_reducible first | exact HB.out | apply below_alloc | apply pw_below_drewN | apply below_drew1 | refine below_set ?_ GE296.out | refine below_set ?_ GE297.out) | exact HB.out))) | (with_reducible refine Kd.C_alloc ?_ _) | (with_reducible refine Kd.C_drewN ?_ _) | (with_reducible refine Kd.C_drew ?_)))
     (case side4 => exact HC0_7.out)
     (case side5 => repeat (first | exact (Kd.C_below HR0_8.out (by repeat (first | (with_reducible first | exact HB.out | apply below_alloc | apply pw_below_drewN | apply below_drew1 | refine below_set ?_ GE296.out | refine below_set ?_ GE297.out) | exact HB.out))) | (with_reducible refine Kd.C_alloc ?_ _) | (with_reducible refine Kd.C_drewN ?_ _) | (with_reducible refine Kd.C_drew ?_)))
     (case side6 => exact HC0_8.out)
     (case side7 => repeat (first | exact (Kd.C_below HR0_11.out (by repeat (first | (with_reducible first | exact HB.out | apply below_alloc | apply pw_below_drewN | apply below_drew1 | refine below_set ?_ GE296.out | refine below_set ?_ GE297.out) | exact HB.out))) | (with_reducible refine Kd.C_alloc ?_ _) | (with_reducible refine Kd.C_drewN ?_ _) | (with_reducible refine Kd.C_drew ?_)))
     (case side8 => exact HC0_11.out)
     (case side9 => repeat (first | exact (Kd.C_below HR1_6.out (by repeat (first | (with_reducible first | exact HB.out | apply below_alloc | apply pw_below_drewN | apply below_drew1 | refine below_set ?_ GE296.out | refine below_set ?_ GE297.out) | exact HB.out))) | (with_reducible refine Kd.C_alloc ?_ _) | (with_reducible refine Kd.C_drewN ?_ _) | (with_reducible refine Kd.C_drew ?_)))
     (case side10 => exact HC1_6.out)
     (case side11 => repeat (first | exact (Kd.C_below HR1_7.out (by repeat (first | (with_reducible first | exact HB.out | apply below_alloc | apply pw_below_drewN | apply below_drew1 | refine below_set ?_ GE296.out | refine below_set ?_ GE297.out) | exact HB.out))) | (with_reducible refine Kd.C_alloc ?_ _) | (with_reducible refine Kd.C_drewN ?_ _) | (with_reducible refine Kd.C_drew ?_)))
     (case side12 => exact HC1_7.out)
     (case side13 => repeat (first | exact (Kd.C_below HR1_8.out (by repeat (first | (with_reducible first | exact HB.out | apply below_alloc | apply pw_below_drewN | apply below_drew1 | refine below_set ?_ GE296.out | refine below_set ?_ GE297.out) | exact HB.out))) | (with_reducible refine Kd.C_alloc ?_ _) | (with_reducible refine Kd.C_drewN ?_ _) | (with_reducible refine Kd.C_drew ?_)))
     (case side14 => exact HC1_8.out)
     (case side15 => repeat (first | exact (Kd.C_below HR1_11.out (by repeat (first | (with_reducible first | exact HB.out | apply below_alloc | apply pw_below_drewN | apply below_drew1 | refine below_set ?_ GE296.out | refine below_set ?_ GE297.out) | exact HB.out))) | (with_reducible refine Kd.C_alloc ?_ _) | (with_reducible refine Kd.C_drewN ?_ _) | (with_reducible refine Kd.C_drew ?_)))
     (case side16 => exact HC1_11.out)
     rintro e w23 ⟨rfl, hb⟩
     refine ⟨_, rfl, ?_⟩
     have n0_ := Aside0.mk (Kd.R_below (by (with_reducible repeat (first | apply Kd.R_alloc | apply Kd.R_drewN | apply Kd.R_drew)); exact HO_5.out) hb)
     have n1_ := Aside0.mk (Kd.R_below (by (with_reducible repeat (first | apply Kd.R_alloc | apply Kd.R_drewN | apply Kd.R_drew)); exact HO_7.out) hb)
     have n2_ := Aside0.mk (blk_below (g := gb296) (o := .cells #[.int .i64 a0_0, .int .i64 a0_1, .int .i64 a0_2, .int .i64 a0_3, .int .i64 a0_4, .int .i64 a0_5, .slice A0_6 l0_6.length c0_6, .slice A0_7 l0_7.length c0_7, .slice A0_8 l0_8.length c0_8, .int .i64 a0_9, .int .i64 a0_10, .slice A0_11 l0_11.length c0_11] 29 (0, 0)) (by (with_reducible repeat (first | refine blk_drewN ?_ _ | refine blk_drew ?_ | refine blk_alloc ?_ _)); exact BK296.out) hb)
     have n3_ := Aside0.mk (blk_below (g := gb297) (o := .cells #[.int .i64 a1_0, .int .i64 a1_1, .int .i64 a1_2, .int .i64 a1_3, .int .i64 a1_4, .int .i64 a1_5, .slice A1_6 l1_6.length c1_6, .slice A1_7 l1_7.length c1_7, .slice A1_8 l1_8.length c1_8, .int .i64 a1_9, .int .i64 a1_10, .slice A1_11 l1_11.length c1_11] 29 (0, 0)) (by (with_reducible repeat (first | refine blk_drewN ?_ _ | refine blk_drew ?_ | refine blk_alloc ?_ _)); exact BK297.out) hb)
     have n4_ := Aside0.mk (below_step (by repeat (first | (with_reducible first | exact HB.out | apply below_alloc | apply pw_below_drewN | apply below_drew1 | refine below_set ?_ GE296.out | refine below_set ?_ GE297.out) | exact HB.out)) hb)
     clear HO_5
     clear HO_7
     clear BK296
     clear BK297
     clear HB
     have HO_5 := n0_
     have HO_7 := n1_
     have BK296 := n2_
     have BK297 := n3_
     have HB := n4_
     clear n0_ n1_ n2_ n3_ n4_
     (try clear hb)
     (try clear hb2)
     (try clear hk)
     (try clear hi)
     refine hK.out _ _ ⟨(blk_cell BK296.out 0).trans rfl, (blk_cell BK296.out 1).trans rfl, (blk_cell BK296.out 2).trans rfl, (blk_cell BK296.out 3).trans rfl, (blk_cell BK296.out 4).trans rfl, (blk_cell BK296.out 5).trans rfl, (blk_cell BK296.out 6).trans rfl, (blk_cell BK296.out 7).trans rfl, (blk_cell BK296.out 8).trans rfl, (blk_cell BK296.out 9).trans rfl, (blk_cell BK296.out 10).trans rfl, (blk_cell BK296.out 11).trans rfl, (blk_cell BK297.out 0).trans rfl, (blk_cell BK297.out 1).trans rfl, (blk_cell BK297.out 2).trans rfl, (blk_cell BK297.out 3).trans rfl, (blk_cell BK297.out 4).trans rfl, (blk_cell BK297.out 5).trans rfl, (blk_cell BK297.out 6).trans rfl, (blk_cell BK297.out 7).trans rfl, (blk_cell BK297.out 8).trans rfl, (blk_cell BK297.out 9).trans rfl, (blk_cell BK297.out 10).trans rfl, (blk_cell BK297.out 11).trans rfl⟩ (fun hHeld => ?_)
     clear hK K
     refine norm_ (a' := ?_) ?_ ?_
     rotate_left
     ·show Act.put _ (some 32) _ = _
      simp only [Act.put, List.setIfInBounds_toArray, List.set_cons_zero, List.set_cons_succ, i64_w, i32_w]
      rfl
     refine pure_ (i := 6) (N := some 33) (v := ?_) (a' := ?_) #[true, true, true, true, true, true, true, false] rfl rfl (any_of HT_.out (by kernel_rfl)) (fun _ _ _ h => h) (Or.inl ⟨by rfl, ?_⟩) ?_ ?_
     rotate_left
     ·intro w'
      go_simp
      with_reducible rfl
     rotate_left
     ·simp only [Act.put, List.setIfInBounds_toArray, List.set_cons_zero, List.set_cons_succ, i64_w, i32_w]
      rfl
     refine pure_ (i := 7) (N := some 4) (v := ?_) (a' := ?_) #[true, true, true, true, true, true, true, true] rfl rfl (any_of HT_.out (by kernel_rfl)) (fun _ _ _ h => h) (Or.inl ⟨by rfl, ?_⟩) ?_ ?_
     rotate_left
     ·intro w'
      go_simp
      with_reducible rfl
     rotate_left
     ·simp only [Act.put, List.setIfInBounds_toArray, List.set_cons_zero, List.set_cons_succ, i64_w, i32_w]
      rfl
     refine done_ (done_of HT_.out (by kernel_rfl)) ?_
     try go_wp2
     go_ret
     exact ⟨by first | rfl | (simp [errW_none, errW_some] <;> rfl) | (simp [*, errW_none, errW_some] <;> rfl), by repeat (first | (with_reducible first | exact HB.out | apply below_alloc | apply pw_below_drewN | apply below_drew1 | refine below_set ?_ GE296.out | refine below_set ?_ GE297.out) | exact HB.out)⟩
 ·replace c4 := Bool.eq_false_iff.mpr c4
  subst c4
  rw [if_neg (by decide)] at H
  exact absurd (H.trans (congrArg some HR_.out)) (by decide)
end Go.Proofs.Ytkdboaaganmagaa.OL
