/- Walks of functions, written by a program (wip/tools/own.py) over hand contracts; conditions: as each theorem states. -/
import Derived.Test.YtkdboaaganmagaaOPx0
import Derived.Test.YtkdboaaganmagaaOPx1
namespace Go.Proofs.Ytkdboaaganmagaa.OP
open Go.RowKit Go.Proofs.YtkdboaaganmagaaW.PrintWords Go.Proofs.YtkdboaaganmagaaW.PrintLast Go.Proofs.YtkdboaaganmagaaW.PrintMore
attribute [local go_sem] max2_int min2_int max_two min_two max_three min_three max_four min_four   -- for this text's walks alone
set_option linter.unusedVariables false
set_option linter.unusedSimpArgs false

attribute [local go_sem high] eqA23 eqA45 eqA51 eqA54
/-! ### capstanref21_Same: function 15 -/
mutual
def capstanref21_Same.j0 : Nat → Bool → Int → Int → Int → Int → Int → Int → List Int → List (S51) → List (S54) → Int → Int → List (S45) → Int → Int → Int → Int → Int → Int → List Int → List (S51) → List (S54) → Int → Int → List (S45) → Option (Bool)
 | 0, _, _, _, _, _, _, _, _, _, _, _, _, _, _, _, _, _, _, _, _, _, _, _, _, _ => none
 | k + 1, x70, x129000, x129001, x129002, x129003, x129004, x129005, x129006, x129007, x129008, x129009, x129010, x129011, x130000, x130001, x130002, x130003, x130004, x130005, x130006, x130007, x130008, x130009, x130010, x130011 => if x70 = true then (some false) else (capstanref21_Same.l0 k 0 x129000 x129001 x129002 x129003 x129004 x129005 x129006 x129007 x129008 x129009 x129010 x129011 x130000 x130001 x130002 x130003 x130004 x130005 x130006 x130007 x130008 x130009 x130010 x130011)
def capstanref21_Same.l0 : Nat → Int → Int → Int → Int → Int → Int → Int → List Int → List (S51) → List (S54) → Int → Int → List (S45) → Int → Int → Int → Int → Int → Int → List Int → List (S51) → List (S54) → Int → Int → List (S45) → Option (Bool)
 | 0, _, _, _, _, _, _, _, _, _, _, _, _, _, _, _, _, _, _, _, _, _, _, _, _, _ => none
 | k + 1, x5, x129000, x129001, x129002, x129003, x129004, x129005, x129006, x129007, x129008, x129009, x129010, x129011, x130000, x130001, x130002, x130003, x130004, x130005, x130006, x130007, x130008, x130009, x130010, x130011 => if x5 < (x129006.length : Int) then (if 0 ≤ x5 then (if x5 < (x130006.length : Int) then (if (rd x129006 x5) = (rd x130006 x5) then (capstanref21_Same.l0 k (wrap64 (x5 + 1)) x129000 x129001 x129002 x129003 x129004 x129005 x129006 x129007 x129008 x129009 x129010 x129011 x130000 x130001 x130002 x130003 x130004 x130005 x130006 x130007 x130008 x130009 x130010 x130011) else (some false)) else (none)) else (none)) else (capstanref21_Same.l1 k 0 x129000 x129001 x129002 x129003 x129004 x129005 x129006 x129007 x129008 x129009 x129010 x129011 x130000 x130001 x130002 x130003 x130004 x130005 x130006 x130007 x130008 x130009 x130010 x130011)
def capstanref21_Same.l1 : Nat → Int → Int → Int → Int → Int → Int → Int → List Int → List (S51) → List (S54) → Int → Int → List (S45) → Int → Int → Int → Int → Int → Int → List Int → List (S51) → List (S54) → Int → Int → List (S45) → Option (Bool)
 | 0, _, _, _, _, _, _, _, _, _, _, _, _, _, _, _, _, _, _, _, _, _, _, _, _, _ => none
 | k + 1, x6, x129000, x129001, x129002, x129003, x129004, x129005, x129006, x129007, x129008, x129009, x129010, x129011, x130000, x130001, x130002, x130003, x130004, x130005, x130006, x130007, x130008, x130009, x130010, x130011 => if x6 < (x129007.length : Int) then (if 0 ≤ x6 then (if x6 < (x130007.length : Int) then (if (!(((rd_T51 x129007 x6).f0) == ((rd_T51 x130007 x6).f0)) || (!(((rd_T51 x129007 x6).f1) == ((rd_T51 x130007 x6).f1)) || (!(((rd_T51 x129007 x6).f2) == ((rd_T51 x130007 x6).f2)) || (!(((rd_T51 x129007 x6).f3) == ((rd_T51 x130007 x6).f3)))))) = true then (some false) else (capstanref21_Same.l1 k (wrap64 (x6 + 1)) x129000 x129001 x129002 x129003 x129004 x129005 x129006 x129007 x129008 x129009 x129010 x129011 x130000 x130001 x130002 x130003 x130004 x130005 x130006 x130007 x130008 x130009 x130010 x130011)) else (none)) else (none)) else (capstanref21_Same.l2 k 0 x129000 x129001 x129002 x129003 x129004 x129005 x129006 x129007 x129008 x129009 x129010 x129011 x130000 x130001 x130002 x130003 x130004 x130005 x130006 x130007 x130008 x130009 x130010 x130011)
def capstanref21_Same.l2 : Nat → Int → Int → Int → Int → Int → Int → Int → List Int → List (S51) → List (S54) → Int → Int → List (S45) → Int → Int → Int → Int → Int → Int → List Int → List (S51) → List (S54) → Int → Int → List (S45) → Option (Bool)
 | 0, _, _, _, _, _, _, _, _, _, _, _, _, _, _, _, _, _, _, _, _, _, _, _, _, _ => none
 | k + 1, x7, x129000, x129001, x129002, x129003, x129004, x129005, x129006, x129007, x129008, x129009, x129010, x129011, x130000, x130001, x130002, x130003, x130004, x130005, x130006, x130007, x130008, x130009, x130010, x130011 => if x7 < (x129008.length : Int) then (if 0 ≤ x7 then (if x7 < (x130008.length : Int) then (if (!(((rd_T54 x129008 x7).f0) == ((rd_T54 x130008 x7).f0)) || (!(((rd_T54 x129008 x7).f1) == ((rd_T54 x130008 x7).f1)) || (!(((rd_T54 x129008 x7).f2) == ((rd_T54 x130008 x7).f2)) || (!(((rd_T54 x129008 x7).f3) == ((rd_T54 x130008 x7).f3)) || (!(((rd_T54 x129008 x7).f4) == ((rd_T54 x130008 x7).f4))))))) = true then (some false) else (capstanref21_Same.l2 k (wrap64 (x7 + 1)) x129000 x129001 x129002 x129003 x129004 x129005 x129006 x129007 x129008 x129009 x129010 x129011 x130000 x130001 x130002 x130003 x130004 x130005 x130006 x130007 x130008 x130009 x130010 x130011)) else (none)) else (none)) else (capstanref21_Same.l3 k 0 x129000 x129001 x129002 x129003 x129004 x129005 x129006 x129007 x129008 x129009 x129010 x129011 x130000 x130001 x130002 x130003 x130004 x130005 x130006 x130007 x130008 x130009 x130010 x130011)
def capstanref21_Same.l3 : Nat → Int → Int → Int → Int → Int → Int → Int → List Int → List (S51) → List (S54) → Int → Int → List (S45) → Int → Int → Int → Int → Int → Int → List Int → List (S51) → List (S54) → Int → Int → List (S45) → Option (Bool)
 | 0, _, _, _, _, _, _, _, _, _, _, _, _, _, _, _, _, _, _, _, _, _, _, _, _, _ => none
 | k + 1, x8, x129000, x129001, x129002, x129003, x129004, x129005, x129006, x129007, x129008, x129009, x129010, x129011, x130000, x130001, x130002, x130003, x130004, x130005, x130006, x130007, x130008, x130009, x130010, x130011 => if x8 < (x129011.length : Int) then (if 0 ≤ x8 then (if x8 < (x130011.length : Int) then (if (!(((rd_T45 x129011 x8).f0) == ((rd_T45 x130011 x8).f0)) || (!(((rd_T45 x129011 x8).f1) == ((rd_T45 x130011 x8).f1)))) = true then (some false) else (capstanref21_Same.l3 k (wrap64 (x8 + 1)) x129000 x129001 x129002 x129003 x129004 x129005 x129006 x129007 x129008 x129009 x129010 x129011 x130000 x130001 x130002 x130003 x130004 x130005 x130006 x130007 x130008 x130009 x130010 x130011)) else (none)) else (none)) else (some true)
end
def capstanref21_Same.f (k : Nat) (a0_0 : Int) (a0_1 : Int) (a0_2 : Int) (a0_3 : Int) (a0_4 : Int) (a0_5 : Int) (l0_6 : List Int) (l0_7 : List (S51)) (l0_8 : List (S54)) (a0_9 : Int) (a0_10 : Int) (l0_11 : List (S45)) (a1_0 : Int) (a1_1 : Int) (a1_2 : Int) (a1_3 : Int) (a1_4 : Int) (a1_5 : Int) (l1_6 : List Int) (l1_7 : List (S51)) (l1_8 : List (S54)) (a1_9 : Int) (a1_10 : Int) (l1_11 : List (S45)) : Option (Bool) := if a0_0 = a1_0 then (if (!(a0_1 == a1_1) || (!(a0_2 == a1_2) || (!(a0_3 == a1_3) || (!(a0_4 == a1_4) || (!(a0_5 == a1_5)))))) = true then (capstanref21_Same.j0 k true a0_0 a0_1 a0_2 a0_3 a0_4 a0_5 l0_6 l0_7 l0_8 a0_9 a0_10 l0_11 a1_0 a1_1 a1_2 a1_3 a1_4 a1_5 l1_6 l1_7 l1_8 a1_9 a1_10 l1_11) else (if a0_9 = a1_9 then (if a0_10 = a1_10 then (if (l0_6.length : Int) = (l1_6.length : Int) then (if (l0_7.length : Int) = (l1_7.length : Int) then (if (l0_8.length : Int) = (l1_8.length : Int) then (capstanref21_Same.j0 k ((l0_11.length : Int) != (l1_11.length : Int)) a0_0 a0_1 a0_2 a0_3 a0_4 a0_5 l0_6 l0_7 l0_8 a0_9 a0_10 l0_11 a1_0 a1_1 a1_2 a1_3 a1_4 a1_5 l1_6 l1_7 l1_8 a1_9 a1_10 l1_11) else (capstanref21_Same.j0 k true a0_0 a0_1 a0_2 a0_3 a0_4 a0_5 l0_6 l0_7 l0_8 a0_9 a0_10 l0_11 a1_0 a1_1 a1_2 a1_3 a1_4 a1_5 l1_6 l1_7 l1_8 a1_9 a1_10 l1_11)) else (capstanref21_Same.j0 k true a0_0 a0_1 a0_2 a0_3 a0_4 a0_5 l0_6 l0_7 l0_8 a0_9 a0_10 l0_11 a1_0 a1_1 a1_2 a1_3 a1_4 a1_5 l1_6 l1_7 l1_8 a1_9 a1_10 l1_11)) else (capstanref21_Same.j0 k true a0_0 a0_1 a0_2 a0_3 a0_4 a0_5 l0_6 l0_7 l0_8 a0_9 a0_10 l0_11 a1_0 a1_1 a1_2 a1_3 a1_4 a1_5 l1_6 l1_7 l1_8 a1_9 a1_10 l1_11)) else (capstanref21_Same.j0 k true a0_0 a0_1 a0_2 a0_3 a0_4 a0_5 l0_6 l0_7 l0_8 a0_9 a0_10 l0_11 a1_0 a1_1 a1_2 a1_3 a1_4 a1_5 l1_6 l1_7 l1_8 a1_9 a1_10 l1_11)) else (capstanref21_Same.j0 k true a0_0 a0_1 a0_2 a0_3 a0_4 a0_5 l0_6 l0_7 l0_8 a0_9 a0_10 l0_11 a1_0 a1_1 a1_2 a1_3 a1_4 a1_5 l1_6 l1_7 l1_8 a1_9 a1_10 l1_11))) else (capstanref21_Same.j0 k true a0_0 a0_1 a0_2 a0_3 a0_4 a0_5 l0_6 l0_7 l0_8 a0_9 a0_10 l0_11 a1_0 a1_1 a1_2 a1_3 a1_4 a1_5 l1_6 l1_7 l1_8 a1_9 a1_10 l1_11)
theorem capstanref21_Same.mono_l : ∀ k, (∀ y0 y1 y2 y3 y4 y5 y6 y7 y8 y9 y10 y11 y12 y13 y14 y15 y16 y17 y18 y19 y20 y21 y22 y23 y24, LeO (capstanref21_Same.j0 k y0 y1 y2 y3 y4 y5 y6 y7 y8 y9 y10 y11 y12 y13 y14 y15 y16 y17 y18 y19 y20 y21 y22 y23 y24) (capstanref21_Same.j0 (k + 1) y0 y1 y2 y3 y4 y5 y6 y7 y8 y9 y10 y11 y12 y13 y14 y15 y16 y17 y18 y19 y20 y21 y22 y23 y24)) ∧ (∀ y0 y1 y2 y3 y4 y5 y6 y7 y8 y9 y10 y11 y12 y13 y14 y15 y16 y17 y18 y19 y20 y21 y22 y23 y24, LeO (capstanref21_Same.l0 k y0 y1 y2 y3 y4 y5 y6 y7 y8 y9 y10 y11 y12 y13 y14 y15 y16 y17 y18 y19 y20 y21 y22 y23 y24) (capstanref21_Same.l0 (k + 1) y0 y1 y2 y3 y4 y5 y6 y7 y8 y9 y10 y11 y12 y13 y14 y15 y16 y17 y18 y19 y20 y21 y22 y23 y24)) ∧ (∀ y0 y1 y2 y3 y4 y5 y6 y7 y8 y9 y10 y11 y12 y13 y14 y15 y16 y17 y18 y19 y20 y21 y22 y23 y24, LeO (capstanref21_Same.l1 k y0 y1 y2 y3 y4 y5 y6 y7 y8 y9 y10 y11 y12 y13 y14 y15 y16 y17 y18 y19 y20 y21 y22 y23 y24) (capstanref21_Same.l1 (k + 1) y0 y1 y2 y3 y4 y5 y6 y7 y8 y9 y10 y11 y12 y13 y14 y15 y16 y17 y18 y19 y20 y21 y22 y23 y24)) ∧ (∀ y0 y1 y2 y3 y4 y5 y6 y7 y8 y9 y10 y11 y12 y13 y14 y15 y16 y17 y18 y19 y20 y21 y22 y23 y24, LeO (capstanref21_Same.l2 k y0 y1 y2 y3 y4 y5 y6 y7 y8 y9 y10 y11 y12 y13 y14 y15 y16 y17 y18 y19 y20 y21 y22 y23 y24) (capstanref21_Same.l2 (k + 1) y0 y1 y2 y3 y4 y5 y6 y7 y8 y9 y10 y11 y12 y13 y14 y15 y16 y17 y18 y19 y20 y21 y22 y23 y24)) ∧ (∀ y0 y1 y2 y3 y4 y5 y6 y7 y8 y9 y10 y11 y12 y13 y14 y15 y16 y17 y18 y19 y20 y21 y22 y23 y24, LeO (capstanref21_Same.l3 k y0 y1 y2 y3 y4 y5 y6 y7 y8 y9 y10 y11 y12 y13 y14 y15 y16 y17 y18 y19 y20 y21 y22 y23 y24) (capstanref21_Same.l3 (k + 1) y0 y1 y2 y3 y4 y5 y6 y7 y8 y9 y10 y11 y12 y13 y14 y15 y16 y17 y18 y19 y20 y21 y22 y23 y24))
 | 0 => ⟨fun _ _ _ _ _ _ _ _ _ _ _ _ _ _ _ _ _ _ _ _ _ _ _ _ _ r h => by simp [capstanref21_Same.j0] at h, fun _ _ _ _ _ _ _ _ _ _ _ _ _ _ _ _ _ _ _ _ _ _ _ _ _ r h => by simp [capstanref21_Same.l0] at h, fun _ _ _ _ _ _ _ _ _ _ _ _ _ _ _ _ _ _ _ _ _ _ _ _ _ r h => by simp [capstanref21_Same.l1] at h, fun _ _ _ _ _ _ _ _ _ _ _ _ _ _ _ _ _ _ _ _ _ _ _ _ _ r h => by simp [capstanref21_Same.l2] at h, fun _ _ _ _ _ _ _ _ _ _ _ _ _ _ _ _ _ _ _ _ _ _ _ _ _ r h => by simp [capstanref21_Same.l3] at h⟩
 | k + 1 => by
  obtain ⟨ih0, ih1, ih2, ih3, ih4⟩ := capstanref21_Same.mono_l k
  refine ⟨?_, ?_, ?_, ?_, ?_⟩
  ·intro y0 y1 y2 y3 y4 y5 y6 y7 y8 y9 y10 y11 y12 y13 y14 y15 y16 y17 y18 y19 y20 y21 y22 y23 y24
   unfold capstanref21_Same.j0
   repeat' first
   | (with_reducible exact ih0 _ _ _ _ _ _ _ _ _ _ _ _ _ _ _ _ _ _ _ _ _ _ _ _ _)
   | (with_reducible exact ih1 _ _ _ _ _ _ _ _ _ _ _ _ _ _ _ _ _ _ _ _ _ _ _ _ _)
   | (with_reducible exact ih2 _ _ _ _ _ _ _ _ _ _ _ _ _ _ _ _ _ _ _ _ _ _ _ _ _)
   | (with_reducible exact ih3 _ _ _ _ _ _ _ _ _ _ _ _ _ _ _ _ _ _ _ _ _ _ _ _ _)
   | (with_reducible exact ih4 _ _ _ _ _ _ _ _ _ _ _ _ _ _ _ _ _ _ _ _ _ _ _ _ _)
   | (with_reducible exact LeO.refl _)
   | (with_reducible exact LeO.none _)
   | (with_reducible refine LeO.ite ?_ ?_)
   | (with_reducible refine LeO.bind ?_ (fun _ => ?_))
   | exact ih0 _ _ _ _ _ _ _ _ _ _ _ _ _ _ _ _ _ _ _ _ _ _ _ _ _
   | exact ih1 _ _ _ _ _ _ _ _ _ _ _ _ _ _ _ _ _ _ _ _ _ _ _ _ _
   | exact ih2 _ _ _ _ _ _ _ _ _ _ _ _ _ _ _ _ _ _ _ _ _ _ _ _ _
   | exact ih3 _ _ _ _ _ _ _ _ _ _ _ _ _ _ _ _ _ _ _ _ _ _ _ _ _
   | exact ih4 _ _ _ _ _ _ _ _ _ _ _ _ _ _ _ _ _ _ _ _ _ _ _ _ _
   | exact LeO.none _
   | refine LeO.ite ?_ ?_
   | refine LeO.bind ?_ (fun _ => ?_)
  ·intro y0 y1 y2 y3 y4 y5 y6 y7 y8 y9 y10 y11 y12 y13 y14 y15 y16 y17 y18 y19 y20 y21 y22 y23 y24
   unfold capstanref21_Same.l0
   repeat' first
   | (with_reducible exact ih0 _ _ _ _ _ _ _ _ _ _ _ _ _ _ _ _ _ _ _ _ _ _ _ _ _)
   | (with_reducible exact ih1 _ _ _ _ _ _ _ _ _ _ _ _ _ _ _ _ _ _ _ _ _ _ _ _ _)
   | (with_reducible exact ih2 _ _ _ _ _ _ _ _ _ _ _ _ _ _ _ _ _ _ _ _ _ _ _ _ _)
   | (with_reducible exact ih3 _ _ _ _ _ _ _ _ _ _ _ _ _ _ _ _ _ _ _ _ _ _ _ _ _)
   | (with_reducible exact ih4 _ _ _ _ _ _ _ _ _ _ _ _ _ _ _ _ _ _ _ _ _ _ _ _ _)
   | (with_reducible exact LeO.refl _)
   | (with_reducible exact LeO.none _)
   | (with_reducible refine LeO.ite ?_ ?_)
   | (with_reducible refine LeO.bind ?_ (fun _ => ?_))
   | exact ih0 _ _ _ _ _ _ _ _ _ _ _ _ _ _ _ _ _ _ _ _ _ _ _ _ _
   | exact ih1 _ _ _ _ _ _ _ _ _ _ _ _ _ _ _ _ _ _ _ _ _ _ _ _ _
   | exact ih2 _ _ _ _ _ _ _ _ _ _ _ _ _ _ _ _ _ _ _ _ _ _ _ _ _
   | exact ih3 _ _ _ _ _ _ _ _ _ _ _ _ _ _ _ _ _ _ _ _ _ _ _ _ _
   | exact ih4 _ _ _ _ _ _ _ _ _ _ _ _ _ _ _ _ _ _ _ _ _ _ _ _ _
   | exact LeO.none _
   | refine LeO.ite ?_ ?_
   | refine LeO.bind ?_ (fun _ => ?_)
  ·intro y0 y1 y2 y3 y4 y5 y6 y7 y8 y9 y10 y11 y12 y13 y14 y15 y16 y17 y18 y19 y20 y21 y22 y23 y24
   unfold capstanref21_Same.l1
   repeat' first
   | (with_reducible exact ih0 _ _ _ _ _ _ _ _ _ _ _ _ _ _ _ _ _ _ _ _ _ _ _ _ _)
   | (with_reducible exact ih1 _ _ _ _ _ _ _ _ _ _ _ _ _ _ _ _ _ _ _ _ _ _ _ _ _)
   | (with_reducible exact ih2 _ _ _ _ _ _ _ _ _ _ _ _ _ _ _ _ _ _ _ _ _ _ _ _ _)
   | (with_reducible exact ih3 _ _ _ _ _ _ _ _ _ _ _ _ _ _ _ _ _ _ _ _ _ _ _ _ _)
   | (with_reducible exact ih4 _ _ _ _ _ _ _ _ _ _ _ _ _ _ _ _ _ _ _ _ _ _ _ _ _)
   | (with_reducible exact LeO.refl _)
   | (with_reducible exact LeO.none _)
   | (with_reducible refine LeO.ite ?_ ?_)
   | (with_reducible refine LeO.bind ?_ (fun _ => ?_))
   | exact ih0 _ _ _ _ _ _ _ _ _ _ _ _ _ _ _ _ _ _ _ _ _ _ _ _ _
   | exact ih1 _ _ _ _ _ _ _ _ _ _ _ _ _ _ _ _ _ _ _ _ _ _ _ _ _
   | exact ih2 _ _ _ _ _ _ _ _ _ _ _ _ _ _ _ _ _ _ _ _ _ _ _ _ _
   | exact ih3 _ _ _ _ _ _ _ _ _ _ _ _ _ _ _ _ _ _ _ _ _ _ _ _ _
   | exact ih4 _ _ _ _ _ _ _ _ _ _ _ _ _ _ _ _ _ _ _ _ _ _ _ _ _
   | exact LeO.none _
   | refine LeO.ite ?_ ?_
   | refine LeO.bind ?_ (fun _ => ?_)
  ·intro y0 y1 y2 y3 y4 y5 y6 y7 y8 y9 y10 y11 y12 y13 y14 y15 y16 y17 y18 y19 y20 y21 y22 y23 y24
   unfold capstanref21_Same.l2
   repeat' first
   | (with_reducible exact ih0 _ _ _ _ _ _ _ _ _ _ _ _ _ _ _ _ _ _ _ _ _ _ _ _ _)
   | (with_reducible exact ih1 _ _ _ _ _ _ _ _ _ _ _ _ _ _ _ _ _ _ _ _ _ _ _ _ _)
   | (with_reducible exact ih2 _ _ _ _ _ _ _ _ _ _ _ _ _ _ _ _ _ _ _ _ _ _ _ _ _)
   | (with_reducible exact ih3 _ _ _ _ _ _ _ _ _ _ _ _ _ _ _ _ _ _ _ _ _ _ _ _ _)
   | (with_reducible exact ih4 _ _ _ _ _ _ _ _ _ _ _ _ _ _ _ _ _ _ _ _ _ _ _ _ _)
   | (with_reducible exact LeO.refl _)
   | (with_reducible exact LeO.none _)
   | (with_reducible refine LeO.ite ?_ ?_)
   | (with_reducible refine LeO.bind ?_ (fun _ => ?_))
   | exact ih0 _ _ _ _ _ _ _ _ _ _ _ _ _ _ _ _ _ _ _ _ _ _ _ _ _
   | exact ih1 _ _ _ _ _ _ _ _ _ _ _ _ _ _ _ _ _ _ _ _ _ _ _ _ _
   | exact ih2 _ _ _ _ _ _ _ _ _ _ _ _ _ _ _ _ _ _ _ _ _ _ _ _ _
   | exact ih3 _ _ _ _ _ _ _ _ _ _ _ _ _ _ _ _ _ _ _ _ _ _ _ _ _
   | exact ih4 _ _ _ _ _ _ _ _ _ _ _ _ _ _ _ _ _ _ _ _ _ _ _ _ _
   | exact LeO.none _
   | refine LeO.ite ?_ ?_
   | refine LeO.bind ?_ (fun _ => ?_)
  ·intro y0 y1 y2 y3 y4 y5 y6 y7 y8 y9 y10 y11 y12 y13 y14 y15 y16 y17 y18 y19 y20 y21 y22 y23 y24
   unfold capstanref21_Same.l3
   repeat' first
   | (with_reducible exact ih0 _ _ _ _ _ _ _ _ _ _ _ _ _ _ _ _ _ _ _ _ _ _ _ _ _)
   | (with_reducible exact ih1 _ _ _ _ _ _ _ _ _ _ _ _ _ _ _ _ _ _ _ _ _ _ _ _ _)
   | (with_reducible exact ih2 _ _ _ _ _ _ _ _ _ _ _ _ _ _ _ _ _ _ _ _ _ _ _ _ _)
   | (with_reducible exact ih3 _ _ _ _ _ _ _ _ _ _ _ _ _ _ _ _ _ _ _ _ _ _ _ _ _)
   | (with_reducible exact ih4 _ _ _ _ _ _ _ _ _ _ _ _ _ _ _ _ _ _ _ _ _ _ _ _ _)
   | (with_reducible exact LeO.refl _)
   | (with_reducible exact LeO.none _)
   | (with_reducible refine LeO.ite ?_ ?_)
   | (with_reducible refine LeO.bind ?_ (fun _ => ?_))
   | exact ih0 _ _ _ _ _ _ _ _ _ _ _ _ _ _ _ _ _ _ _ _ _ _ _ _ _
   | exact ih1 _ _ _ _ _ _ _ _ _ _ _ _ _ _ _ _ _ _ _ _ _ _ _ _ _
   | exact ih2 _ _ _ _ _ _ _ _ _ _ _ _ _ _ _ _ _ _ _ _ _ _ _ _ _
   | exact ih3 _ _ _ _ _ _ _ _ _ _ _ _ _ _ _ _ _ _ _ _ _ _ _ _ _
   | exact ih4 _ _ _ _ _ _ _ _ _ _ _ _ _ _ _ _ _ _ _ _ _ _ _ _ _
   | exact LeO.none _
   | refine LeO.ite ?_ ?_
   | refine LeO.bind ?_ (fun _ => ?_)
theorem capstanref21_Same.mono : ∀ a0 a1 a2 a3 a4 a5 a6 a7 a8 a9 a10 a11 a12 a13 a14 a15 a16 a17 a18 a19 a20 a21 a22 a23 k, LeO (capstanref21_Same.f k a0 a1 a2 a3 a4 a5 a6 a7 a8 a9 a10 a11 a12 a13 a14 a15 a16 a17 a18 a19 a20 a21 a22 a23) (capstanref21_Same.f (k + 1) a0 a1 a2 a3 a4 a5 a6 a7 a8 a9 a10 a11 a12 a13 a14 a15 a16 a17 a18 a19 a20 a21 a22 a23) := by
 intro a0 a1 a2 a3 a4 a5 a6 a7 a8 a9 a10 a11 a12 a13 a14 a15 a16 a17 a18 a19 a20 a21 a22 a23 k
 obtain ⟨ih0, ih1, ih2, ih3, ih4⟩ := capstanref21_Same.mono_l k
 unfold capstanref21_Same.f
 repeat' first
   | (with_reducible exact ih0 _ _ _ _ _ _ _ _ _ _ _ _ _ _ _ _ _ _ _ _ _ _ _ _ _)
   | (with_reducible exact ih1 _ _ _ _ _ _ _ _ _ _ _ _ _ _ _ _ _ _ _ _ _ _ _ _ _)
   | (with_reducible exact ih2 _ _ _ _ _ _ _ _ _ _ _ _ _ _ _ _ _ _ _ _ _ _ _ _ _)
   | (with_reducible exact ih3 _ _ _ _ _ _ _ _ _ _ _ _ _ _ _ _ _ _ _ _ _ _ _ _ _)
   | (with_reducible exact ih4 _ _ _ _ _ _ _ _ _ _ _ _ _ _ _ _ _ _ _ _ _ _ _ _ _)
   | (with_reducible exact LeO.refl _)
   | (with_reducible exact LeO.none _)
   | (with_reducible refine LeO.ite ?_ ?_)
   | (with_reducible refine LeO.bind ?_ (fun _ => ?_))
   | exact ih0 _ _ _ _ _ _ _ _ _ _ _ _ _ _ _ _ _ _ _ _ _ _ _ _ _
   | exact ih1 _ _ _ _ _ _ _ _ _ _ _ _ _ _ _ _ _ _ _ _ _ _ _ _ _
   | exact ih2 _ _ _ _ _ _ _ _ _ _ _ _ _ _ _ _ _ _ _ _ _ _ _ _ _
   | exact ih3 _ _ _ _ _ _ _ _ _ _ _ _ _ _ _ _ _ _ _ _ _ _ _ _ _
   | exact ih4 _ _ _ _ _ _ _ _ _ _ _ _ _ _ _ _ _ _ _ _ _ _ _ _ _
   | exact LeO.none _
   | refine LeO.ite ?_ ?_
   | refine LeO.bind ?_ (fun _ => ?_)
set_option maxHeartbeats 8000000 in
set_option maxRecDepth 100000 in
theorem capstanref21_Same.calls (k : Nat) (a0_0 : Int) (a0_1 : Int) (a0_2 : Int) (a0_3 : Int) (a0_4 : Int) (a0_5 : Int) (A0_6 : Option Addr) (c0_6 : Nat) (l0_6 : List Int) (A0_7 : Option Addr) (c0_7 : Nat) (l0_7 : List (S51)) (A0_8 : Option Addr) (c0_8 : Nat) (l0_8 : List (S54)) (a0_9 : Int) (a0_10 : Int) (A0_11 : Option Addr) (c0_11 : Nat) (l0_11 : List (S45)) (a1_0 : Int) (a1_1 : Int) (a1_2 : Int) (a1_3 : Int) (a1_4 : Int) (a1_5 : Int) (A1_6 : Option Addr) (c1_6 : Nat) (l1_6 : List Int) (A1_7 : Option Addr) (c1_7 : Nat) (l1_7 : List (S51)) (A1_8 : Option Addr) (c1_8 : Nat) (l1_8 : List (S54)) (a1_9 : Int) (a1_10 : Int) (A1_11 : Option Addr) (c1_11 : Nat) (l1_11 : List (S45)) (r : Bool) (w : World) (hr0_6 : Kd.C (Kd.int .i64) w A0_6 l0_6.length l0_6) (hc0_6 : l0_6.length ≤ c0_6) (hr0_7 : Kd.C k51 w A0_7 l0_7.length l0_7) (hc0_7 : l0_7.length ≤ c0_7) (hr0_8 : Kd.C k54 w A0_8 l0_8.length l0_8) (hc0_8 : l0_8.length ≤ c0_8) (hr0_11 : Kd.C k45 w A0_11 l0_11.length l0_11) (hc0_11 : l0_11.length ≤ c0_11) (hr1_6 : Kd.C (Kd.int .i64) w A1_6 l1_6.length l1_6) (hc1_6 : l1_6.length ≤ c1_6) (hr1_7 : Kd.C k51 w A1_7 l1_7.length l1_7) (hc1_7 : l1_7.length ≤ c1_7) (hr1_8 : Kd.C k54 w A1_8 l1_8.length l1_8) (hc1_8 : l1_8.length ≤ c1_8) (hr1_11 : Kd.C k45 w A1_11 l1_11.length l1_11) (hc1_11 : l1_11.length ≤ c1_11) (h : capstanref21_Same.f k a0_0 a0_1 a0_2 a0_3 a0_4 a0_5 l0_6 l0_7 l0_8 a0_9 a0_10 l0_11 a1_0 a1_1 a1_2 a1_3 a1_4 a1_5 l1_6 l1_7 l1_8 a1_9 a1_10 l1_11 = some r) :
  Calls Try.prog 15 #[.agg #[.int .i64 a0_0, .int .i64 a0_1, .int .i64 a0_2, .int .i64 a0_3, .int .i64 a0_4, .int .i64 a0_5, .slice A0_6 l0_6.length c0_6, .slice A0_7 l0_7.length c0_7, .slice A0_8 l0_8.length c0_8, .int .i64 a0_9, .int .i64 a0_10, .slice A0_11 l0_11.length c0_11], .agg #[.int .i64 a1_0, .int .i64 a1_1, .int .i64 a1_2, .int .i64 a1_3, .int .i64 a1_4, .int .i64 a1_5, .slice A1_6 l1_6.length c1_6, .slice A1_7 l1_7.length c1_7, .slice A1_8 l1_8.length c1_8, .int .i64 a1_9, .int .i64 a1_10, .slice A1_11 l1_11.length c1_11]] w fun e w' => e = .returned (.bool r) ∧ Below w.heap.size w w' := by
 have hu29 := Try.underlying29
 have hu23 := Try.underlying23
 have hu51 := Try.underlying51
 have hu54 := Try.underlying54
 have hu45 := Try.underlying45
 have HR0_6 := Aside0.mk hr0_6
 have HC0_6 := Aside0.mk hc0_6
 clear hr0_6 hc0_6
 have HR0_7 := Aside0.mk hr0_7
 have HC0_7 := Aside0.mk hc0_7
 clear hr0_7 hc0_7
 have HR0_8 := Aside0.mk hr0_8
 have HC0_8 := Aside0.mk hc0_8
 clear hr0_8 hc0_8
 have HR0_11 := Aside0.mk hr0_11
 have HC0_11 := Aside0.mk hc0_11
 clear hr0_11 hc0_11
 have HR1_6 := Aside0.mk hr1_6
 have HC1_6 := Aside0.mk hc1_6
 clear hr1_6 hc1_6
 have HR1_7 := Aside0.mk hr1_7
 have HC1_7 := Aside0.mk hc1_7
 clear hr1_7 hc1_7
 have HR1_8 := Aside0.mk hr1_8
 have HC1_8 := Aside0.mk hc1_8
 clear hr1_8 hc1_8
 have HR1_11 := Aside0.mk hr1_11
 have HC1_11 := Aside0.mk hc1_11
 clear hr1_11 hc1_11
 have HB := Aside0.mk (Below.refl w.heap.size w)
 have H : (if a0_0 = a1_0 then (if (!(a0_1 == a1_1) || (!(a0_2 == a1_2) || (!(a0_3 == a1_3) || (!(a0_4 == a1_4) || (!(a0_5 == a1_5)))))) = true then (capstanref21_Same.j0 k true a0_0 a0_1 a0_2 a0_3 a0_4 a0_5 l0_6 l0_7 l0_8 a0_9 a0_10 l0_11 a1_0 a1_1 a1_2 a1_3 a1_4 a1_5 l1_6 l1_7 l1_8 a1_9 a1_10 l1_11) else (if a0_9 = a1_9 then (if a0_10 = a1_10 then (if (l0_6.length : Int) = (l1_6.length : Int) then (if (l0_7.length : Int) = (l1_7.length : Int) then (if (l0_8.length : Int) = (l1_8.length : Int) then (capstanref21_Same.j0 k ((l0_11.length : Int) != (l1_11.length : Int)) a0_0 a0_1 a0_2 a0_3 a0_4 a0_5 l0_6 l0_7 l0_8 a0_9 a0_10 l0_11 a1_0 a1_1 a1_2 a1_3 a1_4 a1_5 l1_6 l1_7 l1_8 a1_9 a1_10 l1_11) else (capstanref21_Same.j0 k true a0_0 a0_1 a0_2 a0_3 a0_4 a0_5 l0_6 l0_7 l0_8 a0_9 a0_10 l0_11 a1_0 a1_1 a1_2 a1_3 a1_4 a1_5 l1_6 l1_7 l1_8 a1_9 a1_10 l1_11)) else (capstanref21_Same.j0 k true a0_0 a0_1 a0_2 a0_3 a0_4 a0_5 l0_6 l0_7 l0_8 a0_9 a0_10 l0_11 a1_0 a1_1 a1_2 a1_3 a1_4 a1_5 l1_6 l1_7 l1_8 a1_9 a1_10 l1_11)) else (capstanref21_Same.j0 k true a0_0 a0_1 a0_2 a0_3 a0_4 a0_5 l0_6 l0_7 l0_8 a0_9 a0_10 l0_11 a1_0 a1_1 a1_2 a1_3 a1_4 a1_5 l1_6 l1_7 l1_8 a1_9 a1_10 l1_11)) else (capstanref21_Same.j0 k true a0_0 a0_1 a0_2 a0_3 a0_4 a0_5 l0_6 l0_7 l0_8 a0_9 a0_10 l0_11 a1_0 a1_1 a1_2 a1_3 a1_4 a1_5 l1_6 l1_7 l1_8 a1_9 a1_10 l1_11)) else (capstanref21_Same.j0 k true a0_0 a0_1 a0_2 a0_3 a0_4 a0_5 l0_6 l0_7 l0_8 a0_9 a0_10 l0_11 a1_0 a1_1 a1_2 a1_3 a1_4 a1_5 l1_6 l1_7 l1_8 a1_9 a1_10 l1_11))) else (capstanref21_Same.j0 k true a0_0 a0_1 a0_2 a0_3 a0_4 a0_5 l0_6 l0_7 l0_8 a0_9 a0_10 l0_11 a1_0 a1_1 a1_2 a1_3 a1_4 a1_5 l1_6 l1_7 l1_8 a1_9 a1_10 l1_11)) = some r := h
 clear h
 have HC3 := Aside0.mk H
 clear H
 go_enter Try.func15, Try.ntmps15
 go_upto_region 1 with (first | ((with_reducible refine gate_dst (N := 2) rfl ?_); (try (refine gate_guard (by rfl) ?_; dsimp only)); refine box_event ?hg (N := 2) ?hd (cs := #[.int .i64 a0_0, .int .i64 a0_1, .int .i64 a0_2, .int .i64 a0_3, .int .i64 a0_4, .int .i64 a0_5, .slice A0_6 l0_6.length c0_6, .slice A0_7 l0_7.length c0_7, .slice A0_8 l0_8.length c0_8, .int .i64 a0_9, .int .i64 a0_10, .slice A0_11 l0_11.length c0_11]) (t := 29) ?hr ?_; (case hd => rfl); (case hg => rfl); (case hr => first | (go_simp; done) | (go_simp; rfl)); intro gb128 hg w4 hbox hb; have n0_ := Aside0.mk (below_step (by repeat (first | (with_reducible first | exact HB.out | apply below_alloc | apply pw_below_drewN | apply below_drew1) | exact HB.out)) hb); have n1_ := Aside0.mk (hbox); have n2_ := Aside0.mk ((by rw [hg]; exact (below_size (by repeat (first | (with_reducible first | exact HB.out | apply below_alloc | apply pw_below_drewN | apply below_drew1) | exact HB.out))) : w.heap.size ≤ gb128)); have n3_ := Aside0.mk ((by rw [hg]; exact (below_size (by repeat (first | (with_reducible first | exact HB.out | apply below_alloc | apply pw_below_drewN | apply below_drew1) | exact HB.out))) : w.heap.size ≤ gb128)); clear HB; have HB := n0_; have BK128 := n1_; have GW128 := n2_; have GE128 := n3_; clear n0_ n1_ n2_ n3_; clear hb hbox hg) | ((with_reducible refine gate_dst (N := 3) rfl ?_); (try (refine gate_guard (by rfl) ?_; dsimp only)); refine box_event ?hg (N := 3) ?hd (cs := #[.int .i64 a1_0, .int .i64 a1_1, .int .i64 a1_2, .int .i64 a1_3, .int .i64 a1_4, .int .i64 a1_5, .slice A1_6 l1_6.length c1_6, .slice A1_7 l1_7.length c1_7, .slice A1_8 l1_8.length c1_8, .int .i64 a1_9, .int .i64 a1_10, .slice A1_11 l1_11.length c1_11]) (t := 29) ?hr ?_; (case hd => rfl); (case hg => rfl); (case hr => first | (go_simp; done) | (go_simp; rfl)); intro gb129 hg w5 hbox hb; have n0_ := Aside0.mk (blk_below (g := gb128) (o := .cells #[.int .i64 a0_0, .int .i64 a0_1, .int .i64 a0_2, .int .i64 a0_3, .int .i64 a0_4, .int .i64 a0_5, .slice A0_6 l0_6.length c0_6, .slice A0_7 l0_7.length c0_7, .slice A0_8 l0_8.length c0_8, .int .i64 a0_9, .int .i64 a0_10, .slice A0_11 l0_11.length c0_11] 29 (0, 0)) (by (with_reducible repeat (first | refine blk_drewN ?_ _ | refine blk_drew ?_ | refine blk_alloc ?_ _)); exact BK128.out) hb); have n1_ := Aside0.mk (below_step (by repeat (first | (with_reducible first | exact HB.out | apply below_alloc | apply pw_below_drewN | apply below_drew1 | refine below_set ?_ GE128.out) | exact HB.out)) hb); have n2_ := Aside0.mk (hbox); have n3_ := Aside0.mk ((by rw [hg]; exact (below_size (by repeat (first | (with_reducible first | exact HB.out | apply below_alloc | apply pw_below_drewN | apply below_drew1 | refine below_set ?_ GE128.out) | exact HB.out))) : w.heap.size ≤ gb129)); have n4_ := Aside0.mk ((by rw [hg]; exact (below_size (by repeat (first | (with_reducible first | exact HB.out | apply below_alloc | apply pw_below_drewN | apply below_drew1 | refine below_set ?_ GE128.out) | exact HB.out))) : w.heap.size ≤ gb129)); have n5_ := Aside0.mk ((by rw [hg]; exact Nat.ne_of_lt (blk_lt (g := gb128) (o := .cells #[.int .i64 a0_0, .int .i64 a0_1, .int .i64 a0_2, .int .i64 a0_3, .int .i64 a0_4, .int .i64 a0_5, .slice A0_6 l0_6.length c0_6, .slice A0_7 l0_7.length c0_7, .slice A0_8 l0_8.length c0_8, .int .i64 a0_9, .int .i64 a0_10, .slice A0_11 l0_11.length c0_11] 29 (0, 0)) (by (with_reducible repeat (first | refine blk_drewN ?_ _ | refine blk_drew ?_ | refine blk_alloc ?_ _)); exact BK128.out)) : gb128 ≠ gb129)); have n6_ := Aside0.mk ((by rw [hg]; exact Nat.ne_of_gt (blk_lt (g := gb128) (o := .cells #[.int .i64 a0_0, .int .i64 a0_1, .int .i64 a0_2, .int .i64 a0_3, .int .i64 a0_4, .int .i64 a0_5, .slice A0_6 l0_6.length c0_6, .slice A0_7 l0_7.length c0_7, .slice A0_8 l0_8.length c0_8, .int .i64 a0_9, .int .i64 a0_10, .slice A0_11 l0_11.length c0_11] 29 (0, 0)) (by (with_reducible repeat (first | refine blk_drewN ?_ _ | refine blk_drew ?_ | refine blk_alloc ?_ _)); exact BK128.out)) : gb129 ≠ gb128)); clear BK128; clear HB; have BK128 := n0_; have HB := n1_; have BK129 := n2_; have GW129 := n3_; have GE129 := n4_; have NB128_129 := n5_; have NB129_128 := n6_; clear n0_ n1_ n2_ n3_ n4_ n5_ n6_; clear hb hbox hg))
 repeat (go_quiet (first | ((with_reducible refine gate_dst (N := 2) rfl ?_); (try (refine gate_guard (by rfl) ?_; dsimp only)); refine box_event ?hg (N := 2) ?hd (cs := #[.int .i64 a0_0, .int .i64 a0_1, .int .i64 a0_2, .int .i64 a0_3, .int .i64 a0_4, .int .i64 a0_5, .slice A0_6 l0_6.length c0_6, .slice A0_7 l0_7.length c0_7, .slice A0_8 l0_8.length c0_8, .int .i64 a0_9, .int .i64 a0_10, .slice A0_11 l0_11.length c0_11]) (t := 29) ?hr ?_; (case hd => rfl); (case hg => rfl); (case hr => first | (go_simp; done) | (go_simp; rfl)); intro gb128 hg w4 hbox hb; have n0_ := Aside0.mk (below_step (by repeat (first | (with_reducible first | exact HB.out | apply below_alloc | apply pw_below_drewN | apply below_drew1) | exact HB.out)) hb); have n1_ := Aside0.mk (hbox); have n2_ := Aside0.mk ((by rw [hg]; exact (below_size (by repeat (first | (with_reducible first | exact HB.out | apply below_alloc | apply pw_below_drewN | apply below_drew1) | exact HB.out))) : w.heap.size ≤ gb128)); have n3_ := Aside0.mk ((by rw [hg]; exact (below_size (by repeat (first | (with_reducible first | exact HB.out | apply below_alloc | apply pw_below_drewN | apply below_drew1) | exact HB.out))) : w.heap.size ≤ gb128)); clear HB; have HB := n0_; have BK128 := n1_; have GW128 := n2_; have GE128 := n3_; clear n0_ n1_ n2_ n3_; clear hb hbox hg) | ((with_reducible refine gate_dst (N := 3) rfl ?_); (try (refine gate_guard (by rfl) ?_; dsimp only)); refine box_event ?hg (N := 3) ?hd (cs := #[.int .i64 a1_0, .int .i64 a1_1, .int .i64 a1_2, .int .i64 a1_3, .int .i64 a1_4, .int .i64 a1_5, .slice A1_6 l1_6.length c1_6, .slice A1_7 l1_7.length c1_7, .slice A1_8 l1_8.length c1_8, .int .i64 a1_9, .int .i64 a1_10, .slice A1_11 l1_11.length c1_11]) (t := 29) ?hr ?_; (case hd => rfl); (case hg => rfl); (case hr => first | (go_simp; done) | (go_simp; rfl)); intro gb129 hg w5 hbox hb; have n0_ := Aside0.mk (blk_below (g := gb128) (o := .cells #[.int .i64 a0_0, .int .i64 a0_1, .int .i64 a0_2, .int .i64 a0_3, .int .i64 a0_4, .int .i64 a0_5, .slice A0_6 l0_6.length c0_6, .slice A0_7 l0_7.length c0_7, .slice A0_8 l0_8.length c0_8, .int .i64 a0_9, .int .i64 a0_10, .slice A0_11 l0_11.length c0_11] 29 (0, 0)) (by (with_reducible repeat (first | refine blk_drewN ?_ _ | refine blk_drew ?_ | refine blk_alloc ?_ _)); exact BK128.out) hb); have n1_ := Aside0.mk (below_step (by repeat (first | (with_reducible first | exact HB.out | apply below_alloc | apply pw_below_drewN | apply below_drew1 | refine below_set ?_ GE128.out) | exact HB.out)) hb); have n2_ := Aside0.mk (hbox); have n3_ := Aside0.mk ((by rw [hg]; exact (below_size (by repeat (first | (with_reducible first | exact HB.out | apply below_alloc | apply pw_below_drewN | apply below_drew1 | refine below_set ?_ GE128.out) | exact HB.out))) : w.heap.size ≤ gb129)); have n4_ := Aside0.mk ((by rw [hg]; exact (below_size (by repeat (first | (with_reducible first | exact HB.out | apply below_alloc | apply pw_below_drewN | apply below_drew1 | refine below_set ?_ GE128.out) | exact HB.out))) : w.heap.size ≤ gb129)); have n5_ := Aside0.mk ((by rw [hg]; exact Nat.ne_of_lt (blk_lt (g := gb128) (o := .cells #[.int .i64 a0_0, .int .i64 a0_1, .int .i64 a0_2, .int .i64 a0_3, .int .i64 a0_4, .int .i64 a0_5, .slice A0_6 l0_6.length c0_6, .slice A0_7 l0_7.length c0_7, .slice A0_8 l0_8.length c0_8, .int .i64 a0_9, .int .i64 a0_10, .slice A0_11 l0_11.length c0_11] 29 (0, 0)) (by (with_reducible repeat (first | refine blk_drewN ?_ _ | refine blk_drew ?_ | refine blk_alloc ?_ _)); exact BK128.out)) : gb128 ≠ gb129)); have n6_ := Aside0.mk ((by rw [hg]; exact Nat.ne_of_gt (blk_lt (g := gb128) (o := .cells #[.int .i64 a0_0, .int .i64 a0_1, .int .i64 a0_2, .int .i64 a0_3, .int .i64 a0_4, .int .i64 a0_5, .slice A0_6 l0_6.length c0_6, .slice A0_7 l0_7.length c0_7, .slice A0_8 l0_8.length c0_8, .int .i64 a0_9, .int .i64 a0_10, .slice A0_11 l0_11.length c0_11] 29 (0, 0)) (by (with_reducible repeat (first | refine blk_drewN ?_ _ | refine blk_drew ?_ | refine blk_alloc ?_ _)); exact BK128.out)) : gb129 ≠ gb128)); clear BK128; clear HB; have BK128 := n0_; have HB := n1_; have BK129 := n2_; have GW129 := n3_; have GE129 := n4_; have NB128_129 := n5_; have NB129_128 := n6_; clear n0_ n1_ n2_ n3_ n4_ n5_ n6_; clear hb hbox hg)); go_upto_region 1 with (first | ((with_reducible refine gate_dst (N := 2) rfl ?_); (try (refine gate_guard (by rfl) ?_; dsimp only)); refine box_event ?hg (N := 2) ?hd (cs := #[.int .i64 a0_0, .int .i64 a0_1, .int .i64 a0_2, .int .i64 a0_3, .int .i64 a0_4, .int .i64 a0_5, .slice A0_6 l0_6.length c0_6, .slice A0_7 l0_7.length c0_7, .slice A0_8 l0_8.length c0_8, .int .i64 a0_9, .int .i64 a0_10, .slice A0_11 l0_11.length c0_11]) (t := 29) ?hr ?_; (case hd => rfl); (case hg => rfl); (case hr => first | (go_simp; done) | (go_simp; rfl)); intro gb128 hg w4 hbox hb; have n0_ := Aside0.mk (below_step (by repeat (first | (with_reducible first | exact HB.out | apply below_alloc | apply pw_below_drewN | apply below_drew1) | exact HB.out)) hb); have n1_ := Aside0.mk (hbox); have n2_ := Aside0.mk ((by rw [hg]; exact (below_size (by repeat (first | (with_reducible first | exact HB.out | apply below_alloc | apply pw_below_drewN | apply below_drew1) | exact HB.out))) : w.heap.size ≤ gb128)); have n3_ := Aside0.mk ((by rw [hg]; exact (below_size (by repeat (first | (with_reducible first | exact HB.out | apply below_alloc | apply pw_below_drewN | apply below_drew1) | exact HB.out))) : w.heap.size ≤ gb128)); clear HB; have HB := n0_; have BK128 := n1_; have GW128 := n2_; have GE128 := n3_; clear n0_ n1_ n2_ n3_; clear hb hbox hg) | ((with_reducible refine gate_dst (N := 3) rfl ?_); (try (refine gate_guard (by rfl) ?_; dsimp only)); refine box_event ?hg (N := 3) ?hd (cs := #[.int .i64 a1_0, .int .i64 a1_1, .int .i64 a1_2, .int .i64 a1_3, .int .i64 a1_4, .int .i64 a1_5, .slice A1_6 l1_6.length c1_6, .slice A1_7 l1_7.length c1_7, .slice A1_8 l1_8.length c1_8, .int .i64 a1_9, .int .i64 a1_10, .slice A1_11 l1_11.length c1_11]) (t := 29) ?hr ?_; (case hd => rfl); (case hg => rfl); (case hr => first | (go_simp; done) | (go_simp; rfl)); intro gb129 hg w5 hbox hb; have n0_ := Aside0.mk (blk_below (g := gb128) (o := .cells #[.int .i64 a0_0, .int .i64 a0_1, .int .i64 a0_2, .int .i64 a0_3, .int .i64 a0_4, .int .i64 a0_5, .slice A0_6 l0_6.length c0_6, .slice A0_7 l0_7.length c0_7, .slice A0_8 l0_8.length c0_8, .int .i64 a0_9, .int .i64 a0_10, .slice A0_11 l0_11.length c0_11] 29 (0, 0)) (by (with_reducible repeat (first | refine blk_drewN ?_ _ | refine blk_drew ?_ | refine blk_alloc ?_ _)); exact BK128.out) hb); have n1_ := Aside0.mk (below_step (by repeat (first | (with_reducible first | exact HB.out | apply below_alloc | apply pw_below_drewN | apply below_drew1 | refine below_set ?_ GE128.out) | exact HB.out)) hb); have n2_ := Aside0.mk (hbox); have n3_ := Aside0.mk ((by rw [hg]; exact (below_size (by repeat (first | (with_reducible first | exact HB.out | apply below_alloc | apply pw_below_drewN | apply below_drew1 | refine below_set ?_ GE128.out) | exact HB.out))) : w.heap.size ≤ gb129)); have n4_ := Aside0.mk ((by rw [hg]; exact (below_size (by repeat (first | (with_reducible first | exact HB.out | apply below_alloc | apply pw_below_drewN | apply below_drew1 | refine below_set ?_ GE128.out) | exact HB.out))) : w.heap.size ≤ gb129)); have n5_ := Aside0.mk ((by rw [hg]; exact Nat.ne_of_lt (blk_lt (g := gb128) (o := .cells #[.int .i64 a0_0, .int .i64 a0_1, .int .i64 a0_2, .int .i64 a0_3, .int .i64 a0_4, .int .i64 a0_5, .slice A0_6 l0_6.length c0_6, .slice A0_7 l0_7.length c0_7, .slice A0_8 l0_8.length c0_8, .int .i64 a0_9, .int .i64 a0_10, .slice A0_11 l0_11.length c0_11] 29 (0, 0)) (by (with_reducible repeat (first | refine blk_drewN ?_ _ | refine blk_drew ?_ | refine blk_alloc ?_ _)); exact BK128.out)) : gb128 ≠ gb129)); have n6_ := Aside0.mk ((by rw [hg]; exact Nat.ne_of_gt (blk_lt (g := gb128) (o := .cells #[.int .i64 a0_0, .int .i64 a0_1, .int .i64 a0_2, .int .i64 a0_3, .int .i64 a0_4, .int .i64 a0_5, .slice A0_6 l0_6.length c0_6, .slice A0_7 l0_7.length c0_7, .slice A0_8 l0_8.length c0_8, .int .i64 a0_9, .int .i64 a0_10, .slice A0_11 l0_11.length c0_11] 29 (0, 0)) (by (with_reducible repeat (first | refine blk_drewN ?_ _ | refine blk_drew ?_ | refine blk_alloc ?_ _)); exact BK128.out)) : gb129 ≠ gb128)); clear BK128; clear HB; have BK128 := n0_; have HB := n1_; have BK129 := n2_; have GW129 := n3_; have GE129 := n4_; have NB128_129 := n5_; have NB129_128 := n6_; clear n0_ n1_ n2_ n3_ n4_ n5_ n6_; clear hb hbox hg)))
 (try simp only [Act.put, List.setIfInBounds_toArray, List.set_cons_zero, List.set_cons_succ])
 go_cut [70] (fun v70 wc => ∃ (kq : Nat) (x70_2 : Bool), v70 = .bool x70_2 ∧ Aside0 (capstanref21_Same.j0 kq x70_2 a0_0 a0_1 a0_2 a0_3 a0_4 a0_5 l0_6 l0_7 l0_8 a0_9 a0_10 l0_11 a1_0 a1_1 a1_2 a1_3 a1_4 a1_5 l1_6 l1_7 l1_8 a1_9 a1_10 l1_11 = some r) ∧ Aside0 (kq ≤ k) ∧ Aside0 (wc.heap[gb128]? = some (.cells #[.int .i64 a0_0, .int .i64 a0_1, .int .i64 a0_2, .int .i64 a0_3, .int .i64 a0_4, .int .i64 a0_5, (.slice A0_6 l0_6.length c0_6), (.slice A0_7 l0_7.length c0_7), (.slice A0_8 l0_8.length c0_8), .int .i64 a0_9, .int .i64 a0_10, (.slice A0_11 l0_11.length c0_11)] 29 (0, 0))) ∧ Aside0 (wc.heap[gb129]? = some (.cells #[.int .i64 a1_0, .int .i64 a1_1, .int .i64 a1_2, .int .i64 a1_3, .int .i64 a1_4, .int .i64 a1_5, (.slice A1_6 l1_6.length c1_6), (.slice A1_7 l1_7.length c1_7), (.slice A1_8 l1_8.length c1_8), .int .i64 a1_9, .int .i64 a1_10, (.slice A1_11 l1_11.length c1_11)] 29 (0, 0))) ∧ Aside0 (Below w.heap.size w wc))
 case first =>
  have H := HC3.out
  clear HC3
  by_cases c6 : a0_0 = a1_0
  ·rw [if_pos c6] at H
   have c6b0 : (a0_0 == a1_0) = true := beq_iff_eq.mpr c6
   have c6b1 : (a0_0 != a1_0) = false := bne_eq_false_iff_eq.mpr c6
   clear c6
   (first | rw [c6b0] | (simp only [i64_w, i32_w]; rw [c6b0]) | skip)
   by_cases c7 : (!(a0_1 == a1_1) || (!(a0_2 == a1_2) || (!(a0_3 == a1_3) || (!(a0_4 == a1_4) || (!(a0_5 == a1_5)))))) = true
   ·rw [if_pos c7] at H
    have c7b0 : (!(a0_1 == a1_1) || (!(a0_2 == a1_2) || (!(a0_3 == a1_3) || (!(a0_4 == a1_4) || (!(a0_5 == a1_5)))))) = true := c7
    clear c7
    have H' := Aside0.mk H
    clear H
    have hnb8 := NB128_129.out
    have hnc8 := NB129_128.out
    have hcz9_0 : w5.cell? ⟨gb128, 0, none⟩ = some (.int .i64 a0_0) := (blk_cell BK128.out 0).trans rfl
    have hcz9_1 : w5.cell? ⟨gb128, 1, none⟩ = some (.int .i64 a0_1) := (blk_cell BK128.out 1).trans rfl
    have hcz9_2 : w5.cell? ⟨gb128, 2, none⟩ = some (.int .i64 a0_2) := (blk_cell BK128.out 2).trans rfl
    have hcz9_3 : w5.cell? ⟨gb128, 3, none⟩ = some (.int .i64 a0_3) := (blk_cell BK128.out 3).trans rfl
    have hcz9_4 : w5.cell? ⟨gb128, 4, none⟩ = some (.int .i64 a0_4) := (blk_cell BK128.out 4).trans rfl
    have hcz9_5 : w5.cell? ⟨gb128, 5, none⟩ = some (.int .i64 a0_5) := (blk_cell BK128.out 5).trans rfl
    have hcz9_6 : w5.cell? ⟨gb128, 6, none⟩ = some (.slice A0_6 l0_6.length c0_6) := (blk_cell BK128.out 6).trans rfl
    have hcz9_7 : w5.cell? ⟨gb128, 7, none⟩ = some (.slice A0_7 l0_7.length c0_7) := (blk_cell BK128.out 7).trans rfl
    have hcz9_8 : w5.cell? ⟨gb128, 8, none⟩ = some (.slice A0_8 l0_8.length c0_8) := (blk_cell BK128.out 8).trans rfl
    have hcz9_9 : w5.cell? ⟨gb128, 9, none⟩ = some (.int .i64 a0_9) := (blk_cell BK128.out 9).trans rfl
    have hcz9_10 : w5.cell? ⟨gb128, 10, none⟩ = some (.int .i64 a0_10) := (blk_cell BK128.out 10).trans rfl
    have hcz9_11 : w5.cell? ⟨gb128, 11, none⟩ = some (.slice A0_11 l0_11.length c0_11) := (blk_cell BK128.out 11).trans rfl
    have hcz10_0 : w5.cell? ⟨gb129, 0, none⟩ = some (.int .i64 a1_0) := (blk_cell BK129.out 0).trans rfl
    have hcz10_1 : w5.cell? ⟨gb129, 1, none⟩ = some (.int .i64 a1_1) := (blk_cell BK129.out 1).trans rfl
    have hcz10_2 : w5.cell? ⟨gb129, 2, none⟩ = some (.int .i64 a1_2) := (blk_cell BK129.out 2).trans rfl
    have hcz10_3 : w5.cell? ⟨gb129, 3, none⟩ = some (.int .i64 a1_3) := (blk_cell BK129.out 3).trans rfl
    have hcz10_4 : w5.cell? ⟨gb129, 4, none⟩ = some (.int .i64 a1_4) := (blk_cell BK129.out 4).trans rfl
    have hcz10_5 : w5.cell? ⟨gb129, 5, none⟩ = some (.int .i64 a1_5) := (blk_cell BK129.out 5).trans rfl
    have hcz10_6 : w5.cell? ⟨gb129, 6, none⟩ = some (.slice A1_6 l1_6.length c1_6) := (blk_cell BK129.out 6).trans rfl
    have hcz10_7 : w5.cell? ⟨gb129, 7, none⟩ = some (.slice A1_7 l1_7.length c1_7) := (blk_cell BK129.out 7).trans rfl
    have hcz10_8 : w5.cell? ⟨gb129, 8, none⟩ = some (.slice A1_8 l1_8.length c1_8) := (blk_cell BK129.out 8).trans rfl
    have hcz10_9 : w5.cell? ⟨gb129, 9, none⟩ = some (.int .i64 a1_9) := (blk_cell BK129.out 9).trans rfl
    have hcz10_10 : w5.cell? ⟨gb129, 10, none⟩ = some (.int .i64 a1_10) := (blk_cell BK129.out 10).trans rfl
    have hcz10_11 : w5.cell? ⟨gb129, 11, none⟩ = some (.slice A1_11 l1_11.length c1_11) := (blk_cell BK129.out 11).trans rfl
    go_wp2
    repeat (go_quiet (fail); try go_wp2)
    go_meet
    case rel => exact ⟨_, (true), (by first | rfl | (simp; done) | (simp [*]; done)), H', ⟨by first | omega | exact Nat.le_refl _⟩, ⟨by (with_reducible repeat (first | refine blk_drewN ?_ _ | refine blk_drew ?_ | refine blk_alloc ?_ _)); exact BK128.out⟩, ⟨by (with_reducible repeat (first | refine blk_drewN ?_ _ | refine blk_drew ?_ | refine blk_alloc ?_ _)); exact BK129.out⟩, ⟨by repeat (first | (with_reducible first | exact HB.out | apply below_alloc | apply pw_below_drewN | apply below_drew1 | refine below_set ?_ GE128.out | refine below_set ?_ GE129.out) | exact HB.out)⟩⟩
   ·rw [if_neg c7] at H
    have c7b0 : (!(a0_1 == a1_1) || (!(a0_2 == a1_2) || (!(a0_3 == a1_3) || (!(a0_4 == a1_4) || (!(a0_5 == a1_5)))))) = false := by simpa using c7
    clear c7
    by_cases c11 : a0_9 = a1_9
    ·rw [if_pos c11] at H
     have c11b0 : (a0_9 == a1_9) = true := beq_iff_eq.mpr c11
     have c11b1 : (a0_9 != a1_9) = false := bne_eq_false_iff_eq.mpr c11
     clear c11
     by_cases c12 : a0_10 = a1_10
     ·rw [if_pos c12] at H
      have c12b0 : (a0_10 == a1_10) = true := beq_iff_eq.mpr c12
      have c12b1 : (a0_10 != a1_10) = false := bne_eq_false_iff_eq.mpr c12
      clear c12
      by_cases c13 : (l0_6.length : Int) = (l1_6.length : Int)
      ·rw [if_pos c13] at H
       have c13b0 : ((l0_6.length : Int) == (l1_6.length : Int)) = true := beq_iff_eq.mpr c13
       have c13b1 : ((l0_6.length : Int) != (l1_6.length : Int)) = false := bne_eq_false_iff_eq.mpr c13
       have c13b2 : (l0_6.length == l1_6.length) = true := by first | simpa using c13 | (simp at c13 ⊢; omega)
       clear c13
       by_cases c14 : (l0_7.length : Int) = (l1_7.length : Int)
       ·rw [if_pos c14] at H
        have c14b0 : ((l0_7.length : Int) == (l1_7.length : Int)) = true := beq_iff_eq.mpr c14
        have c14b1 : ((l0_7.length : Int) != (l1_7.length : Int)) = false := bne_eq_false_iff_eq.mpr c14
        have c14b2 : (l0_7.length == l1_7.length) = true := by first | simpa using c14 | (simp at c14 ⊢; omega)
        clear c14
        by_cases c15 : (l0_8.length : Int) = (l1_8.length : Int)
        ·rw [if_pos c15] at H
         have c15b0 : ((l0_8.length : Int) == (l1_8.length : Int)) = true := beq_iff_eq.mpr c15
         have c15b1 : ((l0_8.length : Int) != (l1_8.length : Int)) = false := bne_eq_false_iff_eq.mpr c15
         have c15b2 : (l0_8.length == l1_8.length) = true := by first | simpa using c15 | (simp at c15 ⊢; omega)
         clear c15
         have H' := Aside0.mk H
         clear H
         have hnb16 := NB128_129.out
         have hnc16 := NB129_128.out
         have hcz17_0 : w5.cell? ⟨gb128, 0, none⟩ = some (.int .i64 a0_0) := (blk_cell BK128.out 0).trans rfl
         have hcz17_1 : w5.cell? ⟨gb128, 1, none⟩ = some (.int .i64 a0_1) := (blk_cell BK128.out 1).trans rfl
         have hcz17_2 : w5.cell? ⟨gb128, 2, none⟩ = some (.int .i64 a0_2) := (blk_cell BK128.out 2).trans rfl
         have hcz17_3 : w5.cell? ⟨gb128, 3, none⟩ = some (.int .i64 a0_3) := (blk_cell BK128.out 3).trans rfl
         have hcz17_4 : w5.cell? ⟨gb128, 4, none⟩ = some (.int .i64 a0_4) := (blk_cell BK128.out 4).trans rfl
         have hcz17_5 : w5.cell? ⟨gb128, 5, none⟩ = some (.int .i64 a0_5) := (blk_cell BK128.out 5).trans rfl
         have hcz17_6 : w5.cell? ⟨gb128, 6, none⟩ = some (.slice A0_6 l0_6.length c0_6) := (blk_cell BK128.out 6).trans rfl
         have hcz17_7 : w5.cell? ⟨gb128, 7, none⟩ = some (.slice A0_7 l0_7.length c0_7) := (blk_cell BK128.out 7).trans rfl
         have hcz17_8 : w5.cell? ⟨gb128, 8, none⟩ = some (.slice A0_8 l0_8.length c0_8) := (blk_cell BK128.out 8).trans rfl
         have hcz17_9 : w5.cell? ⟨gb128, 9, none⟩ = some (.int .i64 a0_9) := (blk_cell BK128.out 9).trans rfl
         have hcz17_10 : w5.cell? ⟨gb128, 10, none⟩ = some (.int .i64 a0_10) := (blk_cell BK128.out 10).trans rfl
         have hcz17_11 : w5.cell? ⟨gb128, 11, none⟩ = some (.slice A0_11 l0_11.length c0_11) := (blk_cell BK128.out 11).trans rfl
         have hcz18_0 : w5.cell? ⟨gb129, 0, none⟩ = some (.int .i64 a1_0) := (blk_cell BK129.out 0).trans rfl
         have hcz18_1 : w5.cell? ⟨gb129, 1, none⟩ = some (.int .i64 a1_1) := (blk_cell BK129.out 1).trans rfl
         have hcz18_2 : w5.cell? ⟨gb129, 2, none⟩ = some (.int .i64 a1_2) := (blk_cell BK129.out 2).trans rfl
         have hcz18_3 : w5.cell? ⟨gb129, 3, none⟩ = some (.int .i64 a1_3) := (blk_cell BK129.out 3).trans rfl
         have hcz18_4 : w5.cell? ⟨gb129, 4, none⟩ = some (.int .i64 a1_4) := (blk_cell BK129.out 4).trans rfl
         have hcz18_5 : w5.cell? ⟨gb129, 5, none⟩ = some (.int .i64 a1_5) := (blk_cell BK129.out 5).trans rfl
         have hcz18_6 : w5.cell? ⟨gb129, 6, none⟩ = some (.slice A1_6 l1_6.length c1_6) := (blk_cell BK129.out 6).trans rfl
         have hcz18_7 : w5.cell? ⟨gb129, 7, none⟩ = some (.slice A1_7 l1_7.length c1_7) := (blk_cell BK129.out 7).trans rfl
         have hcz18_8 : w5.cell? ⟨gb129, 8, none⟩ = some (.slice A1_8 l1_8.length c1_8) := (blk_cell BK129.out 8).trans rfl
         have hcz18_9 : w5.cell? ⟨gb129, 9, none⟩ = some (.int .i64 a1_9) := (blk_cell BK129.out 9).trans rfl
         have hcz18_10 : w5.cell? ⟨gb129, 10, none⟩ = some (.int .i64 a1_10) := (blk_cell BK129.out 10).trans rfl
         have hcz18_11 : w5.cell? ⟨gb129, 11, none⟩ = some (.slice A1_11 l1_11.length c1_11) := (blk_cell BK129.out 11).trans rfl
         go_wp2
         repeat (go_quiet (fail); try go_wp2)
         go_meet
         case rel => exact ⟨_, (((l0_11.length : Int) != (l1_11.length : Int))), (by first | rfl | (simp; done) | (simp [*]; done)), H', ⟨by first | omega | exact Nat.le_refl _⟩, ⟨by (with_reducible repeat (first | refine blk_drewN ?_ _ | refine blk_drew ?_ | refine blk_alloc ?_ _)); exact BK128.out⟩, ⟨by (with_reducible repeat (first | refine blk_drewN ?_ _ | refine blk_drew ?_ | refine blk_alloc ?_ _)); exact BK129.out⟩, ⟨by repeat (first | (with_reducible first | exact HB.out | apply below_alloc | apply pw_below_drewN | apply below_drew1 | refine below_set ?_ GE128.out | refine below_set ?_ GE129.out) | exact HB.out)⟩⟩
        ·rw [if_neg c15] at H
         have c15b0 : ((l0_8.length : Int) == (l1_8.length : Int)) = false := beq_eq_false_iff_ne.mpr c15
         have c15b1 : ((l0_8.length : Int) != (l1_8.length : Int)) = true := bne_iff_ne.mpr c15
         have c15b2 : (l0_8.length == l1_8.length) = false := by first | simpa using c15 | (simp at c15 ⊢; omega)
         have H' := Aside0.mk H
         clear H
         have hnb19 := NB128_129.out
         have hnc19 := NB129_128.out
         have hcz20_0 : w5.cell? ⟨gb128, 0, none⟩ = some (.int .i64 a0_0) := (blk_cell BK128.out 0).trans rfl
         have hcz20_1 : w5.cell? ⟨gb128, 1, none⟩ = some (.int .i64 a0_1) := (blk_cell BK128.out 1).trans rfl
         have hcz20_2 : w5.cell? ⟨gb128, 2, none⟩ = some (.int .i64 a0_2) := (blk_cell BK128.out 2).trans rfl
         have hcz20_3 : w5.cell? ⟨gb128, 3, none⟩ = some (.int .i64 a0_3) := (blk_cell BK128.out 3).trans rfl
         have hcz20_4 : w5.cell? ⟨gb128, 4, none⟩ = some (.int .i64 a0_4) := (blk_cell BK128.out 4).trans rfl
         have hcz20_5 : w5.cell? ⟨gb128, 5, none⟩ = some (.int .i64 a0_5) := (blk_cell BK128.out 5).trans rfl
         have hcz20_6 : w5.cell? ⟨gb128, 6, none⟩ = some (.slice A0_6 l0_6.length c0_6) := (blk_cell BK128.out 6).trans rfl
         have hcz20_7 : w5.cell? ⟨gb128, 7, none⟩ = some (.slice A0_7 l0_7.length c0_7) := (blk_cell BK128.out 7).trans rfl
         have hcz20_8 : w5.cell? ⟨gb128, 8, none⟩ = some (.slice A0_8 l0_8.length c0_8) := (blk_cell BK128.out 8).trans rfl
         have hcz20_9 : w5.cell? ⟨gb128, 9, none⟩ = some (.int .i64 a0_9) := (blk_cell BK128.out 9).trans rfl
         have hcz20_10 : w5.cell? ⟨gb128, 10, none⟩ = some (.int .i64 a0_10) := (blk_cell BK128.out 10).trans rfl
         have hcz20_11 : w5.cell? ⟨gb128, 11, none⟩ = some (.slice A0_11 l0_11.length c0_11) := (blk_cell BK128.out 11).trans rfl
         have hcz21_0 : w5.cell? ⟨gb129, 0, none⟩ = some (.int .i64 a1_0) := (blk_cell BK129.out 0).trans rfl
         have hcz21_1 : w5.cell? ⟨gb129, 1, none⟩ = some (.int .i64 a1_1) := (blk_cell BK129.out 1).trans rfl
         have hcz21_2 : w5.cell? ⟨gb129, 2, none⟩ = some (.int .i64 a1_2) := (blk_cell BK129.out 2).trans rfl
         have hcz21_3 : w5.cell? ⟨gb129, 3, none⟩ = some (.int .i64 a1_3) := (blk_cell BK129.out 3).trans rfl
         have hcz21_4 : w5.cell? ⟨gb129, 4, none⟩ = some (.int .i64 a1_4) := (blk_cell BK129.out 4).trans rfl
         have hcz21_5 : w5.cell? ⟨gb129, 5, none⟩ = some (.int .i64 a1_5) := (blk_cell BK129.out 5).trans rfl
         have hcz21_6 : w5.cell? ⟨gb129, 6, none⟩ = some (.slice A1_6 l1_6.length c1_6) := (blk_cell BK129.out 6).trans rfl
         have hcz21_7 : w5.cell? ⟨gb129, 7, none⟩ = some (.slice A1_7 l1_7.length c1_7) := (blk_cell BK129.out 7).trans rfl
         have hcz21_8 : w5.cell? ⟨gb129, 8, none⟩ = some (.slice A1_8 l1_8.length c1_8) := (blk_cell BK129.out 8).trans rfl
         have hcz21_9 : w5.cell? ⟨gb129, 9, none⟩ = some (.int .i64 a1_9) := (blk_cell BK129.out 9).trans rfl
         have hcz21_10 : w5.cell? ⟨gb129, 10, none⟩ = some (.int .i64 a1_10) := (blk_cell BK129.out 10).trans rfl
         have hcz21_11 : w5.cell? ⟨gb129, 11, none⟩ = some (.slice A1_11 l1_11.length c1_11) := (blk_cell BK129.out 11).trans rfl
         go_wp2
         repeat (go_quiet (fail); try go_wp2)
         go_meet
         case rel => exact ⟨_, (true), (by first | rfl | (simp; done) | (simp [*]; done)), H', ⟨by first | omega | exact Nat.le_refl _⟩, ⟨by (with_reducible repeat (first | refine blk_drewN ?_ _ | refine blk_drew ?_ | refine blk_alloc ?_ _)); exact BK128.out⟩, ⟨by (with_reducible repeat (first | refine blk_drewN ?_ _ | refine blk_drew ?_ | refine blk_alloc ?_ _)); exact BK129.out⟩, ⟨by repeat (first | (with_reducible first | exact HB.out | apply below_alloc | apply pw_below_drewN | apply below_drew1 | refine below_set ?_ GE128.out | refine below_set ?_ GE129.out) | exact HB.out)⟩⟩
       ·rw [if_neg c14] at H
        have c14b0 : ((l0_7.length : Int) == (l1_7.length : Int)) = false := beq_eq_false_iff_ne.mpr c14
        have c14b1 : ((l0_7.length : Int) != (l1_7.length : Int)) = true := bne_iff_ne.mpr c14
        have c14b2 : (l0_7.length == l1_7.length) = false := by first | simpa using c14 | (simp at c14 ⊢; omega)
        have H' := Aside0.mk H
        clear H
        have hnb22 := NB128_129.out
        have hnc22 := NB129_128.out
        have hcz23_0 : w5.cell? ⟨gb128, 0, none⟩ = some (.int .i64 a0_0) := (blk_cell BK128.out 0).trans rfl
        have hcz23_1 : w5.cell? ⟨gb128, 1, none⟩ = some (.int .i64 a0_1) := (blk_cell BK128.out 1).trans rfl
        have hcz23_2 : w5.cell? ⟨gb128, 2, none⟩ = some (.int .i64 a0_2) := (blk_cell BK128.out 2).trans rfl
        have hcz23_3 : w5.cell? ⟨gb128, 3, none⟩ = some (.int .i64 a0_3) := (blk_cell BK128.out 3).trans rfl
        have hcz23_4 : w5.cell? ⟨gb128, 4, none⟩ = some (.int .i64 a0_4) := (blk_cell BK128.out 4).trans rfl
        have hcz23_5 : w5.cell? ⟨gb128, 5, none⟩ = some (.int .i64 a0_5) := (blk_cell BK128.out 5).trans rfl
        have hcz23_6 : w5.cell? ⟨gb128, 6, none⟩ = some (.slice A0_6 l0_6.length c0_6) := (blk_cell BK128.out 6).trans rfl
        have hcz23_7 : w5.cell? ⟨gb128, 7, none⟩ = some (.slice A0_7 l0_7.length c0_7) := (blk_cell BK128.out 7).trans rfl
        have hcz23_8 : w5.cell? ⟨gb128, 8, none⟩ = some (.slice A0_8 l0_8.length c0_8) := (blk_cell BK128.out 8).trans rfl
        have hcz23_9 : w5.cell? ⟨gb128, 9, none⟩ = some (.int .i64 a0_9) := (blk_cell BK128.out 9).trans rfl
        have hcz23_10 : w5.cell? ⟨gb128, 10, none⟩ = some (.int .i64 a0_10) := (blk_cell BK128.out 10).trans rfl
        have hcz23_11 : w5.cell? ⟨gb128, 11, none⟩ = some (.slice A0_11 l0_11.length c0_11) := (blk_cell BK128.out 11).trans rfl
        have hcz24_0 : w5.cell? ⟨gb129, 0, none⟩ = some (.int .i64 a1_0) := (blk_cell BK129.out 0).trans rfl
        have hcz24_1 : w5.cell? ⟨gb129, 1, none⟩ = some (.int .i64 a1_1) := (blk_cell BK129.out 1).trans rfl
        have hcz24_2 : w5.cell? ⟨gb129, 2, none⟩ = some (.int .i64 a1_2) := (blk_cell BK129.out 2).trans rfl
        have hcz24_3 : w5.cell? ⟨gb129, 3, none⟩ = some (.int .i64 a1_3) := (blk_cell BK129.out 3).trans rfl
        have hcz24_4 : w5.cell? ⟨gb129, 4, none⟩ = some (.int .i64 a1_4) := (blk_cell BK129.out 4).trans rfl
        have hcz24_5 : w5.cell? ⟨gb129, 5, none⟩ = some (.int .i64 a1_5) := (blk_cell BK129.out 5).trans rfl
        have hcz24_6 : w5.cell? ⟨gb129, 6, none⟩ = some (.slice A1_6 l1_6.length c1_6) := (blk_cell BK129.out 6).trans rfl
        have hcz24_7 : w5.cell? ⟨gb129, 7, none⟩ = some (.slice A1_7 l1_7.length c1_7) := (blk_cell BK129.out 7).trans rfl
        have hcz24_8 : w5.cell? ⟨gb129, 8, none⟩ = some (.slice A1_8 l1_8.length c1_8) := (blk_cell BK129.out 8).trans rfl
        have hcz24_9 : w5.cell? ⟨gb129, 9, none⟩ = some (.int .i64 a1_9) := (blk_cell BK129.out 9).trans rfl
        have hcz24_10 : w5.cell? ⟨gb129, 10, none⟩ = some (.int .i64 a1_10) := (blk_cell BK129.out 10).trans rfl
        have hcz24_11 : w5.cell? ⟨gb129, 11, none⟩ = some (.slice A1_11 l1_11.length c1_11) := (blk_cell BK129.out 11).trans rfl
        go_wp2
        repeat (go_quiet (fail); try go_wp2)
        go_meet
        case rel => exact ⟨_, (true), (by first | rfl | (simp; done) | (simp [*]; done)), H', ⟨by first | omega | exact Nat.le_refl _⟩, ⟨by (with_reducible repeat (first | refine blk_drewN ?_ _ | refine blk_drew ?_ | refine blk_alloc ?_ _)); exact BK128.out⟩, ⟨by (with_reducible repeat (first | refine blk_drewN ?_ _ | refine blk_drew ?_ | refine blk_alloc ?_ _)); exact BK129.out⟩, ⟨by repeat (first | (with_reducible first | exact HB.out | apply below_alloc | apply pw_below_drewN | apply below_drew1 | refine below_set ?_ GE128.out | refine below_set ?_ GE129.out) | exact HB.out)⟩⟩
      ·rw [if_neg c13] at H
       have c13b0 : ((l0_6.length : Int) == (l1_6.length : Int)) = false := beq_eq_false_iff_ne.mpr c13
       have c13b1 : ((l0_6.length : Int) != (l1_6.length : Int)) = true := bne_iff_ne.mpr c13
       have c13b2 : (l0_6.length == l1_6.length) = false := by first | simpa using c13 | (simp at c13 ⊢; omega)
       have H' := Aside0.mk H
       clear H
       have hnb25 := NB128_129.out
       have hnc25 := NB129_128.out
       have hcz26_0 : w5.cell? ⟨gb128, 0, none⟩ = some (.int .i64 a0_0) := (blk_cell BK128.out 0).trans rfl
       have hcz26_1 : w5.cell? ⟨gb128, 1, none⟩ = some (.int .i64 a0_1) := (blk_cell BK128.out 1).trans rfl
       have hcz26_2 : w5.cell? ⟨gb128, 2, none⟩ = some (.int .i64 a0_2) := (blk_cell BK128.out 2).trans rfl
       have hcz26_3 : w5.cell? ⟨gb128, 3, none⟩ = some (.int .i64 a0_3) := (blk_cell BK128.out 3).trans rfl
       have hcz26_4 : w5.cell? ⟨gb128, 4, none⟩ = some (.int .i64 a0_4) := (blk_cell BK128.out 4).trans rfl
       have hcz26_5 : w5.cell? ⟨gb128, 5, none⟩ = some (.int .i64 a0_5) := (blk_cell BK128.out 5).trans rfl
       have hcz26_6 : w5.cell? ⟨gb128, 6, none⟩ = some (.slice A0_6 l0_6.length c0_6) := (blk_cell BK128.out 6).trans rfl
       have hcz26_7 : w5.cell? ⟨gb128, 7, none⟩ = some (.slice A0_7 l0_7.length c0_7) := (blk_cell BK128.out 7).trans rfl
       have hcz26_8 : w5.cell? ⟨gb128, 8, none⟩ = some (.slice A0_8 l0_8.length c0_8) := (blk_cell BK128.out 8).trans rfl
       have hcz26_9 : w5.cell? ⟨gb128, 9, none⟩ = some (.int .i64 a0_9) := (blk_cell BK128.out 9).trans rfl
       have hcz26_10 : w5.cell? ⟨gb128, 10, none⟩ = some (.int .i64 a0_10) := (blk_cell BK128.out 10).trans rfl
       have hcz26_11 : w5.cell? ⟨gb128, 11, none⟩ = some (.slice A0_11 l0_11.length c0_11) := (blk_cell BK128.out 11).trans rfl
       have hcz27_0 : w5.cell? ⟨gb129, 0, none⟩ = some (.int .i64 a1_0) := (blk_cell BK129.out 0).trans rfl
       have hcz27_1 : w5.cell? ⟨gb129, 1, none⟩ = some (.int .i64 a1_1) := (blk_cell BK129.out 1).trans rfl
       have hcz27_2 : w5.cell? ⟨gb129, 2, none⟩ = some (.int .i64 a1_2) := (blk_cell BK129.out 2).trans rfl
       have hcz27_3 : w5.cell? ⟨gb129, 3, none⟩ = some (.int .i64 a1_3) := (blk_cell BK129.out 3).trans rfl
       have hcz27_4 : w5.cell? ⟨gb129, 4, none⟩ = some (.int .i64 a1_4) := (blk_cell BK129.out 4).trans rfl
       have hcz27_5 : w5.cell? ⟨gb129, 5, none⟩ = some (.int .i64 a1_5) := (blk_cell BK129.out 5).trans rfl
       have hcz27_6 : w5.cell? ⟨gb129, 6, none⟩ = some (.slice A1_6 l1_6.length c1_6) := (blk_cell BK129.out 6).trans rfl
       have hcz27_7 : w5.cell? ⟨gb129, 7, none⟩ = some (.slice A1_7 l1_7.length c1_7) := (blk_cell BK129.out 7).trans rfl
       have hcz27_8 : w5.cell? ⟨gb129, 8, none⟩ = some (.slice A1_8 l1_8.length c1_8) := (blk_cell BK129.out 8).trans rfl
       have hcz27_9 : w5.cell? ⟨gb129, 9, none⟩ = some (.int .i64 a1_9) := (blk_cell BK129.out 9).trans rfl
       have hcz27_10 : w5.cell? ⟨gb129, 10, none⟩ = some (.int .i64 a1_10) := (blk_cell BK129.out 10).trans rfl
       have hcz27_11 : w5.cell? ⟨gb129, 11, none⟩ = some (.slice A1_11 l1_11.length c1_11) := (blk_cell BK129.out 11).trans rfl
       go_wp2
       repeat (go_quiet (fail); try go_wp2)
       go_meet
       case rel => exact ⟨_, (true), (by first | rfl | (simp; done) | (simp [*]; done)), H', ⟨by first | omega | exact Nat.le_refl _⟩, ⟨by (with_reducible repeat (first | refine blk_drewN ?_ _ | refine blk_drew ?_ | refine blk_alloc ?_ _)); exact BK128.out⟩, ⟨by (with_reducible repeat (first | refine blk_drewN ?_ _ | refine blk_drew ?_ | refine blk_alloc ?_ _)); exact BK129.out⟩, ⟨by repeat (first | (with_reducible first | exact HB.out | apply below_alloc | apply pw_below_drewN | apply below_drew1 | refine below_set ?_ GE128.out | refine below_set ?_ GE129.out) | exact HB.out)⟩⟩
     ·rw [if_neg c12] at H
      have c12b0 : (a0_10 == a1_10) = false := beq_eq_false_iff_ne.mpr c12
      have c12b1 : (a0_10 != a1_10) = true := bne_iff_ne.mpr c12
      have H' := Aside0.mk H
      clear H
      have hnb28 := NB128_129.out
      have hnc28 := NB129_128.out
      have hcz29_0 : w5.cell? ⟨gb128, 0, none⟩ = some (.int .i64 a0_0) := (blk_cell BK128.out 0).trans rfl
      have hcz29_1 : w5.cell? ⟨gb128, 1, none⟩ = some (.int .i64 a0_1) := (blk_cell BK128.out 1).trans rfl
      have hcz29_2 : w5.cell? ⟨gb128, 2, none⟩ = some (.int .i64 a0_2) := (blk_cell BK128.out 2).trans rfl
      have hcz29_3 : w5.cell? ⟨gb128, 3, none⟩ = some (.int .i64 a0_3) := (blk_cell BK128.out 3).trans rfl
      have hcz29_4 : w5.cell? ⟨gb128, 4, none⟩ = some (.int .i64 a0_4) := (blk_cell BK128.out 4).trans rfl
      have hcz29_5 : w5.cell? ⟨gb128, 5, none⟩ = some (.int .i64 a0_5) := (blk_cell BK128.out 5).trans rfl
      have hcz29_6 : w5.cell? ⟨gb128, 6, none⟩ = some (.slice A0_6 l0_6.length c0_6) := (blk_cell BK128.out 6).trans rfl
      have hcz29_7 : w5.cell? ⟨gb128, 7, none⟩ = some (.slice A0_7 l0_7.length c0_7) := (blk_cell BK128.out 7).trans rfl
      have hcz29_8 : w5.cell? ⟨gb128, 8, none⟩ = some (.slice A0_8 l0_8.length c0_8) := (blk_cell BK128.out 8).trans rfl
      have hcz29_9 : w5.cell? ⟨gb128, 9, none⟩ = some (.int .i64 a0_9) := (blk_cell BK128.out 9).trans rfl
      have hcz29_10 : w5.cell? ⟨gb128, 10, none⟩ = some (.int .i64 a0_10) := (blk_cell BK128.out 10).trans rfl
      have hcz29_11 : w5.cell? ⟨gb128, 11, none⟩ = some (.slice A0_11 l0_11.length c0_11) := (blk_cell BK128.out 11).trans rfl
      have hcz30_0 : w5.cell? ⟨gb129, 0, none⟩ = some (.int .i64 a1_0) := (blk_cell BK129.out 0).trans rfl
      have hcz30_1 : w5.cell? ⟨gb129, 1, none⟩ = some (.int .i64 a1_1) := (blk_cell BK129.out 1).trans rfl
      have hcz30_2 : w5.cell? ⟨gb129, 2, none⟩ = some (.int .i64 a1_2) := (blk_cell BK129.out 2).trans rfl
      have hcz30_3 : w5.cell? ⟨gb129, 3, none⟩ = some (.int .i64 a1_3) := (blk_cell BK129.out 3).trans rfl
      have hcz30_4 : w5.cell? ⟨gb129, 4, none⟩ = some (.int .i64 a1_4) := (blk_cell BK129.out 4).trans rfl
      have hcz30_5 : w5.cell? ⟨gb129, 5, none⟩ = some (.int .i64 a1_5) := (blk_cell BK129.out 5).trans rfl
      have hcz30_6 : w5.cell? ⟨gb129, 6, none⟩ = some (.slice A1_6 l1_6.length c1_6) := (blk_cell BK129.out 6).trans rfl
      have hcz30_7 : w5.cell? ⟨gb129, 7, none⟩ = some (.slice A1_7 l1_7.length c1_7) := (blk_cell BK129.out 7).trans rfl
      have hcz30_8 : w5.cell? ⟨gb129, 8, none⟩ = some (.slice A1_8 l1_8.length c1_8) := (blk_cell BK129.out 8).trans rfl
      have hcz30_9 : w5.cell? ⟨gb129, 9, none⟩ = some (.int .i64 a1_9) := (blk_cell BK129.out 9).trans rfl
      have hcz30_10 : w5.cell? ⟨gb129, 10, none⟩ = some (.int .i64 a1_10) := (blk_cell BK129.out 10).trans rfl
      have hcz30_11 : w5.cell? ⟨gb129, 11, none⟩ = some (.slice A1_11 l1_11.length c1_11) := (blk_cell BK129.out 11).trans rfl
      go_wp2
      repeat (go_quiet (fail); try go_wp2)
      go_meet
      case rel => exact ⟨_, (true), (by first | rfl | (simp; done) | (simp [*]; done)), H', ⟨by first | omega | exact Nat.le_refl _⟩, ⟨by (with_reducible repeat (first | refine blk_drewN ?_ _ | refine blk_drew ?_ | refine blk_alloc ?_ _)); exact BK128.out⟩, ⟨by (with_reducible repeat (first | refine blk_drewN ?_ _ | refine blk_drew ?_ | refine blk_alloc ?_ _)); exact BK129.out⟩, ⟨by repeat (first | (with_reducible first | exact HB.out | apply below_alloc | apply pw_below_drewN | apply below_drew1 | refine below_set ?_ GE128.out | refine below_set ?_ GE129.out) | exact HB.out)⟩⟩
    ·rw [if_neg c11] at H
     have c11b0 : (a0_9 == a1_9) = false := beq_eq_false_iff_ne.mpr c11
     have c11b1 : (a0_9 != a1_9) = true := bne_iff_ne.mpr c11
     have H' := Aside0.mk H
     clear H
     have hnb31 := NB128_129.out
     have hnc31 := NB129_128.out
     have hcz32_0 : w5.cell? ⟨gb128, 0, none⟩ = some (.int .i64 a0_0) := (blk_cell BK128.out 0).trans rfl
     have hcz32_1 : w5.cell? ⟨gb128, 1, none⟩ = some (.int .i64 a0_1) := (blk_cell BK128.out 1).trans rfl
     have hcz32_2 : w5.cell? ⟨gb128, 2, none⟩ = some (.int .i64 a0_2) := (blk_cell BK128.out 2).trans rfl
     have hcz32_3 : w5.cell? ⟨gb128, 3, none⟩ = some (.int .i64 a0_3) := (blk_cell BK128.out 3).trans rfl
     have hcz32_4 : w5.cell? ⟨gb128, 4, none⟩ = some (.int .i64 a0_4) := (blk_cell BK128.out 4).trans rfl
     have hcz32_5 : w5.cell? ⟨gb128, 5, none⟩ = some (.int .i64 a0_5) := (blk_cell BK128.out 5).trans rfl
     have hcz32_6 : w5.cell? ⟨gb128, 6, none⟩ = some (.slice A0_6 l0_6.length c0_6) := (blk_cell BK128.out 6).trans rfl
     have hcz32_7 : w5.cell? ⟨gb128, 7, none⟩ = some (.slice A0_7 l0_7.length c0_7) := (blk_cell BK128.out 7).trans rfl
     have hcz32_8 : w5.cell? ⟨gb128, 8, none⟩ = some (.slice A0_8 l0_8.length c0_8) := (blk_cell BK128.out 8).trans rfl
     have hcz32_9 : w5.cell? ⟨gb128, 9, none⟩ = some (.int .i64 a0_9) := (blk_cell BK128.out 9).trans rfl
     have hcz32_10 : w5.cell? ⟨gb128, 10, none⟩ = some (.int .i64 a0_10) := (blk_cell BK128.out 10).trans rfl
     have hcz32_11 : w5.cell? ⟨gb128, 11, none⟩ = some (.slice A0_11 l0_11.length c0_11) := (blk_cell BK128.out 11).trans rfl
     have hcz33_0 : w5.cell? ⟨gb129, 0, none⟩ = some (.int .i64 a1_0) := (blk_cell BK129.out 0).trans rfl
     have hcz33_1 : w5.cell? ⟨gb129, 1, none⟩ = some (.int .i64 a1_1) := (blk_cell BK129.out 1).trans rfl
     have hcz33_2 : w5.cell? ⟨gb129, 2, none⟩ = some (.int .i64 a1_2) := (blk_cell BK129.out 2).trans rfl
     have hcz33_3 : w5.cell? ⟨gb129, 3, none⟩ = some (.int .i64 a1_3) := (blk_cell BK129.out 3).trans rfl
     have hcz33_4 : w5.cell? ⟨gb129, 4, none⟩ = some (.int .i64 a1_4) := (blk_cell BK129.out 4).trans rfl
     have hcz33_5 : w5.cell? ⟨gb129, 5, none⟩ = some (.int .i64 a1_5) := (blk_cell BK129.out 5).trans rfl
     have hcz33_6 : w5.cell? ⟨gb129, 6, none⟩ = some (.slice A1_6 l1_6.length c1_6) := (blk_cell BK129.out 6).trans rfl
     have hcz33_7 : w5.cell? ⟨gb129, 7, none⟩ = some (.slice A1_7 l1_7.length c1_7) := (blk_cell BK129.out 7).trans rfl
     have hcz33_8 : w5.cell? ⟨gb129, 8, none⟩ = some (.slice A1_8 l1_8.length c1_8) := (blk_cell BK129.out 8).trans rfl
     have hcz33_9 : w5.cell? ⟨gb129, 9, none⟩ = some (.int .i64 a1_9) := (blk_cell BK129.out 9).trans rfl
     have hcz33_10 : w5.cell? ⟨gb129, 10, none⟩ = some (.int .i64 a1_10) := (blk_cell BK129.out 10).trans rfl
     have hcz33_11 : w5.cell? ⟨gb129, 11, none⟩ = some (.slice A1_11 l1_11.length c1_11) := (blk_cell BK129.out 11).trans rfl
     go_wp2
     repeat (go_quiet (fail); try go_wp2)
     go_meet
     case rel => exact ⟨_, (true), (by first | rfl | (simp; done) | (simp [*]; done)), H', ⟨by first | omega | exact Nat.le_refl _⟩, ⟨by (with_reducible repeat (first | refine blk_drewN ?_ _ | refine blk_drew ?_ | refine blk_alloc ?_ _)); exact BK128.out⟩, ⟨by (with_reducible repeat (first | refine blk_drewN ?_ _ | refine blk_drew ?_ | refine blk_alloc ?_ _)); exact BK129.out⟩, ⟨by repeat (first | (with_reducible first | exact HB.out | apply below_alloc | apply pw_below_drewN | apply below_drew1 | refine below_set ?_ GE128.out | refine below_set ?_ GE129.out) | exact HB.out)⟩⟩
  ·rw [if_neg c6] at H
   have c6b0 : (a0_0 == a1_0) = false := beq_eq_false_iff_ne.mpr c6
   have c6b1 : (a0_0 != a1_0) = true := bne_iff_ne.mpr c6
   (first | rw [c6b0] | (simp only [i64_w, i32_w]; rw [c6b0]) | skip)
   have H' := Aside0.mk H
   clear H
   have hnb34 := NB128_129.out
   have hnc34 := NB129_128.out
   have hcz35_0 : w5.cell? ⟨gb128, 0, none⟩ = some (.int .i64 a0_0) := (blk_cell BK128.out 0).trans rfl
   have hcz35_1 : w5.cell? ⟨gb128, 1, none⟩ = some (.int .i64 a0_1) := (blk_cell BK128.out 1).trans rfl
   have hcz35_2 : w5.cell? ⟨gb128, 2, none⟩ = some (.int .i64 a0_2) := (blk_cell BK128.out 2).trans rfl
   have hcz35_3 : w5.cell? ⟨gb128, 3, none⟩ = some (.int .i64 a0_3) := (blk_cell BK128.out 3).trans rfl
   have hcz35_4 : w5.cell? ⟨gb128, 4, none⟩ = some (.int .i64 a0_4) := (blk_cell BK128.out 4).trans rfl
   have hcz35_5 : w5.cell? ⟨gb128, 5, none⟩ = some (.int .i64 a0_5) := (blk_cell BK128.out 5).trans rfl
   have hcz35_6 : w5.cell? ⟨gb128, 6, none⟩ = some (.slice A0_6 l0_6.length c0_6) := (blk_cell BK128.out 6).trans rfl
   have hcz35_7 : w5.cell? ⟨gb128, 7, none⟩ = some (.slice A0_7 l0_7.length c0_7) := (blk_cell BK128.out 7).trans rfl
   have hcz35_8 : w5.cell? ⟨gb128, 8, none⟩ = some (.slice A0_8 l0_8.length c0_8) := (blk_cell BK128.out 8).trans rfl
   have hcz35_9 : w5.cell? ⟨gb128, 9, none⟩ = some (.int .i64 a0_9) := (blk_cell BK128.out 9).trans rfl
   have hcz35_10 : w5.cell? ⟨gb128, 10, none⟩ = some (.int .i64 a0_10) := (blk_cell BK128.out 10).trans rfl
   have hcz35_11 : w5.cell? ⟨gb128, 11, none⟩ = some (.slice A0_11 l0_11.length c0_11) := (blk_cell BK128.out 11).trans rfl
   have hcz36_0 : w5.cell? ⟨gb129, 0, none⟩ = some (.int .i64 a1_0) := (blk_cell BK129.out 0).trans rfl
   have hcz36_1 : w5.cell? ⟨gb129, 1, none⟩ = some (.int .i64 a1_1) := (blk_cell BK129.out 1).trans rfl
   have hcz36_2 : w5.cell? ⟨gb129, 2, none⟩ = some (.int .i64 a1_2) := (blk_cell BK129.out 2).trans rfl
   have hcz36_3 : w5.cell? ⟨gb129, 3, none⟩ = some (.int .i64 a1_3) := (blk_cell BK129.out 3).trans rfl
   have hcz36_4 : w5.cell? ⟨gb129, 4, none⟩ = some (.int .i64 a1_4) := (blk_cell BK129.out 4).trans rfl
   have hcz36_5 : w5.cell? ⟨gb129, 5, none⟩ = some (.int .i64 a1_5) := (blk_cell BK129.out 5).trans rfl
   have hcz36_6 : w5.cell? ⟨gb129, 6, none⟩ = some (.slice A1_6 l1_6.length c1_6) := (blk_cell BK129.out 6).trans rfl
   have hcz36_7 : w5.cell? ⟨gb129, 7, none⟩ = some (.slice A1_7 l1_7.length c1_7) := (blk_cell BK129.out 7).trans rfl
   have hcz36_8 : w5.cell? ⟨gb129, 8, none⟩ = some (.slice A1_8 l1_8.length c1_8) := (blk_cell BK129.out 8).trans rfl
   have hcz36_9 : w5.cell? ⟨gb129, 9, none⟩ = some (.int .i64 a1_9) := (blk_cell BK129.out 9).trans rfl
   have hcz36_10 : w5.cell? ⟨gb129, 10, none⟩ = some (.int .i64 a1_10) := (blk_cell BK129.out 10).trans rfl
   have hcz36_11 : w5.cell? ⟨gb129, 11, none⟩ = some (.slice A1_11 l1_11.length c1_11) := (blk_cell BK129.out 11).trans rfl
   go_wp2
   repeat (go_quiet (fail); try go_wp2)
   go_meet
   case rel => exact ⟨_, (true), (by first | rfl | (simp; done) | (simp [*]; done)), H', ⟨by first | omega | exact Nat.le_refl _⟩, ⟨by (with_reducible repeat (first | refine blk_drewN ?_ _ | refine blk_drew ?_ | refine blk_alloc ?_ _)); exact BK128.out⟩, ⟨by (with_reducible repeat (first | refine blk_drewN ?_ _ | refine blk_drew ?_ | refine blk_alloc ?_ _)); exact BK129.out⟩, ⟨by repeat (first | (with_reducible first | exact HB.out | apply below_alloc | apply pw_below_drewN | apply below_drew1 | refine below_set ?_ GE128.out | refine below_set ?_ GE129.out) | exact HB.out)⟩⟩
 case rest =>
  clear HC3
  obtain ⟨kq, x70_2, rfl, HA, HJ2, BK128, BK129, HB⟩ := hcut
  cases kq with
  | zero => exact absurd HA.out (by simp [capstanref21_Same.j0])
  | succ kj2 =>
   have H := HA.out
   clear HA
   simp only [capstanref21_Same.j0] at H
   by_cases c37 : x70_2 = true
   ·subst c37
    have H1 : (some false) = some r := by rw [if_pos rfl] at H; exact H
    clear H
    have H := H1
    clear H1
    obtain rfl := Option.some.inj H
    go_wp2
    repeat (go_quiet (fail); try go_wp2)
    go_ret
    exact ⟨by first | rfl | (simp [errW_none, errW_some] <;> rfl) | (simp [*, errW_none, errW_some] <;> rfl), by repeat (first | (with_reducible first | exact HB.out | apply below_alloc | apply pw_below_drewN | apply below_drew1 | refine below_set ?_ GE128.out | refine below_set ?_ GE129.out) | exact HB.out)⟩
   ·replace c37 := Bool.eq_false_iff.mpr c37
    subst c37
    have H1 : (capstanref21_Same.l0 kj2 0 a0_0 a0_1 a0_2 a0_3 a0_4 a0_5 l0_6 l0_7 l0_8 a0_9 a0_10 l0_11 a1_0 a1_1 a1_2 a1_3 a1_4 a1_5 l1_6 l1_7 l1_8 a1_9 a1_10 l1_11) = some r := by rw [if_neg (show ¬ (false = true) by decide)] at H; exact H
    clear H
    have H := H1
    clear H1
    have H' := Aside0.mk H
    clear H
    go_wp2
    repeat (go_quiet (fail); try go_wp2)
    go_loopg [5] kj2 (fun kq v5 w' => ∃ (x5_2 : Int), v5 = .int .i64 x5_2 ∧ Aside0 (capstanref21_Same.l0 kq x5_2 a0_0 a0_1 a0_2 a0_3 a0_4 a0_5 l0_6 l0_7 l0_8 a0_9 a0_10 l0_11 a1_0 a1_1 a1_2 a1_3 a1_4 a1_5 l1_6 l1_7 l1_8 a1_9 a1_10 l1_11 = some r) ∧ Aside0 (kq ≤ kj2) ∧ Aside0 (w'.heap[gb128]? = some (.cells #[.int .i64 a0_0, .int .i64 a0_1, .int .i64 a0_2, .int .i64 a0_3, .int .i64 a0_4, .int .i64 a0_5, (.slice A0_6 l0_6.length c0_6), (.slice A0_7 l0_7.length c0_7), (.slice A0_8 l0_8.length c0_8), .int .i64 a0_9, .int .i64 a0_10, (.slice A0_11 l0_11.length c0_11)] 29 (0, 0))) ∧ Aside0 (w'.heap[gb129]? = some (.cells #[.int .i64 a1_0, .int .i64 a1_1, .int .i64 a1_2, .int .i64 a1_3, .int .i64 a1_4, .int .i64 a1_5, (.slice A1_6 l1_6.length c1_6), (.slice A1_7 l1_7.length c1_7), (.slice A1_8 l1_8.length c1_8), .int .i64 a1_9, .int .i64 a1_10, (.slice A1_11 l1_11.length c1_11)] 29 (0, 0))) ∧ Aside0 (Below w.heap.size w w'))
    case atStart => exact ⟨(0), (by first | rfl | (simp; done) | (simp [*]; done)), H', ⟨Nat.le_refl _⟩, ⟨by (with_reducible repeat (first | refine blk_drewN ?_ _ | refine blk_drew ?_ | refine blk_alloc ?_ _)); exact BK128.out⟩, ⟨by (with_reducible repeat (first | refine blk_drewN ?_ _ | refine blk_drew ?_ | refine blk_alloc ?_ _)); exact BK129.out⟩, ⟨by repeat (first | (with_reducible first | exact HB.out | apply below_alloc | apply pw_below_drewN | apply below_drew1 | refine below_set ?_ GE128.out | refine below_set ?_ GE129.out) | exact HB.out)⟩⟩
    case round =>
     clear H'
     try clear c37
     obtain ⟨x5_2, rfl, HA, HK2, BK128, BK129, HB⟩ := hrel
     cases gk with
     | zero => exact absurd HA.out (by simp [capstanref21_Same.l0])
     | succ k2 =>
      have H := HA.out
      clear HA
      simp only [capstanref21_Same.l0] at H
      by_cases c38 : x5_2 < (l0_6.length : Int)
      ·rw [if_pos c38] at H
       have c38b0 : decide (x5_2 < (l0_6.length : Int)) = true := decide_eq_true c38
       clear c38
       by_cases c39 : 0 ≤ x5_2
       ·rw [if_pos c39] at H
        have c39b0 : decide (0 ≤ x5_2) = true := decide_eq_true c39
        clear c39
        by_cases c40 : x5_2 < (l1_6.length : Int)
        ·rw [if_pos c40] at H
         have c40b0 : decide (x5_2 < (l1_6.length : Int)) = true := decide_eq_true c40
         clear c40
         by_cases c41 : (rd l0_6 x5_2) = (rd l1_6 x5_2)
         ·rw [if_pos c41] at H
          have c41b0 : ((rd l0_6 x5_2) == (rd l1_6 x5_2)) = true := beq_iff_eq.mpr c41
          have c41b1 : ((rd l0_6 x5_2) != (rd l1_6 x5_2)) = false := bne_eq_false_iff_eq.mpr c41
          clear c41
          have H' := Aside0.mk H
          clear H
          have hnb42 := NB128_129.out
          have hnc42 := NB129_128.out
          have hcz43_0 : wr.cell? ⟨gb128, 0, none⟩ = some (.int .i64 a0_0) := (blk_cell BK128.out 0).trans rfl
          have hcz43_1 : wr.cell? ⟨gb128, 1, none⟩ = some (.int .i64 a0_1) := (blk_cell BK128.out 1).trans rfl
          have hcz43_2 : wr.cell? ⟨gb128, 2, none⟩ = some (.int .i64 a0_2) := (blk_cell BK128.out 2).trans rfl
          have hcz43_3 : wr.cell? ⟨gb128, 3, none⟩ = some (.int .i64 a0_3) := (blk_cell BK128.out 3).trans rfl
          have hcz43_4 : wr.cell? ⟨gb128, 4, none⟩ = some (.int .i64 a0_4) := (blk_cell BK128.out 4).trans rfl
          have hcz43_5 : wr.cell? ⟨gb128, 5, none⟩ = some (.int .i64 a0_5) := (blk_cell BK128.out 5).trans rfl
          have hcz43_6 : wr.cell? ⟨gb128, 6, none⟩ = some (.slice A0_6 l0_6.length c0_6) := (blk_cell BK128.out 6).trans rfl
          have hcz43_7 : wr.cell? ⟨gb128, 7, none⟩ = some (.slice A0_7 l0_7.length c0_7) := (blk_cell BK128.out 7).trans rfl
          have hcz43_8 : wr.cell? ⟨gb128, 8, none⟩ = some (.slice A0_8 l0_8.length c0_8) := (blk_cell BK128.out 8).trans rfl
          have hcz43_9 : wr.cell? ⟨gb128, 9, none⟩ = some (.int .i64 a0_9) := (blk_cell BK128.out 9).trans rfl
          have hcz43_10 : wr.cell? ⟨gb128, 10, none⟩ = some (.int .i64 a0_10) := (blk_cell BK128.out 10).trans rfl
          have hcz43_11 : wr.cell? ⟨gb128, 11, none⟩ = some (.slice A0_11 l0_11.length c0_11) := (blk_cell BK128.out 11).trans rfl
          have p130 : 0 ≤ (x5_2 : Int) := of_decide_eq_true (by first | (with_reducible assumption) | assumption)
          have q130 : x5_2 < (l0_6.length : Int) := of_decide_eq_true (by first | (with_reducible assumption) | assumption)
          obtain ⟨ad130, e130, hx130_0⟩ := Kd.at_int HR0_6.out x5_2 p130 q130
          cases e130
          replace hx130_0 := (HB.out.cell (World.block_lt_of_cell? w _ hx130_0)).trans hx130_0
          replace p130 := eq_true p130
          replace q130 := eq_true q130
          have hcz44_0 : wr.cell? ⟨gb129, 0, none⟩ = some (.int .i64 a1_0) := (blk_cell BK129.out 0).trans rfl
          have hcz44_1 : wr.cell? ⟨gb129, 1, none⟩ = some (.int .i64 a1_1) := (blk_cell BK129.out 1).trans rfl
          have hcz44_2 : wr.cell? ⟨gb129, 2, none⟩ = some (.int .i64 a1_2) := (blk_cell BK129.out 2).trans rfl
          have hcz44_3 : wr.cell? ⟨gb129, 3, none⟩ = some (.int .i64 a1_3) := (blk_cell BK129.out 3).trans rfl
          have hcz44_4 : wr.cell? ⟨gb129, 4, none⟩ = some (.int .i64 a1_4) := (blk_cell BK129.out 4).trans rfl
          have hcz44_5 : wr.cell? ⟨gb129, 5, none⟩ = some (.int .i64 a1_5) := (blk_cell BK129.out 5).trans rfl
          have hcz44_6 : wr.cell? ⟨gb129, 6, none⟩ = some (.slice A1_6 l1_6.length c1_6) := (blk_cell BK129.out 6).trans rfl
          have hcz44_7 : wr.cell? ⟨gb129, 7, none⟩ = some (.slice A1_7 l1_7.length c1_7) := (blk_cell BK129.out 7).trans rfl
          have hcz44_8 : wr.cell? ⟨gb129, 8, none⟩ = some (.slice A1_8 l1_8.length c1_8) := (blk_cell BK129.out 8).trans rfl
          have hcz44_9 : wr.cell? ⟨gb129, 9, none⟩ = some (.int .i64 a1_9) := (blk_cell BK129.out 9).trans rfl
          have hcz44_10 : wr.cell? ⟨gb129, 10, none⟩ = some (.int .i64 a1_10) := (blk_cell BK129.out 10).trans rfl
          have hcz44_11 : wr.cell? ⟨gb129, 11, none⟩ = some (.slice A1_11 l1_11.length c1_11) := (blk_cell BK129.out 11).trans rfl
          have p131 : 0 ≤ (x5_2 : Int) := of_decide_eq_true (by first | (with_reducible assumption) | assumption)
          have q131 : x5_2 < (l1_6.length : Int) := of_decide_eq_true (by first | (with_reducible assumption) | assumption)
          obtain ⟨ad131, e131, hx131_0⟩ := Kd.at_int HR1_6.out x5_2 p131 q131
          cases e131
          replace hx131_0 := (HB.out.cell (World.block_lt_of_cell? w _ hx131_0)).trans hx131_0
          replace p131 := eq_true p131
          replace q131 := eq_true q131
          go_wp2
          repeat (go_quiet (fail); try go_wp2)
          go_roundg k2
          case measure => have := HJ2.out; have := HK2.out; omega
          case rel => exact ⟨(wrap64 (x5_2 + 1)), (by first | rfl | (simp; done) | (simp [*]; done)), H', ⟨by have := HJ2.out; have := HK2.out; omega⟩, ⟨by (with_reducible repeat (first | refine blk_drewN ?_ _ | refine blk_drew ?_ | refine blk_alloc ?_ _)); exact BK128.out⟩, ⟨by (with_reducible repeat (first | refine blk_drewN ?_ _ | refine blk_drew ?_ | refine blk_alloc ?_ _)); exact BK129.out⟩, ⟨by repeat (first | (with_reducible first | exact HB.out | apply below_alloc | apply pw_below_drewN | apply below_drew1 | refine below_set ?_ GE128.out | refine below_set ?_ GE129.out) | exact HB.out)⟩⟩
         ·rw [if_neg c41] at H
          have c41b0 : ((rd l0_6 x5_2) == (rd l1_6 x5_2)) = false := beq_eq_false_iff_ne.mpr c41
          have c41b1 : ((rd l0_6 x5_2) != (rd l1_6 x5_2)) = true := bne_iff_ne.mpr c41
          obtain rfl := Option.some.inj H
          have hnb45 := NB128_129.out
          have hnc45 := NB129_128.out
          have hcz46_0 : wr.cell? ⟨gb128, 0, none⟩ = some (.int .i64 a0_0) := (blk_cell BK128.out 0).trans rfl
          have hcz46_1 : wr.cell? ⟨gb128, 1, none⟩ = some (.int .i64 a0_1) := (blk_cell BK128.out 1).trans rfl
          have hcz46_2 : wr.cell? ⟨gb128, 2, none⟩ = some (.int .i64 a0_2) := (blk_cell BK128.out 2).trans rfl
          have hcz46_3 : wr.cell? ⟨gb128, 3, none⟩ = some (.int .i64 a0_3) := (blk_cell BK128.out 3).trans rfl
          have hcz46_4 : wr.cell? ⟨gb128, 4, none⟩ = some (.int .i64 a0_4) := (blk_cell BK128.out 4).trans rfl
          have hcz46_5 : wr.cell? ⟨gb128, 5, none⟩ = some (.int .i64 a0_5) := (blk_cell BK128.out 5).trans rfl
          have hcz46_6 : wr.cell? ⟨gb128, 6, none⟩ = some (.slice A0_6 l0_6.length c0_6) := (blk_cell BK128.out 6).trans rfl
          have hcz46_7 : wr.cell? ⟨gb128, 7, none⟩ = some (.slice A0_7 l0_7.length c0_7) := (blk_cell BK128.out 7).trans rfl
          have hcz46_8 : wr.cell? ⟨gb128, 8, none⟩ = some (.slice A0_8 l0_8.length c0_8) := (blk_cell BK128.out 8).trans rfl
          have hcz46_9 : wr.cell? ⟨gb128, 9, none⟩ = some (.int .i64 a0_9) := (blk_cell BK128.out 9).trans rfl
          have hcz46_10 : wr.cell? ⟨gb128, 10, none⟩ = some (.int .i64 a0_10) := (blk_cell BK128.out 10).trans rfl
          have hcz46_11 : wr.cell? ⟨gb128, 11, none⟩ = some (.slice A0_11 l0_11.length c0_11) := (blk_cell BK128.out 11).trans rfl
          have p130 : 0 ≤ (x5_2 : Int) := of_decide_eq_true (by first | (with_reducible assumption) | assumption)
          have q130 : x5_2 < (l0_6.length : Int) := of_decide_eq_true (by first | (with_reducible assumption) | assumption)
          obtain ⟨ad130, e130, hx130_0⟩ := Kd.at_int HR0_6.out x5_2 p130 q130
          cases e130
          replace hx130_0 := (HB.out.cell (World.block_lt_of_cell? w _ hx130_0)).trans hx130_0
          replace p130 := eq_true p130
          replace q130 := eq_true q130
          have hcz47_0 : wr.cell? ⟨gb129, 0, none⟩ = some (.int .i64 a1_0) := (blk_cell BK129.out 0).trans rfl
          have hcz47_1 : wr.cell? ⟨gb129, 1, none⟩ = some (.int .i64 a1_1) := (blk_cell BK129.out 1).trans rfl
          have hcz47_2 : wr.cell? ⟨gb129, 2, none⟩ = some (.int .i64 a1_2) := (blk_cell BK129.out 2).trans rfl
          have hcz47_3 : wr.cell? ⟨gb129, 3, none⟩ = some (.int .i64 a1_3) := (blk_cell BK129.out 3).trans rfl
          have hcz47_4 : wr.cell? ⟨gb129, 4, none⟩ = some (.int .i64 a1_4) := (blk_cell BK129.out 4).trans rfl
          have hcz47_5 : wr.cell? ⟨gb129, 5, none⟩ = some (.int .i64 a1_5) := (blk_cell BK129.out 5).trans rfl
          have hcz47_6 : wr.cell? ⟨gb129, 6, none⟩ = some (.slice A1_6 l1_6.length c1_6) := (blk_cell BK129.out 6).trans rfl
          have hcz47_7 : wr.cell? ⟨gb129, 7, none⟩ = some (.slice A1_7 l1_7.length c1_7) := (blk_cell BK129.out 7).trans rfl
          have hcz47_8 : wr.cell? ⟨gb129, 8, none⟩ = some (.slice A1_8 l1_8.length c1_8) := (blk_cell BK129.out 8).trans rfl
          have hcz47_9 : wr.cell? ⟨gb129, 9, none⟩ = some (.int .i64 a1_9) := (blk_cell BK129.out 9).trans rfl
          have hcz47_10 : wr.cell? ⟨gb129, 10, none⟩ = some (.int .i64 a1_10) := (blk_cell BK129.out 10).trans rfl
          have hcz47_11 : wr.cell? ⟨gb129, 11, none⟩ = some (.slice A1_11 l1_11.length c1_11) := (blk_cell BK129.out 11).trans rfl
          have p131 : 0 ≤ (x5_2 : Int) := of_decide_eq_true (by first | (with_reducible assumption) | assumption)
          have q131 : x5_2 < (l1_6.length : Int) := of_decide_eq_true (by first | (with_reducible assumption) | assumption)
          obtain ⟨ad131, e131, hx131_0⟩ := Kd.at_int HR1_6.out x5_2 p131 q131
          cases e131
          replace hx131_0 := (HB.out.cell (World.block_lt_of_cell? w _ hx131_0)).trans hx131_0
          replace p131 := eq_true p131
          replace q131 := eq_true q131
          go_wp2
          repeat (go_quiet (fail); try go_wp2)
          go_ret
          exact ⟨by first | rfl | (simp [errW_none, errW_some] <;> rfl) | (simp [*, errW_none, errW_some] <;> rfl), by repeat (first | (with_reducible first | exact HB.out | apply below_alloc | apply pw_below_drewN | apply below_drew1 | refine below_set ?_ GE128.out | refine below_set ?_ GE129.out) | exact HB.out)⟩
        ·rw [if_neg c40] at H
         exact absurd H (by simp)
       ·rw [if_neg c39] at H
        exact absurd H (by simp)
      ·rw [if_neg c38] at H
       have c38b0 : decide (x5_2 < (l0_6.length : Int)) = false := decide_eq_false c38
       clear c38
       have H' := Aside0.mk H
       clear H
       have hnb48 := NB128_129.out
       have hnc48 := NB129_128.out
       have hcz49_0 : wr.cell? ⟨gb128, 0, none⟩ = some (.int .i64 a0_0) := (blk_cell BK128.out 0).trans rfl
       have hcz49_1 : wr.cell? ⟨gb128, 1, none⟩ = some (.int .i64 a0_1) := (blk_cell BK128.out 1).trans rfl
       have hcz49_2 : wr.cell? ⟨gb128, 2, none⟩ = some (.int .i64 a0_2) := (blk_cell BK128.out 2).trans rfl
       have hcz49_3 : wr.cell? ⟨gb128, 3, none⟩ = some (.int .i64 a0_3) := (blk_cell BK128.out 3).trans rfl
       have hcz49_4 : wr.cell? ⟨gb128, 4, none⟩ = some (.int .i64 a0_4) := (blk_cell BK128.out 4).trans rfl
       have hcz49_5 : wr.cell? ⟨gb128, 5, none⟩ = some (.int .i64 a0_5) := (blk_cell BK128.out 5).trans rfl
       have hcz49_6 : wr.cell? ⟨gb128, 6, none⟩ = some (.slice A0_6 l0_6.length c0_6) := (blk_cell BK128.out 6).trans rfl
       have hcz49_7 : wr.cell? ⟨gb128, 7, none⟩ = some (.slice A0_7 l0_7.length c0_7) := (blk_cell BK128.out 7).trans rfl
       have hcz49_8 : wr.cell? ⟨gb128, 8, none⟩ = some (.slice A0_8 l0_8.length c0_8) := (blk_cell BK128.out 8).trans rfl
       have hcz49_9 : wr.cell? ⟨gb128, 9, none⟩ = some (.int .i64 a0_9) := (blk_cell BK128.out 9).trans rfl
       have hcz49_10 : wr.cell? ⟨gb128, 10, none⟩ = some (.int .i64 a0_10) := (blk_cell BK128.out 10).trans rfl
       have hcz49_11 : wr.cell? ⟨gb128, 11, none⟩ = some (.slice A0_11 l0_11.length c0_11) := (blk_cell BK128.out 11).trans rfl
       go_wp2
       repeat (go_quiet (fail); try go_wp2)
       go_loopg [6] k2 (fun kq v6 w' => ∃ (x6_3 : Int), v6 = .int .i64 x6_3 ∧ Aside0 (capstanref21_Same.l1 kq x6_3 a0_0 a0_1 a0_2 a0_3 a0_4 a0_5 l0_6 l0_7 l0_8 a0_9 a0_10 l0_11 a1_0 a1_1 a1_2 a1_3 a1_4 a1_5 l1_6 l1_7 l1_8 a1_9 a1_10 l1_11 = some r) ∧ Aside0 (kq ≤ k2) ∧ Aside0 (w'.heap[gb128]? = some (.cells #[.int .i64 a0_0, .int .i64 a0_1, .int .i64 a0_2, .int .i64 a0_3, .int .i64 a0_4, .int .i64 a0_5, (.slice A0_6 l0_6.length c0_6), (.slice A0_7 l0_7.length c0_7), (.slice A0_8 l0_8.length c0_8), .int .i64 a0_9, .int .i64 a0_10, (.slice A0_11 l0_11.length c0_11)] 29 (0, 0))) ∧ Aside0 (w'.heap[gb129]? = some (.cells #[.int .i64 a1_0, .int .i64 a1_1, .int .i64 a1_2, .int .i64 a1_3, .int .i64 a1_4, .int .i64 a1_5, (.slice A1_6 l1_6.length c1_6), (.slice A1_7 l1_7.length c1_7), (.slice A1_8 l1_8.length c1_8), .int .i64 a1_9, .int .i64 a1_10, (.slice A1_11 l1_11.length c1_11)] 29 (0, 0))) ∧ Aside0 (Below w.heap.size w w'))
       case atStart => exact ⟨(0), (by first | rfl | (simp; done) | (simp [*]; done)), H', ⟨Nat.le_refl _⟩, ⟨by (with_reducible repeat (first | refine blk_drewN ?_ _ | refine blk_drew ?_ | refine blk_alloc ?_ _)); exact BK128.out⟩, ⟨by (with_reducible repeat (first | refine blk_drewN ?_ _ | refine blk_drew ?_ | refine blk_alloc ?_ _)); exact BK129.out⟩, ⟨by repeat (first | (with_reducible first | exact HB.out | apply below_alloc | apply pw_below_drewN | apply below_drew1 | refine below_set ?_ GE128.out | refine below_set ?_ GE129.out) | exact HB.out)⟩⟩
       case round =>
        clear H'
        try clear c37
        try clear c38
        try clear c38b0
        try clear hcz49_0
        try clear hcz49_1
        try clear hcz49_10
        try clear hcz49_11
        try clear hcz49_2
        try clear hcz49_3
        try clear hcz49_4
        try clear hcz49_5
        try clear hcz49_6
        try clear hcz49_7
        try clear hcz49_8
        try clear hcz49_9
        try clear hfz49_0
        try clear hfz49_1
        try clear hfz49_10
        try clear hfz49_11
        try clear hfz49_2
        try clear hfz49_3
        try clear hfz49_4
        try clear hfz49_5
        try clear hfz49_6
        try clear hfz49_7
        try clear hfz49_8
        try clear hfz49_9
        obtain ⟨x6_3, rfl, HA, HK3, BK128, BK129, HB⟩ := hrel
        cases gk with
        | zero => exact absurd HA.out (by simp [capstanref21_Same.l1])
        | succ k3 =>
         have H := HA.out
         clear HA
         simp only [capstanref21_Same.l1] at H
         by_cases c50 : x6_3 < (l0_7.length : Int)
         ·rw [if_pos c50] at H
          have c50b0 : decide (x6_3 < (l0_7.length : Int)) = true := decide_eq_true c50
          clear c50
          by_cases c51 : 0 ≤ x6_3
          ·rw [if_pos c51] at H
           have c51b0 : decide (0 ≤ x6_3) = true := decide_eq_true c51
           clear c51
           by_cases c52 : x6_3 < (l1_7.length : Int)
           ·rw [if_pos c52] at H
            have c52b0 : decide (x6_3 < (l1_7.length : Int)) = true := decide_eq_true c52
            clear c52
            by_cases c53 : (!(((rd_T51 l0_7 x6_3).f0) == ((rd_T51 l1_7 x6_3).f0)) || (!(((rd_T51 l0_7 x6_3).f1) == ((rd_T51 l1_7 x6_3).f1)) || (!(((rd_T51 l0_7 x6_3).f2) == ((rd_T51 l1_7 x6_3).f2)) || (!(((rd_T51 l0_7 x6_3).f3) == ((rd_T51 l1_7 x6_3).f3)))))) = true
            ·rw [if_pos c53] at H
             have c53b0 : (!(((rd_T51 l0_7 x6_3).f0) == ((rd_T51 l1_7 x6_3).f0)) || (!(((rd_T51 l0_7 x6_3).f1) == ((rd_T51 l1_7 x6_3).f1)) || (!(((rd_T51 l0_7 x6_3).f2) == ((rd_T51 l1_7 x6_3).f2)) || (!(((rd_T51 l0_7 x6_3).f3) == ((rd_T51 l1_7 x6_3).f3)))))) = true := c53
             clear c53
             obtain rfl := Option.some.inj H
             have hnb54 := NB128_129.out
             have hnc54 := NB129_128.out
             have hcz55_0 : wr.cell? ⟨gb128, 0, none⟩ = some (.int .i64 a0_0) := (blk_cell BK128.out 0).trans rfl
             have hcz55_1 : wr.cell? ⟨gb128, 1, none⟩ = some (.int .i64 a0_1) := (blk_cell BK128.out 1).trans rfl
             have hcz55_2 : wr.cell? ⟨gb128, 2, none⟩ = some (.int .i64 a0_2) := (blk_cell BK128.out 2).trans rfl
             have hcz55_3 : wr.cell? ⟨gb128, 3, none⟩ = some (.int .i64 a0_3) := (blk_cell BK128.out 3).trans rfl
             have hcz55_4 : wr.cell? ⟨gb128, 4, none⟩ = some (.int .i64 a0_4) := (blk_cell BK128.out 4).trans rfl
             have hcz55_5 : wr.cell? ⟨gb128, 5, none⟩ = some (.int .i64 a0_5) := (blk_cell BK128.out 5).trans rfl
             have hcz55_6 : wr.cell? ⟨gb128, 6, none⟩ = some (.slice A0_6 l0_6.length c0_6) := (blk_cell BK128.out 6).trans rfl
             have hcz55_7 : wr.cell? ⟨gb128, 7, none⟩ = some (.slice A0_7 l0_7.length c0_7) := (blk_cell BK128.out 7).trans rfl
             have hcz55_8 : wr.cell? ⟨gb128, 8, none⟩ = some (.slice A0_8 l0_8.length c0_8) := (blk_cell BK128.out 8).trans rfl
             have hcz55_9 : wr.cell? ⟨gb128, 9, none⟩ = some (.int .i64 a0_9) := (blk_cell BK128.out 9).trans rfl
             have hcz55_10 : wr.cell? ⟨gb128, 10, none⟩ = some (.int .i64 a0_10) := (blk_cell BK128.out 10).trans rfl
             have hcz55_11 : wr.cell? ⟨gb128, 11, none⟩ = some (.slice A0_11 l0_11.length c0_11) := (blk_cell BK128.out 11).trans rfl
             have p132 : 0 ≤ (x6_3 : Int) := of_decide_eq_true (by first | (with_reducible assumption) | assumption)
             have q132 : x6_3 < (l0_7.length : Int) := of_decide_eq_true (by first | (with_reducible assumption) | assumption)
             obtain ⟨ad132, e132, hx132_0, hx132_1, hx132_2, hx132_3⟩ := at_T51 HR0_7.out x6_3 p132 q132
             cases e132
             replace hx132_0 := (HB.out.cell (World.block_lt_of_cell? w _ hx132_0)).trans hx132_0
             replace hx132_1 := (HB.out.cell (World.block_lt_of_cell? w _ hx132_1)).trans hx132_1
             replace hx132_2 := (HB.out.cell (World.block_lt_of_cell? w _ hx132_2)).trans hx132_2
             replace hx132_3 := (HB.out.cell (World.block_lt_of_cell? w _ hx132_3)).trans hx132_3
             replace p132 := eq_true p132
             replace q132 := eq_true q132
             have hcz56_0 : wr.cell? ⟨gb129, 0, none⟩ = some (.int .i64 a1_0) := (blk_cell BK129.out 0).trans rfl
             have hcz56_1 : wr.cell? ⟨gb129, 1, none⟩ = some (.int .i64 a1_1) := (blk_cell BK129.out 1).trans rfl
             have hcz56_2 : wr.cell? ⟨gb129, 2, none⟩ = some (.int .i64 a1_2) := (blk_cell BK129.out 2).trans rfl
             have hcz56_3 : wr.cell? ⟨gb129, 3, none⟩ = some (.int .i64 a1_3) := (blk_cell BK129.out 3).trans rfl
             have hcz56_4 : wr.cell? ⟨gb129, 4, none⟩ = some (.int .i64 a1_4) := (blk_cell BK129.out 4).trans rfl
             have hcz56_5 : wr.cell? ⟨gb129, 5, none⟩ = some (.int .i64 a1_5) := (blk_cell BK129.out 5).trans rfl
             have hcz56_6 : wr.cell? ⟨gb129, 6, none⟩ = some (.slice A1_6 l1_6.length c1_6) := (blk_cell BK129.out 6).trans rfl
             have hcz56_7 : wr.cell? ⟨gb129, 7, none⟩ = some (.slice A1_7 l1_7.length c1_7) := (blk_cell BK129.out 7).trans rfl
             have hcz56_8 : wr.cell? ⟨gb129, 8, none⟩ = some (.slice A1_8 l1_8.length c1_8) := (blk_cell BK129.out 8).trans rfl
             have hcz56_9 : wr.cell? ⟨gb129, 9, none⟩ = some (.int .i64 a1_9) := (blk_cell BK129.out 9).trans rfl
             have hcz56_10 : wr.cell? ⟨gb129, 10, none⟩ = some (.int .i64 a1_10) := (blk_cell BK129.out 10).trans rfl
             have hcz56_11 : wr.cell? ⟨gb129, 11, none⟩ = some (.slice A1_11 l1_11.length c1_11) := (blk_cell BK129.out 11).trans rfl
             have p133 : 0 ≤ (x6_3 : Int) := of_decide_eq_true (by first | (with_reducible assumption) | assumption)
             have q133 : x6_3 < (l1_7.length : Int) := of_decide_eq_true (by first | (with_reducible assumption) | assumption)
             obtain ⟨ad133, e133, hx133_0, hx133_1, hx133_2, hx133_3⟩ := at_T51 HR1_7.out x6_3 p133 q133
             cases e133
             replace hx133_0 := (HB.out.cell (World.block_lt_of_cell? w _ hx133_0)).trans hx133_0
             replace hx133_1 := (HB.out.cell (World.block_lt_of_cell? w _ hx133_1)).trans hx133_1
             replace hx133_2 := (HB.out.cell (World.block_lt_of_cell? w _ hx133_2)).trans hx133_2
             replace hx133_3 := (HB.out.cell (World.block_lt_of_cell? w _ hx133_3)).trans hx133_3
             replace p133 := eq_true p133
             replace q133 := eq_true q133
             go_wp2
             repeat (go_quiet (fail); try go_wp2)
             go_ret
             exact ⟨by first | rfl | (simp [errW_none, errW_some] <;> rfl) | (simp [*, errW_none, errW_some] <;> rfl), by repeat (first | (with_reducible first | exact HB.out | apply below_alloc | apply pw_below_drewN | apply below_drew1 | refine below_set ?_ GE128.out | refine below_set ?_ GE129.out) | exact HB.out)⟩
            ·rw [if_neg c53] at H
             have c53b0 : (!(((rd_T51 l0_7 x6_3).f0) == ((rd_T51 l1_7 x6_3).f0)) || (!(((rd_T51 l0_7 x6_3).f1) == ((rd_T51 l1_7 x6_3).f1)) || (!(((rd_T51 l0_7 x6_3).f2) == ((rd_T51 l1_7 x6_3).f2)) || (!(((rd_T51 l0_7 x6_3).f3) == ((rd_T51 l1_7 x6_3).f3)))))) = false := by simpa using c53
             clear c53
             have H' := Aside0.mk H
             clear H
             have hnb57 := NB128_129.out
             have hnc57 := NB129_128.out
             have hcz58_0 : wr.cell? ⟨gb128, 0, none⟩ = some (.int .i64 a0_0) := (blk_cell BK128.out 0).trans rfl
             have hcz58_1 : wr.cell? ⟨gb128, 1, none⟩ = some (.int .i64 a0_1) := (blk_cell BK128.out 1).trans rfl
             have hcz58_2 : wr.cell? ⟨gb128, 2, none⟩ = some (.int .i64 a0_2) := (blk_cell BK128.out 2).trans rfl
             have hcz58_3 : wr.cell? ⟨gb128, 3, none⟩ = some (.int .i64 a0_3) := (blk_cell BK128.out 3).trans rfl
             have hcz58_4 : wr.cell? ⟨gb128, 4, none⟩ = some (.int .i64 a0_4) := (blk_cell BK128.out 4).trans rfl
             have hcz58_5 : wr.cell? ⟨gb128, 5, none⟩ = some (.int .i64 a0_5) := (blk_cell BK128.out 5).trans rfl
             have hcz58_6 : wr.cell? ⟨gb128, 6, none⟩ = some (.slice A0_6 l0_6.length c0_6) := (blk_cell BK128.out 6).trans rfl
             have hcz58_7 : wr.cell? ⟨gb128, 7, none⟩ = some (.slice A0_7 l0_7.length c0_7) := (blk_cell BK128.out 7).trans rfl
             have hcz58_8 : wr.cell? ⟨gb128, 8, none⟩ = some (.slice A0_8 l0_8.length c0_8) := (blk_cell BK128.out 8).trans rfl
             have hcz58_9 : wr.cell? ⟨gb128, 9, none⟩ = some (.int .i64 a0_9) := (blk_cell BK128.out 9).trans rfl
             have hcz58_10 : wr.cell? ⟨gb128, 10, none⟩ = some (.int .i64 a0_10) := (blk_cell BK128.out 10).trans rfl
             have hcz58_11 : wr.cell? ⟨gb128, 11, none⟩ = some (.slice A0_11 l0_11.length c0_11) := (blk_cell BK128.out 11).trans rfl
             have p132 : 0 ≤ (x6_3 : Int) := of_decide_eq_true (by first | (with_reducible assumption) | assumption)
             have q132 : x6_3 < (l0_7.length : Int) := of_decide_eq_true (by first | (with_reducible assumption) | assumption)
             obtain ⟨ad132, e132, hx132_0, hx132_1, hx132_2, hx132_3⟩ := at_T51 HR0_7.out x6_3 p132 q132
             cases e132
             replace hx132_0 := (HB.out.cell (World.block_lt_of_cell? w _ hx132_0)).trans hx132_0
             replace hx132_1 := (HB.out.cell (World.block_lt_of_cell? w _ hx132_1)).trans hx132_1
             replace hx132_2 := (HB.out.cell (World.block_lt_of_cell? w _ hx132_2)).trans hx132_2
             replace hx132_3 := (HB.out.cell (World.block_lt_of_cell? w _ hx132_3)).trans hx132_3
             replace p132 := eq_true p132
             replace q132 := eq_true q132
             have hcz59_0 : wr.cell? ⟨gb129, 0, none⟩ = some (.int .i64 a1_0) := (blk_cell BK129.out 0).trans rfl
             have hcz59_1 : wr.cell? ⟨gb129, 1, none⟩ = some (.int .i64 a1_1) := (blk_cell BK129.out 1).trans rfl
             have hcz59_2 : wr.cell? ⟨gb129, 2, none⟩ = some (.int .i64 a1_2) := (blk_cell BK129.out 2).trans rfl
             have hcz59_3 : wr.cell? ⟨gb129, 3, none⟩ = some (.int .i64 a1_3) := (blk_cell BK129.out 3).trans rfl
             have hcz59_4 : wr.cell? ⟨gb129, 4, none⟩ = some (.int .i64 a1_4) := (blk_cell BK129.out 4).trans rfl
             have hcz59_5 : wr.cell? ⟨gb129, 5, none⟩ = some (.int .i64 a1_5) := (blk_cell BK129.out 5).trans rfl
             have hcz59_6 : wr.cell? ⟨gb129, 6, none⟩ = some (.slice A1_6 l1_6.length c1_6) := (blk_cell BK129.out 6).trans rfl
             have hcz59_7 : wr.cell? ⟨gb129, 7, none⟩ = some (.slice A1_7 l1_7.length c1_7) := (blk_cell BK129.out 7).trans rfl
             have hcz59_8 : wr.cell? ⟨gb129, 8, none⟩ = some (.slice A1_8 l1_8.length c1_8) := (blk_cell BK129.out 8).trans rfl
             have hcz59_9 : wr.cell? ⟨gb129, 9, none⟩ = some (.int .i64 a1_9) := (blk_cell BK129.out 9).trans rfl
             have hcz59_10 : wr.cell? ⟨gb129, 10, none⟩ = some (.int .i64 a1_10) := (blk_cell BK129.out 10).trans rfl
             have hcz59_11 : wr.cell? ⟨gb129, 11, none⟩ = some (.slice A1_11 l1_11.length c1_11) := (blk_cell BK129.out 11).trans rfl
             have p133 : 0 ≤ (x6_3 : Int) := of_decide_eq_true (by first | (with_reducible assumption) | assumption)
             have q133 : x6_3 < (l1_7.length : Int) := of_decide_eq_true (by first | (with_reducible assumption) | assumption)
             obtain ⟨ad133, e133, hx133_0, hx133_1, hx133_2, hx133_3⟩ := at_T51 HR1_7.out x6_3 p133 q133
             cases e133
             replace hx133_0 := (HB.out.cell (World.block_lt_of_cell? w _ hx133_0)).trans hx133_0
             replace hx133_1 := (HB.out.cell (World.block_lt_of_cell? w _ hx133_1)).trans hx133_1
             replace hx133_2 := (HB.out.cell (World.block_lt_of_cell? w _ hx133_2)).trans hx133_2
             replace hx133_3 := (HB.out.cell (World.block_lt_of_cell? w _ hx133_3)).trans hx133_3
             replace p133 := eq_true p133
             replace q133 := eq_true q133
             go_wp2
             repeat (go_quiet (fail); try go_wp2)
             go_roundg k3
             case measure => have := HJ2.out; have := HK2.out; have := HK3.out; omega
             case rel => exact ⟨(wrap64 (x6_3 + 1)), (by first | rfl | (simp; done) | (simp [*]; done)), H', ⟨by have := HJ2.out; have := HK2.out; have := HK3.out; omega⟩, ⟨by (with_reducible repeat (first | refine blk_drewN ?_ _ | refine blk_drew ?_ | refine blk_alloc ?_ _)); exact BK128.out⟩, ⟨by (with_reducible repeat (first | refine blk_drewN ?_ _ | refine blk_drew ?_ | refine blk_alloc ?_ _)); exact BK129.out⟩, ⟨by repeat (first | (with_reducible first | exact HB.out | apply below_alloc | apply pw_below_drewN | apply below_drew1 | refine below_set ?_ GE128.out | refine below_set ?_ GE129.out) | exact HB.out)⟩⟩
           ·rw [if_neg c52] at H
            exact absurd H (by simp)
          ·rw [if_neg c51] at H
           exact absurd H (by simp)
         ·rw [if_neg c50] at H
          have c50b0 : decide (x6_3 < (l0_7.length : Int)) = false := decide_eq_false c50
          clear c50
          have H' := Aside0.mk H
          clear H
          have hnb60 := NB128_129.out
          have hnc60 := NB129_128.out
          have hcz61_0 : wr.cell? ⟨gb128, 0, none⟩ = some (.int .i64 a0_0) := (blk_cell BK128.out 0).trans rfl
          have hcz61_1 : wr.cell? ⟨gb128, 1, none⟩ = some (.int .i64 a0_1) := (blk_cell BK128.out 1).trans rfl
          have hcz61_2 : wr.cell? ⟨gb128, 2, none⟩ = some (.int .i64 a0_2) := (blk_cell BK128.out 2).trans rfl
          have hcz61_3 : wr.cell? ⟨gb128, 3, none⟩ = some (.int .i64 a0_3) := (blk_cell BK128.out 3).trans rfl
          have hcz61_4 : wr.cell? ⟨gb128, 4, none⟩ = some (.int .i64 a0_4) := (blk_cell BK128.out 4).trans rfl
          have hcz61_5 : wr.cell? ⟨gb128, 5, none⟩ = some (.int .i64 a0_5) := (blk_cell BK128.out 5).trans rfl
          have hcz61_6 : wr.cell? ⟨gb128, 6, none⟩ = some (.slice A0_6 l0_6.length c0_6) := (blk_cell BK128.out 6).trans rfl
          have hcz61_7 : wr.cell? ⟨gb128, 7, none⟩ = some (.slice A0_7 l0_7.length c0_7) := (blk_cell BK128.out 7).trans rfl
          have hcz61_8 : wr.cell? ⟨gb128, 8, none⟩ = some (.slice A0_8 l0_8.length c0_8) := (blk_cell BK128.out 8).trans rfl
          have hcz61_9 : wr.cell? ⟨gb128, 9, none⟩ = some (.int .i64 a0_9) := (blk_cell BK128.out 9).trans rfl
          have hcz61_10 : wr.cell? ⟨gb128, 10, none⟩ = some (.int .i64 a0_10) := (blk_cell BK128.out 10).trans rfl
          have hcz61_11 : wr.cell? ⟨gb128, 11, none⟩ = some (.slice A0_11 l0_11.length c0_11) := (blk_cell BK128.out 11).trans rfl
          go_wp2
          repeat (go_quiet (fail); try go_wp2)
          go_loopg [7] k3 (fun kq v7 w' => ∃ (x7_4 : Int), v7 = .int .i64 x7_4 ∧ Aside0 (capstanref21_Same.l2 kq x7_4 a0_0 a0_1 a0_2 a0_3 a0_4 a0_5 l0_6 l0_7 l0_8 a0_9 a0_10 l0_11 a1_0 a1_1 a1_2 a1_3 a1_4 a1_5 l1_6 l1_7 l1_8 a1_9 a1_10 l1_11 = some r) ∧ Aside0 (kq ≤ k3) ∧ Aside0 (w'.heap[gb128]? = some (.cells #[.int .i64 a0_0, .int .i64 a0_1, .int .i64 a0_2, .int .i64 a0_3, .int .i64 a0_4, .int .i64 a0_5, (.slice A0_6 l0_6.length c0_6), (.slice A0_7 l0_7.length c0_7), (.slice A0_8 l0_8.length c0_8), .int .i64 a0_9, .int .i64 a0_10, (.slice A0_11 l0_11.length c0_11)] 29 (0, 0))) ∧ Aside0 (w'.heap[gb129]? = some (.cells #[.int .i64 a1_0, .int .i64 a1_1, .int .i64 a1_2, .int .i64 a1_3, .int .i64 a1_4, .int .i64 a1_5, (.slice A1_6 l1_6.length c1_6), (.slice A1_7 l1_7.length c1_7), (.slice A1_8 l1_8.length c1_8), .int .i64 a1_9, .int .i64 a1_10, (.slice A1_11 l1_11.length c1_11)] 29 (0, 0))) ∧ Aside0 (Below w.heap.size w w'))
          case atStart => exact ⟨(0), (by first | rfl | (simp; done) | (simp [*]; done)), H', ⟨Nat.le_refl _⟩, ⟨by (with_reducible repeat (first | refine blk_drewN ?_ _ | refine blk_drew ?_ | refine blk_alloc ?_ _)); exact BK128.out⟩, ⟨by (with_reducible repeat (first | refine blk_drewN ?_ _ | refine blk_drew ?_ | refine blk_alloc ?_ _)); exact BK129.out⟩, ⟨by repeat (first | (with_reducible first | exact HB.out | apply below_alloc | apply pw_below_drewN | apply below_drew1 | refine below_set ?_ GE128.out | refine below_set ?_ GE129.out) | exact HB.out)⟩⟩
          case round =>
           clear H'
           try clear c50
           try clear c50b0
           try clear hcz49_0
           try clear hcz49_1
           try clear hcz49_10
           try clear hcz49_11
           try clear hcz49_2
           try clear hcz49_3
           try clear hcz49_4
           try clear hcz49_5
           try clear hcz49_6
           try clear hcz49_7
           try clear hcz49_8
           try clear hcz49_9
           try clear hcz61_0
           try clear hcz61_1
           try clear hcz61_10
           try clear hcz61_11
           try clear hcz61_2
           try clear hcz61_3
           try clear hcz61_4
           try clear hcz61_5
           try clear hcz61_6
           try clear hcz61_7
           try clear hcz61_8
           try clear hcz61_9
           try clear hfz49_0
           try clear hfz49_1
           try clear hfz49_10
           try clear hfz49_11
           try clear hfz49_2
           try clear hfz49_3
           try clear hfz49_4
           try clear hfz49_5
           try clear hfz49_6
           try clear hfz49_7
           try clear hfz49_8
           try clear hfz49_9
           try clear hfz61_0
           try clear hfz61_1
           try clear hfz61_10
           try clear hfz61_11
           try clear hfz61_2
           try clear hfz61_3
           try clear hfz61_4
           try clear hfz61_5
           try clear hfz61_6
           try clear hfz61_7
           try clear hfz61_8
           try clear hfz61_9
           obtain ⟨x7_4, rfl, HA, HK4, BK128, BK129, HB⟩ := hrel
           cases gk with
           | zero => exact absurd HA.out (by simp [capstanref21_Same.l2])
           | succ k4 =>
            have H := HA.out
            clear HA
            simp only [capstanref21_Same.l2] at H
            by_cases c62 : x7_4 < (l0_8.length : Int)
            ·rw [if_pos c62] at H
             have c62b0 : decide (x7_4 < (l0_8.length : Int)) = true := decide_eq_true c62
             clear c62
             by_cases c63 : 0 ≤ x7_4
             ·rw [if_pos c63] at H
              have c63b0 : decide (0 ≤ x7_4) = true := decide_eq_true c63
              clear c63
              by_cases c64 : x7_4 < (l1_8.length : Int)
              ·rw [if_pos c64] at H
               have c64b0 : decide (x7_4 < (l1_8.length : Int)) = true := decide_eq_true c64
               clear c64
               by_cases c65 : (!(((rd_T54 l0_8 x7_4).f0) == ((rd_T54 l1_8 x7_4).f0)) || (!(((rd_T54 l0_8 x7_4).f1) == ((rd_T54 l1_8 x7_4).f1)) || (!(((rd_T54 l0_8 x7_4).f2) == ((rd_T54 l1_8 x7_4).f2)) || (!(((rd_T54 l0_8 x7_4).f3) == ((rd_T54 l1_8 x7_4).f3)) || (!(((rd_T54 l0_8 x7_4).f4) == ((rd_T54 l1_8 x7_4).f4))))))) = true
               ·rw [if_pos c65] at H
                have c65b0 : (!(((rd_T54 l0_8 x7_4).f0) == ((rd_T54 l1_8 x7_4).f0)) || (!(((rd_T54 l0_8 x7_4).f1) == ((rd_T54 l1_8 x7_4).f1)) || (!(((rd_T54 l0_8 x7_4).f2) == ((rd_T54 l1_8 x7_4).f2)) || (!(((rd_T54 l0_8 x7_4).f3) == ((rd_T54 l1_8 x7_4).f3)) || (!(((rd_T54 l0_8 x7_4).f4) == ((rd_T54 l1_8 x7_4).f4))))))) = true := c65
                clear c65
                obtain rfl := Option.some.inj H
                have hnb66 := NB128_129.out
                have hnc66 := NB129_128.out
                have hcz67_0 : wr.cell? ⟨gb128, 0, none⟩ = some (.int .i64 a0_0) := (blk_cell BK128.out 0).trans rfl
                have hcz67_1 : wr.cell? ⟨gb128, 1, none⟩ = some (.int .i64 a0_1) := (blk_cell BK128.out 1).trans rfl
                have hcz67_2 : wr.cell? ⟨gb128, 2, none⟩ = some (.int .i64 a0_2) := (blk_cell BK128.out 2).trans rfl
                have hcz67_3 : wr.cell? ⟨gb128, 3, none⟩ = some (.int .i64 a0_3) := (blk_cell BK128.out 3).trans rfl
                have hcz67_4 : wr.cell? ⟨gb128, 4, none⟩ = some (.int .i64 a0_4) := (blk_cell BK128.out 4).trans rfl
                have hcz67_5 : wr.cell? ⟨gb128, 5, none⟩ = some (.int .i64 a0_5) := (blk_cell BK128.out 5).trans rfl
                have hcz67_6 : wr.cell? ⟨gb128, 6, none⟩ = some (.slice A0_6 l0_6.length c0_6) := (blk_cell BK128.out 6).trans rfl
                have hcz67_7 : wr.cell? ⟨gb128, 7, none⟩ = some (.slice A0_7 l0_7.length c0_7) := (blk_cell BK128.out 7).trans rfl
                have hcz67_8 : wr.cell? ⟨gb128, 8, none⟩ = some (.slice A0_8 l0_8.length c0_8) := (blk_cell BK128.out 8).trans rfl
                have hcz67_9 : wr.cell? ⟨gb128, 9, none⟩ = some (.int .i64 a0_9) := (blk_cell BK128.out 9).trans rfl
                have hcz67_10 : wr.cell? ⟨gb128, 10, none⟩ = some (.int .i64 a0_10) := (blk_cell BK128.out 10).trans rfl
                have hcz67_11 : wr.cell? ⟨gb128, 11, none⟩ = some (.slice A0_11 l0_11.length c0_11) := (blk_cell BK128.out 11).trans rfl
                have p134 : 0 ≤ (x7_4 : Int) := of_decide_eq_true (by first | (with_reducible assumption) | assumption)
                have q134 : x7_4 < (l0_8.length : Int) := of_decide_eq_true (by first | (with_reducible assumption) | assumption)
                obtain ⟨ad134, e134, hx134_0, hx134_1, hx134_2, hx134_3, hx134_4⟩ := at_T54 HR0_8.out x7_4 p134 q134
                cases e134
                replace hx134_0 := (HB.out.cell (World.block_lt_of_cell? w _ hx134_0)).trans hx134_0
                replace hx134_1 := (HB.out.cell (World.block_lt_of_cell? w _ hx134_1)).trans hx134_1
                replace hx134_2 := (HB.out.cell (World.block_lt_of_cell? w _ hx134_2)).trans hx134_2
                replace hx134_3 := (HB.out.cell (World.block_lt_of_cell? w _ hx134_3)).trans hx134_3
                replace hx134_4 := (HB.out.cell (World.block_lt_of_cell? w _ hx134_4)).trans hx134_4
                replace p134 := eq_true p134
                replace q134 := eq_true q134
                have hcz68_0 : wr.cell? ⟨gb129, 0, none⟩ = some (.int .i64 a1_0) := (blk_cell BK129.out 0).trans rfl
                have hcz68_1 : wr.cell? ⟨gb129, 1, none⟩ = some (.int .i64 a1_1) := (blk_cell BK129.out 1).trans rfl
                have hcz68_2 : wr.cell? ⟨gb129, 2, none⟩ = some (.int .i64 a1_2) := (blk_cell BK129.out 2).trans rfl
                have hcz68_3 : wr.cell? ⟨gb129, 3, none⟩ = some (.int .i64 a1_3) := (blk_cell BK129.out 3).trans rfl
                have hcz68_4 : wr.cell? ⟨gb129, 4, none⟩ = some (.int .i64 a1_4) := (blk_cell BK129.out 4).trans rfl
                have hcz68_5 : wr.cell? ⟨gb129, 5, none⟩ = some (.int .i64 a1_5) := (blk_cell BK129.out 5).trans rfl
                have hcz68_6 : wr.cell? ⟨gb129, 6, none⟩ = some (.slice A1_6 l1_6.length c1_6) := (blk_cell BK129.out 6).trans rfl
                have hcz68_7 : wr.cell? ⟨gb129, 7, none⟩ = some (.slice A1_7 l1_7.length c1_7) := (blk_cell BK129.out 7).trans rfl
                have hcz68_8 : wr.cell? ⟨gb129, 8, none⟩ = some (.slice A1_8 l1_8.length c1_8) := (blk_cell BK129.out 8).trans rfl
                have hcz68_9 : wr.cell? ⟨gb129, 9, none⟩ = some (.int .i64 a1_9) := (blk_cell BK129.out 9).trans rfl
                have hcz68_10 : wr.cell? ⟨gb129, 10, none⟩ = some (.int .i64 a1_10) := (blk_cell BK129.out 10).trans rfl
                have hcz68_11 : wr.cell? ⟨gb129, 11, none⟩ = some (.slice A1_11 l1_11.length c1_11) := (blk_cell BK129.out 11).trans rfl
                have p135 : 0 ≤ (x7_4 : Int) := of_decide_eq_true (by first | (with_reducible assumption) | assumption)
                have q135 : x7_4 < (l1_8.length : Int) := of_decide_eq_true (by first | (with_reducible assumption) | assumption)
                obtain ⟨ad135, e135, hx135_0, hx135_1, hx135_2, hx135_3, hx135_4⟩ := at_T54 HR1_8.out x7_4 p135 q135
                cases e135
                replace hx135_0 := (HB.out.cell (World.block_lt_of_cell? w _ hx135_0)).trans hx135_0
                replace hx135_1 := (HB.out.cell (World.block_lt_of_cell? w _ hx135_1)).trans hx135_1
                replace hx135_2 := (HB.out.cell (World.block_lt_of_cell? w _ hx135_2)).trans hx135_2
                replace hx135_3 := (HB.out.cell (World.block_lt_of_cell? w _ hx135_3)).trans hx135_3
                replace hx135_4 := (HB.out.cell (World.block_lt_of_cell? w _ hx135_4)).trans hx135_4
                replace p135 := eq_true p135
                replace q135 := eq_true q135
                go_wp2
                repeat (go_quiet (fail); try go_wp2)
                go_ret
                exact ⟨by first | rfl | (simp [errW_none, errW_some] <;> rfl) | (simp [*, errW_none, errW_some] <;> rfl), by repeat (first | (with_reducible first | exact HB.out | apply below_alloc | apply pw_below_drewN | apply below_drew1 | refine below_set ?_ GE128.out | refine below_set ?_ GE129.out) | exact HB.out)⟩
               ·rw [if_neg c65] at H
                have c65b0 : (!(((rd_T54 l0_8 x7_4).f0) == ((rd_T54 l1_8 x7_4).f0)) || (!(((rd_T54 l0_8 x7_4).f1) == ((rd_T54 l1_8 x7_4).f1)) || (!(((rd_T54 l0_8 x7_4).f2) == ((rd_T54 l1_8 x7_4).f2)) || (!(((rd_T54 l0_8 x7_4).f3) == ((rd_T54 l1_8 x7_4).f3)) || (!(((rd_T54 l0_8 x7_4).f4) == ((rd_T54 l1_8 x7_4).f4))))))) = false := by simpa using c65
                clear c65
                have H' := Aside0.mk H
                clear H
                have hnb69 := NB128_129.out
                have hnc69 := NB129_128.out
                have hcz70_0 : wr.cell? ⟨gb128, 0, none⟩ = some (.int .i64 a0_0) := (blk_cell BK128.out 0).trans rfl
                have hcz70_1 : wr.cell? ⟨gb128, 1, none⟩ = some (.int .i64 a0_1) := (blk_cell BK128.out 1).trans rfl
                have hcz70_2 : wr.cell? ⟨gb128, 2, none⟩ = some (.int .i64 a0_2) := (blk_cell BK128.out 2).trans rfl
                have hcz70_3 : wr.cell? ⟨gb128, 3, none⟩ = some (.int .i64 a0_3) := (blk_cell BK128.out 3).trans rfl
                have hcz70_4 : wr.cell? ⟨gb128, 4, none⟩ = some (.int .i64 a0_4) := (blk_cell BK128.out 4).trans rfl
                have hcz70_5 : wr.cell? ⟨gb128, 5, none⟩ = some (.int .i64 a0_5) := (blk_cell BK128.out 5).trans rfl
                have hcz70_6 : wr.cell? ⟨gb128, 6, none⟩ = some (.slice A0_6 l0_6.length c0_6) := (blk_cell BK128.out 6).trans rfl
                have hcz70_7 : wr.cell? ⟨gb128, 7, none⟩ = some (.slice A0_7 l0_7.length c0_7) := (blk_cell BK128.out 7).trans rfl
                have hcz70_8 : wr.cell? ⟨gb128, 8, none⟩ = some (.slice A0_8 l0_8.length c0_8) := (blk_cell BK128.out 8).trans rfl
                have hcz70_9 : wr.cell? ⟨gb128, 9, none⟩ = some (.int .i64 a0_9) := (blk_cell BK128.out 9).trans rfl
                have hcz70_10 : wr.cell? ⟨gb128, 10, none⟩ = some (.int .i64 a0_10) := (blk_cell BK128.out 10).trans rfl
                have hcz70_11 : wr.cell? ⟨gb128, 11, none⟩ = some (.slice A0_11 l0_11.length c0_11) := (blk_cell BK128.out 11).trans rfl
                have p134 : 0 ≤ (x7_4 : Int) := of_decide_eq_true (by first | (with_reducible assumption) | assumption)
                have q134 : x7_4 < (l0_8.length : Int) := of_decide_eq_true (by first | (with_reducible assumption) | assumption)
                obtain ⟨ad134, e134, hx134_0, hx134_1, hx134_2, hx134_3, hx134_4⟩ := at_T54 HR0_8.out x7_4 p134 q134
                cases e134
                replace hx134_0 := (HB.out.cell (World.block_lt_of_cell? w _ hx134_0)).trans hx134_0
                replace hx134_1 := (HB.out.cell (World.block_lt_of_cell? w _ hx134_1)).trans hx134_1
                replace hx134_2 := (HB.out.cell (World.block_lt_of_cell? w _ hx134_2)).trans hx134_2
                replace hx134_3 := (HB.out.cell (World.block_lt_of_cell? w _ hx134_3)).trans hx134_3
                replace hx134_4 := (HB.out.cell (World.block_lt_of_cell? w _ hx134_4)).trans hx134_4
                replace p134 := eq_true p134
                replace q134 := eq_true q134
                have hcz71_0 : wr.cell? ⟨gb129, 0, none⟩ = some (.int .i64 a1_0) := (blk_cell BK129.out 0).trans rfl
                have hcz71_1 : wr.cell? ⟨gb129, 1, none⟩ = some (.int .i64 a1_1) := (blk_cell BK129.out 1).trans rfl
                have hcz71_2 : wr.cell? ⟨gb129, 2, none⟩ = some (.int .i64 a1_2) := (blk_cell BK129.out 2).trans rfl
                have hcz71_3 : wr.cell? ⟨gb129, 3, none⟩ = some (.int .i64 a1_3) := (blk_cell BK129.out 3).trans rfl
                have hcz71_4 : wr.cell? ⟨gb129, 4, none⟩ = some (.int .i64 a1_4) := (blk_cell BK129.out 4).trans rfl
                have hcz71_5 : wr.cell? ⟨gb129, 5, none⟩ = some (.int .i64 a1_5) := (blk_cell BK129.out 5).trans rfl
                have hcz71_6 : wr.cell? ⟨gb129, 6, none⟩ = some (.slice A1_6 l1_6.length c1_6) := (blk_cell BK129.out 6).trans rfl
                have hcz71_7 : wr.cell? ⟨gb129, 7, none⟩ = some (.slice A1_7 l1_7.length c1_7) := (blk_cell BK129.out 7).trans rfl
                have hcz71_8 : wr.cell? ⟨gb129, 8, none⟩ = some (.slice A1_8 l1_8.length c1_8) := (blk_cell BK129.out 8).trans rfl
                have hcz71_9 : wr.cell? ⟨gb129, 9, none⟩ = some (.int .i64 a1_9) := (blk_cell BK129.out 9).trans rfl
                have hcz71_10 : wr.cell? ⟨gb129, 10, none⟩ = some (.int .i64 a1_10) := (blk_cell BK129.out 10).trans rfl
                have hcz71_11 : wr.cell? ⟨gb129, 11, none⟩ = some (.slice A1_11 l1_11.length c1_11) := (blk_cell BK129.out 11).trans rfl
                have p135 : 0 ≤ (x7_4 : Int) := of_decide_eq_true (by first | (with_reducible assumption) | assumption)
                have q135 : x7_4 < (l1_8.length : Int) := of_decide_eq_true (by first | (with_reducible assumption) | assumption)
                obtain ⟨ad135, e135, hx135_0, hx135_1, hx135_2, hx135_3, hx135_4⟩ := at_T54 HR1_8.out x7_4 p135 q135
                cases e135
                replace hx135_0 := (HB.out.cell (World.block_lt_of_cell? w _ hx135_0)).trans hx135_0
                replace hx135_1 := (HB.out.cell (World.block_lt_of_cell? w _ hx135_1)).trans hx135_1
                replace hx135_2 := (HB.out.cell (World.block_lt_of_cell? w _ hx135_2)).trans hx135_2
                replace hx135_3 := (HB.out.cell (World.block_lt_of_cell? w _ hx135_3)).trans hx135_3
                replace hx135_4 := (HB.out.cell (World.block_lt_of_cell? w _ hx135_4)).trans hx135_4
                replace p135 := eq_true p135
                replace q135 := eq_true q135
                go_wp2
                repeat (go_quiet (fail); try go_wp2)
                go_roundg k4
                case measure => have := HJ2.out; have := HK2.out; have := HK3.out; have := HK4.out; omega
                case rel => exact ⟨(wrap64 (x7_4 + 1)), (by first | rfl | (simp; done) | (simp [*]; done)), H', ⟨by have := HJ2.out; have := HK2.out; have := HK3.out; have := HK4.out; omega⟩, ⟨by (with_reducible repeat (first | refine blk_drewN ?_ _ | refine blk_drew ?_ | refine blk_alloc ?_ _)); exact BK128.out⟩, ⟨by (with_reducible repeat (first | refine blk_drewN ?_ _ | refine blk_drew ?_ | refine blk_alloc ?_ _)); exact BK129.out⟩, ⟨by repeat (first | (with_reducible first | exact HB.out | apply below_alloc | apply pw_below_drewN | apply below_drew1 | refine below_set ?_ GE128.out | refine below_set ?_ GE129.out) | exact HB.out)⟩⟩
              ·rw [if_neg c64] at H
               exact absurd H (by simp)
             ·rw [if_neg c63] at H
              exact absurd H (by simp)
            ·rw [if_neg c62] at H
             have c62b0 : decide (x7_4 < (l0_8.length : Int)) = false := decide_eq_false c62
             clear c62
             have H' := Aside0.mk H
             clear H
             have hnb72 := NB128_129.out
             have hnc72 := NB129_128.out
             have hcz73_0 : wr.cell? ⟨gb128, 0, none⟩ = some (.int .i64 a0_0) := (blk_cell BK128.out 0).trans rfl
             have hcz73_1 : wr.cell? ⟨gb128, 1, none⟩ = some (.int .i64 a0_1) := (blk_cell BK128.out 1).trans rfl
             have hcz73_2 : wr.cell? ⟨gb128, 2, none⟩ = some (.int .i64 a0_2) := (blk_cell BK128.out 2).trans rfl
             have hcz73_3 : wr.cell? ⟨gb128, 3, none⟩ = some (.int .i64 a0_3) := (blk_cell BK128.out 3).trans rfl
             have hcz73_4 : wr.cell? ⟨gb128, 4, none⟩ = some (.int .i64 a0_4) := (blk_cell BK128.out 4).trans rfl
             have hcz73_5 : wr.cell? ⟨gb128, 5, none⟩ = some (.int .i64 a0_5) := (blk_cell BK128.out 5).trans rfl
             have hcz73_6 : wr.cell? ⟨gb128, 6, none⟩ = some (.slice A0_6 l0_6.length c0_6) := (blk_cell BK128.out 6).trans rfl
             have hcz73_7 : wr.cell? ⟨gb128, 7, none⟩ = some (.slice A0_7 l0_7.length c0_7) := (blk_cell BK128.out 7).trans rfl
             have hcz73_8 : wr.cell? ⟨gb128, 8, none⟩ = some (.slice A0_8 l0_8.length c0_8) := (blk_cell BK128.out 8).trans rfl
             have hcz73_9 : wr.cell? ⟨gb128, 9, none⟩ = some (.int .i64 a0_9) := (blk_cell BK128.out 9).trans rfl
             have hcz73_10 : wr.cell? ⟨gb128, 10, none⟩ = some (.int .i64 a0_10) := (blk_cell BK128.out 10).trans rfl
             have hcz73_11 : wr.cell? ⟨gb128, 11, none⟩ = some (.slice A0_11 l0_11.length c0_11) := (blk_cell BK128.out 11).trans rfl
             go_wp2
             repeat (go_quiet (fail); try go_wp2)
             go_loopg [8] k4 (fun kq v8 w' => ∃ (x8_5 : Int), v8 = .int .i64 x8_5 ∧ Aside0 (capstanref21_Same.l3 kq x8_5 a0_0 a0_1 a0_2 a0_3 a0_4 a0_5 l0_6 l0_7 l0_8 a0_9 a0_10 l0_11 a1_0 a1_1 a1_2 a1_3 a1_4 a1_5 l1_6 l1_7 l1_8 a1_9 a1_10 l1_11 = some r) ∧ Aside0 (kq ≤ k4) ∧ Aside0 (w'.heap[gb128]? = some (.cells #[.int .i64 a0_0, .int .i64 a0_1, .int .i64 a0_2, .int .i64 a0_3, .int .i64 a0_4, .int .i64 a0_5, (.slice A0_6 l0_6.length c0_6), (.slice A0_7 l0_7.length c0_7), (.slice A0_8 l0_8.length c0_8), .int .i64 a0_9, .int .i64 a0_10, (.slice A0_11 l0_11.length c0_11)] 29 (0, 0))) ∧ Aside0 (w'.heap[gb129]? = some (.cells #[.int .i64 a1_0, .int .i64 a1_1, .int .i64 a1_2, .int .i64 a1_3, .int .i64 a1_4, .int .i64 a1_5, (.slice A1_6 l1_6.length c1_6), (.slice A1_7 l1_7.length c1_7), (.slice A1_8 l1_8.length c1_8), .int .i64 a1_9, .int .i64 a1_10, (.slice A1_11 l1_11.length c1_11)] 29 (0, 0))) ∧ Aside0 (Below w.heap.size w w'))
             case atStart => exact ⟨(0), (by first | rfl | (simp; done) | (simp [*]; done)), H', ⟨Nat.le_refl _⟩, ⟨by (with_reducible repeat (first | refine blk_drewN ?_ _ | refine blk_drew ?_ | refine blk_alloc ?_ _)); exact BK128.out⟩, ⟨by (with_reducible repeat (first | refine blk_drewN ?_ _ | refine blk_drew ?_ | refine blk_alloc ?_ _)); exact BK129.out⟩, ⟨by repeat (first | (with_reducible first | exact HB.out | apply below_alloc | apply pw_below_drewN | apply below_drew1 | refine below_set ?_ GE128.out | refine below_set ?_ GE129.out) | exact HB.out)⟩⟩
             case round =>
              clear H'
              try clear c62
              try clear c62b0
              try clear hcz61_0
              try clear hcz61_1
              try clear hcz61_10
              try clear hcz61_11
              try clear hcz61_2
              try clear hcz61_3
              try clear hcz61_4
              try clear hcz61_5
              try clear hcz61_6
              try clear hcz61_7
              try clear hcz61_8
              try clear hcz61_9
              try clear hcz73_0
              try clear hcz73_1
              try clear hcz73_10
              try clear hcz73_11
              try clear hcz73_2
              try clear hcz73_3
              try clear hcz73_4
              try clear hcz73_5
              try clear hcz73_6
              try clear hcz73_7
              try clear hcz73_8
              try clear hcz73_9
              try clear hfz49_0
              try clear hfz49_1
              try clear hfz49_10
              try clear hfz49_11
              try clear hfz49_2
              try clear hfz49_3
              try clear hfz49_4
              try clear hfz49_5
              try clear hfz49_6
              try clear hfz49_7
              try clear hfz49_8
              try clear hfz49_9
              try clear hfz61_0
              try clear hfz61_1
              try clear hfz61_10
              try clear hfz61_11
              try clear hfz61_2
              try clear hfz61_3
              try clear hfz61_4
              try clear hfz61_5
              try clear hfz61_6
              try clear hfz61_7
              try clear hfz61_8
              try clear hfz61_9
              try clear hfz73_0
              try clear hfz73_1
              try clear hfz73_10
              try clear hfz73_11
              try clear hfz73_2
              try clear hfz73_3
              try clear hfz73_4
              try clear hfz73_5
              try clear hfz73_6
              try clear hfz73_7
              try clear hfz73_8
              try clear hfz73_9
              obtain ⟨x8_5, rfl, HA, HK5, BK128, BK129, HB⟩ := hrel
              cases gk with
              | zero => exact absurd HA.out (by simp [capstanref21_Same.l3])
              | succ k5 =>
               have H := HA.out
               clear HA
               simp only [capstanref21_Same.l3] at H
               by_cases c74 : x8_5 < (l0_11.length : Int)
               ·rw [if_pos c74] at H
                have c74b0 : decide (x8_5 < (l0_11.length : Int)) = true := decide_eq_true c74
                clear c74
                by_cases c75 : 0 ≤ x8_5
                ·rw [if_pos c75] at H
                 have c75b0 : decide (0 ≤ x8_5) = true := decide_eq_true c75
                 clear c75
                 by_cases c76 : x8_5 < (l1_11.length : Int)
                 ·rw [if_pos c76] at H
                  have c76b0 : decide (x8_5 < (l1_11.length : Int)) = true := decide_eq_true c76
                  clear c76
                  by_cases c77 : (!(((rd_T45 l0_11 x8_5).f0) == ((rd_T45 l1_11 x8_5).f0)) || (!(((rd_T45 l0_11 x8_5).f1) == ((rd_T45 l1_11 x8_5).f1)))) = true
                  ·rw [if_pos c77] at H
                   have c77b0 : (!(((rd_T45 l0_11 x8_5).f0) == ((rd_T45 l1_11 x8_5).f0)) || (!(((rd_T45 l0_11 x8_5).f1) == ((rd_T45 l1_11 x8_5).f1)))) = true := c77
                   clear c77
                   obtain rfl := Option.some.inj H
                   have hnb78 := NB128_129.out
                   have hnc78 := NB129_128.out
                   have hcz79_0 : wr.cell? ⟨gb128, 0, none⟩ = some (.int .i64 a0_0) := (blk_cell BK128.out 0).trans rfl
                   have hcz79_1 : wr.cell? ⟨gb128, 1, none⟩ = some (.int .i64 a0_1) := (blk_cell BK128.out 1).trans rfl
                   have hcz79_2 : wr.cell? ⟨gb128, 2, none⟩ = some (.int .i64 a0_2) := (blk_cell BK128.out 2).trans rfl
                   have hcz79_3 : wr.cell? ⟨gb128, 3, none⟩ = some (.int .i64 a0_3) := (blk_cell BK128.out 3).trans rfl
                   have hcz79_4 : wr.cell? ⟨gb128, 4, none⟩ = some (.int .i64 a0_4) := (blk_cell BK128.out 4).trans rfl
                   have hcz79_5 : wr.cell? ⟨gb128, 5, none⟩ = some (.int .i64 a0_5) := (blk_cell BK128.out 5).trans rfl
                   have hcz79_6 : wr.cell? ⟨gb128, 6, none⟩ = some (.slice A0_6 l0_6.length c0_6) := (blk_cell BK128.out 6).trans rfl
                   have hcz79_7 : wr.cell? ⟨gb128, 7, none⟩ = some (.slice A0_7 l0_7.length c0_7) := (blk_cell BK128.out 7).trans rfl
                   have hcz79_8 : wr.cell? ⟨gb128, 8, none⟩ = some (.slice A0_8 l0_8.length c0_8) := (blk_cell BK128.out 8).trans rfl
                   have hcz79_9 : wr.cell? ⟨gb128, 9, none⟩ = some (.int .i64 a0_9) := (blk_cell BK128.out 9).trans rfl
                   have hcz79_10 : wr.cell? ⟨gb128, 10, none⟩ = some (.int .i64 a0_10) := (blk_cell BK128.out 10).trans rfl
                   have hcz79_11 : wr.cell? ⟨gb128, 11, none⟩ = some (.slice A0_11 l0_11.length c0_11) := (blk_cell BK128.out 11).trans rfl
                   have p136 : 0 ≤ (x8_5 : Int) := of_decide_eq_true (by first | (with_reducible assumption) | assumption)
                   have q136 : x8_5 < (l0_11.length : Int) := of_decide_eq_true (by first | (with_reducible assumption) | assumption)
                   obtain ⟨ad136, e136, hx136_0, hx136_1⟩ := at_T45 HR0_11.out x8_5 p136 q136
                   cases e136
                   replace hx136_0 := (HB.out.cell (World.block_lt_of_cell? w _ hx136_0)).trans hx136_0
                   replace hx136_1 := (HB.out.cell (World.block_lt_of_cell? w _ hx136_1)).trans hx136_1
                   replace p136 := eq_true p136
                   replace q136 := eq_true q136
                   have hcz80_0 : wr.cell? ⟨gb129, 0, none⟩ = some (.int .i64 a1_0) := (blk_cell BK129.out 0).trans rfl
                   have hcz80_1 : wr.cell? ⟨gb129, 1, none⟩ = some (.int .i64 a1_1) := (blk_cell BK129.out 1).trans rfl
                   have hcz80_2 : wr.cell? ⟨gb129, 2, none⟩ = some (.int .i64 a1_2) := (blk_cell BK129.out 2).trans rfl
                   have hcz80_3 : wr.cell? ⟨gb129, 3, none⟩ = some (.int .i64 a1_3) := (blk_cell BK129.out 3).trans rfl
                   have hcz80_4 : wr.cell? ⟨gb129, 4, none⟩ = some (.int .i64 a1_4) := (blk_cell BK129.out 4).trans rfl
                   have hcz80_5 : wr.cell? ⟨gb129, 5, none⟩ = some (.int .i64 a1_5) := (blk_cell BK129.out 5).trans rfl
                   have hcz80_6 : wr.cell? ⟨gb129, 6, none⟩ = some (.slice A1_6 l1_6.length c1_6) := (blk_cell BK129.out 6).trans rfl
                   have hcz80_7 : wr.cell? ⟨gb129, 7, none⟩ = some (.slice A1_7 l1_7.length c1_7) := (blk_cell BK129.out 7).trans rfl
                   have hcz80_8 : wr.cell? ⟨gb129, 8, none⟩ = some (.slice A1_8 l1_8.length c1_8) := (blk_cell BK129.out 8).trans rfl
                   have hcz80_9 : wr.cell? ⟨gb129, 9, none⟩ = some (.int .i64 a1_9) := (blk_cell BK129.out 9).trans rfl
                   have hcz80_10 : wr.cell? ⟨gb129, 10, none⟩ = some (.int .i64 a1_10) := (blk_cell BK129.out 10).trans rfl
                   have hcz80_11 : wr.cell? ⟨gb129, 11, none⟩ = some (.slice A1_11 l1_11.length c1_11) := (blk_cell BK129.out 11).trans rfl
                   have p137 : 0 ≤ (x8_5 : Int) := of_decide_eq_true (by first | (with_reducible assumption) | assumption)
                   have q137 : x8_5 < (l1_11.length : Int) := of_decide_eq_true (by first | (with_reducible assumption) | assumption)
                   obtain ⟨ad137, e137, hx137_0, hx137_1⟩ := at_T45 HR1_11.out x8_5 p137 q137
                   cases e137
                   replace hx137_0 := (HB.out.cell (World.block_lt_of_cell? w _ hx137_0)).trans hx137_0
                   replace hx137_1 := (HB.out.cell (World.block_lt_of_cell? w _ hx137_1)).trans hx137_1
                   replace p137 := eq_true p137
                   replace q137 := eq_true q137
                   go_wp2
                   repeat (go_quiet (fail); try go_wp2)
                   go_ret
                   exact ⟨by first | rfl | (simp [errW_none, errW_some] <;> rfl) | (simp [*, errW_none, errW_some] <;> rfl), by repeat (first | (with_reducible first | exact HB.out | apply below_alloc | apply pw_below_drewN | apply below_drew1 | refine below_set ?_ GE128.out | refine below_set ?_ GE129.out) | exact HB.out)⟩
                  ·rw [if_neg c77] at H
                   have c77b0 : (!(((rd_T45 l0_11 x8_5).f0) == ((rd_T45 l1_11 x8_5).f0)) || (!(((rd_T45 l0_11 x8_5).f1) == ((rd_T45 l1_11 x8_5).f1)))) = false := by simpa using c77
                   clear c77
                   have H' := Aside0.mk H
                   clear H
                   have hnb81 := NB128_129.out
                   have hnc81 := NB129_128.out
                   have hcz82_0 : wr.cell? ⟨gb128, 0, none⟩ = some (.int .i64 a0_0) := (blk_cell BK128.out 0).trans rfl
                   have hcz82_1 : wr.cell? ⟨gb128, 1, none⟩ = some (.int .i64 a0_1) := (blk_cell BK128.out 1).trans rfl
                   have hcz82_2 : wr.cell? ⟨gb128, 2, none⟩ = some (.int .i64 a0_2) := (blk_cell BK128.out 2).trans rfl
                   have hcz82_3 : wr.cell? ⟨gb128, 3, none⟩ = some (.int .i64 a0_3) := (blk_cell BK128.out 3).trans rfl
                   have hcz82_4 : wr.cell? ⟨gb128, 4, none⟩ = some (.int .i64 a0_4) := (blk_cell BK128.out 4).trans rfl
                   have hcz82_5 : wr.cell? ⟨gb128, 5, none⟩ = some (.int .i64 a0_5) := (blk_cell BK128.out 5).trans rfl
                   have hcz82_6 : wr.cell? ⟨gb128, 6, none⟩ = some (.slice A0_6 l0_6.length c0_6) := (blk_cell BK128.out 6).trans rfl
                   have hcz82_7 : wr.cell? ⟨gb128, 7, none⟩ = some (.slice A0_7 l0_7.length c0_7) := (blk_cell BK128.out 7).trans rfl
                   have hcz82_8 : wr.cell? ⟨gb128, 8, none⟩ = some (.slice A0_8 l0_8.length c0_8) := (blk_cell BK128.out 8).trans rfl
                   have hcz82_9 : wr.cell? ⟨gb128, 9, none⟩ = some (.int .i64 a0_9) := (blk_cell BK128.out 9).trans rfl
                   have hcz82_10 : wr.cell? ⟨gb128, 10, none⟩ = some (.int .i64 a0_10) := (blk_cell BK128.out 10).trans rfl
                   have hcz82_11 : wr.cell? ⟨gb128, 11, none⟩ = some (.slice A0_11 l0_11.length c0_11) := (blk_cell BK128.out 11).trans rfl
                   have p136 : 0 ≤ (x8_5 : Int) := of_decide_eq_true (by first | (with_reducible assumption) | assumption)
                   have q136 : x8_5 < (l0_11.length : Int) := of_decide_eq_true (by first | (with_reducible assumption) | assumption)
                   obtain ⟨ad136, e136, hx136_0, hx136_1⟩ := at_T45 HR0_11.out x8_5 p136 q136
                   cases e136
                   replace hx136_0 := (HB.out.cell (World.block_lt_of_cell? w _ hx136_0)).trans hx136_0
                   replace hx136_1 := (HB.out.cell (World.block_lt_of_cell? w _ hx136_1)).trans hx136_1
                   replace p136 := eq_true p136
                   replace q136 := eq_true q136
                   have hcz83_0 : wr.cell? ⟨gb129, 0, none⟩ = some (.int .i64 a1_0) := (blk_cell BK129.out 0).trans rfl
                   have hcz83_1 : wr.cell? ⟨gb129, 1, none⟩ = some (.int .i64 a1_1) := (blk_cell BK129.out 1).trans rfl
                   have hcz83_2 : wr.cell? ⟨gb129, 2, none⟩ = some (.int .i64 a1_2) := (blk_cell BK129.out 2).trans rfl
                   have hcz83_3 : wr.cell? ⟨gb129, 3, none⟩ = some (.int .i64 a1_3) := (blk_cell BK129.out 3).trans rfl
                   have hcz83_4 : wr.cell? ⟨gb129, 4, none⟩ = some (.int .i64 a1_4) := (blk_cell BK129.out 4).trans rfl
                   have hcz83_5 : wr.cell? ⟨gb129, 5, none⟩ = some (.int .i64 a1_5) := (blk_cell BK129.out 5).trans rfl
                   have hcz83_6 : wr.cell? ⟨gb129, 6, none⟩ = some (.slice A1_6 l1_6.length c1_6) := (blk_cell BK129.out 6).trans rfl
                   have hcz83_7 : wr.cell? ⟨gb129, 7, none⟩ = some (.slice A1_7 l1_7.length c1_7) := (blk_cell BK129.out 7).trans rfl
                   have hcz83_8 : wr.cell? ⟨gb129, 8, none⟩ = some (.slice A1_8 l1_8.length c1_8) := (blk_cell BK129.out 8).trans rfl
                   have hcz83_9 : wr.cell? ⟨gb129, 9, none⟩ = some (.int .i64 a1_9) := (blk_cell BK129.out 9).trans rfl
                   have hcz83_10 : wr.cell? ⟨gb129, 10, none⟩ = some (.int .i64 a1_10) := (blk_cell BK129.out 10).trans rfl
                   have hcz83_11 : wr.cell? ⟨gb129, 11, none⟩ = some (.slice A1_11 l1_11.length c1_11) := (blk_cell BK129.out 11).trans rfl
                   have p137 : 0 ≤ (x8_5 : Int) := of_decide_eq_true (by first | (with_reducible assumption) | assumption)
                   have q137 : x8_5 < (l1_11.length : Int) := of_decide_eq_true (by first | (with_reducible assumption) | assumption)
                   obtain ⟨ad137, e137, hx137_0, hx137_1⟩ := at_T45 HR1_11.out x8_5 p137 q137
                   cases e137
                   replace hx137_0 := (HB.out.cell (World.block_lt_of_cell? w _ hx137_0)).trans hx137_0
                   replace hx137_1 := (HB.out.cell (World.block_lt_of_cell? w _ hx137_1)).trans hx137_1
                   replace p137 := eq_true p137
                   replace q137 := eq_true q137
                   go_wp2
                   repeat (go_quiet (fail); try go_wp2)
                   go_roundg k5
                   case measure => have := HJ2.out; have := HK2.out; have := HK3.out; have := HK4.out; have := HK5.out; omega
                   case rel => exact ⟨(wrap64 (x8_5 + 1)), (by first | rfl | (simp; done) | (simp [*]; done)), H', ⟨by have := HJ2.out; have := HK2.out; have := HK3.out; have := HK4.out; have := HK5.out; omega⟩, ⟨by (with_reducible repeat (first | refine blk_drewN ?_ _ | refine blk_drew ?_ | refine blk_alloc ?_ _)); exact BK128.out⟩, ⟨by (with_reducible repeat (first | refine blk_drewN ?_ _ | refine blk_drew ?_ | refine blk_alloc ?_ _)); exact BK129.out⟩, ⟨by repeat (first | (with_reducible first | exact HB.out | apply below_alloc | apply pw_below_drewN | apply below_drew1 | refine below_set ?_ GE128.out | refine below_set ?_ GE129.out) | exact HB.out)⟩⟩
                 ·rw [if_neg c76] at H
                  exact absurd H (by simp)
                ·rw [if_neg c75] at H
                 exact absurd H (by simp)
               ·rw [if_neg c74] at H
                have c74b0 : decide (x8_5 < (l0_11.length : Int)) = false := decide_eq_false c74
                clear c74
                obtain rfl := Option.some.inj H
                have hnb84 := NB128_129.out
                have hnc84 := NB129_128.out
                have hcz85_0 : wr.cell? ⟨gb128, 0, none⟩ = some (.int .i64 a0_0) := (blk_cell BK128.out 0).trans rfl
                have hcz85_1 : wr.cell? ⟨gb128, 1, none⟩ = some (.int .i64 a0_1) := (blk_cell BK128.out 1).trans rfl
                have hcz85_2 : wr.cell? ⟨gb128, 2, none⟩ = some (.int .i64 a0_2) := (blk_cell BK128.out 2).trans rfl
                have hcz85_3 : wr.cell? ⟨gb128, 3, none⟩ = some (.int .i64 a0_3) := (blk_cell BK128.out 3).trans rfl
                have hcz85_4 : wr.cell? ⟨gb128, 4, none⟩ = some (.int .i64 a0_4) := (blk_cell BK128.out 4).trans rfl
                have hcz85_5 : wr.cell? ⟨gb128, 5, none⟩ = some (.int .i64 a0_5) := (blk_cell BK128.out 5).trans rfl
                have hcz85_6 : wr.cell? ⟨gb128, 6, none⟩ = some (.slice A0_6 l0_6.length c0_6) := (blk_cell BK128.out 6).trans rfl
                have hcz85_7 : wr.cell? ⟨gb128, 7, none⟩ = some (.slice A0_7 l0_7.length c0_7) := (blk_cell BK128.out 7).trans rfl
                have hcz85_8 : wr.cell? ⟨gb128, 8, none⟩ = some (.slice A0_8 l0_8.length c0_8) := (blk_cell BK128.out 8).trans rfl
                have hcz85_9 : wr.cell? ⟨gb128, 9, none⟩ = some (.int .i64 a0_9) := (blk_cell BK128.out 9).trans rfl
                have hcz85_10 : wr.cell? ⟨gb128, 10, none⟩ = some (.int .i64 a0_10) := (blk_cell BK128.out 10).trans rfl
                have hcz85_11 : wr.cell? ⟨gb128, 11, none⟩ = some (.slice A0_11 l0_11.length c0_11) := (blk_cell BK128.out 11).trans rfl
                go_wp2
                repeat (go_quiet (fail); try go_wp2)
                go_ret
                exact ⟨by first | rfl | (simp [errW_none, errW_some] <;> rfl) | (simp [*, errW_none, errW_some] <;> rfl), by repeat (first | (with_reducible first | exact HB.out | apply below_alloc | apply pw_below_drewN | apply below_drew1 | refine below_set ?_ GE128.out | refine below_set ?_ GE129.out) | exact HB.out)⟩

end Go.Proofs.Ytkdboaaganmagaa.OP
