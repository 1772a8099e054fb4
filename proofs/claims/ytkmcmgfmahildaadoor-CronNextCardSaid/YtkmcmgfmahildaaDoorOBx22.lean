/- Walks of functions, written by a program (wip/tools/own.py) over hand contracts; conditions: as each theorem states. -/
import Derived.Test.YtkmcmgfmahildaaDoorOBx0
import Derived.Test.YtkmcmgfmahildaaDoorOBx7
import Derived.Test.YtkmcmgfmahildaaDoorOBx1
import Derived.Test.YtkmcmgfmahildaaDoorOBx19
import Derived.Test.YtkmcmgfmahildaaDoorCw
namespace Go.Proofs.YtkmcmgfmahildaaDoor.OB
open Go.RowKit Go.Proofs.YtkmcmgfmahildaaDoorW.PrintWords Go.Proofs.YtkmcmgfmahildaaDoorW.PrintLast Go.Proofs.YtkmcmgfmahildaaDoorW.PrintMore
attribute [local go_sem] max2_int min2_int max_two min_two max_three min_three max_four min_four   -- for this text's walks alone
set_option linter.unusedVariables false
set_option linter.unusedSimpArgs false

/-! ### capstanref04_Next: function 20 -/
mutual
def capstanref04_Next.l0 : Nat → Int → Int → Int → Int → Int → Int → Int → Int → Int → Int → Int → Int → Int → Int → Int → Int → Option (Int × Bool)
  | 0, _, _, _, _, _, _, _, _, _, _, _, _, _, _, _, _ => none
  | k + 1, x1, x6, x7, x9, x228000, x228001, x228002, x228003, x228004, x239000, x239001, x239002, x239003, x239004, x239005, x239006 => if x9 < 10228 then ((capstanref04_Has.f x228002 x239002).bind fun t239 => (if t239 = true then ((capstanref04_Has.f x228003 x239001).bind fun t240 => (if t240 = true then ((capstanref04_Has.f x228004 x239006).bind fun t241 => (capstanref04_Next.j1 k x1 x6 x7 x9 t241 x228000 x228001 x228002 x228003 x228004 x239000 x239001 x239002 x239003 x239004 x239005 x239006)) else (capstanref04_Next.j1 k x1 x6 x7 x9 false x228000 x228001 x228002 x228003 x228004 x239000 x239001 x239002 x239003 x239004 x239005 x239006))) else (capstanref04_Next.j1 k x1 x6 x7 x9 false x228000 x228001 x228002 x228003 x228004 x239000 x239001 x239002 x239003 x239004 x239005 x239006))) else (some (0, false))
def capstanref04_Next.j1 : Nat → Int → Int → Int → Int → Bool → Int → Int → Int → Int → Int → Int → Int → Int → Int → Int → Int → Int → Option (Int × Bool)
  | 0, _, _, _, _, _, _, _, _, _, _, _, _, _, _, _, _, _ => none
  | k + 1, x1, x6, x7, x9, x45, x228000, x228001, x228002, x228003, x228004, x239000, x239001, x239002, x239003, x239004, x239005, x239006 => if x45 = true then (capstanref04_Next.l1 k x1 x6 x7 x9 0 x228000 x228001 x228002 x228003 x228004 x239000 x239001 x239002 x239003 x239004 x239005 x239006) else (capstanref04_Next.j4 k x1 x6 x7 x9 x228000 x228001 x228002 x228003 x228004 x239000 x239001 x239002 x239003 x239004 x239005 x239006)
def capstanref04_Next.j4 : Nat → Int → Int → Int → Int → Int → Int → Int → Int → Int → Int → Int → Int → Int → Int → Int → Int → Option (Int × Bool)
  | 0, _, _, _, _, _, _, _, _, _, _, _, _, _, _, _, _ => none
  | k + 1, x1, x6, x7, x9, x228000, x228001, x228002, x228003, x228004, x239000, x239001, x239002, x239003, x239004, x239005, x239006 => (capstanref03_Days.f k x239000 x239001).bind fun t248 => (if (wrap64 (x239002 + 1)) > t248 then (if (wrap64 (x239001 + 1)) > 12 then (capstanref04_Next.l0 k x1 x6 x7 (wrap64 (x9 + 1)) x228000 x228001 x228002 x228003 x228004 (wrap64 (x239000 + 1)) 1 1 x239003 x239004 x239005 (Int.tmod (wrap64 (x239006 + 1)) 7)) else (capstanref04_Next.l0 k x1 x6 x7 (wrap64 (x9 + 1)) x228000 x228001 x228002 x228003 x228004 x239000 (wrap64 (x239001 + 1)) 1 x239003 x239004 x239005 (Int.tmod (wrap64 (x239006 + 1)) 7))) else (if x239001 > 12 then (capstanref04_Next.l0 k x1 x6 x7 (wrap64 (x9 + 1)) x228000 x228001 x228002 x228003 x228004 (wrap64 (x239000 + 1)) 1 (wrap64 (x239002 + 1)) x239003 x239004 x239005 (Int.tmod (wrap64 (x239006 + 1)) 7)) else (capstanref04_Next.l0 k x1 x6 x7 (wrap64 (x9 + 1)) x228000 x228001 x228002 x228003 x228004 x239000 x239001 (wrap64 (x239002 + 1)) x239003 x239004 x239005 (Int.tmod (wrap64 (x239006 + 1)) 7))))
def capstanref04_Next.l1 : Nat → Int → Int → Int → Int → Int → Int → Int → Int → Int → Int → Int → Int → Int → Int → Int → Int → Int → Option (Int × Bool)
  | 0, _, _, _, _, _, _, _, _, _, _, _, _, _, _, _, _, _ => none
  | k + 1, x1, x6, x7, x9, x10, x228000, x228001, x228002, x228003, x228004, x239000, x239001, x239002, x239003, x239004, x239005, x239006 => if x10 < 1440 then (if x9 = 0 then (if (wrap64 (60 * x10)) < x7 then (capstanref04_Next.j3 k x1 x6 x7 x9 x10 true x228000 x228001 x228002 x228003 x228004 x239000 x239001 x239002 x239003 x239004 x239005 x239006) else ((capstanref04_Has.f x228001 (wrap64 (Int.tdiv x10 60))).bind fun t242 => (if t242 = true then ((capstanref04_Has.f x228000 (Int.tmod x10 60)).bind fun t243 => (capstanref04_Next.j3 k x1 x6 x7 x9 x10 (!t243) x228000 x228001 x228002 x228003 x228004 x239000 x239001 x239002 x239003 x239004 x239005 x239006)) else (capstanref04_Next.j3 k x1 x6 x7 x9 x10 true x228000 x228001 x228002 x228003 x228004 x239000 x239001 x239002 x239003 x239004 x239005 x239006)))) else ((capstanref04_Has.f x228001 (wrap64 (Int.tdiv x10 60))).bind fun t244 => (if t244 = true then ((capstanref04_Has.f x228000 (Int.tmod x10 60)).bind fun t245 => (capstanref04_Next.j3 k x1 x6 x7 x9 x10 (!t245) x228000 x228001 x228002 x228003 x228004 x239000 x239001 x239002 x239003 x239004 x239005 x239006)) else (capstanref04_Next.j3 k x1 x6 x7 x9 x10 true x228000 x228001 x228002 x228003 x228004 x239000 x239001 x239002 x239003 x239004 x239005 x239006)))) else (capstanref04_Next.j4 k x1 x6 x7 x9 x228000 x228001 x228002 x228003 x228004 x239000 x239001 x239002 x239003 x239004 x239005 x239006)
def capstanref04_Next.j3 : Nat → Int → Int → Int → Int → Int → Bool → Int → Int → Int → Int → Int → Int → Int → Int → Int → Int → Int → Int → Option (Int × Bool)
  | 0, _, _, _, _, _, _, _, _, _, _, _, _, _, _, _, _, _, _ => none
  | k + 1, x1, x6, x7, x9, x10, x73, x228000, x228001, x228002, x228003, x228004, x239000, x239001, x239002, x239003, x239004, x239005, x239006 => if x73 = true then (capstanref04_Next.l1 k x1 x6 x7 x9 (wrap64 (x10 + 1)) x228000 x228001 x228002 x228003 x228004 x239000 x239001 x239002 x239003 x239004 x239005 x239006) else ((capstanref03_Over.f 9223372036854775807 86400).bind fun bt246 => (if (wrap64 (x6 + x9)) > bt246.1 then (some (0, false)) else (if (wrap64 (x6 + x9)) = bt246.1 then (if (wrap64 (60 * x10)) > bt246.2 then (some (0, false)) else (some (wrap64 (x1 + (wrap64 ((wrap64 ((wrap64 (x9 * 86400)) + (wrap64 (60 * x10)))) - x7))), true))) else (some (wrap64 (x1 + (wrap64 ((wrap64 ((wrap64 (x9 * 86400)) + (wrap64 (60 * x10)))) - x7))), true)))))
end
def capstanref04_Next.f (k : Nat) (a0_0 : Int) (a0_1 : Int) (a0_2 : Int) (a0_3 : Int) (a0_4 : Int) (a1 : Int) : Option (Int × Bool) := (Cw.rformed.f a0_0 a0_1 a0_2 a0_3 a0_4).bind fun t228 => (if t228 = true then ((capstanref03_Over.f a1 86400).bind fun bt229 => ((capstanref03_Of.f k a1).bind fun bt231 => (capstanref04_Next.l0 k a1 bt229.1 bt229.2 0 a0_0 a0_1 a0_2 a0_3 a0_4 bt231.1 bt231.2.1 bt231.2.2.1 bt231.2.2.2.1 bt231.2.2.2.2.1 bt231.2.2.2.2.2.1 bt231.2.2.2.2.2.2))) else (some (0, false)))
theorem capstanref04_Next.mono_l : ∀ k, (∀ y0 y1 y2 y3 y4 y5 y6 y7 y8 y9 y10 y11 y12 y13 y14 y15, LeO (capstanref04_Next.l0 k y0 y1 y2 y3 y4 y5 y6 y7 y8 y9 y10 y11 y12 y13 y14 y15) (capstanref04_Next.l0 (k + 1) y0 y1 y2 y3 y4 y5 y6 y7 y8 y9 y10 y11 y12 y13 y14 y15)) ∧ (∀ y0 y1 y2 y3 y4 y5 y6 y7 y8 y9 y10 y11 y12 y13 y14 y15 y16, LeO (capstanref04_Next.j1 k y0 y1 y2 y3 y4 y5 y6 y7 y8 y9 y10 y11 y12 y13 y14 y15 y16) (capstanref04_Next.j1 (k + 1) y0 y1 y2 y3 y4 y5 y6 y7 y8 y9 y10 y11 y12 y13 y14 y15 y16)) ∧ (∀ y0 y1 y2 y3 y4 y5 y6 y7 y8 y9 y10 y11 y12 y13 y14 y15, LeO (capstanref04_Next.j4 k y0 y1 y2 y3 y4 y5 y6 y7 y8 y9 y10 y11 y12 y13 y14 y15) (capstanref04_Next.j4 (k + 1) y0 y1 y2 y3 y4 y5 y6 y7 y8 y9 y10 y11 y12 y13 y14 y15)) ∧ (∀ y0 y1 y2 y3 y4 y5 y6 y7 y8 y9 y10 y11 y12 y13 y14 y15 y16, LeO (capstanref04_Next.l1 k y0 y1 y2 y3 y4 y5 y6 y7 y8 y9 y10 y11 y12 y13 y14 y15 y16) (capstanref04_Next.l1 (k + 1) y0 y1 y2 y3 y4 y5 y6 y7 y8 y9 y10 y11 y12 y13 y14 y15 y16)) ∧ (∀ y0 y1 y2 y3 y4 y5 y6 y7 y8 y9 y10 y11 y12 y13 y14 y15 y16 y17, LeO (capstanref04_Next.j3 k y0 y1 y2 y3 y4 y5 y6 y7 y8 y9 y10 y11 y12 y13 y14 y15 y16 y17) (capstanref04_Next.j3 (k + 1) y0 y1 y2 y3 y4 y5 y6 y7 y8 y9 y10 y11 y12 y13 y14 y15 y16 y17))
  | 0 => ⟨fun _ _ _ _ _ _ _ _ _ _ _ _ _ _ _ _ r h => by simp [capstanref04_Next.l0] at h, fun _ _ _ _ _ _ _ _ _ _ _ _ _ _ _ _ _ r h => by simp [capstanref04_Next.j1] at h, fun _ _ _ _ _ _ _ _ _ _ _ _ _ _ _ _ r h => by simp [capstanref04_Next.j4] at h, fun _ _ _ _ _ _ _ _ _ _ _ _ _ _ _ _ _ r h => by simp [capstanref04_Next.l1] at h, fun _ _ _ _ _ _ _ _ _ _ _ _ _ _ _ _ _ _ r h => by simp [capstanref04_Next.j3] at h⟩
  | k + 1 => by
    obtain ⟨ih0, ih1, ih2, ih3, ih4⟩ := capstanref04_Next.mono_l k
    refine ⟨?_, ?_, ?_, ?_, ?_⟩
    · intro y0 y1 y2 y3 y4 y5 y6 y7 y8 y9 y10 y11 y12 y13 y14 y15
      unfold capstanref04_Next.l0
      repeat' first
      | (with_reducible exact ih0 _ _ _ _ _ _ _ _ _ _ _ _ _ _ _ _)
      | (with_reducible exact ih1 _ _ _ _ _ _ _ _ _ _ _ _ _ _ _ _ _)
      | (with_reducible exact ih2 _ _ _ _ _ _ _ _ _ _ _ _ _ _ _ _)
      | (with_reducible exact ih3 _ _ _ _ _ _ _ _ _ _ _ _ _ _ _ _ _)
      | (with_reducible exact ih4 _ _ _ _ _ _ _ _ _ _ _ _ _ _ _ _ _ _)
      | (with_reducible exact capstanref03_Days.mono _ _ _)
      | (with_reducible exact capstanref03_Of.mono _ _)
      | (with_reducible exact LeO.refl _)
      | (with_reducible exact LeO.none _)
      | (with_reducible refine LeO.ite ?_ ?_)
      | (with_reducible refine LeO.bind ?_ (fun _ => ?_))
      | exact ih0 _ _ _ _ _ _ _ _ _ _ _ _ _ _ _ _
      | exact ih1 _ _ _ _ _ _ _ _ _ _ _ _ _ _ _ _ _
      | exact ih2 _ _ _ _ _ _ _ _ _ _ _ _ _ _ _ _
      | exact ih3 _ _ _ _ _ _ _ _ _ _ _ _ _ _ _ _ _
      | exact ih4 _ _ _ _ _ _ _ _ _ _ _ _ _ _ _ _ _ _
      | exact capstanref03_Days.mono _ _ _
      | exact capstanref03_Of.mono _ _
      | exact LeO.none _
      | refine LeO.ite ?_ ?_
      | refine LeO.bind ?_ (fun _ => ?_)
    · intro y0 y1 y2 y3 y4 y5 y6 y7 y8 y9 y10 y11 y12 y13 y14 y15 y16
      unfold capstanref04_Next.j1
      repeat' first
      | (with_reducible exact ih0 _ _ _ _ _ _ _ _ _ _ _ _ _ _ _ _)
      | (with_reducible exact ih1 _ _ _ _ _ _ _ _ _ _ _ _ _ _ _ _ _)
      | (with_reducible exact ih2 _ _ _ _ _ _ _ _ _ _ _ _ _ _ _ _)
      | (with_reducible exact ih3 _ _ _ _ _ _ _ _ _ _ _ _ _ _ _ _ _)
      | (with_reducible exact ih4 _ _ _ _ _ _ _ _ _ _ _ _ _ _ _ _ _ _)
      | (with_reducible exact capstanref03_Days.mono _ _ _)
      | (with_reducible exact capstanref03_Of.mono _ _)
      | (with_reducible exact LeO.refl _)
      | (with_reducible exact LeO.none _)
      | (with_reducible refine LeO.ite ?_ ?_)
      | (with_reducible refine LeO.bind ?_ (fun _ => ?_))
      | exact ih0 _ _ _ _ _ _ _ _ _ _ _ _ _ _ _ _
      | exact ih1 _ _ _ _ _ _ _ _ _ _ _ _ _ _ _ _ _
      | exact ih2 _ _ _ _ _ _ _ _ _ _ _ _ _ _ _ _
      | exact ih3 _ _ _ _ _ _ _ _ _ _ _ _ _ _ _ _ _
      | exact ih4 _ _ _ _ _ _ _ _ _ _ _ _ _ _ _ _ _ _
      | exact capstanref03_Days.mono _ _ _
      | exact capstanref03_Of.mono _ _
      | exact LeO.none _
      | refine LeO.ite ?_ ?_
      | refine LeO.bind ?_ (fun _ => ?_)
    · intro y0 y1 y2 y3 y4 y5 y6 y7 y8 y9 y10 y11 y12 y13 y14 y15
      unfold capstanref04_Next.j4
      repeat' first
      | (with_reducible exact ih0 _ _ _ _ _ _ _ _ _ _ _ _ _ _ _ _)
      | (with_reducible exact ih1 _ _ _ _ _ _ _ _ _ _ _ _ _ _ _ _ _)
      | (with_reducible exact ih2 _ _ _ _ _ _ _ _ _ _ _ _ _ _ _ _)
      | (with_reducible exact ih3 _ _ _ _ _ _ _ _ _ _ _ _ _ _ _ _ _)
      | (with_reducible exact ih4 _ _ _ _ _ _ _ _ _ _ _ _ _ _ _ _ _ _)
      | (with_reducible exact capstanref03_Days.mono _ _ _)
      | (with_reducible exact capstanref03_Of.mono _ _)
      | (with_reducible exact LeO.refl _)
      | (with_reducible exact LeO.none _)
      | (with_reducible refine LeO.ite ?_ ?_)
      | (with_reducible refine LeO.bind ?_ (fun _ => ?_))
      | exact ih0 _ _ _ _ _ _ _ _ _ _ _ _ _ _ _ _
      | exact ih1 _ _ _ _ _ _ _ _ _ _ _ _ _ _ _ _ _
      | exact ih2 _ _ _ _ _ _ _ _ _ _ _ _ _ _ _ _
      | exact ih3 _ _ _ _ _ _ _ _ _ _ _ _ _ _ _ _ _
      | exact ih4 _ _ _ _ _ _ _ _ _ _ _ _ _ _ _ _ _ _
      | exact capstanref03_Days.mono _ _ _
      | exact capstanref03_Of.mono _ _
      | exact LeO.none _
      | refine LeO.ite ?_ ?_
      | refine LeO.bind ?_ (fun _ => ?_)
    · intro y0 y1 y2 y3 y4 y5 y6 y7 y8 y9 y10 y11 y12 y13 y14 y15 y16
      unfold capstanref04_Next.l1
      repeat' first
      | (with_reducible exact ih0 _ _ _ _ _ _ _ _ _ _ _ _ _ _ _ _)
      | (with_reducible exact ih1 _ _ _ _ _ _ _ _ _ _ _ _ _ _ _ _ _)
      | (with_reducible exact ih2 _ _ _ _ _ _ _ _ _ _ _ _ _ _ _ _)
      | (with_reducible exact ih3 _ _ _ _ _ _ _ _ _ _ _ _ _ _ _ _ _)
      | (with_reducible exact ih4 _ _ _ _ _ _ _ _ _ _ _ _ _ _ _ _ _ _)
      | (with_reducible exact capstanref03_Days.mono _ _ _)
      | (with_reducible exact capstanref03_Of.mono _ _)
      | (with_reducible exact LeO.refl _)
      | (with_reducible exact LeO.none _)
      | (with_reducible refine LeO.ite ?_ ?_)
      | (with_reducible refine LeO.bind ?_ (fun _ => ?_))
      | exact ih0 _ _ _ _ _ _ _ _ _ _ _ _ _ _ _ _
      | exact ih1 _ _ _ _ _ _ _ _ _ _ _ _ _ _ _ _ _
      | exact ih2 _ _ _ _ _ _ _ _ _ _ _ _ _ _ _ _
      | exact ih3 _ _ _ _ _ _ _ _ _ _ _ _ _ _ _ _ _
      | exact ih4 _ _ _ _ _ _ _ _ _ _ _ _ _ _ _ _ _ _
      | exact capstanref03_Days.mono _ _ _
      | exact capstanref03_Of.mono _ _
      | exact LeO.none _
      | refine LeO.ite ?_ ?_
      | refine LeO.bind ?_ (fun _ => ?_)
    · intro y0 y1 y2 y3 y4 y5 y6 y7 y8 y9 y10 y11 y12 y13 y14 y15 y16 y17
      unfold capstanref04_Next.j3
      repeat' first
      | (with_reducible exact ih0 _ _ _ _ _ _ _ _ _ _ _ _ _ _ _ _)
      | (with_reducible exact ih1 _ _ _ _ _ _ _ _ _ _ _ _ _ _ _ _ _)
      | (with_reducible exact ih2 _ _ _ _ _ _ _ _ _ _ _ _ _ _ _ _)
      | (with_reducible exact ih3 _ _ _ _ _ _ _ _ _ _ _ _ _ _ _ _ _)
      | (with_reducible exact ih4 _ _ _ _ _ _ _ _ _ _ _ _ _ _ _ _ _ _)
      | (with_reducible exact capstanref03_Days.mono _ _ _)
      | (with_reducible exact capstanref03_Of.mono _ _)
      | (with_reducible exact LeO.refl _)
      | (with_reducible exact LeO.none _)
      | (with_reducible refine LeO.ite ?_ ?_)
      | (with_reducible refine LeO.bind ?_ (fun _ => ?_))
      | exact ih0 _ _ _ _ _ _ _ _ _ _ _ _ _ _ _ _
      | exact ih1 _ _ _ _ _ _ _ _ _ _ _ _ _ _ _ _ _
      | exact ih2 _ _ _ _ _ _ _ _ _ _ _ _ _ _ _ _
      | exact ih3 _ _ _ _ _ _ _ _ _ _ _ _ _ _ _ _ _
      | exact ih4 _ _ _ _ _ _ _ _ _ _ _ _ _ _ _ _ _ _
      | exact capstanref03_Days.mono _ _ _
      | exact capstanref03_Of.mono _ _
      | exact LeO.none _
      | refine LeO.ite ?_ ?_
      | refine LeO.bind ?_ (fun _ => ?_)
theorem capstanref04_Next.mono : ∀ a0 a1 a2 a3 a4 a5 k, LeO (capstanref04_Next.f k a0 a1 a2 a3 a4 a5) (capstanref04_Next.f (k + 1) a0 a1 a2 a3 a4 a5) := by
  intro a0 a1 a2 a3 a4 a5 k
  obtain ⟨ih0, ih1, ih2, ih3, ih4⟩ := capstanref04_Next.mono_l k
  unfold capstanref04_Next.f
  repeat' first
      | (with_reducible exact ih0 _ _ _ _ _ _ _ _ _ _ _ _ _ _ _ _)
      | (with_reducible exact ih1 _ _ _ _ _ _ _ _ _ _ _ _ _ _ _ _ _)
      | (with_reducible exact ih2 _ _ _ _ _ _ _ _ _ _ _ _ _ _ _ _)
      | (with_reducible exact ih3 _ _ _ _ _ _ _ _ _ _ _ _ _ _ _ _ _)
      | (with_reducible exact ih4 _ _ _ _ _ _ _ _ _ _ _ _ _ _ _ _ _ _)
      | (with_reducible exact capstanref03_Days.mono _ _ _)
      | (with_reducible exact capstanref03_Of.mono _ _)
      | (with_reducible exact LeO.refl _)
      | (with_reducible exact LeO.none _)
      | (with_reducible refine LeO.ite ?_ ?_)
      | (with_reducible refine LeO.bind ?_ (fun _ => ?_))
      | exact ih0 _ _ _ _ _ _ _ _ _ _ _ _ _ _ _ _
      | exact ih1 _ _ _ _ _ _ _ _ _ _ _ _ _ _ _ _ _
      | exact ih2 _ _ _ _ _ _ _ _ _ _ _ _ _ _ _ _
      | exact ih3 _ _ _ _ _ _ _ _ _ _ _ _ _ _ _ _ _
      | exact ih4 _ _ _ _ _ _ _ _ _ _ _ _ _ _ _ _ _ _
      | exact capstanref03_Days.mono _ _ _
      | exact capstanref03_Of.mono _ _
      | exact LeO.none _
      | refine LeO.ite ?_ ?_
      | refine LeO.bind ?_ (fun _ => ?_)
set_option maxHeartbeats 8000000 in
set_option maxRecDepth 100000 in
theorem capstanref04_Next.calls (k : Nat) (a0_0 : Int) (a0_1 : Int) (a0_2 : Int) (a0_3 : Int) (a0_4 : Int) (a1 : Int) (r1 : Int) (r2 : Bool) (w : World) (h : capstanref04_Next.f k a0_0 a0_1 a0_2 a0_3 a0_4 a1 = some (r1, r2)) :
    Calls Tryd.prog 20 #[.agg #[.int .u64 a0_0, .int .u64 a0_1, .int .u64 a0_2, .int .u64 a0_3, .int .u64 a0_4], .int .i64 a1] w fun e w' => e = .returned (.tuple #[.int .i64 r1, .bool r2]) ∧ Below w.heap.size w w' := by
  have hu25 := Tryd.underlying25
  have hu58 := Tryd.underlying58
  have HB := Aside0.mk (Below.refl w.heap.size w)
  have H : ((Cw.rformed.f a0_0 a0_1 a0_2 a0_3 a0_4).bind fun t228 => (if t228 = true then ((capstanref03_Over.f a1 86400).bind fun bt229 => ((capstanref03_Of.f k a1).bind fun bt231 => (capstanref04_Next.l0 k a1 bt229.1 bt229.2 0 a0_0 a0_1 a0_2 a0_3 a0_4 bt231.1 bt231.2.1 bt231.2.2.1 bt231.2.2.2.1 bt231.2.2.2.2.1 bt231.2.2.2.2.2.1 bt231.2.2.2.2.2.2))) else (some (0, false)))) = some (r1, r2) := h
  clear h
  replace H := Option.bind_eq_some_iff.mp H
  obtain ⟨t228, A30, H⟩ := H
  replace H : (if t228 = true then ((capstanref03_Over.f a1 86400).bind fun bt229 => ((capstanref03_Of.f k a1).bind fun bt231 => (capstanref04_Next.l0 k a1 bt229.1 bt229.2 0 a0_0 a0_1 a0_2 a0_3 a0_4 bt231.1 bt231.2.1 bt231.2.2.1 bt231.2.2.2.1 bt231.2.2.2.2.1 bt231.2.2.2.2.2.1 bt231.2.2.2.2.2.2))) else (some (0, false))) = some (r1, r2) := H
  have A3 := Aside0.mk A30
  clear A30
  by_cases c4 : t228 = true
  · subst c4
    have H1 : ((capstanref03_Over.f a1 86400).bind fun bt229 => ((capstanref03_Of.f k a1).bind fun bt231 => (capstanref04_Next.l0 k a1 bt229.1 bt229.2 0 a0_0 a0_1 a0_2 a0_3 a0_4 bt231.1 bt231.2.1 bt231.2.2.1 bt231.2.2.2.1 bt231.2.2.2.2.1 bt231.2.2.2.2.2.1 bt231.2.2.2.2.2.2))) = some (r1, r2) := by rw [if_pos rfl] at H; exact H
    clear H
    have H := H1
    clear H1
    replace H := Option.bind_eq_some_iff.mp H
    obtain ⟨⟨t229, t230⟩, A50, H⟩ := H
    replace H : ((capstanref03_Of.f k a1).bind fun bt231 => (capstanref04_Next.l0 k a1 t229 t230 0 a0_0 a0_1 a0_2 a0_3 a0_4 bt231.1 bt231.2.1 bt231.2.2.1 bt231.2.2.2.1 bt231.2.2.2.2.1 bt231.2.2.2.2.2.1 bt231.2.2.2.2.2.2)) = some (r1, r2) := H
    have A5 := Aside0.mk A50
    clear A50
    replace H := Option.bind_eq_some_iff.mp H
    obtain ⟨⟨t231, t232, t233, t234, t235, t236, t237⟩, A60, H⟩ := H
    replace H : (capstanref04_Next.l0 k a1 t229 t230 0 a0_0 a0_1 a0_2 a0_3 a0_4 t231 t232 t233 t234 t235 t236 t237) = some (r1, r2) := H
    have A6 := Aside0.mk A60
    clear A60
    have H' := Aside0.mk H
    clear H
    go_enter Tryd.func20, Tryd.ntmps20
    go_wp2_with (first | ((with_reducible refine gate_dst (N := 2) rfl ?_); refine box_event ?hg (N := 2) ?hd (cs := #[.int .u64 a0_0, .int .u64 a0_1, .int .u64 a0_2, .int .u64 a0_3, .int .u64 a0_4]) (t := 25) ?hr ?_; (case hd => rfl); (case hg => rfl); (case hr => first | (go_simp; done) | (go_simp; rfl)); intro gb227 hg w7 hbox hb; have n0_ := Aside0.mk (below_step (by repeat (first | (with_reducible first | exact HB.out | apply below_alloc | apply pw_below_drewN | apply below_drew1) | exact HB.out)) hb); have n1_ := Aside0.mk (hbox); have n2_ := Aside0.mk ((by rw [hg]; exact (below_size (by repeat (first | (with_reducible first | exact HB.out | apply below_alloc | apply pw_below_drewN | apply below_drew1) | exact HB.out))) : w.heap.size ≤ gb227)); have n3_ := Aside0.mk ((by rw [hg]; exact (below_size (by repeat (first | (with_reducible first | exact HB.out | apply below_alloc | apply pw_below_drewN | apply below_drew1) | exact HB.out))) : w.heap.size ≤ gb227)); clear HB; have HB := n0_; have BK227 := n1_; have GW227 := n2_; have GE227 := n3_; clear n0_ n1_ n2_ n3_; clear hb hbox hg; have hcz8_0 : w7.cell? ⟨gb227, 0, none⟩ = some (.int .u64 a0_0) := (blk_cell BK227.out 0).trans rfl; have hcz8_1 : w7.cell? ⟨gb227, 1, none⟩ = some (.int .u64 a0_1) := (blk_cell BK227.out 1).trans rfl; have hcz8_2 : w7.cell? ⟨gb227, 2, none⟩ = some (.int .u64 a0_2) := (blk_cell BK227.out 2).trans rfl; have hcz8_3 : w7.cell? ⟨gb227, 3, none⟩ = some (.int .u64 a0_3) := (blk_cell BK227.out 3).trans rfl; have hcz8_4 : w7.cell? ⟨gb227, 4, none⟩ = some (.int .u64 a0_4) := (blk_cell BK227.out 4).trans rfl; have hfz8_0 := blk_frozen BK227.out 0; have hfz8_1 := blk_frozen BK227.out 1; have hfz8_2 := blk_frozen BK227.out 2; have hfz8_3 := blk_frozen BK227.out 3; have hfz8_4 := blk_frozen BK227.out 4) | (go_at_call 16; (with_reducible refine (Cw.rformed.calls a0_0 a0_1 a0_2 a0_3 a0_4 true _ A3.out).mono ?_); rintro e w9 ⟨rfl, hb⟩; have n0_ := Aside0.mk (blk_below (g := gb227) (o := .cells #[.int .u64 a0_0, .int .u64 a0_1, .int .u64 a0_2, .int .u64 a0_3, .int .u64 a0_4] 25 (0, 0)) (by (with_reducible repeat (first | refine blk_drewN ?_ _ | refine blk_drew ?_ | refine blk_alloc ?_ _)); exact BK227.out) hb); have n1_ := Aside0.mk (below_step (by repeat (first | (with_reducible first | exact HB.out | apply below_alloc | apply pw_below_drewN | apply below_drew1 | refine below_set ?_ GE227.out) | exact HB.out)) hb); clear BK227; clear HB; have BK227 := n0_; have HB := n1_; clear n0_ n1_; (try clear hb); (try clear hb2); (try clear hk); (try clear hi)) | (go_at_call 39; (with_reducible refine (capstanref03_Over.calls a1 86400 t229 t230 _ A5.out).mono ?_); rintro e w' ⟨rfl, ⟨nd, rfl⟩⟩; (try first | exact ⟨rfl, _, World.drewN_drewN _ _ _⟩ | exact ⟨rfl, _, Eq.trans (World.drewN_drewN _ _ _) (congrArg (World.drewN _) (Nat.add_assoc _ _ _))⟩)) | (go_at_call 36; (with_reducible refine (capstanref03_Of.calls k a1 t231 t232 t233 t234 t235 t236 t237 _ A6.out).mono ?_); rintro e w10 ⟨rfl, hb⟩; have n0_ := Aside0.mk (blk_below (g := gb227) (o := .cells #[.int .u64 a0_0, .int .u64 a0_1, .int .u64 a0_2, .int .u64 a0_3, .int .u64 a0_4] 25 (0, 0)) (by (with_reducible repeat (first | refine blk_drewN ?_ _ | refine blk_drew ?_ | refine blk_alloc ?_ _)); exact BK227.out) hb); have n1_ := Aside0.mk (below_step (by repeat (first | (with_reducible first | exact HB.out | apply below_alloc | apply pw_below_drewN | apply below_drew1 | refine below_set ?_ GE227.out) | exact HB.out)) hb); clear BK227; clear HB; have BK227 := n0_; have HB := n1_; clear n0_ n1_; (try clear hb); (try clear hb2); (try clear hk); (try clear hi)) | ((with_reducible refine gate_dst (N := 8) rfl ?_); refine box_event ?hg (N := 8) ?hd (cs := #[.int .i64 0, .int .i64 0, .int .i64 0, .int .i64 0, .int .i64 0, .int .i64 0, .int .i64 0]) (t := 58) ?hr ?_; (case hd => rfl); (case hg => rfl); (case hr => first | (go_simp; done) | (go_simp; rfl)); intro gb238 hg w11 hbox hb; have n0_ := Aside0.mk (blk_below (g := gb227) (o := .cells #[.int .u64 a0_0, .int .u64 a0_1, .int .u64 a0_2, .int .u64 a0_3, .int .u64 a0_4] 25 (0, 0)) (by (with_reducible repeat (first | refine blk_drewN ?_ _ | refine blk_drew ?_ | refine blk_alloc ?_ _)); exact BK227.out) hb); have n1_ := Aside0.mk (below_step (by repeat (first | (with_reducible first | exact HB.out | apply below_alloc | apply pw_below_drewN | apply below_drew1 | refine below_set ?_ GE227.out) | exact HB.out)) hb); have n2_ := Aside0.mk (hbox); have n3_ := Aside0.mk ((by rw [hg]; exact (below_size (by repeat (first | (with_reducible first | exact HB.out | apply below_alloc | apply pw_below_drewN | apply below_drew1 | refine below_set ?_ GE227.out) | exact HB.out))) : w.heap.size ≤ gb238)); have n4_ := Aside0.mk ((by rw [hg]; exact (below_size (by repeat (first | (with_reducible first | exact HB.out | apply below_alloc | apply pw_below_drewN | apply below_drew1 | refine below_set ?_ GE227.out) | exact HB.out))) : w.heap.size ≤ gb238)); have n5_ := Aside0.mk ((by rw [hg]; exact Nat.ne_of_lt (blk_lt (g := gb227) (o := .cells #[.int .u64 a0_0, .int .u64 a0_1, .int .u64 a0_2, .int .u64 a0_3, .int .u64 a0_4] 25 (0, 0)) (by (with_reducible repeat (first | refine blk_drewN ?_ _ | refine blk_drew ?_ | refine blk_alloc ?_ _)); exact BK227.out)) : gb227 ≠ gb238)); have n6_ := Aside0.mk ((by rw [hg]; exact Nat.ne_of_gt (blk_lt (g := gb227) (o := .cells #[.int .u64 a0_0, .int .u64 a0_1, .int .u64 a0_2, .int .u64 a0_3, .int .u64 a0_4] 25 (0, 0)) (by (with_reducible repeat (first | refine blk_drewN ?_ _ | refine blk_drew ?_ | refine blk_alloc ?_ _)); exact BK227.out)) : gb238 ≠ gb227)); clear BK227; clear HB; have BK227 := n0_; have HB := n1_; have BK238 := n2_; have GW238 := n3_; have GE238 := n4_; have NB227_238 := n5_; have NB238_227 := n6_; clear n0_ n1_ n2_ n3_ n4_ n5_ n6_; clear hb hbox hg; have hnb12 := NB238_227.out; have hnc12 := NB227_238.out; have hcz13_0 : w11.cell? ⟨gb238, 0, none⟩ = some (.int .i64 0) := (blk_cell BK238.out 0).trans rfl; have hcz13_1 : w11.cell? ⟨gb238, 1, none⟩ = some (.int .i64 0) := (blk_cell BK238.out 1).trans rfl; have hcz13_2 : w11.cell? ⟨gb238, 2, none⟩ = some (.int .i64 0) := (blk_cell BK238.out 2).trans rfl; have hcz13_3 : w11.cell? ⟨gb238, 3, none⟩ = some (.int .i64 0) := (blk_cell BK238.out 3).trans rfl; have hcz13_4 : w11.cell? ⟨gb238, 4, none⟩ = some (.int .i64 0) := (blk_cell BK238.out 4).trans rfl; have hcz13_5 : w11.cell? ⟨gb238, 5, none⟩ = some (.int .i64 0) := (blk_cell BK238.out 5).trans rfl; have hcz13_6 : w11.cell? ⟨gb238, 6, none⟩ = some (.int .i64 0) := (blk_cell BK238.out 6).trans rfl; have hfz13_0 := blk_frozen BK238.out 0; have hfz13_1 := blk_frozen BK238.out 1; have hfz13_2 := blk_frozen BK238.out 2; have hfz13_3 := blk_frozen BK238.out 3; have hfz13_4 := blk_frozen BK238.out 4; have hfz13_5 := blk_frozen BK238.out 5; have hfz13_6 := blk_frozen BK238.out 6))
    repeat (go_quiet (first | ((with_reducible refine gate_dst (N := 2) rfl ?_); refine box_event ?hg (N := 2) ?hd (cs := #[.int .u64 a0_0, .int .u64 a0_1, .int .u64 a0_2, .int .u64 a0_3, .int .u64 a0_4]) (t := 25) ?hr ?_; (case hd => rfl); (case hg => rfl); (case hr => first | (go_simp; done) | (go_simp; rfl)); intro gb227 hg w7 hbox hb; have n0_ := Aside0.mk (below_step (by repeat (first | (with_reducible first | exact HB.out | apply below_alloc | apply pw_below_drewN | apply below_drew1) | exact HB.out)) hb); have n1_ := Aside0.mk (hbox); have n2_ := Aside0.mk ((by rw [hg]; exact (below_size (by repeat (first | (with_reducible first | exact HB.out | apply below_alloc | apply pw_below_drewN | apply below_drew1) | exact HB.out))) : w.heap.size ≤ gb227)); have n3_ := Aside0.mk ((by rw [hg]; exact (below_size (by repeat (first | (with_reducible first | exact HB.out | apply below_alloc | apply pw_below_drewN | apply below_drew1) | exact HB.out))) : w.heap.size ≤ gb227)); clear HB; have HB := n0_; have BK227 := n1_; have GW227 := n2_; have GE227 := n3_; clear n0_ n1_ n2_ n3_; clear hb hbox hg; have hcz8_0 : w7.cell? ⟨gb227, 0, none⟩ = some (.int .u64 a0_0) := (blk_cell BK227.out 0).trans rfl; have hcz8_1 : w7.cell? ⟨gb227, 1, none⟩ = some (.int .u64 a0_1) := (blk_cell BK227.out 1).trans rfl; have hcz8_2 : w7.cell? ⟨gb227, 2, none⟩ = some (.int .u64 a0_2) := (blk_cell BK227.out 2).trans rfl; have hcz8_3 : w7.cell? ⟨gb227, 3, none⟩ = some (.int .u64 a0_3) := (blk_cell BK227.out 3).trans rfl; have hcz8_4 : w7.cell? ⟨gb227, 4, none⟩ = some (.int .u64 a0_4) := (blk_cell BK227.out 4).trans rfl; have hfz8_0 := blk_frozen BK227.out 0; have hfz8_1 := blk_frozen BK227.out 1; have hfz8_2 := blk_frozen BK227.out 2; have hfz8_3 := blk_frozen BK227.out 3; have hfz8_4 := blk_frozen BK227.out 4) | (go_at_call 16; (with_reducible refine (Cw.rformed.calls a0_0 a0_1 a0_2 a0_3 a0_4 true _ A3.out).mono ?_); rintro e w9 ⟨rfl, hb⟩; have n0_ := Aside0.mk (blk_below (g := gb227) (o := .cells #[.int .u64 a0_0, .int .u64 a0_1, .int .u64 a0_2, .int .u64 a0_3, .int .u64 a0_4] 25 (0, 0)) (by (with_reducible repeat (first | refine blk_drewN ?_ _ | refine blk_drew ?_ | refine blk_alloc ?_ _)); exact BK227.out) hb); have n1_ := Aside0.mk (below_step (by repeat (first | (with_reducible first | exact HB.out | apply below_alloc | apply pw_below_drewN | apply below_drew1 | refine below_set ?_ GE227.out) | exact HB.out)) hb); clear BK227; clear HB; have BK227 := n0_; have HB := n1_; clear n0_ n1_; (try clear hb); (try clear hb2); (try clear hk); (try clear hi)) | (go_at_call 39; (with_reducible refine (capstanref03_Over.calls a1 86400 t229 t230 _ A5.out).mono ?_); rintro e w' ⟨rfl, ⟨nd, rfl⟩⟩; (try first | exact ⟨rfl, _, World.drewN_drewN _ _ _⟩ | exact ⟨rfl, _, Eq.trans (World.drewN_drewN _ _ _) (congrArg (World.drewN _) (Nat.add_assoc _ _ _))⟩)) | (go_at_call 36; (with_reducible refine (capstanref03_Of.calls k a1 t231 t232 t233 t234 t235 t236 t237 _ A6.out).mono ?_); rintro e w10 ⟨rfl, hb⟩; have n0_ := Aside0.mk (blk_below (g := gb227) (o := .cells #[.int .u64 a0_0, .int .u64 a0_1, .int .u64 a0_2, .int .u64 a0_3, .int .u64 a0_4] 25 (0, 0)) (by (with_reducible repeat (first | refine blk_drewN ?_ _ | refine blk_drew ?_ | refine blk_alloc ?_ _)); exact BK227.out) hb); have n1_ := Aside0.mk (below_step (by repeat (first | (with_reducible first | exact HB.out | apply below_alloc | apply pw_below_drewN | apply below_drew1 | refine below_set ?_ GE227.out) | exact HB.out)) hb); clear BK227; clear HB; have BK227 := n0_; have HB := n1_; clear n0_ n1_; (try clear hb); (try clear hb2); (try clear hk); (try clear hi)) | ((with_reducible refine gate_dst (N := 8) rfl ?_); refine box_event ?hg (N := 8) ?hd (cs := #[.int .i64 0, .int .i64 0, .int .i64 0, .int .i64 0, .int .i64 0, .int .i64 0, .int .i64 0]) (t := 58) ?hr ?_; (case hd => rfl); (case hg => rfl); (case hr => first | (go_simp; done) | (go_simp; rfl)); intro gb238 hg w11 hbox hb; have n0_ := Aside0.mk (blk_below (g := gb227) (o := .cells #[.int .u64 a0_0, .int .u64 a0_1, .int .u64 a0_2, .int .u64 a0_3, .int .u64 a0_4] 25 (0, 0)) (by (with_reducible repeat (first | refine blk_drewN ?_ _ | refine blk_drew ?_ | refine blk_alloc ?_ _)); exact BK227.out) hb); have n1_ := Aside0.mk (below_step (by repeat (first | (with_reducible first | exact HB.out | apply below_alloc | apply pw_below_drewN | apply below_drew1 | refine below_set ?_ GE227.out) | exact HB.out)) hb); have n2_ := Aside0.mk (hbox); have n3_ := Aside0.mk ((by rw [hg]; exact (below_size (by repeat (first | (with_reducible first | exact HB.out | apply below_alloc | apply pw_below_drewN | apply below_drew1 | refine below_set ?_ GE227.out) | exact HB.out))) : w.heap.size ≤ gb238)); have n4_ := Aside0.mk ((by rw [hg]; exact (below_size (by repeat (first | (with_reducible first | exact HB.out | apply below_alloc | apply pw_below_drewN | apply below_drew1 | refine below_set ?_ GE227.out) | exact HB.out))) : w.heap.size ≤ gb238)); have n5_ := Aside0.mk ((by rw [hg]; exact Nat.ne_of_lt (blk_lt (g := gb227) (o := .cells #[.int .u64 a0_0, .int .u64 a0_1, .int .u64 a0_2, .int .u64 a0_3, .int .u64 a0_4] 25 (0, 0)) (by (with_reducible repeat (first | refine blk_drewN ?_ _ | refine blk_drew ?_ | refine blk_alloc ?_ _)); exact BK227.out)) : gb227 ≠ gb238)); have n6_ := Aside0.mk ((by rw [hg]; exact Nat.ne_of_gt (blk_lt (g := gb227) (o := .cells #[.int .u64 a0_0, .int .u64 a0_1, .int .u64 a0_2, .int .u64 a0_3, .int .u64 a0_4] 25 (0, 0)) (by (with_reducible repeat (first | refine blk_drewN ?_ _ | refine blk_drew ?_ | refine blk_alloc ?_ _)); exact BK227.out)) : gb238 ≠ gb227)); clear BK227; clear HB; have BK227 := n0_; have HB := n1_; have BK238 := n2_; have GW238 := n3_; have GE238 := n4_; have NB227_238 := n5_; have NB238_227 := n6_; clear n0_ n1_ n2_ n3_ n4_ n5_ n6_; clear hb hbox hg; have hnb12 := NB238_227.out; have hnc12 := NB227_238.out; have hcz13_0 : w11.cell? ⟨gb238, 0, none⟩ = some (.int .i64 0) := (blk_cell BK238.out 0).trans rfl; have hcz13_1 : w11.cell? ⟨gb238, 1, none⟩ = some (.int .i64 0) := (blk_cell BK238.out 1).trans rfl; have hcz13_2 : w11.cell? ⟨gb238, 2, none⟩ = some (.int .i64 0) := (blk_cell BK238.out 2).trans rfl; have hcz13_3 : w11.cell? ⟨gb238, 3, none⟩ = some (.int .i64 0) := (blk_cell BK238.out 3).trans rfl; have hcz13_4 : w11.cell? ⟨gb238, 4, none⟩ = some (.int .i64 0) := (blk_cell BK238.out 4).trans rfl; have hcz13_5 : w11.cell? ⟨gb238, 5, none⟩ = some (.int .i64 0) := (blk_cell BK238.out 5).trans rfl; have hcz13_6 : w11.cell? ⟨gb238, 6, none⟩ = some (.int .i64 0) := (blk_cell BK238.out 6).trans rfl; have hfz13_0 := blk_frozen BK238.out 0; have hfz13_1 := blk_frozen BK238.out 1; have hfz13_2 := blk_frozen BK238.out 2; have hfz13_3 := blk_frozen BK238.out 3; have hfz13_4 := blk_frozen BK238.out 4; have hfz13_5 := blk_frozen BK238.out 5; have hfz13_6 := blk_frozen BK238.out 6)); try go_wp2_with (first | ((with_reducible refine gate_dst (N := 2) rfl ?_); refine box_event ?hg (N := 2) ?hd (cs := #[.int .u64 a0_0, .int .u64 a0_1, .int .u64 a0_2, .int .u64 a0_3, .int .u64 a0_4]) (t := 25) ?hr ?_; (case hd => rfl); (case hg => rfl); (case hr => first | (go_simp; done) | (go_simp; rfl)); intro gb227 hg w7 hbox hb; have n0_ := Aside0.mk (below_step (by repeat (first | (with_reducible first | exact HB.out | apply below_alloc | apply pw_below_drewN | apply below_drew1) | exact HB.out)) hb); have n1_ := Aside0.mk (hbox); have n2_ := Aside0.mk ((by rw [hg]; exact (below_size (by repeat (first | (with_reducible first | exact HB.out | apply below_alloc | apply pw_below_drewN | apply below_drew1) | exact HB.out))) : w.heap.size ≤ gb227)); have n3_ := Aside0.mk ((by rw [hg]; exact (below_size (by repeat (first | (with_reducible first | exact HB.out | apply below_alloc | apply pw_below_drewN | apply below_drew1) | exact HB.out))) : w.heap.size ≤ gb227)); clear HB; have HB := n0_; have BK227 := n1_; have GW227 := n2_; have GE227 := n3_; clear n0_ n1_ n2_ n3_; clear hb hbox hg; have hcz8_0 : w7.cell? ⟨gb227, 0, none⟩ = some (.int .u64 a0_0) := (blk_cell BK227.out 0).trans rfl; have hcz8_1 : w7.cell? ⟨gb227, 1, none⟩ = some (.int .u64 a0_1) := (blk_cell BK227.out 1).trans rfl; have hcz8_2 : w7.cell? ⟨gb227, 2, none⟩ = some (.int .u64 a0_2) := (blk_cell BK227.out 2).trans rfl; have hcz8_3 : w7.cell? ⟨gb227, 3, none⟩ = some (.int .u64 a0_3) := (blk_cell BK227.out 3).trans rfl; have hcz8_4 : w7.cell? ⟨gb227, 4, none⟩ = some (.int .u64 a0_4) := (blk_cell BK227.out 4).trans rfl; have hfz8_0 := blk_frozen BK227.out 0; have hfz8_1 := blk_frozen BK227.out 1; have hfz8_2 := blk_frozen BK227.out 2; have hfz8_3 := blk_frozen BK227.out 3; have hfz8_4 := blk_frozen BK227.out 4) | (go_at_call 16; (with_reducible refine (Cw.rformed.calls a0_0 a0_1 a0_2 a0_3 a0_4 true _ A3.out).mono ?_); rintro e w9 ⟨rfl, hb⟩; have n0_ := Aside0.mk (blk_below (g := gb227) (o := .cells #[.int .u64 a0_0, .int .u64 a0_1, .int .u64 a0_2, .int .u64 a0_3, .int .u64 a0_4] 25 (0, 0)) (by (with_reducible repeat (first | refine blk_drewN ?_ _ | refine blk_drew ?_ | refine blk_alloc ?_ _)); exact BK227.out) hb); have n1_ := Aside0.mk (below_step (by repeat (first | (with_reducible first | exact HB.out | apply below_alloc | apply pw_below_drewN | apply below_drew1 | refine below_set ?_ GE227.out) | exact HB.out)) hb); clear BK227; clear HB; have BK227 := n0_; have HB := n1_; clear n0_ n1_; (try clear hb); (try clear hb2); (try clear hk); (try clear hi)) | (go_at_call 39; (with_reducible refine (capstanref03_Over.calls a1 86400 t229 t230 _ A5.out).mono ?_); rintro e w' ⟨rfl, ⟨nd, rfl⟩⟩; (try first | exact ⟨rfl, _, World.drewN_drewN _ _ _⟩ | exact ⟨rfl, _, Eq.trans (World.drewN_drewN _ _ _) (congrArg (World.drewN _) (Nat.add_assoc _ _ _))⟩)) | (go_at_call 36; (with_reducible refine (capstanref03_Of.calls k a1 t231 t232 t233 t234 t235 t236 t237 _ A6.out).mono ?_); rintro e w10 ⟨rfl, hb⟩; have n0_ := Aside0.mk (blk_below (g := gb227) (o := .cells #[.int .u64 a0_0, .int .u64 a0_1, .int .u64 a0_2, .int .u64 a0_3, .int .u64 a0_4] 25 (0, 0)) (by (with_reducible repeat (first | refine blk_drewN ?_ _ | refine blk_drew ?_ | refine blk_alloc ?_ _)); exact BK227.out) hb); have n1_ := Aside0.mk (below_step (by repeat (first | (with_reducible first | exact HB.out | apply below_alloc | apply pw_below_drewN | apply below_drew1 | refine below_set ?_ GE227.out) | exact HB.out)) hb); clear BK227; clear HB; have BK227 := n0_; have HB := n1_; clear n0_ n1_; (try clear hb); (try clear hb2); (try clear hk); (try clear hi)) | ((with_reducible refine gate_dst (N := 8) rfl ?_); refine box_event ?hg (N := 8) ?hd (cs := #[.int .i64 0, .int .i64 0, .int .i64 0, .int .i64 0, .int .i64 0, .int .i64 0, .int .i64 0]) (t := 58) ?hr ?_; (case hd => rfl); (case hg => rfl); (case hr => first | (go_simp; done) | (go_simp; rfl)); intro gb238 hg w11 hbox hb; have n0_ := Aside0.mk (blk_below (g := gb227) (o := .cells #[.int .u64 a0_0, .int .u64 a0_1, .int .u64 a0_2, .int .u64 a0_3, .int .u64 a0_4] 25 (0, 0)) (by (with_reducible repeat (first | refine blk_drewN ?_ _ | refine blk_drew ?_ | refine blk_alloc ?_ _)); exact BK227.out) hb); have n1_ := Aside0.mk (below_step (by repeat (first | (with_reducible first | exact HB.out | apply below_alloc | apply pw_below_drewN | apply below_drew1 | refine below_set ?_ GE227.out) | exact HB.out)) hb); have n2_ := Aside0.mk (hbox); have n3_ := Aside0.mk ((by rw [hg]; exact (below_size (by repeat (first | (with_reducible first | exact HB.out | apply below_alloc | apply pw_below_drewN | apply below_drew1 | refine below_set ?_ GE227.out) | exact HB.out))) : w.heap.size ≤ gb238)); have n4_ := Aside0.mk ((by rw [hg]; exact (below_size (by repeat (first | (with_reducible first | exact HB.out | apply below_alloc | apply pw_below_drewN | apply below_drew1 | refine below_set ?_ GE227.out) | exact HB.out))) : w.heap.size ≤ gb238)); have n5_ := Aside0.mk ((by rw [hg]; exact Nat.ne_of_lt (blk_lt (g := gb227) (o := .cells #[.int .u64 a0_0, .int .u64 a0_1, .int .u64 a0_2, .int .u64 a0_3, .int .u64 a0_4] 25 (0, 0)) (by (with_reducible repeat (first | refine blk_drewN ?_ _ | refine blk_drew ?_ | refine blk_alloc ?_ _)); exact BK227.out)) : gb227 ≠ gb238)); have n6_ := Aside0.mk ((by rw [hg]; exact Nat.ne_of_gt (blk_lt (g := gb227) (o := .cells #[.int .u64 a0_0, .int .u64 a0_1, .int .u64 a0_2, .int .u64 a0_3, .int .u64 a0_4] 25 (0, 0)) (by (with_reducible repeat (first | refine blk_drewN ?_ _ | refine blk_drew ?_ | refine blk_alloc ?_ _)); exact BK227.out)) : gb238 ≠ gb227)); clear BK227; clear HB; have BK227 := n0_; have HB := n1_; have BK238 := n2_; have GW238 := n3_; have GE238 := n4_; have NB227_238 := n5_; have NB238_227 := n6_; clear n0_ n1_ n2_ n3_ n4_ n5_ n6_; clear hb hbox hg; have hnb12 := NB238_227.out; have hnc12 := NB227_238.out; have hcz13_0 : w11.cell? ⟨gb238, 0, none⟩ = some (.int .i64 0) := (blk_cell BK238.out 0).trans rfl; have hcz13_1 : w11.cell? ⟨gb238, 1, none⟩ = some (.int .i64 0) := (blk_cell BK238.out 1).trans rfl; have hcz13_2 : w11.cell? ⟨gb238, 2, none⟩ = some (.int .i64 0) := (blk_cell BK238.out 2).trans rfl; have hcz13_3 : w11.cell? ⟨gb238, 3, none⟩ = some (.int .i64 0) := (blk_cell BK238.out 3).trans rfl; have hcz13_4 : w11.cell? ⟨gb238, 4, none⟩ = some (.int .i64 0) := (blk_cell BK238.out 4).trans rfl; have hcz13_5 : w11.cell? ⟨gb238, 5, none⟩ = some (.int .i64 0) := (blk_cell BK238.out 5).trans rfl; have hcz13_6 : w11.cell? ⟨gb238, 6, none⟩ = some (.int .i64 0) := (blk_cell BK238.out 6).trans rfl; have hfz13_0 := blk_frozen BK238.out 0; have hfz13_1 := blk_frozen BK238.out 1; have hfz13_2 := blk_frozen BK238.out 2; have hfz13_3 := blk_frozen BK238.out 3; have hfz13_4 := blk_frozen BK238.out 4; have hfz13_5 := blk_frozen BK238.out 5; have hfz13_6 := blk_frozen BK238.out 6)))
    go_loopg [9] k (fun kq v9 w' => ∃ (x9_1 : Int) (x239000_1 : Int) (x239001_1 : Int) (x239002_1 : Int) (x239006_1 : Int), v9 = .int .i64 x9_1 ∧ Aside0 (capstanref04_Next.l0 kq a1 t229 t230 x9_1 a0_0 a0_1 a0_2 a0_3 a0_4 x239000_1 x239001_1 x239002_1 t234 t235 t236 x239006_1 = some (r1, r2)) ∧ Aside0 (kq ≤ k) ∧ Aside0 (w'.heap[gb227]? = some (.cells #[.int .u64 a0_0, .int .u64 a0_1, .int .u64 a0_2, .int .u64 a0_3, .int .u64 a0_4] 25 (0, 0))) ∧ Aside0 (w'.heap[gb238]? = some (.cells #[.int .i64 x239000_1, .int .i64 x239001_1, .int .i64 x239002_1, .int .i64 t234, .int .i64 t235, .int .i64 t236, .int .i64 x239006_1] 58 (0, 0))) ∧ Aside0 (Below w.heap.size w w'))
    case atStart => exact ⟨(0), (t231), (t232), (t233), (t237), (by first | rfl | (simp; done) | (simp [*]; done)), H', ⟨Nat.le_refl _⟩, ⟨by (with_reducible repeat (first | refine blk_drewN ?_ _ | refine blk_drew ?_ | refine blk_alloc ?_ _)); refine blk_far ?_ NB227_238.out _; (with_reducible repeat (first | refine blk_drewN ?_ _ | refine blk_drew ?_ | refine blk_alloc ?_ _)); refine blk_far ?_ NB227_238.out _; (with_reducible repeat (first | refine blk_drewN ?_ _ | refine blk_drew ?_ | refine blk_alloc ?_ _)); refine blk_far ?_ NB227_238.out _; (with_reducible repeat (first | refine blk_drewN ?_ _ | refine blk_drew ?_ | refine blk_alloc ?_ _)); refine blk_far ?_ NB227_238.out _; (with_reducible repeat (first | refine blk_drewN ?_ _ | refine blk_drew ?_ | refine blk_alloc ?_ _)); refine blk_far ?_ NB227_238.out _; (with_reducible repeat (first | refine blk_drewN ?_ _ | refine blk_drew ?_ | refine blk_alloc ?_ _)); refine blk_far ?_ NB227_238.out _; (with_reducible repeat (first | refine blk_drewN ?_ _ | refine blk_drew ?_ | refine blk_alloc ?_ _)); refine blk_far ?_ NB227_238.out _; (with_reducible repeat (first | refine blk_drewN ?_ _ | refine blk_drew ?_ | refine blk_alloc ?_ _)); exact BK227.out⟩, ⟨by (with_reducible repeat (first | refine blk_drewN ?_ _ | refine blk_drew ?_ | refine blk_alloc ?_ _)); refine blk_put (cs := #[.int .i64 t231, .int .i64 t232, .int .i64 t233, .int .i64 t234, .int .i64 t235, .int .i64 t236, .int .i64 0]) ?_ 6 _ rfl; (with_reducible repeat (first | refine blk_drewN ?_ _ | refine blk_drew ?_ | refine blk_alloc ?_ _)); refine blk_put (cs := #[.int .i64 t231, .int .i64 t232, .int .i64 t233, .int .i64 t234, .int .i64 t235, .int .i64 0, .int .i64 0]) ?_ 5 _ rfl; (with_reducible repeat (first | refine blk_drewN ?_ _ | refine blk_drew ?_ | refine blk_alloc ?_ _)); refine blk_put (cs := #[.int .i64 t231, .int .i64 t232, .int .i64 t233, .int .i64 t234, .int .i64 0, .int .i64 0, .int .i64 0]) ?_ 4 _ rfl; (with_reducible repeat (first | refine blk_drewN ?_ _ | refine blk_drew ?_ | refine blk_alloc ?_ _)); refine blk_put (cs := #[.int .i64 t231, .int .i64 t232, .int .i64 t233, .int .i64 0, .int .i64 0, .int .i64 0, .int .i64 0]) ?_ 3 _ rfl; (with_reducible repeat (first | refine blk_drewN ?_ _ | refine blk_drew ?_ | refine blk_alloc ?_ _)); refine blk_put (cs := #[.int .i64 t231, .int .i64 t232, .int .i64 0, .int .i64 0, .int .i64 0, .int .i64 0, .int .i64 0]) ?_ 2 _ rfl; (with_reducible repeat (first | refine blk_drewN ?_ _ | refine blk_drew ?_ | refine blk_alloc ?_ _)); refine blk_put (cs := #[.int .i64 t231, .int .i64 0, .int .i64 0, .int .i64 0, .int .i64 0, .int .i64 0, .int .i64 0]) ?_ 1 _ rfl; (with_reducible repeat (first | refine blk_drewN ?_ _ | refine blk_drew ?_ | refine blk_alloc ?_ _)); refine blk_put (cs := #[.int .i64 0, .int .i64 0, .int .i64 0, .int .i64 0, .int .i64 0, .int .i64 0, .int .i64 0]) ?_ 0 _ rfl; (with_reducible repeat (first | refine blk_drewN ?_ _ | refine blk_drew ?_ | refine blk_alloc ?_ _)); exact BK238.out⟩, ⟨by repeat (first | (with_reducible first | exact HB.out | apply below_alloc | apply pw_below_drewN | apply below_drew1 | refine below_set ?_ GE227.out | refine below_set ?_ GE238.out) | exact HB.out)⟩⟩
    case round =>
      clear H'
      try clear c1
      try clear c2
      try clear p2
      try clear c4
      try clear c12
      try clear hcz13_0
      try clear hcz13_1
      try clear hcz13_2
      try clear hcz13_3
      try clear hcz13_4
      try clear hcz13_5
      try clear hcz13_6
      try clear hcz8_0
      try clear hcz8_1
      try clear hcz8_2
      try clear hcz8_3
      try clear hcz8_4
      try clear hfz13_0
      try clear hfz13_1
      try clear hfz13_2
      try clear hfz13_3
      try clear hfz13_4
      try clear hfz13_5
      try clear hfz13_6
      try clear hfz8_0
      try clear hfz8_1
      try clear hfz8_2
      try clear hfz8_3
      try clear hfz8_4
      obtain ⟨x9_1, x239000_1, x239001_1, x239002_1, x239006_1, rfl, HA, HK1, BK227, BK238, HB⟩ := hrel
      cases gk with
      | zero => exact absurd HA.out (by simp [capstanref04_Next.l0])
      | succ k1 =>
        have H := HA.out
        clear HA
        simp only [capstanref04_Next.l0] at H
        by_cases c14 : x9_1 < 10228
        · rw [if_pos c14] at H
          have c14b0 : decide (x9_1 < 10228) = true := decide_eq_true c14
          clear c14
          have HC15 := Aside0.mk H
          clear H
          go_upto_region 8 with (fail)
          repeat (go_quiet (fail); go_upto_region 8 with (fail))
          go_cut [45] (fun v45 wc => ∃ (kq : Nat) (x45_14 : Bool), v45 = .bool x45_14 ∧ Aside0 (capstanref04_Next.j1 kq a1 t229 t230 x9_1 x45_14 a0_0 a0_1 a0_2 a0_3 a0_4 x239000_1 x239001_1 x239002_1 t234 t235 t236 x239006_1 = some (r1, r2)) ∧ Aside0 (kq ≤ k1) ∧ Aside0 (wc.heap[gb227]? = some (.cells #[.int .u64 a0_0, .int .u64 a0_1, .int .u64 a0_2, .int .u64 a0_3, .int .u64 a0_4] 25 (0, 0))) ∧ Aside0 (wc.heap[gb238]? = some (.cells #[.int .i64 x239000_1, .int .i64 x239001_1, .int .i64 x239002_1, .int .i64 t234, .int .i64 t235, .int .i64 t236, .int .i64 x239006_1] 58 (0, 0))) ∧ Aside0 (Below w.heap.size w wc))
          case first =>
            have H := HC15.out
            clear HC15
            replace H := Option.bind_eq_some_iff.mp H
            obtain ⟨t239, A160, H⟩ := H
            replace H : (if t239 = true then ((capstanref04_Has.f a0_3 x239001_1).bind fun t240 => (if t240 = true then ((capstanref04_Has.f a0_4 x239006_1).bind fun t241 => (capstanref04_Next.j1 k1 a1 t229 t230 x9_1 t241 a0_0 a0_1 a0_2 a0_3 a0_4 x239000_1 x239001_1 x239002_1 t234 t235 t236 x239006_1)) else (capstanref04_Next.j1 k1 a1 t229 t230 x9_1 false a0_0 a0_1 a0_2 a0_3 a0_4 x239000_1 x239001_1 x239002_1 t234 t235 t236 x239006_1))) else (capstanref04_Next.j1 k1 a1 t229 t230 x9_1 false a0_0 a0_1 a0_2 a0_3 a0_4 x239000_1 x239001_1 x239002_1 t234 t235 t236 x239006_1)) = some (r1, r2) := H
            have A16 := Aside0.mk A160
            clear A160
            by_cases c17 : t239 = true
            · subst c17
              have H1 : ((capstanref04_Has.f a0_3 x239001_1).bind fun t240 => (if t240 = true then ((capstanref04_Has.f a0_4 x239006_1).bind fun t241 => (capstanref04_Next.j1 k1 a1 t229 t230 x9_1 t241 a0_0 a0_1 a0_2 a0_3 a0_4 x239000_1 x239001_1 x239002_1 t234 t235 t236 x239006_1)) else (capstanref04_Next.j1 k1 a1 t229 t230 x9_1 false a0_0 a0_1 a0_2 a0_3 a0_4 x239000_1 x239001_1 x239002_1 t234 t235 t236 x239006_1))) = some (r1, r2) := by rw [if_pos rfl] at H; exact H
              clear H
              have H := H1
              clear H1
              replace H := Option.bind_eq_some_iff.mp H
              obtain ⟨t240, A180, H⟩ := H
              replace H : (if t240 = true then ((capstanref04_Has.f a0_4 x239006_1).bind fun t241 => (capstanref04_Next.j1 k1 a1 t229 t230 x9_1 t241 a0_0 a0_1 a0_2 a0_3 a0_4 x239000_1 x239001_1 x239002_1 t234 t235 t236 x239006_1)) else (capstanref04_Next.j1 k1 a1 t229 t230 x9_1 false a0_0 a0_1 a0_2 a0_3 a0_4 x239000_1 x239001_1 x239002_1 t234 t235 t236 x239006_1)) = some (r1, r2) := H
              have A18 := Aside0.mk A180
              clear A180
              by_cases c19 : t240 = true
              · subst c19
                have H1 : ((capstanref04_Has.f a0_4 x239006_1).bind fun t241 => (capstanref04_Next.j1 k1 a1 t229 t230 x9_1 t241 a0_0 a0_1 a0_2 a0_3 a0_4 x239000_1 x239001_1 x239002_1 t234 t235 t236 x239006_1)) = some (r1, r2) := by rw [if_pos rfl] at H; exact H
                clear H
                have H := H1
                clear H1
                replace H := Option.bind_eq_some_iff.mp H
                obtain ⟨t241, A200, H⟩ := H
                replace H : (capstanref04_Next.j1 k1 a1 t229 t230 x9_1 t241 a0_0 a0_1 a0_2 a0_3 a0_4 x239000_1 x239001_1 x239002_1 t234 t235 t236 x239006_1) = some (r1, r2) := H
                have A20 := Aside0.mk A200
                clear A200
                have H' := Aside0.mk H
                clear H
                have hnb21 := NB227_238.out
                have hnc21 := NB238_227.out
                have hcz22_0 : wr.cell? ⟨gb227, 0, none⟩ = some (.int .u64 a0_0) := (blk_cell BK227.out 0).trans rfl
                have hcz22_1 : wr.cell? ⟨gb227, 1, none⟩ = some (.int .u64 a0_1) := (blk_cell BK227.out 1).trans rfl
                have hcz22_2 : wr.cell? ⟨gb227, 2, none⟩ = some (.int .u64 a0_2) := (blk_cell BK227.out 2).trans rfl
                have hcz22_3 : wr.cell? ⟨gb227, 3, none⟩ = some (.int .u64 a0_3) := (blk_cell BK227.out 3).trans rfl
                have hcz22_4 : wr.cell? ⟨gb227, 4, none⟩ = some (.int .u64 a0_4) := (blk_cell BK227.out 4).trans rfl
                have hfz22_0 := blk_frozen BK227.out 0
                have hfz22_1 := blk_frozen BK227.out 1
                have hfz22_2 := blk_frozen BK227.out 2
                have hfz22_3 := blk_frozen BK227.out 3
                have hfz22_4 := blk_frozen BK227.out 4
                have hcz23_0 : wr.cell? ⟨gb238, 0, none⟩ = some (.int .i64 x239000_1) := (blk_cell BK238.out 0).trans rfl
                have hcz23_1 : wr.cell? ⟨gb238, 1, none⟩ = some (.int .i64 x239001_1) := (blk_cell BK238.out 1).trans rfl
                have hcz23_2 : wr.cell? ⟨gb238, 2, none⟩ = some (.int .i64 x239002_1) := (blk_cell BK238.out 2).trans rfl
                have hcz23_3 : wr.cell? ⟨gb238, 3, none⟩ = some (.int .i64 t234) := (blk_cell BK238.out 3).trans rfl
                have hcz23_4 : wr.cell? ⟨gb238, 4, none⟩ = some (.int .i64 t235) := (blk_cell BK238.out 4).trans rfl
                have hcz23_5 : wr.cell? ⟨gb238, 5, none⟩ = some (.int .i64 t236) := (blk_cell BK238.out 5).trans rfl
                have hcz23_6 : wr.cell? ⟨gb238, 6, none⟩ = some (.int .i64 x239006_1) := (blk_cell BK238.out 6).trans rfl
                have hfz23_0 := blk_frozen BK238.out 0
                have hfz23_1 := blk_frozen BK238.out 1
                have hfz23_2 := blk_frozen BK238.out 2
                have hfz23_3 := blk_frozen BK238.out 3
                have hfz23_4 := blk_frozen BK238.out 4
                have hfz23_5 := blk_frozen BK238.out 5
                have hfz23_6 := blk_frozen BK238.out 6
                go_wp2_with (first | (go_at_call 30; (with_reducible refine (capstanref04_Has.calls a0_2 x239002_1 true _ A16.out).mono ?_); rintro e w' ⟨rfl, ⟨nd, rfl⟩⟩; (try first | exact ⟨rfl, _, World.drewN_drewN _ _ _⟩ | exact ⟨rfl, _, Eq.trans (World.drewN_drewN _ _ _) (congrArg (World.drewN _) (Nat.add_assoc _ _ _))⟩)) | (go_at_call 30; (with_reducible refine (capstanref04_Has.calls a0_3 x239001_1 true _ A18.out).mono ?_); rintro e w' ⟨rfl, ⟨nd, rfl⟩⟩; (try first | exact ⟨rfl, _, World.drewN_drewN _ _ _⟩ | exact ⟨rfl, _, Eq.trans (World.drewN_drewN _ _ _) (congrArg (World.drewN _) (Nat.add_assoc _ _ _))⟩)) | (go_at_call 30; (with_reducible refine (capstanref04_Has.calls a0_4 x239006_1 t241 _ A20.out).mono ?_); rintro e w' ⟨rfl, ⟨nd, rfl⟩⟩; (try first | exact ⟨rfl, _, World.drewN_drewN _ _ _⟩ | exact ⟨rfl, _, Eq.trans (World.drewN_drewN _ _ _) (congrArg (World.drewN _) (Nat.add_assoc _ _ _))⟩)))
                repeat (go_quiet (first | (go_at_call 30; (with_reducible refine (capstanref04_Has.calls a0_2 x239002_1 true _ A16.out).mono ?_); rintro e w' ⟨rfl, ⟨nd, rfl⟩⟩; (try first | exact ⟨rfl, _, World.drewN_drewN _ _ _⟩ | exact ⟨rfl, _, Eq.trans (World.drewN_drewN _ _ _) (congrArg (World.drewN _) (Nat.add_assoc _ _ _))⟩)) | (go_at_call 30; (with_reducible refine (capstanref04_Has.calls a0_3 x239001_1 true _ A18.out).mono ?_); rintro e w' ⟨rfl, ⟨nd, rfl⟩⟩; (try first | exact ⟨rfl, _, World.drewN_drewN _ _ _⟩ | exact ⟨rfl, _, Eq.trans (World.drewN_drewN _ _ _) (congrArg (World.drewN _) (Nat.add_assoc _ _ _))⟩)) | (go_at_call 30; (with_reducible refine (capstanref04_Has.calls a0_4 x239006_1 t241 _ A20.out).mono ?_); rintro e w' ⟨rfl, ⟨nd, rfl⟩⟩; (try first | exact ⟨rfl, _, World.drewN_drewN _ _ _⟩ | exact ⟨rfl, _, Eq.trans (World.drewN_drewN _ _ _) (congrArg (World.drewN _) (Nat.add_assoc _ _ _))⟩))); try go_wp2_with (first | (go_at_call 30; (with_reducible refine (capstanref04_Has.calls a0_2 x239002_1 true _ A16.out).mono ?_); rintro e w' ⟨rfl, ⟨nd, rfl⟩⟩; (try first | exact ⟨rfl, _, World.drewN_drewN _ _ _⟩ | exact ⟨rfl, _, Eq.trans (World.drewN_drewN _ _ _) (congrArg (World.drewN _) (Nat.add_assoc _ _ _))⟩)) | (go_at_call 30; (with_reducible refine (capstanref04_Has.calls a0_3 x239001_1 true _ A18.out).mono ?_); rintro e w' ⟨rfl, ⟨nd, rfl⟩⟩; (try first | exact ⟨rfl, _, World.drewN_drewN _ _ _⟩ | exact ⟨rfl, _, Eq.trans (World.drewN_drewN _ _ _) (congrArg (World.drewN _) (Nat.add_assoc _ _ _))⟩)) | (go_at_call 30; (with_reducible refine (capstanref04_Has.calls a0_4 x239006_1 t241 _ A20.out).mono ?_); rintro e w' ⟨rfl, ⟨nd, rfl⟩⟩; (try first | exact ⟨rfl, _, World.drewN_drewN _ _ _⟩ | exact ⟨rfl, _, Eq.trans (World.drewN_drewN _ _ _) (congrArg (World.drewN _) (Nat.add_assoc _ _ _))⟩))))
                go_meet
                case rel => exact ⟨_, (t241), (by first | rfl | (simp; done) | (simp [*]; done)), H', ⟨by have := HK1.out; first | omega | exact Nat.le_refl _⟩, ⟨by (with_reducible repeat (first | refine blk_drewN ?_ _ | refine blk_drew ?_ | refine blk_alloc ?_ _)); exact BK227.out⟩, ⟨by (with_reducible repeat (first | refine blk_drewN ?_ _ | refine blk_drew ?_ | refine blk_alloc ?_ _)); exact BK238.out⟩, ⟨by repeat (first | (with_reducible first | exact HB.out | apply below_alloc | apply pw_below_drewN | apply below_drew1 | refine below_set ?_ GE227.out | refine below_set ?_ GE238.out) | exact HB.out)⟩⟩
              · replace c19 := Bool.eq_false_iff.mpr c19
                subst c19
                have H1 : (capstanref04_Next.j1 k1 a1 t229 t230 x9_1 false a0_0 a0_1 a0_2 a0_3 a0_4 x239000_1 x239001_1 x239002_1 t234 t235 t236 x239006_1) = some (r1, r2) := by rw [if_neg (show ¬ (false = true) by decide)] at H; exact H
                clear H
                have H := H1
                clear H1
                have H' := Aside0.mk H
                clear H
                have hnb24 := NB227_238.out
                have hnc24 := NB238_227.out
                have hcz25_0 : wr.cell? ⟨gb227, 0, none⟩ = some (.int .u64 a0_0) := (blk_cell BK227.out 0).trans rfl
                have hcz25_1 : wr.cell? ⟨gb227, 1, none⟩ = some (.int .u64 a0_1) := (blk_cell BK227.out 1).trans rfl
                have hcz25_2 : wr.cell? ⟨gb227, 2, none⟩ = some (.int .u64 a0_2) := (blk_cell BK227.out 2).trans rfl
                have hcz25_3 : wr.cell? ⟨gb227, 3, none⟩ = some (.int .u64 a0_3) := (blk_cell BK227.out 3).trans rfl
                have hcz25_4 : wr.cell? ⟨gb227, 4, none⟩ = some (.int .u64 a0_4) := (blk_cell BK227.out 4).trans rfl
                have hfz25_0 := blk_frozen BK227.out 0
                have hfz25_1 := blk_frozen BK227.out 1
                have hfz25_2 := blk_frozen BK227.out 2
                have hfz25_3 := blk_frozen BK227.out 3
                have hfz25_4 := blk_frozen BK227.out 4
                have hcz26_0 : wr.cell? ⟨gb238, 0, none⟩ = some (.int .i64 x239000_1) := (blk_cell BK238.out 0).trans rfl
                have hcz26_1 : wr.cell? ⟨gb238, 1, none⟩ = some (.int .i64 x239001_1) := (blk_cell BK238.out 1).trans rfl
                have hcz26_2 : wr.cell? ⟨gb238, 2, none⟩ = some (.int .i64 x239002_1) := (blk_cell BK238.out 2).trans rfl
                have hcz26_3 : wr.cell? ⟨gb238, 3, none⟩ = some (.int .i64 t234) := (blk_cell BK238.out 3).trans rfl
                have hcz26_4 : wr.cell? ⟨gb238, 4, none⟩ = some (.int .i64 t235) := (blk_cell BK238.out 4).trans rfl
                have hcz26_5 : wr.cell? ⟨gb238, 5, none⟩ = some (.int .i64 t236) := (blk_cell BK238.out 5).trans rfl
                have hcz26_6 : wr.cell? ⟨gb238, 6, none⟩ = some (.int .i64 x239006_1) := (blk_cell BK238.out 6).trans rfl
                have hfz26_0 := blk_frozen BK238.out 0
                have hfz26_1 := blk_frozen BK238.out 1
                have hfz26_2 := blk_frozen BK238.out 2
                have hfz26_3 := blk_frozen BK238.out 3
                have hfz26_4 := blk_frozen BK238.out 4
                have hfz26_5 := blk_frozen BK238.out 5
                have hfz26_6 := blk_frozen BK238.out 6
                go_wp2_with (first | (go_at_call 30; (with_reducible refine (capstanref04_Has.calls a0_2 x239002_1 true _ A16.out).mono ?_); rintro e w' ⟨rfl, ⟨nd, rfl⟩⟩; (try first | exact ⟨rfl, _, World.drewN_drewN _ _ _⟩ | exact ⟨rfl, _, Eq.trans (World.drewN_drewN _ _ _) (congrArg (World.drewN _) (Nat.add_assoc _ _ _))⟩)) | (go_at_call 30; (with_reducible refine (capstanref04_Has.calls a0_3 x239001_1 false _ A18.out).mono ?_); rintro e w' ⟨rfl, ⟨nd, rfl⟩⟩; (try first | exact ⟨rfl, _, World.drewN_drewN _ _ _⟩ | exact ⟨rfl, _, Eq.trans (World.drewN_drewN _ _ _) (congrArg (World.drewN _) (Nat.add_assoc _ _ _))⟩)))
                repeat (go_quiet (first | (go_at_call 30; (with_reducible refine (capstanref04_Has.calls a0_2 x239002_1 true _ A16.out).mono ?_); rintro e w' ⟨rfl, ⟨nd, rfl⟩⟩; (try first | exact ⟨rfl, _, World.drewN_drewN _ _ _⟩ | exact ⟨rfl, _, Eq.trans (World.drewN_drewN _ _ _) (congrArg (World.drewN _) (Nat.add_assoc _ _ _))⟩)) | (go_at_call 30; (with_reducible refine (capstanref04_Has.calls a0_3 x239001_1 false _ A18.out).mono ?_); rintro e w' ⟨rfl, ⟨nd, rfl⟩⟩; (try first | exact ⟨rfl, _, World.drewN_drewN _ _ _⟩ | exact ⟨rfl, _, Eq.trans (World.drewN_drewN _ _ _) (congrArg (World.drewN _) (Nat.add_assoc _ _ _))⟩))); try go_wp2_with (first | (go_at_call 30; (with_reducible refine (capstanref04_Has.calls a0_2 x239002_1 true _ A16.out).mono ?_); rintro e w' ⟨rfl, ⟨nd, rfl⟩⟩; (try first | exact ⟨rfl, _, World.drewN_drewN _ _ _⟩ | exact ⟨rfl, _, Eq.trans (World.drewN_drewN _ _ _) (congrArg (World.drewN _) (Nat.add_assoc _ _ _))⟩)) | (go_at_call 30; (with_reducible refine (capstanref04_Has.calls a0_3 x239001_1 false _ A18.out).mono ?_); rintro e w' ⟨rfl, ⟨nd, rfl⟩⟩; (try first | exact ⟨rfl, _, World.drewN_drewN _ _ _⟩ | exact ⟨rfl, _, Eq.trans (World.drewN_drewN _ _ _) (congrArg (World.drewN _) (Nat.add_assoc _ _ _))⟩))))
                go_meet
                case rel => exact ⟨_, (false), (by first | rfl | (simp; done) | (simp [*]; done)), H', ⟨by have := HK1.out; first | omega | exact Nat.le_refl _⟩, ⟨by (with_reducible repeat (first | refine blk_drewN ?_ _ | refine blk_drew ?_ | refine blk_alloc ?_ _)); exact BK227.out⟩, ⟨by (with_reducible repeat (first | refine blk_drewN ?_ _ | refine blk_drew ?_ | refine blk_alloc ?_ _)); exact BK238.out⟩, ⟨by repeat (first | (with_reducible first | exact HB.out | apply below_alloc | apply pw_below_drewN | apply below_drew1 | refine below_set ?_ GE227.out | refine below_set ?_ GE238.out) | exact HB.out)⟩⟩
            · replace c17 := Bool.eq_false_iff.mpr c17
              subst c17
              have H1 : (capstanref04_Next.j1 k1 a1 t229 t230 x9_1 false a0_0 a0_1 a0_2 a0_3 a0_4 x239000_1 x239001_1 x239002_1 t234 t235 t236 x239006_1) = some (r1, r2) := by rw [if_neg (show ¬ (false = true) by decide)] at H; exact H
              clear H
              have H := H1
              clear H1
              have H' := Aside0.mk H
              clear H
              have hnb27 := NB227_238.out
              have hnc27 := NB238_227.out
              have hcz28_0 : wr.cell? ⟨gb227, 0, none⟩ = some (.int .u64 a0_0) := (blk_cell BK227.out 0).trans rfl
              have hcz28_1 : wr.cell? ⟨gb227, 1, none⟩ = some (.int .u64 a0_1) := (blk_cell BK227.out 1).trans rfl
              have hcz28_2 : wr.cell? ⟨gb227, 2, none⟩ = some (.int .u64 a0_2) := (blk_cell BK227.out 2).trans rfl
              have hcz28_3 : wr.cell? ⟨gb227, 3, none⟩ = some (.int .u64 a0_3) := (blk_cell BK227.out 3).trans rfl
              have hcz28_4 : wr.cell? ⟨gb227, 4, none⟩ = some (.int .u64 a0_4) := (blk_cell BK227.out 4).trans rfl
              have hfz28_0 := blk_frozen BK227.out 0
              have hfz28_1 := blk_frozen BK227.out 1
              have hfz28_2 := blk_frozen BK227.out 2
              have hfz28_3 := blk_frozen BK227.out 3
              have hfz28_4 := blk_frozen BK227.out 4
              have hcz29_0 : wr.cell? ⟨gb238, 0, none⟩ = some (.int .i64 x239000_1) := (blk_cell BK238.out 0).trans rfl
              have hcz29_1 : wr.cell? ⟨gb238, 1, none⟩ = some (.int .i64 x239001_1) := (blk_cell BK238.out 1).trans rfl
              have hcz29_2 : wr.cell? ⟨gb238, 2, none⟩ = some (.int .i64 x239002_1) := (blk_cell BK238.out 2).trans rfl
              have hcz29_3 : wr.cell? ⟨gb238, 3, none⟩ = some (.int .i64 t234) := (blk_cell BK238.out 3).trans rfl
              have hcz29_4 : wr.cell? ⟨gb238, 4, none⟩ = some (.int .i64 t235) := (blk_cell BK238.out 4).trans rfl
              have hcz29_5 : wr.cell? ⟨gb238, 5, none⟩ = some (.int .i64 t236) := (blk_cell BK238.out 5).trans rfl
              have hcz29_6 : wr.cell? ⟨gb238, 6, none⟩ = some (.int .i64 x239006_1) := (blk_cell BK238.out 6).trans rfl
              have hfz29_0 := blk_frozen BK238.out 0
              have hfz29_1 := blk_frozen BK238.out 1
              have hfz29_2 := blk_frozen BK238.out 2
              have hfz29_3 := blk_frozen BK238.out 3
              have hfz29_4 := blk_frozen BK238.out 4
              have hfz29_5 := blk_frozen BK238.out 5
              have hfz29_6 := blk_frozen BK238.out 6
              go_wp2_with (first | (go_at_call 30; (with_reducible refine (capstanref04_Has.calls a0_2 x239002_1 false _ A16.out).mono ?_); rintro e w' ⟨rfl, ⟨nd, rfl⟩⟩; (try first | exact ⟨rfl, _, World.drewN_drewN _ _ _⟩ | exact ⟨rfl, _, Eq.trans (World.drewN_drewN _ _ _) (congrArg (World.drewN _) (Nat.add_assoc _ _ _))⟩)))
              repeat (go_quiet (first | (go_at_call 30; (with_reducible refine (capstanref04_Has.calls a0_2 x239002_1 false _ A16.out).mono ?_); rintro e w' ⟨rfl, ⟨nd, rfl⟩⟩; (try first | exact ⟨rfl, _, World.drewN_drewN _ _ _⟩ | exact ⟨rfl, _, Eq.trans (World.drewN_drewN _ _ _) (congrArg (World.drewN _) (Nat.add_assoc _ _ _))⟩))); try go_wp2_with (first | (go_at_call 30; (with_reducible refine (capstanref04_Has.calls a0_2 x239002_1 false _ A16.out).mono ?_); rintro e w' ⟨rfl, ⟨nd, rfl⟩⟩; (try first | exact ⟨rfl, _, World.drewN_drewN _ _ _⟩ | exact ⟨rfl, _, Eq.trans (World.drewN_drewN _ _ _) (congrArg (World.drewN _) (Nat.add_assoc _ _ _))⟩))))
              go_meet
              case rel => exact ⟨_, (false), (by first | rfl | (simp; done) | (simp [*]; done)), H', ⟨by have := HK1.out; first | omega | exact Nat.le_refl _⟩, ⟨by (with_reducible repeat (first | refine blk_drewN ?_ _ | refine blk_drew ?_ | refine blk_alloc ?_ _)); exact BK227.out⟩, ⟨by (with_reducible repeat (first | refine blk_drewN ?_ _ | refine blk_drew ?_ | refine blk_alloc ?_ _)); exact BK238.out⟩, ⟨by repeat (first | (with_reducible first | exact HB.out | apply below_alloc | apply pw_below_drewN | apply below_drew1 | refine below_set ?_ GE227.out | refine below_set ?_ GE238.out) | exact HB.out)⟩⟩
          case rest =>
            clear HC15
            try clear c1
            try clear c2
            try clear p2
            try clear c4
            try clear c12
            try clear c14
            try clear c14b0
            try clear c17
            try clear c19
            try clear c20
            try clear c21
            try clear c24
            try clear c27
            try clear hcz13_0
            try clear hcz13_1
            try clear hcz13_2
            try clear hcz13_3
            try clear hcz13_4
            try clear hcz13_5
            try clear hcz13_6
            try clear hcz22_0
            try clear hcz22_1
            try clear hcz22_2
            try clear hcz22_3
            try clear hcz22_4
            try clear hcz23_0
            try clear hcz23_1
            try clear hcz23_2
            try clear hcz23_3
            try clear hcz23_4
            try clear hcz23_5
            try clear hcz23_6
            try clear hcz25_0
            try clear hcz25_1
            try clear hcz25_2
            try clear hcz25_3
            try clear hcz25_4
            try clear hcz26_0
            try clear hcz26_1
            try clear hcz26_2
            try clear hcz26_3
            try clear hcz26_4
            try clear hcz26_5
            try clear hcz26_6
            try clear hcz28_0
            try clear hcz28_1
            try clear hcz28_2
            try clear hcz28_3
            try clear hcz28_4
            try clear hcz29_0
            try clear hcz29_1
            try clear hcz29_2
            try clear hcz29_3
            try clear hcz29_4
            try clear hcz29_5
            try clear hcz29_6
            try clear hcz8_0
            try clear hcz8_1
            try clear hcz8_2
            try clear hcz8_3
            try clear hcz8_4
            try clear hfz13_0
            try clear hfz13_1
            try clear hfz13_2
            try clear hfz13_3
            try clear hfz13_4
            try clear hfz13_5
            try clear hfz13_6
            try clear hfz22_0
            try clear hfz22_1
            try clear hfz22_2
            try clear hfz22_3
            try clear hfz22_4
            try clear hfz23_0
            try clear hfz23_1
            try clear hfz23_2
            try clear hfz23_3
            try clear hfz23_4
            try clear hfz23_5
            try clear hfz23_6
            try clear hfz25_0
            try clear hfz25_1
            try clear hfz25_2
            try clear hfz25_3
            try clear hfz25_4
            try clear hfz26_0
            try clear hfz26_1
            try clear hfz26_2
            try clear hfz26_3
            try clear hfz26_4
            try clear hfz26_5
            try clear hfz26_6
            try clear hfz28_0
            try clear hfz28_1
            try clear hfz28_2
            try clear hfz28_3
            try clear hfz28_4
            try clear hfz29_0
            try clear hfz29_1
            try clear hfz29_2
            try clear hfz29_3
            try clear hfz29_4
            try clear hfz29_5
            try clear hfz29_6
            try clear hfz8_0
            try clear hfz8_1
            try clear hfz8_2
            try clear hfz8_3
            try clear hfz8_4
            try clear p2
            obtain ⟨kq, x45_14, rfl, HA, HJ14, BK227, BK238, HB⟩ := hcut
            cases kq with
            | zero => exact absurd HA.out (by simp [capstanref04_Next.j1])
            | succ kj14 =>
              have H := HA.out
              clear HA
              simp only [capstanref04_Next.j1] at H
              have HC30 := Aside0.mk H
              clear H
              go_upto_if 45 with (fail)
              repeat (go_quiet (fail); go_upto_if 45 with (fail))
              go_cut [] (fun wc => ∃ (kq : Nat), Aside0 (capstanref04_Next.j4 kq a1 t229 t230 x9_1 a0_0 a0_1 a0_2 a0_3 a0_4 x239000_1 x239001_1 x239002_1 t234 t235 t236 x239006_1 = some (r1, r2)) ∧ Aside0 (kq ≤ kj14) ∧ Aside0 (wc.heap[gb227]? = some (.cells #[.int .u64 a0_0, .int .u64 a0_1, .int .u64 a0_2, .int .u64 a0_3, .int .u64 a0_4] 25 (0, 0))) ∧ Aside0 (wc.heap[gb238]? = some (.cells #[.int .i64 x239000_1, .int .i64 x239001_1, .int .i64 x239002_1, .int .i64 t234, .int .i64 t235, .int .i64 t236, .int .i64 x239006_1] 58 (0, 0))) ∧ Aside0 (Below w.heap.size w wc))
              case first =>
                have H := HC30.out
                clear HC30
                by_cases c31 : x45_14 = true
                · subst c31
                  have H1 : (capstanref04_Next.l1 kj14 a1 t229 t230 x9_1 0 a0_0 a0_1 a0_2 a0_3 a0_4 x239000_1 x239001_1 x239002_1 t234 t235 t236 x239006_1) = some (r1, r2) := by rw [if_pos rfl] at H; exact H
                  clear H
                  have H := H1
                  clear H1
                  have H' := Aside0.mk H
                  clear H
                  go_wp2
                  repeat (go_quiet (fail); try go_wp2)
                  go_loopg [10] kj14 (fun kq v10 w' => ∃ (x10_3 : Int), v10 = .int .i64 x10_3 ∧ Aside0 (capstanref04_Next.l1 kq a1 t229 t230 x9_1 x10_3 a0_0 a0_1 a0_2 a0_3 a0_4 x239000_1 x239001_1 x239002_1 t234 t235 t236 x239006_1 = some (r1, r2)) ∧ Aside0 (kq ≤ kj14) ∧ Aside0 (w'.heap[gb227]? = some (.cells #[.int .u64 a0_0, .int .u64 a0_1, .int .u64 a0_2, .int .u64 a0_3, .int .u64 a0_4] 25 (0, 0))) ∧ Aside0 (w'.heap[gb238]? = some (.cells #[.int .i64 x239000_1, .int .i64 x239001_1, .int .i64 x239002_1, .int .i64 t234, .int .i64 t235, .int .i64 t236, .int .i64 x239006_1] 58 (0, 0))) ∧ Aside0 (Below w.heap.size w w'))
                  case atStart => exact ⟨(0), (by first | rfl | (simp; done) | (simp [*]; done)), H', ⟨Nat.le_refl _⟩, ⟨by (with_reducible repeat (first | refine blk_drewN ?_ _ | refine blk_drew ?_ | refine blk_alloc ?_ _)); exact BK227.out⟩, ⟨by (with_reducible repeat (first | refine blk_drewN ?_ _ | refine blk_drew ?_ | refine blk_alloc ?_ _)); exact BK238.out⟩, ⟨by repeat (first | (with_reducible first | exact HB.out | apply below_alloc | apply pw_below_drewN | apply below_drew1 | refine below_set ?_ GE227.out | refine below_set ?_ GE238.out) | exact HB.out)⟩⟩
                  case round =>
                    clear H'
                    try clear c1
                    try clear c2
                    try clear p2
                    try clear c3
                    try clear c4
                    try clear c12
                    try clear c14
                    try clear c14b0
                    try clear c17
                    try clear c19
                    try clear c20
                    try clear c21
                    try clear c24
                    try clear c27
                    try clear c31
                    try clear hcz13_0
                    try clear hcz13_1
                    try clear hcz13_2
                    try clear hcz13_3
                    try clear hcz13_4
                    try clear hcz13_5
                    try clear hcz13_6
                    try clear hcz22_0
                    try clear hcz22_1
                    try clear hcz22_2
                    try clear hcz22_3
                    try clear hcz22_4
                    try clear hcz23_0
                    try clear hcz23_1
                    try clear hcz23_2
                    try clear hcz23_3
                    try clear hcz23_4
                    try clear hcz23_5
                    try clear hcz23_6
                    try clear hcz25_0
                    try clear hcz25_1
                    try clear hcz25_2
                    try clear hcz25_3
                    try clear hcz25_4
                    try clear hcz26_0
                    try clear hcz26_1
                    try clear hcz26_2
                    try clear hcz26_3
                    try clear hcz26_4
                    try clear hcz26_5
                    try clear hcz26_6
                    try clear hcz28_0
                    try clear hcz28_1
                    try clear hcz28_2
                    try clear hcz28_3
                    try clear hcz28_4
                    try clear hcz29_0
                    try clear hcz29_1
                    try clear hcz29_2
                    try clear hcz29_3
                    try clear hcz29_4
                    try clear hcz29_5
                    try clear hcz29_6
                    try clear hcz8_0
                    try clear hcz8_1
                    try clear hcz8_2
                    try clear hcz8_3
                    try clear hcz8_4
                    try clear hfz13_0
                    try clear hfz13_1
                    try clear hfz13_2
                    try clear hfz13_3
                    try clear hfz13_4
                    try clear hfz13_5
                    try clear hfz13_6
                    try clear hfz22_0
                    try clear hfz22_1
                    try clear hfz22_2
                    try clear hfz22_3
                    try clear hfz22_4
                    try clear hfz23_0
                    try clear hfz23_1
                    try clear hfz23_2
                    try clear hfz23_3
                    try clear hfz23_4
                    try clear hfz23_5
                    try clear hfz23_6
                    try clear hfz25_0
                    try clear hfz25_1
                    try clear hfz25_2
                    try clear hfz25_3
                    try clear hfz25_4
                    try clear hfz26_0
                    try clear hfz26_1
                    try clear hfz26_2
                    try clear hfz26_3
                    try clear hfz26_4
                    try clear hfz26_5
                    try clear hfz26_6
                    try clear hfz28_0
                    try clear hfz28_1
                    try clear hfz28_2
                    try clear hfz28_3
                    try clear hfz28_4
                    try clear hfz29_0
                    try clear hfz29_1
                    try clear hfz29_2
                    try clear hfz29_3
                    try clear hfz29_4
                    try clear hfz29_5
                    try clear hfz29_6
                    try clear hfz8_0
                    try clear hfz8_1
                    try clear hfz8_2
                    try clear hfz8_3
                    try clear hfz8_4
                    try clear p2
                    obtain ⟨x10_3, rfl, HA, HK3, BK227, BK238, HB⟩ := hrel
                    cases gk with
                    | zero => exact absurd HA.out (by simp [capstanref04_Next.l1])
                    | succ k3 =>
                      have H := HA.out
                      clear HA
                      simp only [capstanref04_Next.l1] at H
                      by_cases c32 : x10_3 < 1440
                      · rw [if_pos c32] at H
                        have c32b0 : decide (x10_3 < 1440) = true := decide_eq_true c32
                        clear c32
                        (first | rw [c32b0] | (simp only [i64_w, i32_w]; rw [c32b0]) | skip)
                        have HC33 := Aside0.mk H
                        clear H
                        go_upto_region 12 with (fail)
                        repeat (go_quiet (fail); go_upto_region 12 with (fail))
                        go_cut [73] (fun v73 wc => ∃ (kq : Nat) (x73_32 : Bool), v73 = .bool x73_32 ∧ Aside0 (capstanref04_Next.j3 kq a1 t229 t230 x9_1 x10_3 x73_32 a0_0 a0_1 a0_2 a0_3 a0_4 x239000_1 x239001_1 x239002_1 t234 t235 t236 x239006_1 = some (r1, r2)) ∧ Aside0 (kq ≤ k3) ∧ Aside0 (wc.heap[gb227]? = some (.cells #[.int .u64 a0_0, .int .u64 a0_1, .int .u64 a0_2, .int .u64 a0_3, .int .u64 a0_4] 25 (0, 0))) ∧ Aside0 (wc.heap[gb238]? = some (.cells #[.int .i64 x239000_1, .int .i64 x239001_1, .int .i64 x239002_1, .int .i64 t234, .int .i64 t235, .int .i64 t236, .int .i64 x239006_1] 58 (0, 0))) ∧ Aside0 (Below w.heap.size w wc))
                        case first =>
                          have H := HC33.out
                          clear HC33
                          by_cases c34 : x9_1 = 0
                          · rw [if_pos c34] at H
                            have c34b0 : (x9_1 == 0) = true := beq_iff_eq.mpr c34
                            have c34b1 : (x9_1 != 0) = false := bne_eq_false_iff_eq.mpr c34
                            clear c34
                            (first | rw [c34b0] | (simp only [i64_w, i32_w]; rw [c34b0]) | skip)
                            by_cases c35 : (wrap64 (60 * x10_3)) < t230
                            · rw [if_pos c35] at H
                              have c35b0 : decide ((wrap64 (60 * x10_3)) < t230) = true := decide_eq_true c35
                              clear c35
                              have H' := Aside0.mk H
                              clear H
                              go_wp2
                              repeat (go_quiet (fail); try go_wp2)
                              go_meet
                              case rel => exact ⟨_, (true), (by first | rfl | (simp; done) | (simp [*]; done)), H', ⟨by have := HK1.out; have := HJ14.out; have := HK3.out; first | omega | exact Nat.le_refl _⟩, ⟨by (with_reducible repeat (first | refine blk_drewN ?_ _ | refine blk_drew ?_ | refine blk_alloc ?_ _)); exact BK227.out⟩, ⟨by (with_reducible repeat (first | refine blk_drewN ?_ _ | refine blk_drew ?_ | refine blk_alloc ?_ _)); exact BK238.out⟩, ⟨by repeat (first | (with_reducible first | exact HB.out | apply below_alloc | apply pw_below_drewN | apply below_drew1 | refine below_set ?_ GE227.out | refine below_set ?_ GE238.out) | exact HB.out)⟩⟩
                            · rw [if_neg c35] at H
                              have c35b0 : decide ((wrap64 (60 * x10_3)) < t230) = false := decide_eq_false c35
                              clear c35
                              replace H := Option.bind_eq_some_iff.mp H
                              obtain ⟨t242, A360, H⟩ := H
                              replace H : (if t242 = true then ((capstanref04_Has.f a0_0 (Int.tmod x10_3 60)).bind fun t243 => (capstanref04_Next.j3 k3 a1 t229 t230 x9_1 x10_3 (!t243) a0_0 a0_1 a0_2 a0_3 a0_4 x239000_1 x239001_1 x239002_1 t234 t235 t236 x239006_1)) else (capstanref04_Next.j3 k3 a1 t229 t230 x9_1 x10_3 true a0_0 a0_1 a0_2 a0_3 a0_4 x239000_1 x239001_1 x239002_1 t234 t235 t236 x239006_1)) = some (r1, r2) := H
                              have A36 := Aside0.mk A360
                              clear A360
                              by_cases c37 : t242 = true
                              · subst c37
                                have H1 : ((capstanref04_Has.f a0_0 (Int.tmod x10_3 60)).bind fun t243 => (capstanref04_Next.j3 k3 a1 t229 t230 x9_1 x10_3 (!t243) a0_0 a0_1 a0_2 a0_3 a0_4 x239000_1 x239001_1 x239002_1 t234 t235 t236 x239006_1)) = some (r1, r2) := by rw [if_pos rfl] at H; exact H
                                clear H
                                have H := H1
                                clear H1
                                replace H := Option.bind_eq_some_iff.mp H
                                obtain ⟨t243, A380, H⟩ := H
                                replace H : (capstanref04_Next.j3 k3 a1 t229 t230 x9_1 x10_3 (!t243) a0_0 a0_1 a0_2 a0_3 a0_4 x239000_1 x239001_1 x239002_1 t234 t235 t236 x239006_1) = some (r1, r2) := H
                                have A38 := Aside0.mk A380
                                clear A380
                                have H' := Aside0.mk H
                                clear H
                                have hnb39 := NB227_238.out
                                have hnc39 := NB238_227.out
                                have hcz40_0 : wr.cell? ⟨gb227, 0, none⟩ = some (.int .u64 a0_0) := (blk_cell BK227.out 0).trans rfl
                                have hcz40_1 : wr.cell? ⟨gb227, 1, none⟩ = some (.int .u64 a0_1) := (blk_cell BK227.out 1).trans rfl
                                have hcz40_2 : wr.cell? ⟨gb227, 2, none⟩ = some (.int .u64 a0_2) := (blk_cell BK227.out 2).trans rfl
                                have hcz40_3 : wr.cell? ⟨gb227, 3, none⟩ = some (.int .u64 a0_3) := (blk_cell BK227.out 3).trans rfl
                                have hcz40_4 : wr.cell? ⟨gb227, 4, none⟩ = some (.int .u64 a0_4) := (blk_cell BK227.out 4).trans rfl
                                have hfz40_0 := blk_frozen BK227.out 0
                                have hfz40_1 := blk_frozen BK227.out 1
                                have hfz40_2 := blk_frozen BK227.out 2
                                have hfz40_3 := blk_frozen BK227.out 3
                                have hfz40_4 := blk_frozen BK227.out 4
                                go_wp2_with (first | (go_at_call 30; (with_reducible refine (capstanref04_Has.calls a0_1 (wrap64 (Int.tdiv x10_3 60)) true _ A36.out).mono ?_); rintro e w' ⟨rfl, ⟨nd, rfl⟩⟩; (try first | exact ⟨rfl, _, World.drewN_drewN _ _ _⟩ | exact ⟨rfl, _, Eq.trans (World.drewN_drewN _ _ _) (congrArg (World.drewN _) (Nat.add_assoc _ _ _))⟩)) | (go_at_call 30; (with_reducible refine (capstanref04_Has.calls a0_0 (Int.tmod x10_3 60) t243 _ A38.out).mono ?_); rintro e w' ⟨rfl, ⟨nd, rfl⟩⟩; (try first | exact ⟨rfl, _, World.drewN_drewN _ _ _⟩ | exact ⟨rfl, _, Eq.trans (World.drewN_drewN _ _ _) (congrArg (World.drewN _) (Nat.add_assoc _ _ _))⟩)))
                                repeat (go_quiet (first | (go_at_call 30; (with_reducible refine (capstanref04_Has.calls a0_1 (wrap64 (Int.tdiv x10_3 60)) true _ A36.out).mono ?_); rintro e w' ⟨rfl, ⟨nd, rfl⟩⟩; (try first | exact ⟨rfl, _, World.drewN_drewN _ _ _⟩ | exact ⟨rfl, _, Eq.trans (World.drewN_drewN _ _ _) (congrArg (World.drewN _) (Nat.add_assoc _ _ _))⟩)) | (go_at_call 30; (with_reducible refine (capstanref04_Has.calls a0_0 (Int.tmod x10_3 60) t243 _ A38.out).mono ?_); rintro e w' ⟨rfl, ⟨nd, rfl⟩⟩; (try first | exact ⟨rfl, _, World.drewN_drewN _ _ _⟩ | exact ⟨rfl, _, Eq.trans (World.drewN_drewN _ _ _) (congrArg (World.drewN _) (Nat.add_assoc _ _ _))⟩))); try go_wp2_with (first | (go_at_call 30; (with_reducible refine (capstanref04_Has.calls a0_1 (wrap64 (Int.tdiv x10_3 60)) true _ A36.out).mono ?_); rintro e w' ⟨rfl, ⟨nd, rfl⟩⟩; (try first | exact ⟨rfl, _, World.drewN_drewN _ _ _⟩ | exact ⟨rfl, _, Eq.trans (World.drewN_drewN _ _ _) (congrArg (World.drewN _) (Nat.add_assoc _ _ _))⟩)) | (go_at_call 30; (with_reducible refine (capstanref04_Has.calls a0_0 (Int.tmod x10_3 60) t243 _ A38.out).mono ?_); rintro e w' ⟨rfl, ⟨nd, rfl⟩⟩; (try first | exact ⟨rfl, _, World.drewN_drewN _ _ _⟩ | exact ⟨rfl, _, Eq.trans (World.drewN_drewN _ _ _) (congrArg (World.drewN _) (Nat.add_assoc _ _ _))⟩))))
                                go_meet
                                case rel => exact ⟨_, (!t243), (by first | rfl | (simp; done) | (simp [*]; done)), H', ⟨by have := HK1.out; have := HJ14.out; have := HK3.out; first | omega | exact Nat.le_refl _⟩, ⟨by (with_reducible repeat (first | refine blk_drewN ?_ _ | refine blk_drew ?_ | refine blk_alloc ?_ _)); exact BK227.out⟩, ⟨by (with_reducible repeat (first | refine blk_drewN ?_ _ | refine blk_drew ?_ | refine blk_alloc ?_ _)); exact BK238.out⟩, ⟨by repeat (first | (with_reducible first | exact HB.out | apply below_alloc | apply pw_below_drewN | apply below_drew1 | refine below_set ?_ GE227.out | refine below_set ?_ GE238.out) | exact HB.out)⟩⟩
                              · replace c37 := Bool.eq_false_iff.mpr c37
                                subst c37
                                have H1 : (capstanref04_Next.j3 k3 a1 t229 t230 x9_1 x10_3 true a0_0 a0_1 a0_2 a0_3 a0_4 x239000_1 x239001_1 x239002_1 t234 t235 t236 x239006_1) = some (r1, r2) := by rw [if_neg (show ¬ (false = true) by decide)] at H; exact H
                                clear H
                                have H := H1
                                clear H1
                                have H' := Aside0.mk H
                                clear H
                                have hnb41 := NB227_238.out
                                have hnc41 := NB238_227.out
                                have hcz42_0 : wr.cell? ⟨gb227, 0, none⟩ = some (.int .u64 a0_0) := (blk_cell BK227.out 0).trans rfl
                                have hcz42_1 : wr.cell? ⟨gb227, 1, none⟩ = some (.int .u64 a0_1) := (blk_cell BK227.out 1).trans rfl
                                have hcz42_2 : wr.cell? ⟨gb227, 2, none⟩ = some (.int .u64 a0_2) := (blk_cell BK227.out 2).trans rfl
                                have hcz42_3 : wr.cell? ⟨gb227, 3, none⟩ = some (.int .u64 a0_3) := (blk_cell BK227.out 3).trans rfl
                                have hcz42_4 : wr.cell? ⟨gb227, 4, none⟩ = some (.int .u64 a0_4) := (blk_cell BK227.out 4).trans rfl
                                have hfz42_0 := blk_frozen BK227.out 0
                                have hfz42_1 := blk_frozen BK227.out 1
                                have hfz42_2 := blk_frozen BK227.out 2
                                have hfz42_3 := blk_frozen BK227.out 3
                                have hfz42_4 := blk_frozen BK227.out 4
                                go_wp2_with (first | (go_at_call 30; (with_reducible refine (capstanref04_Has.calls a0_1 (wrap64 (Int.tdiv x10_3 60)) false _ A36.out).mono ?_); rintro e w' ⟨rfl, ⟨nd, rfl⟩⟩; (try first | exact ⟨rfl, _, World.drewN_drewN _ _ _⟩ | exact ⟨rfl, _, Eq.trans (World.drewN_drewN _ _ _) (congrArg (World.drewN _) (Nat.add_assoc _ _ _))⟩)))
                                repeat (go_quiet (first | (go_at_call 30; (with_reducible refine (capstanref04_Has.calls a0_1 (wrap64 (Int.tdiv x10_3 60)) false _ A36.out).mono ?_); rintro e w' ⟨rfl, ⟨nd, rfl⟩⟩; (try first | exact ⟨rfl, _, World.drewN_drewN _ _ _⟩ | exact ⟨rfl, _, Eq.trans (World.drewN_drewN _ _ _) (congrArg (World.drewN _) (Nat.add_assoc _ _ _))⟩))); try go_wp2_with (first | (go_at_call 30; (with_reducible refine (capstanref04_Has.calls a0_1 (wrap64 (Int.tdiv x10_3 60)) false _ A36.out).mono ?_); rintro e w' ⟨rfl, ⟨nd, rfl⟩⟩; (try first | exact ⟨rfl, _, World.drewN_drewN _ _ _⟩ | exact ⟨rfl, _, Eq.trans (World.drewN_drewN _ _ _) (congrArg (World.drewN _) (Nat.add_assoc _ _ _))⟩))))
                                go_meet
                                case rel => exact ⟨_, (true), (by first | rfl | (simp; done) | (simp [*]; done)), H', ⟨by have := HK1.out; have := HJ14.out; have := HK3.out; first | omega | exact Nat.le_refl _⟩, ⟨by (with_reducible repeat (first | refine blk_drewN ?_ _ | refine blk_drew ?_ | refine blk_alloc ?_ _)); exact BK227.out⟩, ⟨by (with_reducible repeat (first | refine blk_drewN ?_ _ | refine blk_drew ?_ | refine blk_alloc ?_ _)); exact BK238.out⟩, ⟨by repeat (first | (with_reducible first | exact HB.out | apply below_alloc | apply pw_below_drewN | apply below_drew1 | refine below_set ?_ GE227.out | refine below_set ?_ GE238.out) | exact HB.out)⟩⟩
                          · rw [if_neg c34] at H
                            have c34b0 : (x9_1 == 0) = false := beq_eq_false_iff_ne.mpr c34
                            have c34b1 : (x9_1 != 0) = true := bne_iff_ne.mpr c34
                            (first | rw [c34b0] | (simp only [i64_w, i32_w]; rw [c34b0]) | skip)
                            replace H := Option.bind_eq_some_iff.mp H
                            obtain ⟨t244, A430, H⟩ := H
                            replace H : (if t244 = true then ((capstanref04_Has.f a0_0 (Int.tmod x10_3 60)).bind fun t245 => (capstanref04_Next.j3 k3 a1 t229 t230 x9_1 x10_3 (!t245) a0_0 a0_1 a0_2 a0_3 a0_4 x239000_1 x239001_1 x239002_1 t234 t235 t236 x239006_1)) else (capstanref04_Next.j3 k3 a1 t229 t230 x9_1 x10_3 true a0_0 a0_1 a0_2 a0_3 a0_4 x239000_1 x239001_1 x239002_1 t234 t235 t236 x239006_1)) = some (r1, r2) := H
                            have A43 := Aside0.mk A430
                            clear A430
                            by_cases c44 : t244 = true
                            · subst c44
                              have H1 : ((capstanref04_Has.f a0_0 (Int.tmod x10_3 60)).bind fun t245 => (capstanref04_Next.j3 k3 a1 t229 t230 x9_1 x10_3 (!t245) a0_0 a0_1 a0_2 a0_3 a0_4 x239000_1 x239001_1 x239002_1 t234 t235 t236 x239006_1)) = some (r1, r2) := by rw [if_pos rfl] at H; exact H
                              clear H
                              have H := H1
                              clear H1
                              replace H := Option.bind_eq_some_iff.mp H
                              obtain ⟨t245, A450, H⟩ := H
                              replace H : (capstanref04_Next.j3 k3 a1 t229 t230 x9_1 x10_3 (!t245) a0_0 a0_1 a0_2 a0_3 a0_4 x239000_1 x239001_1 x239002_1 t234 t235 t236 x239006_1) = some (r1, r2) := H
                              have A45 := Aside0.mk A450
                              clear A450
                              have H' := Aside0.mk H
                              clear H
                              have hnb46 := NB227_238.out
                              have hnc46 := NB238_227.out
                              have hcz47_0 : wr.cell? ⟨gb227, 0, none⟩ = some (.int .u64 a0_0) := (blk_cell BK227.out 0).trans rfl
                              have hcz47_1 : wr.cell? ⟨gb227, 1, none⟩ = some (.int .u64 a0_1) := (blk_cell BK227.out 1).trans rfl
                              have hcz47_2 : wr.cell? ⟨gb227, 2, none⟩ = some (.int .u64 a0_2) := (blk_cell BK227.out 2).trans rfl
                              have hcz47_3 : wr.cell? ⟨gb227, 3, none⟩ = some (.int .u64 a0_3) := (blk_cell BK227.out 3).trans rfl
                              have hcz47_4 : wr.cell? ⟨gb227, 4, none⟩ = some (.int .u64 a0_4) := (blk_cell BK227.out 4).trans rfl
                              have hfz47_0 := blk_frozen BK227.out 0
                              have hfz47_1 := blk_frozen BK227.out 1
                              have hfz47_2 := blk_frozen BK227.out 2
                              have hfz47_3 := blk_frozen BK227.out 3
                              have hfz47_4 := blk_frozen BK227.out 4
                              go_wp2_with (first | (go_at_call 30; (with_reducible refine (capstanref04_Has.calls a0_1 (wrap64 (Int.tdiv x10_3 60)) true _ A43.out).mono ?_); rintro e w' ⟨rfl, ⟨nd, rfl⟩⟩; (try first | exact ⟨rfl, _, World.drewN_drewN _ _ _⟩ | exact ⟨rfl, _, Eq.trans (World.drewN_drewN _ _ _) (congrArg (World.drewN _) (Nat.add_assoc _ _ _))⟩)) | (go_at_call 30; (with_reducible refine (capstanref04_Has.calls a0_0 (Int.tmod x10_3 60) t245 _ A45.out).mono ?_); rintro e w' ⟨rfl, ⟨nd, rfl⟩⟩; (try first | exact ⟨rfl, _, World.drewN_drewN _ _ _⟩ | exact ⟨rfl, _, Eq.trans (World.drewN_drewN _ _ _) (congrArg (World.drewN _) (Nat.add_assoc _ _ _))⟩)))
                              repeat (go_quiet (first | (go_at_call 30; (with_reducible refine (capstanref04_Has.calls a0_1 (wrap64 (Int.tdiv x10_3 60)) true _ A43.out).mono ?_); rintro e w' ⟨rfl, ⟨nd, rfl⟩⟩; (try first | exact ⟨rfl, _, World.drewN_drewN _ _ _⟩ | exact ⟨rfl, _, Eq.trans (World.drewN_drewN _ _ _) (congrArg (World.drewN _) (Nat.add_assoc _ _ _))⟩)) | (go_at_call 30; (with_reducible refine (capstanref04_Has.calls a0_0 (Int.tmod x10_3 60) t245 _ A45.out).mono ?_); rintro e w' ⟨rfl, ⟨nd, rfl⟩⟩; (try first | exact ⟨rfl, _, World.drewN_drewN _ _ _⟩ | exact ⟨rfl, _, Eq.trans (World.drewN_drewN _ _ _) (congrArg (World.drewN _) (Nat.add_assoc _ _ _))⟩))); try go_wp2_with (first | (go_at_call 30; (with_reducible refine (capstanref04_Has.calls a0_1 (wrap64 (Int.tdiv x10_3 60)) true _ A43.out).mono ?_); rintro e w' ⟨rfl, ⟨nd, rfl⟩⟩; (try first | exact ⟨rfl, _, World.drewN_drewN _ _ _⟩ | exact ⟨rfl, _, Eq.trans (World.drewN_drewN _ _ _) (congrArg (World.drewN _) (Nat.add_assoc _ _ _))⟩)) | (go_at_call 30; (with_reducible refine (capstanref04_Has.calls a0_0 (Int.tmod x10_3 60) t245 _ A45.out).mono ?_); rintro e w' ⟨rfl, ⟨nd, rfl⟩⟩; (try first | exact ⟨rfl, _, World.drewN_drewN _ _ _⟩ | exact ⟨rfl, _, Eq.trans (World.drewN_drewN _ _ _) (congrArg (World.drewN _) (Nat.add_assoc _ _ _))⟩))))
                              go_meet
                              case rel => exact ⟨_, (!t245), (by first | rfl | (simp; done) | (simp [*]; done)), H', ⟨by have := HK1.out; have := HJ14.out; have := HK3.out; first | omega | exact Nat.le_refl _⟩, ⟨by (with_reducible repeat (first | refine blk_drewN ?_ _ | refine blk_drew ?_ | refine blk_alloc ?_ _)); exact BK227.out⟩, ⟨by (with_reducible repeat (first | refine blk_drewN ?_ _ | refine blk_drew ?_ | refine blk_alloc ?_ _)); exact BK238.out⟩, ⟨by repeat (first | (with_reducible first | exact HB.out | apply below_alloc | apply pw_below_drewN | apply below_drew1 | refine below_set ?_ GE227.out | refine below_set ?_ GE238.out) | exact HB.out)⟩⟩
                            · replace c44 := Bool.eq_false_iff.mpr c44
                              subst c44
                              have H1 : (capstanref04_Next.j3 k3 a1 t229 t230 x9_1 x10_3 true a0_0 a0_1 a0_2 a0_3 a0_4 x239000_1 x239001_1 x239002_1 t234 t235 t236 x239006_1) = some (r1, r2) := by rw [if_neg (show ¬ (false = true) by decide)] at H; exact H
                              clear H
                              have H := H1
                              clear H1
                              have H' := Aside0.mk H
                              clear H
                              have hnb48 := NB227_238.out
                              have hnc48 := NB238_227.out
                              have hcz49_0 : wr.cell? ⟨gb227, 0, none⟩ = some (.int .u64 a0_0) := (blk_cell BK227.out 0).trans rfl
                              have hcz49_1 : wr.cell? ⟨gb227, 1, none⟩ = some (.int .u64 a0_1) := (blk_cell BK227.out 1).trans rfl
                              have hcz49_2 : wr.cell? ⟨gb227, 2, none⟩ = some (.int .u64 a0_2) := (blk_cell BK227.out 2).trans rfl
                              have hcz49_3 : wr.cell? ⟨gb227, 3, none⟩ = some (.int .u64 a0_3) := (blk_cell BK227.out 3).trans rfl
                              have hcz49_4 : wr.cell? ⟨gb227, 4, none⟩ = some (.int .u64 a0_4) := (blk_cell BK227.out 4).trans rfl
                              have hfz49_0 := blk_frozen BK227.out 0
                              have hfz49_1 := blk_frozen BK227.out 1
                              have hfz49_2 := blk_frozen BK227.out 2
                              have hfz49_3 := blk_frozen BK227.out 3
                              have hfz49_4 := blk_frozen BK227.out 4
                              go_wp2_with (first | (go_at_call 30; (with_reducible refine (capstanref04_Has.calls a0_1 (wrap64 (Int.tdiv x10_3 60)) false _ A43.out).mono ?_); rintro e w' ⟨rfl, ⟨nd, rfl⟩⟩; (try first | exact ⟨rfl, _, World.drewN_drewN _ _ _⟩ | exact ⟨rfl, _, Eq.trans (World.drewN_drewN _ _ _) (congrArg (World.drewN _) (Nat.add_assoc _ _ _))⟩)))
                              repeat (go_quiet (first | (go_at_call 30; (with_reducible refine (capstanref04_Has.calls a0_1 (wrap64 (Int.tdiv x10_3 60)) false _ A43.out).mono ?_); rintro e w' ⟨rfl, ⟨nd, rfl⟩⟩; (try first | exact ⟨rfl, _, World.drewN_drewN _ _ _⟩ | exact ⟨rfl, _, Eq.trans (World.drewN_drewN _ _ _) (congrArg (World.drewN _) (Nat.add_assoc _ _ _))⟩))); try go_wp2_with (first | (go_at_call 30; (with_reducible refine (capstanref04_Has.calls a0_1 (wrap64 (Int.tdiv x10_3 60)) false _ A43.out).mono ?_); rintro e w' ⟨rfl, ⟨nd, rfl⟩⟩; (try first | exact ⟨rfl, _, World.drewN_drewN _ _ _⟩ | exact ⟨rfl, _, Eq.trans (World.drewN_drewN _ _ _) (congrArg (World.drewN _) (Nat.add_assoc _ _ _))⟩))))
                              go_meet
                              case rel => exact ⟨_, (true), (by first | rfl | (simp; done) | (simp [*]; done)), H', ⟨by have := HK1.out; have := HJ14.out; have := HK3.out; first | omega | exact Nat.le_refl _⟩, ⟨by (with_reducible repeat (first | refine blk_drewN ?_ _ | refine blk_drew ?_ | refine blk_alloc ?_ _)); exact BK227.out⟩, ⟨by (with_reducible repeat (first | refine blk_drewN ?_ _ | refine blk_drew ?_ | refine blk_alloc ?_ _)); exact BK238.out⟩, ⟨by repeat (first | (with_reducible first | exact HB.out | apply below_alloc | apply pw_below_drewN | apply below_drew1 | refine below_set ?_ GE227.out | refine below_set ?_ GE238.out) | exact HB.out)⟩⟩
                        case rest =>
                          clear HC33
                          try clear c1
                          try clear c2
                          try clear p2
                          try clear c3
                          try clear c4
                          try clear p6
                          try clear c12
                          try clear c14
                          try clear c14b0
                          try clear c17
                          try clear c19
                          try clear c20
                          try clear c21
                          try clear c24
                          try clear c27
                          try clear c31
                          try clear c32
                          try clear c32b0
                          try clear c34
                          try clear c34b0
                          try clear c34b1
                          try clear c35
                          try clear c35b0
                          try clear c37
                          try clear c39
                          try clear c41
                          try clear c44
                          try clear c46
                          try clear c48
                          try clear hcz13_0
                          try clear hcz13_1
                          try clear hcz13_2
                          try clear hcz13_3
                          try clear hcz13_4
                          try clear hcz13_5
                          try clear hcz13_6
                          try clear hcz22_0
                          try clear hcz22_1
                          try clear hcz22_2
                          try clear hcz22_3
                          try clear hcz22_4
                          try clear hcz23_0
                          try clear hcz23_1
                          try clear hcz23_2
                          try clear hcz23_3
                          try clear hcz23_4
                          try clear hcz23_5
                          try clear hcz23_6
                          try clear hcz25_0
                          try clear hcz25_1
                          try clear hcz25_2
                          try clear hcz25_3
                          try clear hcz25_4
                          try clear hcz26_0
                          try clear hcz26_1
                          try clear hcz26_2
                          try clear hcz26_3
                          try clear hcz26_4
                          try clear hcz26_5
                          try clear hcz26_6
                          try clear hcz28_0
                          try clear hcz28_1
                          try clear hcz28_2
                          try clear hcz28_3
                          try clear hcz28_4
                          try clear hcz29_0
                          try clear hcz29_1
                          try clear hcz29_2
                          try clear hcz29_3
                          try clear hcz29_4
                          try clear hcz29_5
                          try clear hcz29_6
                          try clear hcz40_0
                          try clear hcz40_1
                          try clear hcz40_2
                          try clear hcz40_3
                          try clear hcz40_4
                          try clear hcz42_0
                          try clear hcz42_1
                          try clear hcz42_2
                          try clear hcz42_3
                          try clear hcz42_4
                          try clear hcz47_0
                          try clear hcz47_1
                          try clear hcz47_2
                          try clear hcz47_3
                          try clear hcz47_4
                          try clear hcz49_0
                          try clear hcz49_1
                          try clear hcz49_2
                          try clear hcz49_3
                          try clear hcz49_4
                          try clear hcz8_0
                          try clear hcz8_1
                          try clear hcz8_2
                          try clear hcz8_3
                          try clear hcz8_4
                          try clear hfz13_0
                          try clear hfz13_1
                          try clear hfz13_2
                          try clear hfz13_3
                          try clear hfz13_4
                          try clear hfz13_5
                          try clear hfz13_6
                          try clear hfz22_0
                          try clear hfz22_1
                          try clear hfz22_2
                          try clear hfz22_3
                          try clear hfz22_4
                          try clear hfz23_0
                          try clear hfz23_1
                          try clear hfz23_2
                          try clear hfz23_3
                          try clear hfz23_4
                          try clear hfz23_5
                          try clear hfz23_6
                          try clear hfz25_0
                          try clear hfz25_1
                          try clear hfz25_2
                          try clear hfz25_3
                          try clear hfz25_4
                          try clear hfz26_0
                          try clear hfz26_1
                          try clear hfz26_2
                          try clear hfz26_3
                          try clear hfz26_4
                          try clear hfz26_5
                          try clear hfz26_6
                          try clear hfz28_0
                          try clear hfz28_1
                          try clear hfz28_2
                          try clear hfz28_3
                          try clear hfz28_4
                          try clear hfz29_0
                          try clear hfz29_1
                          try clear hfz29_2
                          try clear hfz29_3
                          try clear hfz29_4
                          try clear hfz29_5
                          try clear hfz29_6
                          try clear hfz40_0
                          try clear hfz40_1
                          try clear hfz40_2
                          try clear hfz40_3
                          try clear hfz40_4
                          try clear hfz42_0
                          try clear hfz42_1
                          try clear hfz42_2
                          try clear hfz42_3
                          try clear hfz42_4
                          try clear hfz47_0
                          try clear hfz47_1
                          try clear hfz47_2
                          try clear hfz47_3
                          try clear hfz47_4
                          try clear hfz49_0
                          try clear hfz49_1
                          try clear hfz49_2
                          try clear hfz49_3
                          try clear hfz49_4
                          try clear hfz8_0
                          try clear hfz8_1
                          try clear hfz8_2
                          try clear hfz8_3
                          try clear hfz8_4
                          try clear p2
                          obtain ⟨kq, x73_32, rfl, HA, HJ32, BK227, BK238, HB⟩ := hcut
                          cases kq with
                          | zero => exact absurd HA.out (by simp [capstanref04_Next.j3])
                          | succ kj32 =>
                            have H := HA.out
                            clear HA
                            simp only [capstanref04_Next.j3] at H
                            by_cases c50 : x73_32 = true
                            · subst c50
                              have H1 : (capstanref04_Next.l1 kj32 a1 t229 t230 x9_1 (wrap64 (x10_3 + 1)) a0_0 a0_1 a0_2 a0_3 a0_4 x239000_1 x239001_1 x239002_1 t234 t235 t236 x239006_1) = some (r1, r2) := by rw [if_pos rfl] at H; exact H
                              clear H
                              have H := H1
                              clear H1
                              have H' := Aside0.mk H
                              clear H
                              go_wp2
                              repeat (go_quiet (fail); try go_wp2)
                              go_roundg kj32
                              case measure => have := HK1.out; have := HJ14.out; have := HK3.out; have := HJ32.out; omega
                              case rel => exact ⟨(wrap64 (x10_3 + 1)), (by first | rfl | (simp; done) | (simp [*]; done)), H', ⟨by have := HK1.out; have := HJ14.out; have := HK3.out; have := HJ32.out; omega⟩, ⟨by (with_reducible repeat (first | refine blk_drewN ?_ _ | refine blk_drew ?_ | refine blk_alloc ?_ _)); exact BK227.out⟩, ⟨by (with_reducible repeat (first | refine blk_drewN ?_ _ | refine blk_drew ?_ | refine blk_alloc ?_ _)); exact BK238.out⟩, ⟨by repeat (first | (with_reducible first | exact HB.out | apply below_alloc | apply pw_below_drewN | apply below_drew1 | refine below_set ?_ GE227.out | refine below_set ?_ GE238.out) | exact HB.out)⟩⟩
                            · replace c50 := Bool.eq_false_iff.mpr c50
                              subst c50
                              have H1 : ((capstanref03_Over.f 9223372036854775807 86400).bind fun bt246 => (if (wrap64 (t229 + x9_1)) > bt246.1 then (some (0, false)) else (if (wrap64 (t229 + x9_1)) = bt246.1 then (if (wrap64 (60 * x10_3)) > bt246.2 then (some (0, false)) else (some (wrap64 (a1 + (wrap64 ((wrap64 ((wrap64 (x9_1 * 86400)) + (wrap64 (60 * x10_3)))) - t230))), true))) else (some (wrap64 (a1 + (wrap64 ((wrap64 ((wrap64 (x9_1 * 86400)) + (wrap64 (60 * x10_3)))) - t230))), true))))) = some (r1, r2) := by rw [if_neg (show ¬ (false = true) by decide)] at H; exact H
                              clear H
                              have H := H1
                              clear H1
                              replace H := Option.bind_eq_some_iff.mp H
                              obtain ⟨⟨t246, t247⟩, A510, H⟩ := H
                              replace H : (if (wrap64 (t229 + x9_1)) > t246 then (some (0, false)) else (if (wrap64 (t229 + x9_1)) = t246 then (if (wrap64 (60 * x10_3)) > t247 then (some (0, false)) else (some (wrap64 (a1 + (wrap64 ((wrap64 ((wrap64 (x9_1 * 86400)) + (wrap64 (60 * x10_3)))) - t230))), true))) else (some (wrap64 (a1 + (wrap64 ((wrap64 ((wrap64 (x9_1 * 86400)) + (wrap64 (60 * x10_3)))) - t230))), true)))) = some (r1, r2) := H
                              have A51 := Aside0.mk A510
                              clear A510
                              by_cases c52 : (wrap64 (t229 + x9_1)) > t246
                              · rw [if_pos c52] at H
                                have c52b0 : decide (t246 < (wrap64 (t229 + x9_1))) = true := decide_eq_true c52
                                clear c52
                                simp only [Option.some.injEq, Prod.mk.injEq] at H
                                obtain ⟨rfl, rfl⟩ := H
                                go_wp2_with (first | (go_at_call 39; (with_reducible refine (capstanref03_Over.calls 9223372036854775807 86400 t246 t247 _ A51.out).mono ?_); rintro e w' ⟨rfl, ⟨nd, rfl⟩⟩; (try first | exact ⟨rfl, _, World.drewN_drewN _ _ _⟩ | exact ⟨rfl, _, Eq.trans (World.drewN_drewN _ _ _) (congrArg (World.drewN _) (Nat.add_assoc _ _ _))⟩)))
                                repeat (go_quiet (first | (go_at_call 39; (with_reducible refine (capstanref03_Over.calls 9223372036854775807 86400 t246 t247 _ A51.out).mono ?_); rintro e w' ⟨rfl, ⟨nd, rfl⟩⟩; (try first | exact ⟨rfl, _, World.drewN_drewN _ _ _⟩ | exact ⟨rfl, _, Eq.trans (World.drewN_drewN _ _ _) (congrArg (World.drewN _) (Nat.add_assoc _ _ _))⟩))); try go_wp2_with (first | (go_at_call 39; (with_reducible refine (capstanref03_Over.calls 9223372036854775807 86400 t246 t247 _ A51.out).mono ?_); rintro e w' ⟨rfl, ⟨nd, rfl⟩⟩; (try first | exact ⟨rfl, _, World.drewN_drewN _ _ _⟩ | exact ⟨rfl, _, Eq.trans (World.drewN_drewN _ _ _) (congrArg (World.drewN _) (Nat.add_assoc _ _ _))⟩))))
                                go_ret2
                                exact ⟨by first | rfl | (simp [errW_none, errW_some] <;> rfl) | (simp [*, errW_none, errW_some] <;> rfl), by repeat (first | (with_reducible first | exact HB.out | apply below_alloc | apply pw_below_drewN | apply below_drew1 | refine below_set ?_ GE227.out | refine below_set ?_ GE238.out) | exact HB.out)⟩
                              · rw [if_neg c52] at H
                                have c52b0 : decide (t246 < (wrap64 (t229 + x9_1))) = false := decide_eq_false c52
                                clear c52
                                by_cases c53 : (wrap64 (t229 + x9_1)) = t246
                                · rw [if_pos c53] at H
                                  have c53b0 : ((wrap64 (t229 + x9_1)) == t246) = true := beq_iff_eq.mpr c53
                                  have c53b1 : ((wrap64 (t229 + x9_1)) != t246) = false := bne_eq_false_iff_eq.mpr c53
                                  clear c53
                                  by_cases c54 : (wrap64 (60 * x10_3)) > t247
                                  · rw [if_pos c54] at H
                                    have c54b0 : decide (t247 < (wrap64 (60 * x10_3))) = true := decide_eq_true c54
                                    clear c54
                                    simp only [Option.some.injEq, Prod.mk.injEq] at H
                                    obtain ⟨rfl, rfl⟩ := H
                                    go_wp2_with (first | (go_at_call 39; (with_reducible refine (capstanref03_Over.calls 9223372036854775807 86400 t246 t247 _ A51.out).mono ?_); rintro e w' ⟨rfl, ⟨nd, rfl⟩⟩; (try first | exact ⟨rfl, _, World.drewN_drewN _ _ _⟩ | exact ⟨rfl, _, Eq.trans (World.drewN_drewN _ _ _) (congrArg (World.drewN _) (Nat.add_assoc _ _ _))⟩)))
                                    repeat (go_quiet (first | (go_at_call 39; (with_reducible refine (capstanref03_Over.calls 9223372036854775807 86400 t246 t247 _ A51.out).mono ?_); rintro e w' ⟨rfl, ⟨nd, rfl⟩⟩; (try first | exact ⟨rfl, _, World.drewN_drewN _ _ _⟩ | exact ⟨rfl, _, Eq.trans (World.drewN_drewN _ _ _) (congrArg (World.drewN _) (Nat.add_assoc _ _ _))⟩))); try go_wp2_with (first | (go_at_call 39; (with_reducible refine (capstanref03_Over.calls 9223372036854775807 86400 t246 t247 _ A51.out).mono ?_); rintro e w' ⟨rfl, ⟨nd, rfl⟩⟩; (try first | exact ⟨rfl, _, World.drewN_drewN _ _ _⟩ | exact ⟨rfl, _, Eq.trans (World.drewN_drewN _ _ _) (congrArg (World.drewN _) (Nat.add_assoc _ _ _))⟩))))
                                    go_ret2
                                    exact ⟨by first | rfl | (simp [errW_none, errW_some] <;> rfl) | (simp [*, errW_none, errW_some] <;> rfl), by repeat (first | (with_reducible first | exact HB.out | apply below_alloc | apply pw_below_drewN | apply below_drew1 | refine below_set ?_ GE227.out | refine below_set ?_ GE238.out) | exact HB.out)⟩
                                  · rw [if_neg c54] at H
                                    have c54b0 : decide (t247 < (wrap64 (60 * x10_3))) = false := decide_eq_false c54
                                    clear c54
                                    simp only [Option.some.injEq, Prod.mk.injEq] at H
                                    obtain ⟨rfl, rfl⟩ := H
                                    go_wp2_with (first | (go_at_call 39; (with_reducible refine (capstanref03_Over.calls 9223372036854775807 86400 t246 t247 _ A51.out).mono ?_); rintro e w' ⟨rfl, ⟨nd, rfl⟩⟩; (try first | exact ⟨rfl, _, World.drewN_drewN _ _ _⟩ | exact ⟨rfl, _, Eq.trans (World.drewN_drewN _ _ _) (congrArg (World.drewN _) (Nat.add_assoc _ _ _))⟩)))
                                    repeat (go_quiet (first | (go_at_call 39; (with_reducible refine (capstanref03_Over.calls 9223372036854775807 86400 t246 t247 _ A51.out).mono ?_); rintro e w' ⟨rfl, ⟨nd, rfl⟩⟩; (try first | exact ⟨rfl, _, World.drewN_drewN _ _ _⟩ | exact ⟨rfl, _, Eq.trans (World.drewN_drewN _ _ _) (congrArg (World.drewN _) (Nat.add_assoc _ _ _))⟩))); try go_wp2_with (first | (go_at_call 39; (with_reducible refine (capstanref03_Over.calls 9223372036854775807 86400 t246 t247 _ A51.out).mono ?_); rintro e w' ⟨rfl, ⟨nd, rfl⟩⟩; (try first | exact ⟨rfl, _, World.drewN_drewN _ _ _⟩ | exact ⟨rfl, _, Eq.trans (World.drewN_drewN _ _ _) (congrArg (World.drewN _) (Nat.add_assoc _ _ _))⟩))))
                                    go_ret2
                                    exact ⟨by first | rfl | (simp [errW_none, errW_some] <;> rfl) | (simp [*, errW_none, errW_some] <;> rfl), by repeat (first | (with_reducible first | exact HB.out | apply below_alloc | apply pw_below_drewN | apply below_drew1 | refine below_set ?_ GE227.out | refine below_set ?_ GE238.out) | exact HB.out)⟩
                                · rw [if_neg c53] at H
                                  have c53b0 : ((wrap64 (t229 + x9_1)) == t246) = false := beq_eq_false_iff_ne.mpr c53
                                  have c53b1 : ((wrap64 (t229 + x9_1)) != t246) = true := bne_iff_ne.mpr c53
                                  simp only [Option.some.injEq, Prod.mk.injEq] at H
                                  obtain ⟨rfl, rfl⟩ := H
                                  go_wp2_with (first | (go_at_call 39; (with_reducible refine (capstanref03_Over.calls 9223372036854775807 86400 t246 t247 _ A51.out).mono ?_); rintro e w' ⟨rfl, ⟨nd, rfl⟩⟩; (try first | exact ⟨rfl, _, World.drewN_drewN _ _ _⟩ | exact ⟨rfl, _, Eq.trans (World.drewN_drewN _ _ _) (congrArg (World.drewN _) (Nat.add_assoc _ _ _))⟩)))
                                  repeat (go_quiet (first | (go_at_call 39; (with_reducible refine (capstanref03_Over.calls 9223372036854775807 86400 t246 t247 _ A51.out).mono ?_); rintro e w' ⟨rfl, ⟨nd, rfl⟩⟩; (try first | exact ⟨rfl, _, World.drewN_drewN _ _ _⟩ | exact ⟨rfl, _, Eq.trans (World.drewN_drewN _ _ _) (congrArg (World.drewN _) (Nat.add_assoc _ _ _))⟩))); try go_wp2_with (first | (go_at_call 39; (with_reducible refine (capstanref03_Over.calls 9223372036854775807 86400 t246 t247 _ A51.out).mono ?_); rintro e w' ⟨rfl, ⟨nd, rfl⟩⟩; (try first | exact ⟨rfl, _, World.drewN_drewN _ _ _⟩ | exact ⟨rfl, _, Eq.trans (World.drewN_drewN _ _ _) (congrArg (World.drewN _) (Nat.add_assoc _ _ _))⟩))))
                                  go_ret2
                                  exact ⟨by first | rfl | (simp [errW_none, errW_some] <;> rfl) | (simp [*, errW_none, errW_some] <;> rfl), by repeat (first | (with_reducible first | exact HB.out | apply below_alloc | apply pw_below_drewN | apply below_drew1 | refine below_set ?_ GE227.out | refine below_set ?_ GE238.out) | exact HB.out)⟩
                      · rw [if_neg c32] at H
                        have c32b0 : decide (x10_3 < 1440) = false := decide_eq_false c32
                        clear c32
                        (first | rw [c32b0] | (simp only [i64_w, i32_w]; rw [c32b0]) | skip)
                        have H' := Aside0.mk H
                        clear H
                        go_wp2
                        repeat (go_quiet (fail); try go_wp2)
                        go_meet
                        case rel => exact ⟨_, H', ⟨by have := HK1.out; have := HJ14.out; have := HK3.out; first | omega | exact Nat.le_refl _⟩, ⟨by (with_reducible repeat (first | refine blk_drewN ?_ _ | refine blk_drew ?_ | refine blk_alloc ?_ _)); exact BK227.out⟩, ⟨by (with_reducible repeat (first | refine blk_drewN ?_ _ | refine blk_drew ?_ | refine blk_alloc ?_ _)); exact BK238.out⟩, ⟨by repeat (first | (with_reducible first | exact HB.out | apply below_alloc | apply pw_below_drewN | apply below_drew1 | refine below_set ?_ GE227.out | refine below_set ?_ GE238.out) | exact HB.out)⟩⟩
                · replace c31 := Bool.eq_false_iff.mpr c31
                  subst c31
                  have H1 : (capstanref04_Next.j4 kj14 a1 t229 t230 x9_1 a0_0 a0_1 a0_2 a0_3 a0_4 x239000_1 x239001_1 x239002_1 t234 t235 t236 x239006_1) = some (r1, r2) := by rw [if_neg (show ¬ (false = true) by decide)] at H; exact H
                  clear H
                  have H := H1
                  clear H1
                  have H' := Aside0.mk H
                  clear H
                  go_wp2
                  repeat (go_quiet (fail); try go_wp2)
                  go_meet
                  case rel => exact ⟨_, H', ⟨by have := HK1.out; have := HJ14.out; first | omega | exact Nat.le_refl _⟩, ⟨by (with_reducible repeat (first | refine blk_drewN ?_ _ | refine blk_drew ?_ | refine blk_alloc ?_ _)); exact BK227.out⟩, ⟨by (with_reducible repeat (first | refine blk_drewN ?_ _ | refine blk_drew ?_ | refine blk_alloc ?_ _)); exact BK238.out⟩, ⟨by repeat (first | (with_reducible first | exact HB.out | apply below_alloc | apply pw_below_drewN | apply below_drew1 | refine below_set ?_ GE227.out | refine below_set ?_ GE238.out) | exact HB.out)⟩⟩
              case rest =>
                clear HC30
                try clear c1
                try clear c2
                try clear p2
                try clear c3
                try clear c4
                try clear c5
                try clear p6
                try clear c12
                try clear c14
                try clear c14b0
                try clear c17
                try clear c19
                try clear c20
                try clear c21
                try clear c24
                try clear c27
                try clear c31
                try clear c32
                try clear c32b0
                try clear c34
                try clear c34b0
                try clear c34b1
                try clear c35
                try clear c35b0
                try clear c37
                try clear c39
                try clear c41
                try clear c44
                try clear c46
                try clear c48
                try clear c50
                try clear c52
                try clear c52b0
                try clear c53
                try clear c53b0
                try clear c53b1
                try clear c54
                try clear c54b0
                try clear hcz13_0
                try clear hcz13_1
                try clear hcz13_2
                try clear hcz13_3
                try clear hcz13_4
                try clear hcz13_5
                try clear hcz13_6
                try clear hcz22_0
                try clear hcz22_1
                try clear hcz22_2
                try clear hcz22_3
                try clear hcz22_4
                try clear hcz23_0
                try clear hcz23_1
                try clear hcz23_2
                try clear hcz23_3
                try clear hcz23_4
                try clear hcz23_5
                try clear hcz23_6
                try clear hcz25_0
                try clear hcz25_1
                try clear hcz25_2
                try clear hcz25_3
                try clear hcz25_4
                try clear hcz26_0
                try clear hcz26_1
                try clear hcz26_2
                try clear hcz26_3
                try clear hcz26_4
                try clear hcz26_5
                try clear hcz26_6
                try clear hcz28_0
                try clear hcz28_1
                try clear hcz28_2
                try clear hcz28_3
                try clear hcz28_4
                try clear hcz29_0
                try clear hcz29_1
                try clear hcz29_2
                try clear hcz29_3
                try clear hcz29_4
                try clear hcz29_5
                try clear hcz29_6
                try clear hcz40_0
                try clear hcz40_1
                try clear hcz40_2
                try clear hcz40_3
                try clear hcz40_4
                try clear hcz42_0
                try clear hcz42_1
                try clear hcz42_2
                try clear hcz42_3
                try clear hcz42_4
                try clear hcz47_0
                try clear hcz47_1
                try clear hcz47_2
                try clear hcz47_3
                try clear hcz47_4
                try clear hcz49_0
                try clear hcz49_1
                try clear hcz49_2
                try clear hcz49_3
                try clear hcz49_4
                try clear hcz8_0
                try clear hcz8_1
                try clear hcz8_2
                try clear hcz8_3
                try clear hcz8_4
                try clear hfz13_0
                try clear hfz13_1
                try clear hfz13_2
                try clear hfz13_3
                try clear hfz13_4
                try clear hfz13_5
                try clear hfz13_6
                try clear hfz22_0
                try clear hfz22_1
                try clear hfz22_2
                try clear hfz22_3
                try clear hfz22_4
                try clear hfz23_0
                try clear hfz23_1
                try clear hfz23_2
                try clear hfz23_3
                try clear hfz23_4
                try clear hfz23_5
                try clear hfz23_6
                try clear hfz25_0
                try clear hfz25_1
                try clear hfz25_2
                try clear hfz25_3
                try clear hfz25_4
                try clear hfz26_0
                try clear hfz26_1
                try clear hfz26_2
                try clear hfz26_3
                try clear hfz26_4
                try clear hfz26_5
                try clear hfz26_6
                try clear hfz28_0
                try clear hfz28_1
                try clear hfz28_2
                try clear hfz28_3
                try clear hfz28_4
                try clear hfz29_0
                try clear hfz29_1
                try clear hfz29_2
                try clear hfz29_3
                try clear hfz29_4
                try clear hfz29_5
                try clear hfz29_6
                try clear hfz40_0
                try clear hfz40_1
                try clear hfz40_2
                try clear hfz40_3
                try clear hfz40_4
                try clear hfz42_0
                try clear hfz42_1
                try clear hfz42_2
                try clear hfz42_3
                try clear hfz42_4
                try clear hfz47_0
                try clear hfz47_1
                try clear hfz47_2
                try clear hfz47_3
                try clear hfz47_4
                try clear hfz49_0
                try clear hfz49_1
                try clear hfz49_2
                try clear hfz49_3
                try clear hfz49_4
                try clear hfz8_0
                try clear hfz8_1
                try clear hfz8_2
                try clear hfz8_3
                try clear hfz8_4
                try clear p2
                try clear p6
                obtain ⟨kq, HA, HJ29, BK227, BK238, HB⟩ := hcut
                cases kq with
                | zero => exact absurd HA.out (by simp [capstanref04_Next.j4])
                | succ kj29 =>
                  have H := HA.out
                  clear HA
                  simp only [capstanref04_Next.j4] at H
                  replace H := Option.bind_eq_some_iff.mp H
                  obtain ⟨t248, A550, H⟩ := H
                  replace H : (if (wrap64 (x239002_1 + 1)) > t248 then (if (wrap64 (x239001_1 + 1)) > 12 then (capstanref04_Next.l0 kj29 a1 t229 t230 (wrap64 (x9_1 + 1)) a0_0 a0_1 a0_2 a0_3 a0_4 (wrap64 (x239000_1 + 1)) 1 1 t234 t235 t236 (Int.tmod (wrap64 (x239006_1 + 1)) 7)) else (capstanref04_Next.l0 kj29 a1 t229 t230 (wrap64 (x9_1 + 1)) a0_0 a0_1 a0_2 a0_3 a0_4 x239000_1 (wrap64 (x239001_1 + 1)) 1 t234 t235 t236 (Int.tmod (wrap64 (x239006_1 + 1)) 7))) else (if x239001_1 > 12 then (capstanref04_Next.l0 kj29 a1 t229 t230 (wrap64 (x9_1 + 1)) a0_0 a0_1 a0_2 a0_3 a0_4 (wrap64 (x239000_1 + 1)) 1 (wrap64 (x239002_1 + 1)) t234 t235 t236 (Int.tmod (wrap64 (x239006_1 + 1)) 7)) else (capstanref04_Next.l0 kj29 a1 t229 t230 (wrap64 (x9_1 + 1)) a0_0 a0_1 a0_2 a0_3 a0_4 x239000_1 x239001_1 (wrap64 (x239002_1 + 1)) t234 t235 t236 (Int.tmod (wrap64 (x239006_1 + 1)) 7)))) = some (r1, r2) := H
                  have A55 := Aside0.mk A550
                  clear A550
                  by_cases c56 : (wrap64 (x239002_1 + 1)) > t248
                  · rw [if_pos c56] at H
                    have c56b0 : decide (t248 < (wrap64 (x239002_1 + 1))) = true := decide_eq_true c56
                    clear c56
                    by_cases c57 : (wrap64 (x239001_1 + 1)) > 12
                    · rw [if_pos c57] at H
                      have c57b0 : decide (12 < (wrap64 (x239001_1 + 1))) = true := decide_eq_true c57
                      clear c57
                      have H' := Aside0.mk H
                      clear H
                      have hnb58 := NB238_227.out
                      have hnc58 := NB227_238.out
                      have hcz59_0 : wc.cell? ⟨gb238, 0, none⟩ = some (.int .i64 x239000_1) := (blk_cell BK238.out 0).trans rfl
                      have hcz59_1 : wc.cell? ⟨gb238, 1, none⟩ = some (.int .i64 x239001_1) := (blk_cell BK238.out 1).trans rfl
                      have hcz59_2 : wc.cell? ⟨gb238, 2, none⟩ = some (.int .i64 x239002_1) := (blk_cell BK238.out 2).trans rfl
                      have hcz59_3 : wc.cell? ⟨gb238, 3, none⟩ = some (.int .i64 t234) := (blk_cell BK238.out 3).trans rfl
                      have hcz59_4 : wc.cell? ⟨gb238, 4, none⟩ = some (.int .i64 t235) := (blk_cell BK238.out 4).trans rfl
                      have hcz59_5 : wc.cell? ⟨gb238, 5, none⟩ = some (.int .i64 t236) := (blk_cell BK238.out 5).trans rfl
                      have hcz59_6 : wc.cell? ⟨gb238, 6, none⟩ = some (.int .i64 x239006_1) := (blk_cell BK238.out 6).trans rfl
                      have hfz59_0 := blk_frozen BK238.out 0
                      have hfz59_1 := blk_frozen BK238.out 1
                      have hfz59_2 := blk_frozen BK238.out 2
                      have hfz59_3 := blk_frozen BK238.out 3
                      have hfz59_4 := blk_frozen BK238.out 4
                      have hfz59_5 := blk_frozen BK238.out 5
                      have hfz59_6 := blk_frozen BK238.out 6
                      go_wp2_with (first | (go_at_call 40; (with_reducible refine (capstanref03_Days.calls kj29 x239000_1 x239001_1 t248 _ A55.out).mono ?_); rintro e w' ⟨rfl, ⟨nd, rfl⟩⟩; (try first | exact ⟨rfl, _, World.drewN_drewN _ _ _⟩ | exact ⟨rfl, _, Eq.trans (World.drewN_drewN _ _ _) (congrArg (World.drewN _) (Nat.add_assoc _ _ _))⟩)))
                      repeat (go_quiet (first | (go_at_call 40; (with_reducible refine (capstanref03_Days.calls kj29 x239000_1 x239001_1 t248 _ A55.out).mono ?_); rintro e w' ⟨rfl, ⟨nd, rfl⟩⟩; (try first | exact ⟨rfl, _, World.drewN_drewN _ _ _⟩ | exact ⟨rfl, _, Eq.trans (World.drewN_drewN _ _ _) (congrArg (World.drewN _) (Nat.add_assoc _ _ _))⟩))); try go_wp2_with (first | (go_at_call 40; (with_reducible refine (capstanref03_Days.calls kj29 x239000_1 x239001_1 t248 _ A55.out).mono ?_); rintro e w' ⟨rfl, ⟨nd, rfl⟩⟩; (try first | exact ⟨rfl, _, World.drewN_drewN _ _ _⟩ | exact ⟨rfl, _, Eq.trans (World.drewN_drewN _ _ _) (congrArg (World.drewN _) (Nat.add_assoc _ _ _))⟩))))
                      go_roundg kj29
                      case measure => have := HK1.out; have := HJ14.out; have := HJ29.out; omega
                      case rel => exact ⟨(wrap64 (x9_1 + 1)), (wrap64 (x239000_1 + 1)), (1), (1), (Int.tmod (wrap64 (x239006_1 + 1)) 7), (by first | rfl | (simp; done) | (simp [*]; done)), H', ⟨by have := HK1.out; have := HJ14.out; have := HJ29.out; omega⟩, ⟨by (with_reducible repeat (first | refine blk_drewN ?_ _ | refine blk_drew ?_ | refine blk_alloc ?_ _)); refine blk_far ?_ NB227_238.out _; (with_reducible repeat (first | refine blk_drewN ?_ _ | refine blk_drew ?_ | refine blk_alloc ?_ _)); refine blk_far ?_ NB227_238.out _; (with_reducible repeat (first | refine blk_drewN ?_ _ | refine blk_drew ?_ | refine blk_alloc ?_ _)); refine blk_far ?_ NB227_238.out _; (with_reducible repeat (first | refine blk_drewN ?_ _ | refine blk_drew ?_ | refine blk_alloc ?_ _)); refine blk_far ?_ NB227_238.out _; (with_reducible repeat (first | refine blk_drewN ?_ _ | refine blk_drew ?_ | refine blk_alloc ?_ _)); refine blk_far ?_ NB227_238.out _; (with_reducible repeat (first | refine blk_drewN ?_ _ | refine blk_drew ?_ | refine blk_alloc ?_ _)); refine blk_far ?_ NB227_238.out _; (with_reducible repeat (first | refine blk_drewN ?_ _ | refine blk_drew ?_ | refine blk_alloc ?_ _)); exact BK227.out⟩, ⟨by (with_reducible repeat (first | refine blk_drewN ?_ _ | refine blk_drew ?_ | refine blk_alloc ?_ _)); refine blk_put (cs := #[.int .i64 x239000_1, .int .i64 1, .int .i64 1, .int .i64 t234, .int .i64 t235, .int .i64 t236, .int .i64 (Int.tmod (wrap64 (x239006_1 + 1)) 7)]) ?_ 0 _ rfl; (with_reducible repeat (first | refine blk_drewN ?_ _ | refine blk_drew ?_ | refine blk_alloc ?_ _)); refine blk_put (cs := #[.int .i64 x239000_1, .int .i64 (wrap64 (x239001_1 + 1)), .int .i64 1, .int .i64 t234, .int .i64 t235, .int .i64 t236, .int .i64 (Int.tmod (wrap64 (x239006_1 + 1)) 7)]) ?_ 1 _ rfl; (with_reducible repeat (first | refine blk_drewN ?_ _ | refine blk_drew ?_ | refine blk_alloc ?_ _)); refine blk_put (cs := #[.int .i64 x239000_1, .int .i64 x239001_1, .int .i64 1, .int .i64 t234, .int .i64 t235, .int .i64 t236, .int .i64 (Int.tmod (wrap64 (x239006_1 + 1)) 7)]) ?_ 1 _ rfl; (with_reducible repeat (first | refine blk_drewN ?_ _ | refine blk_drew ?_ | refine blk_alloc ?_ _)); refine blk_put (cs := #[.int .i64 x239000_1, .int .i64 x239001_1, .int .i64 (wrap64 (x239002_1 + 1)), .int .i64 t234, .int .i64 t235, .int .i64 t236, .int .i64 (Int.tmod (wrap64 (x239006_1 + 1)) 7)]) ?_ 2 _ rfl; (with_reducible repeat (first | refine blk_drewN ?_ _ | refine blk_drew ?_ | refine blk_alloc ?_ _)); refine blk_put (cs := #[.int .i64 x239000_1, .int .i64 x239001_1, .int .i64 x239002_1, .int .i64 t234, .int .i64 t235, .int .i64 t236, .int .i64 (Int.tmod (wrap64 (x239006_1 + 1)) 7)]) ?_ 2 _ rfl; (with_reducible repeat (first | refine blk_drewN ?_ _ | refine blk_drew ?_ | refine blk_alloc ?_ _)); refine blk_put (cs := #[.int .i64 x239000_1, .int .i64 x239001_1, .int .i64 x239002_1, .int .i64 t234, .int .i64 t235, .int .i64 t236, .int .i64 x239006_1]) ?_ 6 _ rfl; (with_reducible repeat (first | refine blk_drewN ?_ _ | refine blk_drew ?_ | refine blk_alloc ?_ _)); exact BK238.out⟩, ⟨by repeat (first | (with_reducible first | exact HB.out | apply below_alloc | apply pw_below_drewN | apply below_drew1 | refine below_set ?_ GE227.out | refine below_set ?_ GE238.out) | exact HB.out)⟩⟩
                    · rw [if_neg c57] at H
                      have c57b0 : decide (12 < (wrap64 (x239001_1 + 1))) = false := decide_eq_false c57
                      clear c57
                      have H' := Aside0.mk H
                      clear H
                      have hnb60 := NB238_227.out
                      have hnc60 := NB227_238.out
                      have hcz61_0 : wc.cell? ⟨gb238, 0, none⟩ = some (.int .i64 x239000_1) := (blk_cell BK238.out 0).trans rfl
                      have hcz61_1 : wc.cell? ⟨gb238, 1, none⟩ = some (.int .i64 x239001_1) := (blk_cell BK238.out 1).trans rfl
                      have hcz61_2 : wc.cell? ⟨gb238, 2, none⟩ = some (.int .i64 x239002_1) := (blk_cell BK238.out 2).trans rfl
                      have hcz61_3 : wc.cell? ⟨gb238, 3, none⟩ = some (.int .i64 t234) := (blk_cell BK238.out 3).trans rfl
                      have hcz61_4 : wc.cell? ⟨gb238, 4, none⟩ = some (.int .i64 t235) := (blk_cell BK238.out 4).trans rfl
                      have hcz61_5 : wc.cell? ⟨gb238, 5, none⟩ = some (.int .i64 t236) := (blk_cell BK238.out 5).trans rfl
                      have hcz61_6 : wc.cell? ⟨gb238, 6, none⟩ = some (.int .i64 x239006_1) := (blk_cell BK238.out 6).trans rfl
                      have hfz61_0 := blk_frozen BK238.out 0
                      have hfz61_1 := blk_frozen BK238.out 1
                      have hfz61_2 := blk_frozen BK238.out 2
                      have hfz61_3 := blk_frozen BK238.out 3
                      have hfz61_4 := blk_frozen BK238.out 4
                      have hfz61_5 := blk_frozen BK238.out 5
                      have hfz61_6 := blk_frozen BK238.out 6
                      go_wp2_with (first | (go_at_call 40; (with_reducible refine (capstanref03_Days.calls kj29 x239000_1 x239001_1 t248 _ A55.out).mono ?_); rintro e w' ⟨rfl, ⟨nd, rfl⟩⟩; (try first | exact ⟨rfl, _, World.drewN_drewN _ _ _⟩ | exact ⟨rfl, _, Eq.trans (World.drewN_drewN _ _ _) (congrArg (World.drewN _) (Nat.add_assoc _ _ _))⟩)))
                      repeat (go_quiet (first | (go_at_call 40; (with_reducible refine (capstanref03_Days.calls kj29 x239000_1 x239001_1 t248 _ A55.out).mono ?_); rintro e w' ⟨rfl, ⟨nd, rfl⟩⟩; (try first | exact ⟨rfl, _, World.drewN_drewN _ _ _⟩ | exact ⟨rfl, _, Eq.trans (World.drewN_drewN _ _ _) (congrArg (World.drewN _) (Nat.add_assoc _ _ _))⟩))); try go_wp2_with (first | (go_at_call 40; (with_reducible refine (capstanref03_Days.calls kj29 x239000_1 x239001_1 t248 _ A55.out).mono ?_); rintro e w' ⟨rfl, ⟨nd, rfl⟩⟩; (try first | exact ⟨rfl, _, World.drewN_drewN _ _ _⟩ | exact ⟨rfl, _, Eq.trans (World.drewN_drewN _ _ _) (congrArg (World.drewN _) (Nat.add_assoc _ _ _))⟩))))
                      go_roundg kj29
                      case measure => have := HK1.out; have := HJ14.out; have := HJ29.out; omega
                      case rel => exact ⟨(wrap64 (x9_1 + 1)), (x239000_1), (wrap64 (x239001_1 + 1)), (1), (Int.tmod (wrap64 (x239006_1 + 1)) 7), (by first | rfl | (simp; done) | (simp [*]; done)), H', ⟨by have := HK1.out; have := HJ14.out; have := HJ29.out; omega⟩, ⟨by (with_reducible repeat (first | refine blk_drewN ?_ _ | refine blk_drew ?_ | refine blk_alloc ?_ _)); refine blk_far ?_ NB227_238.out _; (with_reducible repeat (first | refine blk_drewN ?_ _ | refine blk_drew ?_ | refine blk_alloc ?_ _)); refine blk_far ?_ NB227_238.out _; (with_reducible repeat (first | refine blk_drewN ?_ _ | refine blk_drew ?_ | refine blk_alloc ?_ _)); refine blk_far ?_ NB227_238.out _; (with_reducible repeat (first | refine blk_drewN ?_ _ | refine blk_drew ?_ | refine blk_alloc ?_ _)); refine blk_far ?_ NB227_238.out _; (with_reducible repeat (first | refine blk_drewN ?_ _ | refine blk_drew ?_ | refine blk_alloc ?_ _)); exact BK227.out⟩, ⟨by (with_reducible repeat (first | refine blk_drewN ?_ _ | refine blk_drew ?_ | refine blk_alloc ?_ _)); refine blk_put (cs := #[.int .i64 x239000_1, .int .i64 x239001_1, .int .i64 1, .int .i64 t234, .int .i64 t235, .int .i64 t236, .int .i64 (Int.tmod (wrap64 (x239006_1 + 1)) 7)]) ?_ 1 _ rfl; (with_reducible repeat (first | refine blk_drewN ?_ _ | refine blk_drew ?_ | refine blk_alloc ?_ _)); refine blk_put (cs := #[.int .i64 x239000_1, .int .i64 x239001_1, .int .i64 (wrap64 (x239002_1 + 1)), .int .i64 t234, .int .i64 t235, .int .i64 t236, .int .i64 (Int.tmod (wrap64 (x239006_1 + 1)) 7)]) ?_ 2 _ rfl; (with_reducible repeat (first | refine blk_drewN ?_ _ | refine blk_drew ?_ | refine blk_alloc ?_ _)); refine blk_put (cs := #[.int .i64 x239000_1, .int .i64 x239001_1, .int .i64 x239002_1, .int .i64 t234, .int .i64 t235, .int .i64 t236, .int .i64 (Int.tmod (wrap64 (x239006_1 + 1)) 7)]) ?_ 2 _ rfl; (with_reducible repeat (first | refine blk_drewN ?_ _ | refine blk_drew ?_ | refine blk_alloc ?_ _)); refine blk_put (cs := #[.int .i64 x239000_1, .int .i64 x239001_1, .int .i64 x239002_1, .int .i64 t234, .int .i64 t235, .int .i64 t236, .int .i64 x239006_1]) ?_ 6 _ rfl; (with_reducible repeat (first | refine blk_drewN ?_ _ | refine blk_drew ?_ | refine blk_alloc ?_ _)); exact BK238.out⟩, ⟨by repeat (first | (with_reducible first | exact HB.out | apply below_alloc | apply pw_below_drewN | apply below_drew1 | refine below_set ?_ GE227.out | refine below_set ?_ GE238.out) | exact HB.out)⟩⟩
                  · rw [if_neg c56] at H
                    have c56b0 : decide (t248 < (wrap64 (x239002_1 + 1))) = false := decide_eq_false c56
                    clear c56
                    by_cases c62 : x239001_1 > 12
                    · rw [if_pos c62] at H
                      have c62b0 : decide (12 < x239001_1) = true := decide_eq_true c62
                      clear c62
                      have H' := Aside0.mk H
                      clear H
                      have hnb63 := NB238_227.out
                      have hnc63 := NB227_238.out
                      have hcz64_0 : wc.cell? ⟨gb238, 0, none⟩ = some (.int .i64 x239000_1) := (blk_cell BK238.out 0).trans rfl
                      have hcz64_1 : wc.cell? ⟨gb238, 1, none⟩ = some (.int .i64 x239001_1) := (blk_cell BK238.out 1).trans rfl
                      have hcz64_2 : wc.cell? ⟨gb238, 2, none⟩ = some (.int .i64 x239002_1) := (blk_cell BK238.out 2).trans rfl
                      have hcz64_3 : wc.cell? ⟨gb238, 3, none⟩ = some (.int .i64 t234) := (blk_cell BK238.out 3).trans rfl
                      have hcz64_4 : wc.cell? ⟨gb238, 4, none⟩ = some (.int .i64 t235) := (blk_cell BK238.out 4).trans rfl
                      have hcz64_5 : wc.cell? ⟨gb238, 5, none⟩ = some (.int .i64 t236) := (blk_cell BK238.out 5).trans rfl
                      have hcz64_6 : wc.cell? ⟨gb238, 6, none⟩ = some (.int .i64 x239006_1) := (blk_cell BK238.out 6).trans rfl
                      have hfz64_0 := blk_frozen BK238.out 0
                      have hfz64_1 := blk_frozen BK238.out 1
                      have hfz64_2 := blk_frozen BK238.out 2
                      have hfz64_3 := blk_frozen BK238.out 3
                      have hfz64_4 := blk_frozen BK238.out 4
                      have hfz64_5 := blk_frozen BK238.out 5
                      have hfz64_6 := blk_frozen BK238.out 6
                      go_wp2_with (first | (go_at_call 40; (with_reducible refine (capstanref03_Days.calls kj29 x239000_1 x239001_1 t248 _ A55.out).mono ?_); rintro e w' ⟨rfl, ⟨nd, rfl⟩⟩; (try first | exact ⟨rfl, _, World.drewN_drewN _ _ _⟩ | exact ⟨rfl, _, Eq.trans (World.drewN_drewN _ _ _) (congrArg (World.drewN _) (Nat.add_assoc _ _ _))⟩)))
                      repeat (go_quiet (first | (go_at_call 40; (with_reducible refine (capstanref03_Days.calls kj29 x239000_1 x239001_1 t248 _ A55.out).mono ?_); rintro e w' ⟨rfl, ⟨nd, rfl⟩⟩; (try first | exact ⟨rfl, _, World.drewN_drewN _ _ _⟩ | exact ⟨rfl, _, Eq.trans (World.drewN_drewN _ _ _) (congrArg (World.drewN _) (Nat.add_assoc _ _ _))⟩))); try go_wp2_with (first | (go_at_call 40; (with_reducible refine (capstanref03_Days.calls kj29 x239000_1 x239001_1 t248 _ A55.out).mono ?_); rintro e w' ⟨rfl, ⟨nd, rfl⟩⟩; (try first | exact ⟨rfl, _, World.drewN_drewN _ _ _⟩ | exact ⟨rfl, _, Eq.trans (World.drewN_drewN _ _ _) (congrArg (World.drewN _) (Nat.add_assoc _ _ _))⟩))))
                      go_roundg kj29
                      case measure => have := HK1.out; have := HJ14.out; have := HJ29.out; omega
                      case rel => exact ⟨(wrap64 (x9_1 + 1)), (wrap64 (x239000_1 + 1)), (1), (wrap64 (x239002_1 + 1)), (Int.tmod (wrap64 (x239006_1 + 1)) 7), (by first | rfl | (simp; done) | (simp [*]; done)), H', ⟨by have := HK1.out; have := HJ14.out; have := HJ29.out; omega⟩, ⟨by (with_reducible repeat (first | refine blk_drewN ?_ _ | refine blk_drew ?_ | refine blk_alloc ?_ _)); refine blk_far ?_ NB227_238.out _; (with_reducible repeat (first | refine blk_drewN ?_ _ | refine blk_drew ?_ | refine blk_alloc ?_ _)); refine blk_far ?_ NB227_238.out _; (with_reducible repeat (first | refine blk_drewN ?_ _ | refine blk_drew ?_ | refine blk_alloc ?_ _)); refine blk_far ?_ NB227_238.out _; (with_reducible repeat (first | refine blk_drewN ?_ _ | refine blk_drew ?_ | refine blk_alloc ?_ _)); refine blk_far ?_ NB227_238.out _; (with_reducible repeat (first | refine blk_drewN ?_ _ | refine blk_drew ?_ | refine blk_alloc ?_ _)); exact BK227.out⟩, ⟨by (with_reducible repeat (first | refine blk_drewN ?_ _ | refine blk_drew ?_ | refine blk_alloc ?_ _)); refine blk_put (cs := #[.int .i64 x239000_1, .int .i64 1, .int .i64 (wrap64 (x239002_1 + 1)), .int .i64 t234, .int .i64 t235, .int .i64 t236, .int .i64 (Int.tmod (wrap64 (x239006_1 + 1)) 7)]) ?_ 0 _ rfl; (with_reducible repeat (first | refine blk_drewN ?_ _ | refine blk_drew ?_ | refine blk_alloc ?_ _)); refine blk_put (cs := #[.int .i64 x239000_1, .int .i64 x239001_1, .int .i64 (wrap64 (x239002_1 + 1)), .int .i64 t234, .int .i64 t235, .int .i64 t236, .int .i64 (Int.tmod (wrap64 (x239006_1 + 1)) 7)]) ?_ 1 _ rfl; (with_reducible repeat (first | refine blk_drewN ?_ _ | refine blk_drew ?_ | refine blk_alloc ?_ _)); refine blk_put (cs := #[.int .i64 x239000_1, .int .i64 x239001_1, .int .i64 x239002_1, .int .i64 t234, .int .i64 t235, .int .i64 t236, .int .i64 (Int.tmod (wrap64 (x239006_1 + 1)) 7)]) ?_ 2 _ rfl; (with_reducible repeat (first | refine blk_drewN ?_ _ | refine blk_drew ?_ | refine blk_alloc ?_ _)); refine blk_put (cs := #[.int .i64 x239000_1, .int .i64 x239001_1, .int .i64 x239002_1, .int .i64 t234, .int .i64 t235, .int .i64 t236, .int .i64 x239006_1]) ?_ 6 _ rfl; (with_reducible repeat (first | refine blk_drewN ?_ _ | refine blk_drew ?_ | refine blk_alloc ?_ _)); exact BK238.out⟩, ⟨by repeat (first | (with_reducible first | exact HB.out | apply below_alloc | apply pw_below_drewN | apply below_drew1 | refine below_set ?_ GE227.out | refine below_set ?_ GE238.out) | exact HB.out)⟩⟩
                    · rw [if_neg c62] at H
                      have c62b0 : decide (12 < x239001_1) = false := decide_eq_false c62
                      clear c62
                      have H' := Aside0.mk H
                      clear H
                      have hnb65 := NB238_227.out
                      have hnc65 := NB227_238.out
                      have hcz66_0 : wc.cell? ⟨gb238, 0, none⟩ = some (.int .i64 x239000_1) := (blk_cell BK238.out 0).trans rfl
                      have hcz66_1 : wc.cell? ⟨gb238, 1, none⟩ = some (.int .i64 x239001_1) := (blk_cell BK238.out 1).trans rfl
                      have hcz66_2 : wc.cell? ⟨gb238, 2, none⟩ = some (.int .i64 x239002_1) := (blk_cell BK238.out 2).trans rfl
                      have hcz66_3 : wc.cell? ⟨gb238, 3, none⟩ = some (.int .i64 t234) := (blk_cell BK238.out 3).trans rfl
                      have hcz66_4 : wc.cell? ⟨gb238, 4, none⟩ = some (.int .i64 t235) := (blk_cell BK238.out 4).trans rfl
                      have hcz66_5 : wc.cell? ⟨gb238, 5, none⟩ = some (.int .i64 t236) := (blk_cell BK238.out 5).trans rfl
                      have hcz66_6 : wc.cell? ⟨gb238, 6, none⟩ = some (.int .i64 x239006_1) := (blk_cell BK238.out 6).trans rfl
                      have hfz66_0 := blk_frozen BK238.out 0
                      have hfz66_1 := blk_frozen BK238.out 1
                      have hfz66_2 := blk_frozen BK238.out 2
                      have hfz66_3 := blk_frozen BK238.out 3
                      have hfz66_4 := blk_frozen BK238.out 4
                      have hfz66_5 := blk_frozen BK238.out 5
                      have hfz66_6 := blk_frozen BK238.out 6
                      go_wp2_with (first | (go_at_call 40; (with_reducible refine (capstanref03_Days.calls kj29 x239000_1 x239001_1 t248 _ A55.out).mono ?_); rintro e w' ⟨rfl, ⟨nd, rfl⟩⟩; (try first | exact ⟨rfl, _, World.drewN_drewN _ _ _⟩ | exact ⟨rfl, _, Eq.trans (World.drewN_drewN _ _ _) (congrArg (World.drewN _) (Nat.add_assoc _ _ _))⟩)))
                      repeat (go_quiet (first | (go_at_call 40; (with_reducible refine (capstanref03_Days.calls kj29 x239000_1 x239001_1 t248 _ A55.out).mono ?_); rintro e w' ⟨rfl, ⟨nd, rfl⟩⟩; (try first | exact ⟨rfl, _, World.drewN_drewN _ _ _⟩ | exact ⟨rfl, _, Eq.trans (World.drewN_drewN _ _ _) (congrArg (World.drewN _) (Nat.add_assoc _ _ _))⟩))); try go_wp2_with (first | (go_at_call 40; (with_reducible refine (capstanref03_Days.calls kj29 x239000_1 x239001_1 t248 _ A55.out).mono ?_); rintro e w' ⟨rfl, ⟨nd, rfl⟩⟩; (try first | exact ⟨rfl, _, World.drewN_drewN _ _ _⟩ | exact ⟨rfl, _, Eq.trans (World.drewN_drewN _ _ _) (congrArg (World.drewN _) (Nat.add_assoc _ _ _))⟩))))
                      go_roundg kj29
                      case measure => have := HK1.out; have := HJ14.out; have := HJ29.out; omega
                      case rel => exact ⟨(wrap64 (x9_1 + 1)), (x239000_1), (x239001_1), (wrap64 (x239002_1 + 1)), (Int.tmod (wrap64 (x239006_1 + 1)) 7), (by first | rfl | (simp; done) | (simp [*]; done)), H', ⟨by have := HK1.out; have := HJ14.out; have := HJ29.out; omega⟩, ⟨by (with_reducible repeat (first | refine blk_drewN ?_ _ | refine blk_drew ?_ | refine blk_alloc ?_ _)); refine blk_far ?_ NB227_238.out _; (with_reducible repeat (first | refine blk_drewN ?_ _ | refine blk_drew ?_ | refine blk_alloc ?_ _)); refine blk_far ?_ NB227_238.out _; (with_reducible repeat (first | refine blk_drewN ?_ _ | refine blk_drew ?_ | refine blk_alloc ?_ _)); exact BK227.out⟩, ⟨by (with_reducible repeat (first | refine blk_drewN ?_ _ | refine blk_drew ?_ | refine blk_alloc ?_ _)); refine blk_put (cs := #[.int .i64 x239000_1, .int .i64 x239001_1, .int .i64 x239002_1, .int .i64 t234, .int .i64 t235, .int .i64 t236, .int .i64 (Int.tmod (wrap64 (x239006_1 + 1)) 7)]) ?_ 2 _ rfl; (with_reducible repeat (first | refine blk_drewN ?_ _ | refine blk_drew ?_ | refine blk_alloc ?_ _)); refine blk_put (cs := #[.int .i64 x239000_1, .int .i64 x239001_1, .int .i64 x239002_1, .int .i64 t234, .int .i64 t235, .int .i64 t236, .int .i64 x239006_1]) ?_ 6 _ rfl; (with_reducible repeat (first | refine blk_drewN ?_ _ | refine blk_drew ?_ | refine blk_alloc ?_ _)); exact BK238.out⟩, ⟨by repeat (first | (with_reducible first | exact HB.out | apply below_alloc | apply pw_below_drewN | apply below_drew1 | refine below_set ?_ GE227.out | refine below_set ?_ GE238.out) | exact HB.out)⟩⟩
        · rw [if_neg c14] at H
          have c14b0 : decide (x9_1 < 10228) = false := decide_eq_false c14
          clear c14
          simp only [Option.some.injEq, Prod.mk.injEq] at H
          obtain ⟨rfl, rfl⟩ := H
          go_wp2
          repeat (go_quiet (fail); try go_wp2)
          go_ret2
          exact ⟨by first | rfl | (simp [errW_none, errW_some] <;> rfl) | (simp [*, errW_none, errW_some] <;> rfl), by repeat (first | (with_reducible first | exact HB.out | apply below_alloc | apply pw_below_drewN | apply below_drew1 | refine below_set ?_ GE227.out | refine below_set ?_ GE238.out) | exact HB.out)⟩
  · replace c4 := Bool.eq_false_iff.mpr c4
    subst c4
    have H1 : (some (0, false)) = some (r1, r2) := by rw [if_neg (show ¬ (false = true) by decide)] at H; exact H
    clear H
    have H := H1
    clear H1
    simp only [Option.some.injEq, Prod.mk.injEq] at H
    obtain ⟨rfl, rfl⟩ := H
    go_enter Tryd.func20, Tryd.ntmps20
    go_wp2_with (first | ((with_reducible refine gate_dst (N := 2) rfl ?_); refine box_event ?hg (N := 2) ?hd (cs := #[.int .u64 a0_0, .int .u64 a0_1, .int .u64 a0_2, .int .u64 a0_3, .int .u64 a0_4]) (t := 25) ?hr ?_; (case hd => rfl); (case hg => rfl); (case hr => first | (go_simp; done) | (go_simp; rfl)); intro gb227 hg w67 hbox hb; have n0_ := Aside0.mk (below_step (by repeat (first | (with_reducible first | exact HB.out | apply below_alloc | apply pw_below_drewN | apply below_drew1) | exact HB.out)) hb); have n1_ := Aside0.mk (hbox); have n2_ := Aside0.mk ((by rw [hg]; exact (below_size (by repeat (first | (with_reducible first | exact HB.out | apply below_alloc | apply pw_below_drewN | apply below_drew1) | exact HB.out))) : w.heap.size ≤ gb227)); have n3_ := Aside0.mk ((by rw [hg]; exact (below_size (by repeat (first | (with_reducible first | exact HB.out | apply below_alloc | apply pw_below_drewN | apply below_drew1) | exact HB.out))) : w.heap.size ≤ gb227)); clear HB; have HB := n0_; have BK227 := n1_; have GW227 := n2_; have GE227 := n3_; clear n0_ n1_ n2_ n3_; clear hb hbox hg; have hcz68_0 : w67.cell? ⟨gb227, 0, none⟩ = some (.int .u64 a0_0) := (blk_cell BK227.out 0).trans rfl; have hcz68_1 : w67.cell? ⟨gb227, 1, none⟩ = some (.int .u64 a0_1) := (blk_cell BK227.out 1).trans rfl; have hcz68_2 : w67.cell? ⟨gb227, 2, none⟩ = some (.int .u64 a0_2) := (blk_cell BK227.out 2).trans rfl; have hcz68_3 : w67.cell? ⟨gb227, 3, none⟩ = some (.int .u64 a0_3) := (blk_cell BK227.out 3).trans rfl; have hcz68_4 : w67.cell? ⟨gb227, 4, none⟩ = some (.int .u64 a0_4) := (blk_cell BK227.out 4).trans rfl; have hfz68_0 := blk_frozen BK227.out 0; have hfz68_1 := blk_frozen BK227.out 1; have hfz68_2 := blk_frozen BK227.out 2; have hfz68_3 := blk_frozen BK227.out 3; have hfz68_4 := blk_frozen BK227.out 4) | (go_at_call 16; (with_reducible refine (Cw.rformed.calls a0_0 a0_1 a0_2 a0_3 a0_4 false _ A3.out).mono ?_); rintro e w69 ⟨rfl, hb⟩; have n0_ := Aside0.mk (blk_below (g := gb227) (o := .cells #[.int .u64 a0_0, .int .u64 a0_1, .int .u64 a0_2, .int .u64 a0_3, .int .u64 a0_4] 25 (0, 0)) (by (with_reducible repeat (first | refine blk_drewN ?_ _ | refine blk_drew ?_ | refine blk_alloc ?_ _)); exact BK227.out) hb); have n1_ := Aside0.mk (below_step (by repeat (first | (with_reducible first | exact HB.out | apply below_alloc | apply pw_below_drewN | apply below_drew1 | refine below_set ?_ GE227.out) | exact HB.out)) hb); clear BK227; clear HB; have BK227 := n0_; have HB := n1_; clear n0_ n1_; (try clear hb); (try clear hb2); (try clear hk); (try clear hi)))
    repeat (go_quiet (first | ((with_reducible refine gate_dst (N := 2) rfl ?_); refine box_event ?hg (N := 2) ?hd (cs := #[.int .u64 a0_0, .int .u64 a0_1, .int .u64 a0_2, .int .u64 a0_3, .int .u64 a0_4]) (t := 25) ?hr ?_; (case hd => rfl); (case hg => rfl); (case hr => first | (go_simp; done) | (go_simp; rfl)); intro gb227 hg w67 hbox hb; have n0_ := Aside0.mk (below_step (by repeat (first | (with_reducible first | exact HB.out | apply below_alloc | apply pw_below_drewN | apply below_drew1) | exact HB.out)) hb); have n1_ := Aside0.mk (hbox); have n2_ := Aside0.mk ((by rw [hg]; exact (below_size (by repeat (first | (with_reducible first | exact HB.out | apply below_alloc | apply pw_below_drewN | apply below_drew1) | exact HB.out))) : w.heap.size ≤ gb227)); have n3_ := Aside0.mk ((by rw [hg]; exact (below_size (by repeat (first | (with_reducible first | exact HB.out | apply below_alloc | apply pw_below_drewN | apply below_drew1) | exact HB.out))) : w.heap.size ≤ gb227)); clear HB; have HB := n0_; have BK227 := n1_; have GW227 := n2_; have GE227 := n3_; clear n0_ n1_ n2_ n3_; clear hb hbox hg; have hcz68_0 : w67.cell? ⟨gb227, 0, none⟩ = some (.int .u64 a0_0) := (blk_cell BK227.out 0).trans rfl; have hcz68_1 : w67.cell? ⟨gb227, 1, none⟩ = some (.int .u64 a0_1) := (blk_cell BK227.out 1).trans rfl; have hcz68_2 : w67.cell? ⟨gb227, 2, none⟩ = some (.int .u64 a0_2) := (blk_cell BK227.out 2).trans rfl; have hcz68_3 : w67.cell? ⟨gb227, 3, none⟩ = some (.int .u64 a0_3) := (blk_cell BK227.out 3).trans rfl; have hcz68_4 : w67.cell? ⟨gb227, 4, none⟩ = some (.int .u64 a0_4) := (blk_cell BK227.out 4).trans rfl; have hfz68_0 := blk_frozen BK227.out 0; have hfz68_1 := blk_frozen BK227.out 1; have hfz68_2 := blk_frozen BK227.out 2; have hfz68_3 := blk_frozen BK227.out 3; have hfz68_4 := blk_frozen BK227.out 4) | (go_at_call 16; (with_reducible refine (Cw.rformed.calls a0_0 a0_1 a0_2 a0_3 a0_4 false _ A3.out).mono ?_); rintro e w69 ⟨rfl, hb⟩; have n0_ := Aside0.mk (blk_below (g := gb227) (o := .cells #[.int .u64 a0_0, .int .u64 a0_1, .int .u64 a0_2, .int .u64 a0_3, .int .u64 a0_4] 25 (0, 0)) (by (with_reducible repeat (first | refine blk_drewN ?_ _ | refine blk_drew ?_ | refine blk_alloc ?_ _)); exact BK227.out) hb); have n1_ := Aside0.mk (below_step (by repeat (first | (with_reducible first | exact HB.out | apply below_alloc | apply pw_below_drewN | apply below_drew1 | refine below_set ?_ GE227.out) | exact HB.out)) hb); clear BK227; clear HB; have BK227 := n0_; have HB := n1_; clear n0_ n1_; (try clear hb); (try clear hb2); (try clear hk); (try clear hi))); try go_wp2_with (first | ((with_reducible refine gate_dst (N := 2) rfl ?_); refine box_event ?hg (N := 2) ?hd (cs := #[.int .u64 a0_0, .int .u64 a0_1, .int .u64 a0_2, .int .u64 a0_3, .int .u64 a0_4]) (t := 25) ?hr ?_; (case hd => rfl); (case hg => rfl); (case hr => first | (go_simp; done) | (go_simp; rfl)); intro gb227 hg w67 hbox hb; have n0_ := Aside0.mk (below_step (by repeat (first | (with_reducible first | exact HB.out | apply below_alloc | apply pw_below_drewN | apply below_drew1) | exact HB.out)) hb); have n1_ := Aside0.mk (hbox); have n2_ := Aside0.mk ((by rw [hg]; exact (below_size (by repeat (first | (with_reducible first | exact HB.out | apply below_alloc | apply pw_below_drewN | apply below_drew1) | exact HB.out))) : w.heap.size ≤ gb227)); have n3_ := Aside0.mk ((by rw [hg]; exact (below_size (by repeat (first | (with_reducible first | exact HB.out | apply below_alloc | apply pw_below_drewN | apply below_drew1) | exact HB.out))) : w.heap.size ≤ gb227)); clear HB; have HB := n0_; have BK227 := n1_; have GW227 := n2_; have GE227 := n3_; clear n0_ n1_ n2_ n3_; clear hb hbox hg; have hcz68_0 : w67.cell? ⟨gb227, 0, none⟩ = some (.int .u64 a0_0) := (blk_cell BK227.out 0).trans rfl; have hcz68_1 : w67.cell? ⟨gb227, 1, none⟩ = some (.int .u64 a0_1) := (blk_cell BK227.out 1).trans rfl; have hcz68_2 : w67.cell? ⟨gb227, 2, none⟩ = some (.int .u64 a0_2) := (blk_cell BK227.out 2).trans rfl; have hcz68_3 : w67.cell? ⟨gb227, 3, none⟩ = some (.int .u64 a0_3) := (blk_cell BK227.out 3).trans rfl; have hcz68_4 : w67.cell? ⟨gb227, 4, none⟩ = some (.int .u64 a0_4) := (blk_cell BK227.out 4).trans rfl; have hfz68_0 := blk_frozen BK227.out 0; have hfz68_1 := blk_frozen BK227.out 1; have hfz68_2 := blk_frozen BK227.out 2; have hfz68_3 := blk_frozen BK227.out 3; have hfz68_4 := blk_frozen BK227.out 4) | (go_at_call 16; (with_reducible refine (Cw.rformed.calls a0_0 a0_1 a0_2 a0_3 a0_4 false _ A3.out).mono ?_); rintro e w69 ⟨rfl, hb⟩; have n0_ := Aside0.mk (blk_below (g := gb227) (o := .cells #[.int .u64 a0_0, .int .u64 a0_1, .int .u64 a0_2, .int .u64 a0_3, .int .u64 a0_4] 25 (0, 0)) (by (with_reducible repeat (first | refine blk_drewN ?_ _ | refine blk_drew ?_ | refine blk_alloc ?_ _)); exact BK227.out) hb); have n1_ := Aside0.mk (below_step (by repeat (first | (with_reducible first | exact HB.out | apply below_alloc | apply pw_below_drewN | apply below_drew1 | refine below_set ?_ GE227.out) | exact HB.out)) hb); clear BK227; clear HB; have BK227 := n0_; have HB := n1_; clear n0_ n1_; (try clear hb); (try clear hb2); (try clear hk); (try clear hi))))
    go_ret2
    exact ⟨by first | rfl | (simp [errW_none, errW_some] <;> rfl) | (simp [*, errW_none, errW_some] <;> rfl), by repeat (first | (with_reducible first | exact HB.out | apply below_alloc | apply pw_below_drewN | apply below_drew1 | refine below_set ?_ GE227.out) | exact HB.out)⟩



/-! ### capstanlaw04_CronNext: function 8 -/
def capstanlaw04_CronNext.f (k : Nat) (a0_0 : Int) (a0_1 : Int) (a0_2 : Int) (a0_3 : Int) (a0_4 : Int) (a1 : Int) : Option (Bool) := (capstanlaw04_awake.f k).bind fun t250 => (if t250 = true then ((cron_Next.f k a0_0 a0_1 a0_2 a0_3 a0_4 a1).bind fun bt251 => ((capstanref04_Next.f k a0_0 a0_1 a0_2 a0_3 a0_4 a1).bind fun bt253 => (if bt251.1 = bt253.1 then (some (bt251.2 == bt253.2)) else (some false)))) else (some false))
theorem capstanlaw04_CronNext.mono : ∀ a0 a1 a2 a3 a4 a5 k, LeO (capstanlaw04_CronNext.f k a0 a1 a2 a3 a4 a5) (capstanlaw04_CronNext.f (k + 1) a0 a1 a2 a3 a4 a5) := by
  intro a0 a1 a2 a3 a4 a5 k
  unfold capstanlaw04_CronNext.f
  repeat' first
      | (with_reducible exact capstanlaw04_awake.mono _)
      | (with_reducible exact capstanref04_Next.mono _ _ _ _ _ _ _)
      | (with_reducible exact cron_Next.mono _ _ _ _ _ _ _)
      | (with_reducible exact LeO.refl _)
      | (with_reducible exact LeO.none _)
      | (with_reducible refine LeO.ite ?_ ?_)
      | (with_reducible refine LeO.bind ?_ (fun _ => ?_))
      | exact capstanlaw04_awake.mono _
      | exact capstanref04_Next.mono _ _ _ _ _ _ _
      | exact cron_Next.mono _ _ _ _ _ _ _
      | exact LeO.none _
      | refine LeO.ite ?_ ?_
      | refine LeO.bind ?_ (fun _ => ?_)
set_option maxHeartbeats 8000000 in
set_option maxRecDepth 100000 in
theorem capstanlaw04_CronNext.calls (k : Nat) (a0_0 : Int) (a0_1 : Int) (a0_2 : Int) (a0_3 : Int) (a0_4 : Int) (a1 : Int) (r : Bool) (w : World) (h : capstanlaw04_CronNext.f k a0_0 a0_1 a0_2 a0_3 a0_4 a1 = some r) (hL_ : Go.Proofs.YtkmcmgfmahildaaDoor.Laid.Laid w) :
    Calls Tryd.prog 8 #[.agg #[.int .u64 a0_0, .int .u64 a0_1, .int .u64 a0_2, .int .u64 a0_3, .int .u64 a0_4], .int .i64 a1] w fun e w' => e = .returned (.bool r) ∧ Below w.heap.size w w' := by
  have HL_ := Aside0.mk hL_
  clear hL_
  have hu25 := Tryd.underlying25
  have HB := Aside0.mk (Below.refl w.heap.size w)
  have H : ((capstanlaw04_awake.f k).bind fun t250 => (if t250 = true then ((cron_Next.f k a0_0 a0_1 a0_2 a0_3 a0_4 a1).bind fun bt251 => ((capstanref04_Next.f k a0_0 a0_1 a0_2 a0_3 a0_4 a1).bind fun bt253 => (if bt251.1 = bt253.1 then (some (bt251.2 == bt253.2)) else (some false)))) else (some false))) = some r := h
  clear h
  replace H := Option.bind_eq_some_iff.mp H
  obtain ⟨t250, A30, H⟩ := H
  replace H : (if t250 = true then ((cron_Next.f k a0_0 a0_1 a0_2 a0_3 a0_4 a1).bind fun bt251 => ((capstanref04_Next.f k a0_0 a0_1 a0_2 a0_3 a0_4 a1).bind fun bt253 => (if bt251.1 = bt253.1 then (some (bt251.2 == bt253.2)) else (some false)))) else (some false)) = some r := H
  have A3 := Aside0.mk A30
  clear A30
  by_cases c4 : t250 = true
  · subst c4
    have H1 : ((cron_Next.f k a0_0 a0_1 a0_2 a0_3 a0_4 a1).bind fun bt251 => ((capstanref04_Next.f k a0_0 a0_1 a0_2 a0_3 a0_4 a1).bind fun bt253 => (if bt251.1 = bt253.1 then (some (bt251.2 == bt253.2)) else (some false)))) = some r := by rw [if_pos rfl] at H; exact H
    clear H
    have H := H1
    clear H1
    replace H := Option.bind_eq_some_iff.mp H
    obtain ⟨⟨t251, t252⟩, A50, H⟩ := H
    replace H : ((capstanref04_Next.f k a0_0 a0_1 a0_2 a0_3 a0_4 a1).bind fun bt253 => (if t251 = bt253.1 then (some (t252 == bt253.2)) else (some false))) = some r := H
    have A5 := Aside0.mk A50
    clear A50
    replace H := Option.bind_eq_some_iff.mp H
    obtain ⟨⟨t253, t254⟩, A60, H⟩ := H
    replace H : (if t251 = t253 then (some (t252 == t254)) else (some false)) = some r := H
    have A6 := Aside0.mk A60
    clear A60
    by_cases c7 : t251 = t253
    · rw [if_pos c7] at H
      have c7b0 : (t251 == t253) = true := beq_iff_eq.mpr c7
      have c7b1 : (t251 != t253) = false := bne_eq_false_iff_eq.mpr c7
      clear c7
      obtain rfl := Option.some.inj H
      go_enter Tryd.func8, Tryd.ntmps8
      go_wp2_with (first | ((with_reducible refine gate_dst (N := 2) rfl ?_); refine box_event ?hg (N := 2) ?hd (cs := #[.int .u64 a0_0, .int .u64 a0_1, .int .u64 a0_2, .int .u64 a0_3, .int .u64 a0_4]) (t := 25) ?hr ?_; (case hd => rfl); (case hg => rfl); (case hr => first | (go_simp; done) | (go_simp; rfl)); intro gb249 hg w8 hbox hb; have n0_ := Aside0.mk (below_step (by repeat (first | (with_reducible first | exact HB.out | apply below_alloc | apply pw_below_drewN | apply below_drew1) | exact HB.out)) hb); have n1_ := Aside0.mk (hbox); have n2_ := Aside0.mk ((by rw [hg]; exact (below_size (by repeat (first | (with_reducible first | exact HB.out | apply below_alloc | apply pw_below_drewN | apply below_drew1) | exact HB.out))) : w.heap.size ≤ gb249)); have n3_ := Aside0.mk ((by rw [hg]; exact (below_size (by repeat (first | (with_reducible first | exact HB.out | apply below_alloc | apply pw_below_drewN | apply below_drew1) | exact HB.out))) : w.heap.size ≤ gb249)); clear HB; have HB := n0_; have BK249 := n1_; have GW249 := n2_; have GE249 := n3_; clear n0_ n1_ n2_ n3_; clear hb hbox hg) | ((with_reducible refine gate_callee (f := 10) rfl ?_); refine goesL_ (some 9) rfl rfl Tryd.func10 (by kernel_rfl) rfl #[] rfl (by (try simp only [List.map_toArray, List.map_cons, List.map_nil]); first | done | rfl | (simp only [List.length_drop, List.length_take]; rfl)) ?_; (with_reducible refine (capstanlaw04_awake.calls k  true _ A3.out (by first | exact HL_.out | exact Go.Proofs.YtkmcmgfmahildaaDoor.Laid.Laid.below HL_.out (by repeat (first | (with_reducible first | exact HB.out | exact Below.refl _ _ | exact (‹Aside0 (Below _ _ _)›).out | apply below_alloc | apply pw_below_drewN | apply below_drew1 | refine Below.setCell ?_ (Aside0.out (by assumption)) _) | exact HB.out | exact (‹Aside0 (Below _ _ _)›).out)))).mono ?_); rintro e w9 ⟨rfl, hb⟩; refine ⟨_, rfl, ?_⟩; have n0_ := Aside0.mk (blk_below (g := gb249) (o := .cells #[.int .u64 a0_0, .int .u64 a0_1, .int .u64 a0_2, .int .u64 a0_3, .int .u64 a0_4] 25 (0, 0)) (by (with_reducible repeat (first | refine blk_drewN ?_ _ | refine blk_drew ?_ | refine blk_alloc ?_ _)); exact BK249.out) hb); have n1_ := Aside0.mk (below_step (by repeat (first | (with_reducible first | exact HB.out | apply below_alloc | apply pw_below_drewN | apply below_drew1 | refine below_set ?_ GE249.out) | exact HB.out)) hb); clear BK249; clear HB; have BK249 := n0_; have HB := n1_; clear n0_ n1_; (try clear hb); (try clear hb2); (try clear hk); (try clear hi); have hcz10_0 : w9.cell? ⟨gb249, 0, none⟩ = some (.int .u64 a0_0) := (blk_cell BK249.out 0).trans rfl; have hcz10_1 : w9.cell? ⟨gb249, 1, none⟩ = some (.int .u64 a0_1) := (blk_cell BK249.out 1).trans rfl; have hcz10_2 : w9.cell? ⟨gb249, 2, none⟩ = some (.int .u64 a0_2) := (blk_cell BK249.out 2).trans rfl; have hcz10_3 : w9.cell? ⟨gb249, 3, none⟩ = some (.int .u64 a0_3) := (blk_cell BK249.out 3).trans rfl; have hcz10_4 : w9.cell? ⟨gb249, 4, none⟩ = some (.int .u64 a0_4) := (blk_cell BK249.out 4).trans rfl; have hfz10_0 := blk_frozen BK249.out 0; have hfz10_1 := blk_frozen BK249.out 1; have hfz10_2 := blk_frozen BK249.out 2; have hfz10_3 := blk_frozen BK249.out 3; have hfz10_4 := blk_frozen BK249.out 4) | ((with_reducible refine gate_callee (f := 19) rfl ?_); refine goesL_ (some 14) rfl rfl Tryd.func19 (by kernel_rfl) rfl #[.agg #[.int .u64 a0_0, .int .u64 a0_1, .int .u64 a0_2, .int .u64 a0_3, .int .u64 a0_4], .int .i64 a1] rfl (by (try simp only [List.map_toArray, List.map_cons, List.map_nil]); first | done | rfl | (simp only [List.length_drop, List.length_take]; rfl)) ?_; (with_reducible refine (cron_Next.calls k a0_0 a0_1 a0_2 a0_3 a0_4 a1 t251 t252 _ A5.out (by first | exact HL_.out | exact Go.Proofs.YtkmcmgfmahildaaDoor.Laid.Laid.below HL_.out (by repeat (first | (with_reducible first | exact HB.out | exact Below.refl _ _ | exact (‹Aside0 (Below _ _ _)›).out | apply below_alloc | apply pw_below_drewN | apply below_drew1 | refine Below.setCell ?_ (Aside0.out (by assumption)) _) | exact HB.out | exact (‹Aside0 (Below _ _ _)›).out)))).mono ?_); rintro e w11 ⟨rfl, hb⟩; refine ⟨_, rfl, ?_⟩; have n0_ := Aside0.mk (blk_below (g := gb249) (o := .cells #[.int .u64 a0_0, .int .u64 a0_1, .int .u64 a0_2, .int .u64 a0_3, .int .u64 a0_4] 25 (0, 0)) (by (with_reducible repeat (first | refine blk_drewN ?_ _ | refine blk_drew ?_ | refine blk_alloc ?_ _)); exact BK249.out) hb); have n1_ := Aside0.mk (below_step (by repeat (first | (with_reducible first | exact HB.out | apply below_alloc | apply pw_below_drewN | apply below_drew1 | refine below_set ?_ GE249.out) | exact HB.out)) hb); clear BK249; clear HB; have BK249 := n0_; have HB := n1_; clear n0_ n1_; (try clear hb); (try clear hb2); (try clear hk); (try clear hi); have hcz12_0 : w11.cell? ⟨gb249, 0, none⟩ = some (.int .u64 a0_0) := (blk_cell BK249.out 0).trans rfl; have hcz12_1 : w11.cell? ⟨gb249, 1, none⟩ = some (.int .u64 a0_1) := (blk_cell BK249.out 1).trans rfl; have hcz12_2 : w11.cell? ⟨gb249, 2, none⟩ = some (.int .u64 a0_2) := (blk_cell BK249.out 2).trans rfl; have hcz12_3 : w11.cell? ⟨gb249, 3, none⟩ = some (.int .u64 a0_3) := (blk_cell BK249.out 3).trans rfl; have hcz12_4 : w11.cell? ⟨gb249, 4, none⟩ = some (.int .u64 a0_4) := (blk_cell BK249.out 4).trans rfl; have hfz12_0 := blk_frozen BK249.out 0; have hfz12_1 := blk_frozen BK249.out 1; have hfz12_2 := blk_frozen BK249.out 2; have hfz12_3 := blk_frozen BK249.out 3; have hfz12_4 := blk_frozen BK249.out 4) | ((with_reducible refine gate_callee (f := 20) rfl ?_); refine goesL_ (some 20) rfl rfl Tryd.func20 (by kernel_rfl) rfl #[.agg #[.int .u64 a0_0, .int .u64 a0_1, .int .u64 a0_2, .int .u64 a0_3, .int .u64 a0_4], .int .i64 a1] rfl (by (try simp only [List.map_toArray, List.map_cons, List.map_nil]); first | done | rfl | (simp only [List.length_drop, List.length_take]; rfl)) ?_; (with_reducible refine (capstanref04_Next.calls k a0_0 a0_1 a0_2 a0_3 a0_4 a1 t253 t254 _ A6.out).mono ?_); rintro e w13 ⟨rfl, hb⟩; refine ⟨_, rfl, ?_⟩; have n0_ := Aside0.mk (blk_below (g := gb249) (o := .cells #[.int .u64 a0_0, .int .u64 a0_1, .int .u64 a0_2, .int .u64 a0_3, .int .u64 a0_4] 25 (0, 0)) (by (with_reducible repeat (first | refine blk_drewN ?_ _ | refine blk_drew ?_ | refine blk_alloc ?_ _)); exact BK249.out) hb); have n1_ := Aside0.mk (below_step (by repeat (first | (with_reducible first | exact HB.out | apply below_alloc | apply pw_below_drewN | apply below_drew1 | refine below_set ?_ GE249.out) | exact HB.out)) hb); clear BK249; clear HB; have BK249 := n0_; have HB := n1_; clear n0_ n1_; (try clear hb); (try clear hb2); (try clear hk); (try clear hi)))
      go_ret
      exact ⟨by first | rfl | (simp [errW_none, errW_some] <;> rfl) | (simp [*, errW_none, errW_some] <;> rfl), by repeat (first | (with_reducible first | exact HB.out | apply below_alloc | apply pw_below_drewN | apply below_drew1 | refine below_set ?_ GE249.out) | exact HB.out)⟩
    · rw [if_neg c7] at H
      have c7b0 : (t251 == t253) = false := beq_eq_false_iff_ne.mpr c7
      have c7b1 : (t251 != t253) = true := bne_iff_ne.mpr c7
      obtain rfl := Option.some.inj H
      go_enter Tryd.func8, Tryd.ntmps8
      go_wp2_with (first | ((with_reducible refine gate_dst (N := 2) rfl ?_); refine box_event ?hg (N := 2) ?hd (cs := #[.int .u64 a0_0, .int .u64 a0_1, .int .u64 a0_2, .int .u64 a0_3, .int .u64 a0_4]) (t := 25) ?hr ?_; (case hd => rfl); (case hg => rfl); (case hr => first | (go_simp; done) | (go_simp; rfl)); intro gb249 hg w14 hbox hb; have n0_ := Aside0.mk (below_step (by repeat (first | (with_reducible first | exact HB.out | apply below_alloc | apply pw_below_drewN | apply below_drew1) | exact HB.out)) hb); have n1_ := Aside0.mk (hbox); have n2_ := Aside0.mk ((by rw [hg]; exact (below_size (by repeat (first | (with_reducible first | exact HB.out | apply below_alloc | apply pw_below_drewN | apply below_drew1) | exact HB.out))) : w.heap.size ≤ gb249)); have n3_ := Aside0.mk ((by rw [hg]; exact (below_size (by repeat (first | (with_reducible first | exact HB.out | apply below_alloc | apply pw_below_drewN | apply below_drew1) | exact HB.out))) : w.heap.size ≤ gb249)); clear HB; have HB := n0_; have BK249 := n1_; have GW249 := n2_; have GE249 := n3_; clear n0_ n1_ n2_ n3_; clear hb hbox hg) | ((with_reducible refine gate_callee (f := 10) rfl ?_); refine goesL_ (some 9) rfl rfl Tryd.func10 (by kernel_rfl) rfl #[] rfl (by (try simp only [List.map_toArray, List.map_cons, List.map_nil]); first | done | rfl | (simp only [List.length_drop, List.length_take]; rfl)) ?_; (with_reducible refine (capstanlaw04_awake.calls k  true _ A3.out (by first | exact HL_.out | exact Go.Proofs.YtkmcmgfmahildaaDoor.Laid.Laid.below HL_.out (by repeat (first | (with_reducible first | exact HB.out | exact Below.refl _ _ | exact (‹Aside0 (Below _ _ _)›).out | apply below_alloc | apply pw_below_drewN | apply below_drew1 | refine Below.setCell ?_ (Aside0.out (by assumption)) _) | exact HB.out | exact (‹Aside0 (Below _ _ _)›).out)))).mono ?_); rintro e w15 ⟨rfl, hb⟩; refine ⟨_, rfl, ?_⟩; have n0_ := Aside0.mk (blk_below (g := gb249) (o := .cells #[.int .u64 a0_0, .int .u64 a0_1, .int .u64 a0_2, .int .u64 a0_3, .int .u64 a0_4] 25 (0, 0)) (by (with_reducible repeat (first | refine blk_drewN ?_ _ | refine blk_drew ?_ | refine blk_alloc ?_ _)); exact BK249.out) hb); have n1_ := Aside0.mk (below_step (by repeat (first | (with_reducible first | exact HB.out | apply below_alloc | apply pw_below_drewN | apply below_drew1 | refine below_set ?_ GE249.out) | exact HB.out)) hb); clear BK249; clear HB; have BK249 := n0_; have HB := n1_; clear n0_ n1_; (try clear hb); (try clear hb2); (try clear hk); (try clear hi); have hcz16_0 : w15.cell? ⟨gb249, 0, none⟩ = some (.int .u64 a0_0) := (blk_cell BK249.out 0).trans rfl; have hcz16_1 : w15.cell? ⟨gb249, 1, none⟩ = some (.int .u64 a0_1) := (blk_cell BK249.out 1).trans rfl; have hcz16_2 : w15.cell? ⟨gb249, 2, none⟩ = some (.int .u64 a0_2) := (blk_cell BK249.out 2).trans rfl; have hcz16_3 : w15.cell? ⟨gb249, 3, none⟩ = some (.int .u64 a0_3) := (blk_cell BK249.out 3).trans rfl; have hcz16_4 : w15.cell? ⟨gb249, 4, none⟩ = some (.int .u64 a0_4) := (blk_cell BK249.out 4).trans rfl; have hfz16_0 := blk_frozen BK249.out 0; have hfz16_1 := blk_frozen BK249.out 1; have hfz16_2 := blk_frozen BK249.out 2; have hfz16_3 := blk_frozen BK249.out 3; have hfz16_4 := blk_frozen BK249.out 4) | ((with_reducible refine gate_callee (f := 19) rfl ?_); refine goesL_ (some 14) rfl rfl Tryd.func19 (by kernel_rfl) rfl #[.agg #[.int .u64 a0_0, .int .u64 a0_1, .int .u64 a0_2, .int .u64 a0_3, .int .u64 a0_4], .int .i64 a1] rfl (by (try simp only [List.map_toArray, List.map_cons, List.map_nil]); first | done | rfl | (simp only [List.length_drop, List.length_take]; rfl)) ?_; (with_reducible refine (cron_Next.calls k a0_0 a0_1 a0_2 a0_3 a0_4 a1 t251 t252 _ A5.out (by first | exact HL_.out | exact Go.Proofs.YtkmcmgfmahildaaDoor.Laid.Laid.below HL_.out (by repeat (first | (with_reducible first | exact HB.out | exact Below.refl _ _ | exact (‹Aside0 (Below _ _ _)›).out | apply below_alloc | apply pw_below_drewN | apply below_drew1 | refine Below.setCell ?_ (Aside0.out (by assumption)) _) | exact HB.out | exact (‹Aside0 (Below _ _ _)›).out)))).mono ?_); rintro e w17 ⟨rfl, hb⟩; refine ⟨_, rfl, ?_⟩; have n0_ := Aside0.mk (blk_below (g := gb249) (o := .cells #[.int .u64 a0_0, .int .u64 a0_1, .int .u64 a0_2, .int .u64 a0_3, .int .u64 a0_4] 25 (0, 0)) (by (with_reducible repeat (first | refine blk_drewN ?_ _ | refine blk_drew ?_ | refine blk_alloc ?_ _)); exact BK249.out) hb); have n1_ := Aside0.mk (below_step (by repeat (first | (with_reducible first | exact HB.out | apply below_alloc | apply pw_below_drewN | apply below_drew1 | refine below_set ?_ GE249.out) | exact HB.out)) hb); clear BK249; clear HB; have BK249 := n0_; have HB := n1_; clear n0_ n1_; (try clear hb); (try clear hb2); (try clear hk); (try clear hi); have hcz18_0 : w17.cell? ⟨gb249, 0, none⟩ = some (.int .u64 a0_0) := (blk_cell BK249.out 0).trans rfl; have hcz18_1 : w17.cell? ⟨gb249, 1, none⟩ = some (.int .u64 a0_1) := (blk_cell BK249.out 1).trans rfl; have hcz18_2 : w17.cell? ⟨gb249, 2, none⟩ = some (.int .u64 a0_2) := (blk_cell BK249.out 2).trans rfl; have hcz18_3 : w17.cell? ⟨gb249, 3, none⟩ = some (.int .u64 a0_3) := (blk_cell BK249.out 3).trans rfl; have hcz18_4 : w17.cell? ⟨gb249, 4, none⟩ = some (.int .u64 a0_4) := (blk_cell BK249.out 4).trans rfl; have hfz18_0 := blk_frozen BK249.out 0; have hfz18_1 := blk_frozen BK249.out 1; have hfz18_2 := blk_frozen BK249.out 2; have hfz18_3 := blk_frozen BK249.out 3; have hfz18_4 := blk_frozen BK249.out 4) | ((with_reducible refine gate_callee (f := 20) rfl ?_); refine goesL_ (some 20) rfl rfl Tryd.func20 (by kernel_rfl) rfl #[.agg #[.int .u64 a0_0, .int .u64 a0_1, .int .u64 a0_2, .int .u64 a0_3, .int .u64 a0_4], .int .i64 a1] rfl (by (try simp only [List.map_toArray, List.map_cons, List.map_nil]); first | done | rfl | (simp only [List.length_drop, List.length_take]; rfl)) ?_; (with_reducible refine (capstanref04_Next.calls k a0_0 a0_1 a0_2 a0_3 a0_4 a1 t253 t254 _ A6.out).mono ?_); rintro e w19 ⟨rfl, hb⟩; refine ⟨_, rfl, ?_⟩; have n0_ := Aside0.mk (blk_below (g := gb249) (o := .cells #[.int .u64 a0_0, .int .u64 a0_1, .int .u64 a0_2, .int .u64 a0_3, .int .u64 a0_4] 25 (0, 0)) (by (with_reducible repeat (first | refine blk_drewN ?_ _ | refine blk_drew ?_ | refine blk_alloc ?_ _)); exact BK249.out) hb); have n1_ := Aside0.mk (below_step (by repeat (first | (with_reducible first | exact HB.out | apply below_alloc | apply pw_below_drewN | apply below_drew1 | refine below_set ?_ GE249.out) | exact HB.out)) hb); clear BK249; clear HB; have BK249 := n0_; have HB := n1_; clear n0_ n1_; (try clear hb); (try clear hb2); (try clear hk); (try clear hi)))
      go_ret
      exact ⟨by first | rfl | (simp [errW_none, errW_some] <;> rfl) | (simp [*, errW_none, errW_some] <;> rfl), by repeat (first | (with_reducible first | exact HB.out | apply below_alloc | apply pw_below_drewN | apply below_drew1 | refine below_set ?_ GE249.out) | exact HB.out)⟩
  · replace c4 := Bool.eq_false_iff.mpr c4
    subst c4
    have H1 : (some false) = some r := by rw [if_neg (show ¬ (false = true) by decide)] at H; exact H
    clear H
    have H := H1
    clear H1
    obtain rfl := Option.some.inj H
    go_enter Tryd.func8, Tryd.ntmps8
    go_wp2_with (first | ((with_reducible refine gate_dst (N := 2) rfl ?_); refine box_event ?hg (N := 2) ?hd (cs := #[.int .u64 a0_0, .int .u64 a0_1, .int .u64 a0_2, .int .u64 a0_3, .int .u64 a0_4]) (t := 25) ?hr ?_; (case hd => rfl); (case hg => rfl); (case hr => first | (go_simp; done) | (go_simp; rfl)); intro gb249 hg w20 hbox hb; have n0_ := Aside0.mk (below_step (by repeat (first | (with_reducible first | exact HB.out | apply below_alloc | apply pw_below_drewN | apply below_drew1) | exact HB.out)) hb); have n1_ := Aside0.mk (hbox); have n2_ := Aside0.mk ((by rw [hg]; exact (below_size (by repeat (first | (with_reducible first | exact HB.out | apply below_alloc | apply pw_below_drewN | apply below_drew1) | exact HB.out))) : w.heap.size ≤ gb249)); have n3_ := Aside0.mk ((by rw [hg]; exact (below_size (by repeat (first | (with_reducible first | exact HB.out | apply below_alloc | apply pw_below_drewN | apply below_drew1) | exact HB.out))) : w.heap.size ≤ gb249)); clear HB; have HB := n0_; have BK249 := n1_; have GW249 := n2_; have GE249 := n3_; clear n0_ n1_ n2_ n3_; clear hb hbox hg) | ((with_reducible refine gate_callee (f := 10) rfl ?_); refine goesL_ (some 9) rfl rfl Tryd.func10 (by kernel_rfl) rfl #[] rfl (by (try simp only [List.map_toArray, List.map_cons, List.map_nil]); first | done | rfl | (simp only [List.length_drop, List.length_take]; rfl)) ?_; (with_reducible refine (capstanlaw04_awake.calls k  false _ A3.out (by first | exact HL_.out | exact Go.Proofs.YtkmcmgfmahildaaDoor.Laid.Laid.below HL_.out (by repeat (first | (with_reducible first | exact HB.out | exact Below.refl _ _ | exact (‹Aside0 (Below _ _ _)›).out | apply below_alloc | apply pw_below_drewN | apply below_drew1 | refine Below.setCell ?_ (Aside0.out (by assumption)) _) | exact HB.out | exact (‹Aside0 (Below _ _ _)›).out)))).mono ?_); rintro e w21 ⟨rfl, hb⟩; refine ⟨_, rfl, ?_⟩; have n0_ := Aside0.mk (blk_below (g := gb249) (o := .cells #[.int .u64 a0_0, .int .u64 a0_1, .int .u64 a0_2, .int .u64 a0_3, .int .u64 a0_4] 25 (0, 0)) (by (with_reducible repeat (first | refine blk_drewN ?_ _ | refine blk_drew ?_ | refine blk_alloc ?_ _)); exact BK249.out) hb); have n1_ := Aside0.mk (below_step (by repeat (first | (with_reducible first | exact HB.out | apply below_alloc | apply pw_below_drewN | apply below_drew1 | refine below_set ?_ GE249.out) | exact HB.out)) hb); clear BK249; clear HB; have BK249 := n0_; have HB := n1_; clear n0_ n1_; (try clear hb); (try clear hb2); (try clear hk); (try clear hi)))
    go_ret
    exact ⟨by first | rfl | (simp [errW_none, errW_some] <;> rfl) | (simp [*, errW_none, errW_some] <;> rfl), by repeat (first | (with_reducible first | exact HB.out | apply below_alloc | apply pw_below_drewN | apply below_drew1 | refine below_set ?_ GE249.out) | exact HB.out)⟩

end Go.Proofs.YtkmcmgfmahildaaDoor.OB
