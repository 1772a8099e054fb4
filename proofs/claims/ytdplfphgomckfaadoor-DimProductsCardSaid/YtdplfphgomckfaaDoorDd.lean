/- dim.take. Conditions: as each theorem states. -/
import Derived.Test.YtdplfphgomckfaaDoorDc
import Derived.Test.YtdplfphgomckfaaDoorDb
import Derived.Deep.QuietTactic
import Derived.BigQuiet
namespace Go.Proofs.YtdplfphgomckfaaDoor.Dd
set_option linter.unusedVariables false
set_option linter.unusedSimpArgs false
open Go.RowKit Go.Proofs.YtdplfphgomckfaaDoorW.PrintWords Go.Proofs.YtdplfphgomckfaaDoor.Laid Go.Proofs.YtdplfphgomckfaaDoor.Da Go.Proofs.YtdplfphgomckfaaDoor.Db Go.Proofs.YtdplfphgomckfaaDoor.Dc
/-- A unit: its factor, its five exponents. -/
structure Un where
  num : Nat
  den : Nat
  d : List Int
def unC (u : Un) : Array Value := (Value.int .i64 (u.num : Int) :: Value.int .i64 (u.den : Int) :: u.d.map (Value.int .i64)).toArray
def OkU (u : Un) : Prop := 1 ≤ u.num ∧ u.num ≤ 1000000000000000 ∧ 1 ≤ u.den ∧ u.den ≤ 1000000000000000 ∧ u.d.length = 5 ∧ ∀ x ∈ u.d, -8 ≤ x ∧ x ≤ 8
/-- take's end: both products made, the exponent. -/
def endF (N D : Nat) (ds : List Int) (a b : Nat × Bool) (i : Option Nat) (st : Int) : Un × Bool :=
  if a.2 = true ∧ b.2 = true then
    (match i with
      | none => (⟨a.1, b.1, ds⟩, true)
      | some i => (⟨a.1, b.1, ds.set i (ds.getD i 0 + st)⟩, decide (ds.getD i 0 + st ≤ 8) && decide (-8 ≤ ds.getD i 0 + st)))
  else (⟨N, D, ds⟩, false)
/-- take, of a row whose factor is x over y (turned about already), its base unit's place i (none), the step. -/
def stepF (u : Un) (x y : Nat) (i : Option Nat) (st : Int) : Un × Bool :=
  endF u.num u.den u.d (prodF (u.num / Nat.gcd u.num y) (x / Nat.gcd x u.den)) (prodF (u.den / Nat.gcd x u.den) (y / Nat.gcd u.num y)) i st
theorem endF_no1 (N D : Nat) (ds : List Int) (a : Nat) (b : Nat × Bool) (i : Option Nat) (st : Int) : endF N D ds (a, false) b i st = (⟨N, D, ds⟩, false) := if_neg (by rintro ⟨h, _⟩; cases h)
theorem endF_no2 (N D : Nat) (ds : List Int) (a : Nat × Bool) (b : Nat) (i : Option Nat) (st : Int) : endF N D ds a (b, false) i st = (⟨N, D, ds⟩, false) := if_neg (by rintro ⟨_, h⟩; cases h)
theorem endF_none (N D : Nat) (ds : List Int) (a b : Nat) (st : Int) : endF N D ds (a, true) (b, true) none st = (⟨a, b, ds⟩, true) := if_pos ⟨rfl, rfl⟩
theorem endF_some (N D : Nat) (ds : List Int) (a b i : Nat) (st : Int) : endF N D ds (a, true) (b, true) (some i) st = (⟨a, b, ds.set i (ds.getD i 0 + st)⟩, decide (ds.getD i 0 + st ≤ 8) && decide (-8 ≤ ds.getD i 0 + st)) := if_pos ⟨rfl, rfl⟩
def TPost (w0 w : World) (g : Nat) (r : Un × Bool) (e : Ending) (w' : World) : Prop := e = .returned (.bool r.2) ∧ w'.heap[g]? = some (.cells (unC r.1) 26 (0, 0)) ∧ Below w0.heap.size w0 w' ∧ KeepBut w w' g none
theorem quo_is (a b x : Nat) (h : a / b = x) : (a : Int) / (b : Int) = (x : Int) ∧ Int.tdiv (a : Int) (b : Int) = (x : Int) := by
  subst h
  exact ⟨(Int.natCast_ediv a b).symm, (Int.ofNat_tdiv a b).symm⟩
theorem wrap_small (x : Nat) (h : x ≤ 1000000000000000) : IntKind.i64.wrap (x : Int) = (x : Int) := by rw [IntKind.wrap_i64]; omega
theorem nz (x : Nat) (h : 1 ≤ x) : ((x : Int) == 0) = false ∧ ¬ ((x : Int) = 0) := by
  constructor
  · simp; omega
  · omega
theorem unC_0 (N D P : Nat) (ds : List Int) : (unC ⟨N, D, ds⟩).setIfInBounds 0 (.int .i64 (P : Int)) = unC ⟨P, D, ds⟩ := by simp [unC]
theorem unC_1 (N D P : Nat) (ds : List Int) : (unC ⟨N, D, ds⟩).setIfInBounds 1 (.int .i64 (P : Int)) = unC ⟨N, P, ds⟩ := by simp [unC]
theorem unC_d (N D : Nat) (ds : List Int) (j : Nat) (v : Int) : (unC ⟨N, D, ds⟩).setIfInBounds (2 + j) (.int .i64 v) = unC ⟨N, D, ds.set j v⟩ := by
  unfold unC
  rw [List.setIfInBounds_toArray, show 2 + j = j + 1 + 1 from by omega, List.set_cons_succ, List.set_cons_succ, List.map_set]
theorem unC_at (N D : Nat) (ds : List Int) (j : Nat) (h : j < ds.length) : (unC ⟨N, D, ds⟩)[2 + j]? = some (.int .i64 (ds.getD j 0)) := by
  unfold unC
  rw [show 2 + j = j + 1 + 1 from by omega]
  simp [List.getD_eq_getElem?_getD, h]
set_option maxHeartbeats 8000000 in
set_option maxRecDepth 100000 in
theorem take_up (w0 w : World) (g : Nat) (N D : Nat) (ds : List Int) (nm : ByteArray) (p q : Nat) (base : Int) (hu : OkU ⟨N, D, ds⟩) (hp : 1 ≤ p ∧ p ≤ 1073741824) (hq : 1 ≤ q ∧ q ≤ 1073741824) (hg : w.heap[g]? = some (.cells (unC ⟨N, D, ds⟩) 26 (0, 0))) (hB : Below w0.heap.size w0 w) (hw : w0.heap.size ≤ g) (i : Option Nat) (hi : (base < 0 ∧ i = none) ∨ ∃ k : Nat, base = k ∧ k < 5 ∧ i = some k) :
    Calls Tryd.prog 20 #[.pointer (some ⟨g, 0, none⟩), .agg #[.string nm, .int .i64 (p : Int), .int .i64 (q : Int), .int .i64 base], .bool false] w (TPost w0 w g (stepF ⟨N, D, ds⟩ p q i 1)) := by
  obtain ⟨u1, u2, u3, u4, u5, u6⟩ := hu
  simp only at u1 u2 u3 u4 u5 u6
  obtain ⟨W1, hW1⟩ : ∃ W, w.alloc (.cells #[.string nm, .int .i64 (p : Int), .int .i64 (q : Int), .int .i64 base] 41) = W := ⟨_, rfl⟩
  have hgl := Blk.blk_lt hg
  have HG := Lib.hid (show W1.heap[g]? = some (.cells (unC ⟨N, D, ds⟩) 26 (0, 0)) from by rw [← hW1]; exact Blk.blk_alloc hg _)
  have HK := Lib.hid (show W1.heap[w.heap.size]? = some (.cells #[.string nm, .int .i64 (p : Int), .int .i64 (q : Int), .int .i64 base] 41 (0, 0)) from by rw [← hW1]; exact Blk.blk_new w _)
  have HBW := Lib.hid (show Below w0.heap.size w0 W1 from by rw [← hW1]; exact hB.alloc hB.size _)
  have HKB := Lib.hid (show KeepBut w W1 g none from by rw [← hW1]; exact KeepBut.of_grown (World.grownBy_alloc w _ none) g)
  have HW := Lib.hid hw
  obtain ⟨k, hk⟩ : ∃ k, w.heap.size = k := ⟨_, rfl⟩
  rw [hk] at HK hgl
  have hy0 := Blk.blk_cell HG.out 0
  have hy1 := Blk.blk_cell HG.out 1
  have hz0 := Blk.blk_frozen HG.out 0
  have hz1 := Blk.blk_frozen HG.out 1
  have hr1 := Blk.blk_cell HK.out 1
  have hr2 := Blk.blk_cell HK.out 2
  have hr3 := Blk.blk_cell HK.out 3
  unfold unC at hy0 hy1
  simp at hy0 hy1 hr1 hr2 hr3
  have HU := Lib.hid u6
  obtain ⟨A, hA⟩ : ∃ A, Nat.gcd N q = A := ⟨_, rfl⟩
  obtain ⟨B, hB2⟩ : ∃ B, Nat.gcd p D = B := ⟨_, rfl⟩
  have a1 : 1 ≤ A := by rw [← hA]; exact Nat.gcd_pos_of_pos_left _ u1
  have b1 : 1 ≤ B := by rw [← hB2]; exact Nat.gcd_pos_of_pos_left _ hp.1
  have a2 : A ≤ N := by rw [← hA]; exact Nat.gcd_le_left _ u1
  have a3 : A ≤ q := by rw [← hA]; exact Nat.gcd_le_right _ hq.1
  have b2 : B ≤ p := by rw [← hB2]; exact Nat.gcd_le_left _ hp.1
  have b3 : B ≤ D := by rw [← hB2]; exact Nat.gcd_le_right _ u3
  have HC1 := Lib.hid (fun W => by have := gcd_any N q W; rw [hA] at this; exact this)
  have HC2 := Lib.hid (fun W => by have := gcd_any p D W; rw [hB2] at this; exact this)
  unfold stepF
  simp only [hA, hB2]
  have n1 : 1 ≤ N / A := (Nat.le_div_iff_mul_le (by omega)).2 (by omega)
  have n2 : 1 ≤ p / B := (Nat.le_div_iff_mul_le (by omega)).2 (by omega)
  have n3 : 1 ≤ D / B := (Nat.le_div_iff_mul_le (by omega)).2 (by omega)
  have n4 : 1 ≤ q / A := (Nat.le_div_iff_mul_le (by omega)).2 (by omega)
  have l1 := Nat.div_le_self N A
  have l2 := Nat.div_le_self p B
  have l3 := Nat.div_le_self D B
  have l4 := Nat.div_le_self q A
  obtain ⟨x1, e1⟩ : ∃ x, N / A = x := ⟨_, rfl⟩
  obtain ⟨x2, e2⟩ : ∃ x, p / B = x := ⟨_, rfl⟩
  obtain ⟨x3, e3⟩ : ∃ x, D / B = x := ⟨_, rfl⟩
  obtain ⟨x4, e4⟩ : ∃ x, q / A = x := ⟨_, rfl⟩
  obtain ⟨d1, t1⟩ := quo_is _ _ _ e1
  obtain ⟨d2, t2⟩ := quo_is _ _ _ e2
  obtain ⟨d3, t3⟩ := quo_is _ _ _ e3
  obtain ⟨d4, t4⟩ := quo_is _ _ _ e4
  simp only [e1, e2, e3, e4] at n1 n2 n3 n4 l1 l2 l3 l4 ⊢
  have s1 := wrap_small x1 (by omega)
  have s2 := wrap_small x2 (by omega)
  have s3 := wrap_small x3 (by omega)
  have s4 := wrap_small x4 (by omega)
  have z1 := nz A a1
  have z2 := nz B b1
  obtain ⟨⟨P1, o1⟩, hP1⟩ : ∃ t, prodF x1 x2 = t := ⟨_, rfl⟩
  obtain ⟨⟨P2, o2⟩, hP2⟩ : ∃ t, prodF x3 x4 = t := ⟨_, rfl⟩
  have HC3 := Lib.hid (fun W => by have := product_any x1 x2 (by omega) n2 (by omega) W; rw [hP1] at this; exact this)
  have HC4 := Lib.hid (fun W => by have := product_any x3 x4 (by omega) n4 (by omega) W; rw [hP2] at this; exact this)
  simp only [hP1, hP2]
  clear hP1 hP2
  clear hA hB2 e1 e2 e3 e4 u6 hg
  go_enter Tryd.func20, Tryd.ntmps20
  go_wp2_with fail
  try rw [hW1]
  try simp only [hk]
  have HWK := Lib.hid (And.intro hW1 hk)
  clear hW1 hk
  go_quiet (fail)
  obtain ⟨nq0, hq0⟩ : ∃ n, n = nq := ⟨_, rfl⟩
  subst hq0
  go_wp2_with fail
  go_quiet ((first | (go_at_call 37; (with_reducible refine (HC1.out _).mono ?_); rintro e w' ⟨rfl, ⟨nd, rfl⟩⟩; first | exact ⟨rfl, _, World.drewN_drewN _ _ _⟩ | exact ⟨rfl, _, Eq.trans (World.drewN_drewN _ _ _) (congrArg (World.drewN _) (Nat.add_assoc _ _ _))⟩) | (go_at_call 37; (with_reducible refine (HC2.out _).mono ?_); rintro e w' ⟨rfl, ⟨nd, rfl⟩⟩; first | exact ⟨rfl, _, World.drewN_drewN _ _ _⟩ | exact ⟨rfl, _, Eq.trans (World.drewN_drewN _ _ _) (congrArg (World.drewN _) (Nat.add_assoc _ _ _))⟩)))
  obtain ⟨nq1, hq1⟩ : ∃ n, n = nq := ⟨_, rfl⟩
  subst hq1
  go_wp2_with fail
  go_quiet ((first | (go_at_call 38; (with_reducible refine (HC3.out _).mono ?_); rintro e w' ⟨rfl, rfl⟩; exact ⟨rfl, _, rfl⟩) | (go_at_call 38; (with_reducible refine (HC3.out _).mono ?_); rintro e w' ⟨rfl, rfl⟩; exact ⟨rfl, _, World.drewN_drewN _ _ _⟩)))
  obtain ⟨nq2, hq2⟩ : ∃ n, n = nq := ⟨_, rfl⟩
  subst hq2
  go_wp2_with fail
  go_quiet ((first | (go_at_call 38; (with_reducible refine (HC4.out _).mono ?_); rintro e w' ⟨rfl, rfl⟩; exact ⟨rfl, _, rfl⟩) | (go_at_call 38; (with_reducible refine (HC4.out _).mono ?_); rintro e w' ⟨rfl, rfl⟩; exact ⟨rfl, _, World.drewN_drewN _ _ _⟩)))
  obtain ⟨nq3, hq3⟩ : ∃ n, n = nq := ⟨_, rfl⟩
  subst hq3
  go_upto_region 7 with fail
  have HGQ := Lib.hid (show ((((W1.drewN nq0).drewN nq1).drewN nq2).drewN nq3).heap[g]? = some (.cells (unC ⟨N, D, ds⟩) 26 (0, 0)) from HG.out)
  have HKQ := Lib.hid (show ((((W1.drewN nq0).drewN nq1).drewN nq2).drewN nq3).heap[k]? = some (.cells #[.string nm, .int .i64 (p : Int), .int .i64 (q : Int), .int .i64 base] 41 (0, 0)) from HK.out)
  have HBQ := Lib.hid (Blk.below_drewN (Blk.below_drewN (Blk.below_drewN (Blk.below_drewN HBW.out nq0) nq1) nq2) nq3)
  have HKBQ := Lib.hid (show KeepBut w ((((W1.drewN nq0).drewN nq1).drewN nq2).drewN nq3) g none from ⟨HKB.out.1, HKB.out.2⟩)
  obtain ⟨WQ, hWQ⟩ : ∃ W, (((W1.drewN nq0).drewN nq1).drewN nq2).drewN nq3 = W := ⟨_, rfl⟩
  rw [hWQ] at HGQ HKQ HBQ HKBQ ⊢
  clear hWQ HG HK HBW HKB HC1 HC2 HC3 HC4 d1 d2 d3 d4 t1 t2 t3 t4 s1 s2 s3 s4 z1 z2 hy0 hy1 hz0 hz1 hr1 hr2 hr3 HWK
  have hy0 := Blk.blk_cell HGQ.out 0
  have hy1 := Blk.blk_cell HGQ.out 1
  have hz0 := Blk.blk_frozen HGQ.out 0
  have hz1 := Blk.blk_frozen HGQ.out 1
  unfold unC at hy0 hy1
  simp at hy0 hy1
  have bad : ∀ (e : Ending), e = .returned (.bool false) → TPost w0 w g (⟨N, D, ds⟩, false) e WQ := fun e he => ⟨he, HGQ.out, HBQ.out, HKBQ.out⟩
  have HBAD := Lib.hid bad
  clear bad
  cases o1 with
  | false =>
    go_wp2_with fail
    go_ret
    rw [endF_no1]
    exact HBAD.out _ rfl
  | true =>
  cases o2 with
  | false =>
    go_wp2_with fail
    go_ret
    rw [endF_no2]
    exact HBAD.out _ rfl
  | true =>
  go_upto_region 10 with fail
  have h1 := Blk.blk_set HGQ.out 0 (.int .i64 (P1 : Int))
  rw [unC_0] at h1
  have h2 := Blk.blk_set h1 1 (.int .i64 (P2 : Int))
  rw [unC_1] at h2
  have HG := Lib.hid h2
  have HK := Lib.hid (Blk.blk_far (Blk.blk_far HKQ.out (p := ⟨g, 0, none⟩) (by show k ≠ g; omega) (.int .i64 (P1 : Int))) (p := ⟨g, 1, none⟩) (by show k ≠ g; omega) (.int .i64 (P2 : Int)))
  have HB2 := Lib.hid ((HBQ.out.setCell (p := ⟨g, 0, none⟩) HW.out (.int .i64 (P1 : Int))).setCell (p := ⟨g, 1, none⟩) HW.out (.int .i64 (P2 : Int)))
  have HKB := Lib.hid ((HKBQ.out.set_ 0 (.int .i64 (P1 : Int))).set_ 1 (.int .i64 (P2 : Int)))
  obtain ⟨WR, hWR⟩ : ∃ W, (WQ.setCell ⟨g, 0, none⟩ (.int .i64 (P1 : Int))).setCell ⟨g, 1, none⟩ (.int .i64 (P2 : Int)) = W := ⟨_, rfl⟩
  rw [hWR] at HG HK HB2 HKB ⊢
  clear hWR h1 h2 HGQ HKQ HBQ HKBQ HBAD hy0 hy1 hz0 hz1
  have hr3 := Blk.blk_cell HK.out 3
  simp at hr3
  rcases hi with ⟨hb0, rfl⟩ | ⟨j, rfl, hj, rfl⟩
  · have q1 : decide (base ≥ 0) = false := by simp; omega
    have q2 : decide (0 ≤ base) = false := by simp; omega
    go_wp2_with fail
    go_ret
    rw [endF_none]
    exact ⟨rfl, HG.out, HB2.out, HKB.out⟩
  · have q1 : decide ((j : Int) ≥ 0) = true := by simp
    have hyj := (Blk.blk_cell HG.out (2 + j)).trans (unC_at P1 P2 ds j (by omega))
    have hzj := Blk.blk_frozen HG.out (2 + j)
    have hv := HU.out (ds.getD j 0) (by rw [List.getD_eq_getElem?_getD, List.getElem?_eq_getElem (by omega : j < ds.length)]; exact List.getElem_mem _)
    obtain ⟨v, hv2⟩ : ∃ v, ds.getD j 0 = v := ⟨_, rfl⟩
    rw [hv2] at hv hyj
    have HV2 := Lib.hid hv2
    clear hv2
    have HV := Lib.hid hv
    go_upto_region 11 with fail
    go_region
    go_upto_region 12 with fail
    obtain ⟨y, hy⟩ : ∃ y, v + 1 = y := ⟨_, rfl⟩
    have hyb : -7 ≤ y ∧ y ≤ 9 := by omega
    rw [hy]
    have h1 := Blk.blk_set HG.out (2 + j) (.int .i64 y)
    rw [unC_d] at h1
    have HG3 := Lib.hid (show ((WR.setCell ⟨g, 2 + j, none⟩ (.int .i64 y)).drew).heap[g]? = some (.cells (unC ⟨P1, P2, ds.set j y⟩) 26 (0, 0)) from h1)
    have HK3 := Lib.hid (show ((WR.setCell ⟨g, 2 + j, none⟩ (.int .i64 y)).drew).heap[k]? = some (.cells #[.string nm, .int .i64 (p : Int), .int .i64 (q : Int), .int .i64 (j : Int)] 41 (0, 0)) from Blk.blk_far HK.out (p := ⟨g, 2 + j, none⟩) (by show k ≠ g; omega) _)
    have HB3 := Lib.hid ((HB2.out.setCell (p := ⟨g, 2 + j, none⟩) HW.out (.int .i64 y)).drew)
    have HKB3 := Lib.hid (show KeepBut w ((WR.setCell ⟨g, 2 + j, none⟩ (.int .i64 y)).drew) g none from ⟨(HKB.out.set_ (2 + j) (.int .i64 y)).1, (HKB.out.set_ (2 + j) (.int .i64 y)).2⟩)
    obtain ⟨W3, hW3⟩ : ∃ W, (WR.setCell ⟨g, 2 + j, none⟩ (.int .i64 y)).drew = W := ⟨_, rfl⟩
    rw [hW3] at HG3 HK3 HB3 HKB3 ⊢
    have HY := Lib.hid hy
    have hlen : j < (ds.set j y).length := by rw [List.length_set]; omega
    have hg3 := (Blk.blk_cell HG3.out (2 + j)).trans (unC_at P1 P2 (ds.set j y) j hlen)
    rw [show (ds.set j y).getD j 0 = y from by rw [List.getD_eq_getElem?_getD, List.getElem?_set_self (by omega)]; rfl] at hg3
    have hr3' := Blk.blk_cell HK3.out 3
    simp at hr3'
    clear hy hW3 h1 hlen HG HK HB2 HKB hyj hzj hr3 hv
    have key : ∀ (W : World), Drawn0 W3 W → TPost w0 w g (endF N D ds (P1, true) (P2, true) (some j) 1) (.returned (.bool (decide (y ≤ 8) && decide (-8 ≤ y)))) W := by
      rintro W ⟨m, rfl⟩
      rw [endF_some, HV2.out, HY.out]
      exact ⟨rfl, HG3.out, Blk.below_drewN HB3.out m, HKB3.out.1, HKB3.out.2⟩
    have KEY := Lib.hid key
    clear key
    by_cases h8 : y ≤ 8
    · have q3 : decide (y ≤ 8) = true := by simpa using h8
      have q4 : decide (y ≥ -8) = true := by simp; omega
      have q5 : decide (-8 ≤ y) = true := by simp; omega
      go_quiet (fail)
      go_wp2_with fail
      go_ret
      have := KEY.out _ ⟨nq, rfl⟩
      rw [q3, q5] at this
      exact this
    · have q3 : decide (y ≤ 8) = false := by simpa using h8
      go_quiet (fail)
      go_wp2_with fail
      go_ret
      have := KEY.out _ ⟨nq, rfl⟩
      rw [q3] at this
      exact this
set_option maxHeartbeats 8000000 in
set_option maxRecDepth 100000 in
theorem take_down (w0 w : World) (g : Nat) (N D : Nat) (ds : List Int) (nm : ByteArray) (p q : Nat) (base : Int) (hu : OkU ⟨N, D, ds⟩) (hp : 1 ≤ p ∧ p ≤ 1073741824) (hq : 1 ≤ q ∧ q ≤ 1073741824) (hg : w.heap[g]? = some (.cells (unC ⟨N, D, ds⟩) 26 (0, 0))) (hB : Below w0.heap.size w0 w) (hw : w0.heap.size ≤ g) (i : Option Nat) (hi : (base < 0 ∧ i = none) ∨ ∃ k : Nat, base = k ∧ k < 5 ∧ i = some k) :
    Calls Tryd.prog 20 #[.pointer (some ⟨g, 0, none⟩), .agg #[.string nm, .int .i64 (p : Int), .int .i64 (q : Int), .int .i64 base], .bool true] w (TPost w0 w g (stepF ⟨N, D, ds⟩ q p i (-1))) := by
  obtain ⟨u1, u2, u3, u4, u5, u6⟩ := hu
  simp only at u1 u2 u3 u4 u5 u6
  obtain ⟨W1, hW1⟩ : ∃ W, w.alloc (.cells #[.string nm, .int .i64 (p : Int), .int .i64 (q : Int), .int .i64 base] 41) = W := ⟨_, rfl⟩
  have hgl := Blk.blk_lt hg
  have HG := Lib.hid (show W1.heap[g]? = some (.cells (unC ⟨N, D, ds⟩) 26 (0, 0)) from by rw [← hW1]; exact Blk.blk_alloc hg _)
  have HK := Lib.hid (show W1.heap[w.heap.size]? = some (.cells #[.string nm, .int .i64 (p : Int), .int .i64 (q : Int), .int .i64 base] 41 (0, 0)) from by rw [← hW1]; exact Blk.blk_new w _)
  have HBW := Lib.hid (show Below w0.heap.size w0 W1 from by rw [← hW1]; exact hB.alloc hB.size _)
  have HKB := Lib.hid (show KeepBut w W1 g none from by rw [← hW1]; exact KeepBut.of_grown (World.grownBy_alloc w _ none) g)
  have HW := Lib.hid hw
  obtain ⟨k, hk⟩ : ∃ k, w.heap.size = k := ⟨_, rfl⟩
  rw [hk] at HK hgl
  have hy0 := Blk.blk_cell HG.out 0
  have hy1 := Blk.blk_cell HG.out 1
  have hz0 := Blk.blk_frozen HG.out 0
  have hz1 := Blk.blk_frozen HG.out 1
  have hr1 := Blk.blk_cell HK.out 1
  have hr2 := Blk.blk_cell HK.out 2
  have hr3 := Blk.blk_cell HK.out 3
  unfold unC at hy0 hy1
  simp at hy0 hy1 hr1 hr2 hr3
  have HU := Lib.hid u6
  obtain ⟨A, hA⟩ : ∃ A, Nat.gcd N p = A := ⟨_, rfl⟩
  obtain ⟨B, hB2⟩ : ∃ B, Nat.gcd q D = B := ⟨_, rfl⟩
  have a1 : 1 ≤ A := by rw [← hA]; exact Nat.gcd_pos_of_pos_left _ u1
  have b1 : 1 ≤ B := by rw [← hB2]; exact Nat.gcd_pos_of_pos_left _ hq.1
  have a2 : A ≤ N := by rw [← hA]; exact Nat.gcd_le_left _ u1
  have a3 : A ≤ p := by rw [← hA]; exact Nat.gcd_le_right _ hp.1
  have b2 : B ≤ q := by rw [← hB2]; exact Nat.gcd_le_left _ hq.1
  have b3 : B ≤ D := by rw [← hB2]; exact Nat.gcd_le_right _ u3
  have HC1 := Lib.hid (fun W => by have := gcd_any N p W; rw [hA] at this; exact this)
  have HC2 := Lib.hid (fun W => by have := gcd_any q D W; rw [hB2] at this; exact this)
  unfold stepF
  simp only [hA, hB2]
  have n1 : 1 ≤ N / A := (Nat.le_div_iff_mul_le (by omega)).2 (by omega)
  have n2 : 1 ≤ q / B := (Nat.le_div_iff_mul_le (by omega)).2 (by omega)
  have n3 : 1 ≤ D / B := (Nat.le_div_iff_mul_le (by omega)).2 (by omega)
  have n4 : 1 ≤ p / A := (Nat.le_div_iff_mul_le (by omega)).2 (by omega)
  have l1 := Nat.div_le_self N A
  have l2 := Nat.div_le_self q B
  have l3 := Nat.div_le_self D B
  have l4 := Nat.div_le_self p A
  obtain ⟨x1, e1⟩ : ∃ x, N / A = x := ⟨_, rfl⟩
  obtain ⟨x2, e2⟩ : ∃ x, q / B = x := ⟨_, rfl⟩
  obtain ⟨x3, e3⟩ : ∃ x, D / B = x := ⟨_, rfl⟩
  obtain ⟨x4, e4⟩ : ∃ x, p / A = x := ⟨_, rfl⟩
  obtain ⟨d1, t1⟩ := quo_is _ _ _ e1
  obtain ⟨d2, t2⟩ := quo_is _ _ _ e2
  obtain ⟨d3, t3⟩ := quo_is _ _ _ e3
  obtain ⟨d4, t4⟩ := quo_is _ _ _ e4
  simp only [e1, e2, e3, e4] at n1 n2 n3 n4 l1 l2 l3 l4 ⊢
  have s1 := wrap_small x1 (by omega)
  have s2 := wrap_small x2 (by omega)
  have s3 := wrap_small x3 (by omega)
  have s4 := wrap_small x4 (by omega)
  have z1 := nz A a1
  have z2 := nz B b1
  obtain ⟨⟨P1, o1⟩, hP1⟩ : ∃ t, prodF x1 x2 = t := ⟨_, rfl⟩
  obtain ⟨⟨P2, o2⟩, hP2⟩ : ∃ t, prodF x3 x4 = t := ⟨_, rfl⟩
  have HC3 := Lib.hid (fun W => by have := product_any x1 x2 (by omega) n2 (by omega) W; rw [hP1] at this; exact this)
  have HC4 := Lib.hid (fun W => by have := product_any x3 x4 (by omega) n4 (by omega) W; rw [hP2] at this; exact this)
  simp only [hP1, hP2]
  clear hP1 hP2
  clear hA hB2 e1 e2 e3 e4 u6 hg
  go_enter Tryd.func20, Tryd.ntmps20
  go_wp2_with fail
  try rw [hW1]
  try simp only [hk]
  have HWK := Lib.hid (And.intro hW1 hk)
  clear hW1 hk
  go_quiet (fail)
  obtain ⟨nq0, hq0⟩ : ∃ n, n = nq := ⟨_, rfl⟩
  subst hq0
  go_wp2_with fail
  go_quiet ((first | (go_at_call 37; (with_reducible refine (HC1.out _).mono ?_); rintro e w' ⟨rfl, ⟨nd, rfl⟩⟩; first | exact ⟨rfl, _, World.drewN_drewN _ _ _⟩ | exact ⟨rfl, _, Eq.trans (World.drewN_drewN _ _ _) (congrArg (World.drewN _) (Nat.add_assoc _ _ _))⟩) | (go_at_call 37; (with_reducible refine (HC2.out _).mono ?_); rintro e w' ⟨rfl, ⟨nd, rfl⟩⟩; first | exact ⟨rfl, _, World.drewN_drewN _ _ _⟩ | exact ⟨rfl, _, Eq.trans (World.drewN_drewN _ _ _) (congrArg (World.drewN _) (Nat.add_assoc _ _ _))⟩)))
  obtain ⟨nq1, hq1⟩ : ∃ n, n = nq := ⟨_, rfl⟩
  subst hq1
  go_wp2_with fail
  go_quiet ((first | (go_at_call 38; (with_reducible refine (HC3.out _).mono ?_); rintro e w' ⟨rfl, rfl⟩; exact ⟨rfl, _, rfl⟩) | (go_at_call 38; (with_reducible refine (HC3.out _).mono ?_); rintro e w' ⟨rfl, rfl⟩; exact ⟨rfl, _, World.drewN_drewN _ _ _⟩)))
  obtain ⟨nq2, hq2⟩ : ∃ n, n = nq := ⟨_, rfl⟩
  subst hq2
  go_wp2_with fail
  go_quiet ((first | (go_at_call 38; (with_reducible refine (HC4.out _).mono ?_); rintro e w' ⟨rfl, rfl⟩; exact ⟨rfl, _, rfl⟩) | (go_at_call 38; (with_reducible refine (HC4.out _).mono ?_); rintro e w' ⟨rfl, rfl⟩; exact ⟨rfl, _, World.drewN_drewN _ _ _⟩)))
  obtain ⟨nq3, hq3⟩ : ∃ n, n = nq := ⟨_, rfl⟩
  subst hq3
  go_upto_region 7 with fail
  have HGQ := Lib.hid (show ((((W1.drewN nq0).drewN nq1).drewN nq2).drewN nq3).heap[g]? = some (.cells (unC ⟨N, D, ds⟩) 26 (0, 0)) from HG.out)
  have HKQ := Lib.hid (show ((((W1.drewN nq0).drewN nq1).drewN nq2).drewN nq3).heap[k]? = some (.cells #[.string nm, .int .i64 (p : Int), .int .i64 (q : Int), .int .i64 base] 41 (0, 0)) from HK.out)
  have HBQ := Lib.hid (Blk.below_drewN (Blk.below_drewN (Blk.below_drewN (Blk.below_drewN HBW.out nq0) nq1) nq2) nq3)
  have HKBQ := Lib.hid (show KeepBut w ((((W1.drewN nq0).drewN nq1).drewN nq2).drewN nq3) g none from ⟨HKB.out.1, HKB.out.2⟩)
  obtain ⟨WQ, hWQ⟩ : ∃ W, (((W1.drewN nq0).drewN nq1).drewN nq2).drewN nq3 = W := ⟨_, rfl⟩
  rw [hWQ] at HGQ HKQ HBQ HKBQ ⊢
  clear hWQ HG HK HBW HKB HC1 HC2 HC3 HC4 d1 d2 d3 d4 t1 t2 t3 t4 s1 s2 s3 s4 z1 z2 hy0 hy1 hz0 hz1 hr1 hr2 hr3 HWK
  have hy0 := Blk.blk_cell HGQ.out 0
  have hy1 := Blk.blk_cell HGQ.out 1
  have hz0 := Blk.blk_frozen HGQ.out 0
  have hz1 := Blk.blk_frozen HGQ.out 1
  unfold unC at hy0 hy1
  simp at hy0 hy1
  have bad : ∀ (e : Ending), e = .returned (.bool false) → TPost w0 w g (⟨N, D, ds⟩, false) e WQ := fun e he => ⟨he, HGQ.out, HBQ.out, HKBQ.out⟩
  have HBAD := Lib.hid bad
  clear bad
  cases o1 with
  | false =>
    go_wp2_with fail
    go_ret
    rw [endF_no1]
    exact HBAD.out _ rfl
  | true =>
  cases o2 with
  | false =>
    go_wp2_with fail
    go_ret
    rw [endF_no2]
    exact HBAD.out _ rfl
  | true =>
  go_upto_region 10 with fail
  have h1 := Blk.blk_set HGQ.out 0 (.int .i64 (P1 : Int))
  rw [unC_0] at h1
  have h2 := Blk.blk_set h1 1 (.int .i64 (P2 : Int))
  rw [unC_1] at h2
  have HG := Lib.hid h2
  have HK := Lib.hid (Blk.blk_far (Blk.blk_far HKQ.out (p := ⟨g, 0, none⟩) (by show k ≠ g; omega) (.int .i64 (P1 : Int))) (p := ⟨g, 1, none⟩) (by show k ≠ g; omega) (.int .i64 (P2 : Int)))
  have HB2 := Lib.hid ((HBQ.out.setCell (p := ⟨g, 0, none⟩) HW.out (.int .i64 (P1 : Int))).setCell (p := ⟨g, 1, none⟩) HW.out (.int .i64 (P2 : Int)))
  have HKB := Lib.hid ((HKBQ.out.set_ 0 (.int .i64 (P1 : Int))).set_ 1 (.int .i64 (P2 : Int)))
  obtain ⟨WR, hWR⟩ : ∃ W, (WQ.setCell ⟨g, 0, none⟩ (.int .i64 (P1 : Int))).setCell ⟨g, 1, none⟩ (.int .i64 (P2 : Int)) = W := ⟨_, rfl⟩
  rw [hWR] at HG HK HB2 HKB ⊢
  clear hWR h1 h2 HGQ HKQ HBQ HKBQ HBAD hy0 hy1 hz0 hz1
  have hr3 := Blk.blk_cell HK.out 3
  simp at hr3
  rcases hi with ⟨hb0, rfl⟩ | ⟨j, rfl, hj, rfl⟩
  · have q1 : decide (base ≥ 0) = false := by simp; omega
    have q2 : decide (0 ≤ base) = false := by simp; omega
    go_wp2_with fail
    go_ret
    rw [endF_none]
    exact ⟨rfl, HG.out, HB2.out, HKB.out⟩
  · have q1 : decide ((j : Int) ≥ 0) = true := by simp
    have hyj := (Blk.blk_cell HG.out (2 + j)).trans (unC_at P1 P2 ds j (by omega))
    have hzj := Blk.blk_frozen HG.out (2 + j)
    have hv := HU.out (ds.getD j 0) (by rw [List.getD_eq_getElem?_getD, List.getElem?_eq_getElem (by omega : j < ds.length)]; exact List.getElem_mem _)
    obtain ⟨v, hv2⟩ : ∃ v, ds.getD j 0 = v := ⟨_, rfl⟩
    rw [hv2] at hv hyj
    have HV2 := Lib.hid hv2
    clear hv2
    have HV := Lib.hid hv
    go_upto_region 11 with fail
    go_region
    go_upto_region 12 with fail
    obtain ⟨y, hy⟩ : ∃ y, v + -1 = y := ⟨_, rfl⟩
    have hyb : -9 ≤ y ∧ y ≤ 7 := by omega
    rw [hy]
    have h1 := Blk.blk_set HG.out (2 + j) (.int .i64 y)
    rw [unC_d] at h1
    have HG3 := Lib.hid (show ((WR.setCell ⟨g, 2 + j, none⟩ (.int .i64 y)).drew).heap[g]? = some (.cells (unC ⟨P1, P2, ds.set j y⟩) 26 (0, 0)) from h1)
    have HK3 := Lib.hid (show ((WR.setCell ⟨g, 2 + j, none⟩ (.int .i64 y)).drew).heap[k]? = some (.cells #[.string nm, .int .i64 (p : Int), .int .i64 (q : Int), .int .i64 (j : Int)] 41 (0, 0)) from Blk.blk_far HK.out (p := ⟨g, 2 + j, none⟩) (by show k ≠ g; omega) _)
    have HB3 := Lib.hid ((HB2.out.setCell (p := ⟨g, 2 + j, none⟩) HW.out (.int .i64 y)).drew)
    have HKB3 := Lib.hid (show KeepBut w ((WR.setCell ⟨g, 2 + j, none⟩ (.int .i64 y)).drew) g none from ⟨(HKB.out.set_ (2 + j) (.int .i64 y)).1, (HKB.out.set_ (2 + j) (.int .i64 y)).2⟩)
    obtain ⟨W3, hW3⟩ : ∃ W, (WR.setCell ⟨g, 2 + j, none⟩ (.int .i64 y)).drew = W := ⟨_, rfl⟩
    rw [hW3] at HG3 HK3 HB3 HKB3 ⊢
    have HY := Lib.hid hy
    have hlen : j < (ds.set j y).length := by rw [List.length_set]; omega
    have hg3 := (Blk.blk_cell HG3.out (2 + j)).trans (unC_at P1 P2 (ds.set j y) j hlen)
    rw [show (ds.set j y).getD j 0 = y from by rw [List.getD_eq_getElem?_getD, List.getElem?_set_self (by omega)]; rfl] at hg3
    have hr3' := Blk.blk_cell HK3.out 3
    simp at hr3'
    clear hy hW3 h1 hlen HG HK HB2 HKB hyj hzj hr3 hv
    have key : ∀ (W : World), Drawn0 W3 W → TPost w0 w g (endF N D ds (P1, true) (P2, true) (some j) (-1)) (.returned (.bool (decide (y ≤ 8) && decide (-8 ≤ y)))) W := by
      rintro W ⟨m, rfl⟩
      rw [endF_some, HV2.out, HY.out]
      exact ⟨rfl, HG3.out, Blk.below_drewN HB3.out m, HKB3.out.1, HKB3.out.2⟩
    have KEY := Lib.hid key
    clear key
    have q3 : decide (y ≤ 8) = true := by simp; omega
    by_cases h8 : -8 ≤ y
    · have q4 : decide (y ≥ -8) = true := by simpa using h8
      have q5 : decide (-8 ≤ y) = true := by simpa using h8
      go_quiet (fail)
      go_wp2_with fail
      go_ret
      have := KEY.out _ ⟨nq, rfl⟩
      rw [q3, q5] at this
      exact this
    · have q4 : decide (y ≥ -8) = false := by simpa using h8
      have q5 : decide (-8 ≤ y) = false := by simpa using h8
      go_quiet (fail)
      go_wp2_with fail
      go_ret
      have := KEY.out _ ⟨nq, rfl⟩
      rw [q3, q5] at this
      exact this
end Go.Proofs.YtdplfphgomckfaaDoor.Dd
