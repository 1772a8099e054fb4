/- dim.both, walked: two dimensions joined. Conditions: as each theorem states. -/
import Derived.Test.YtdplfphgomckfaaDoorDt
import Derived.Test.YtdplfphgomckfaaDoorBy2
import Derived.Deep.RegionHeld3
namespace Go.Proofs.YtdplfphgomckfaaDoor.Dj
set_option linter.unusedVariables false
set_option linter.unusedSimpArgs false
open Go.RowKit Go.Proofs.YtdplfphgomckfaaDoorW.PrintWords Go.Proofs.YtdplfphgomckfaaDoor.Dt Go.Proofs.YtdplfphgomckfaaDoor.Bn Go.Proofs.YtdplfphgomckfaaDoor.Bx
/-- One exponent of the two. -/
def jv (A B : List Int) (neg : Bool) (k : Nat) : Int := if neg = true then hold (A.getD k 0 - B.getD k 0) else hold (A.getD k 0 + B.getD k 0)
def Z5 : List Int := [0, 0, 0, 0, 0]
def jF (A B : List Int) (neg : Bool) : Nat → Nat → List Int → List Int × Bool
 | 0, _, D => (D, true)
 | g + 1, i, D => if jv A B neg i > 8 ∨ jv A B neg i < -8 then (Z5, false) else jF A B neg g (i + 1) (D.set i (jv A B neg i))
def Jx (w : World) (b : Nat) (A B D : List Int) (wx : World) : Prop := Below w.heap.size w wx ∧ wx.heap[b]? = some (.cells (dC A) 24 (0, 0)) ∧ wx.heap[b + 1]? = some (.cells (dC B) 24 (0, 0)) ∧ wx.heap[b + 2]? = some (.cells (dC Z5) 24 (0, 0)) ∧ wx.heap[b + 3]? = some (.cells (dC D) 24 (0, 0)) ∧ w.heap.size ≤ b
theorem Jx.below {w : World} {b : Nat} {A B D : List Int} {wx wy : World} (h : Jx w b A B D wx) (hb : Below wx.heap.size wx wy) : Jx w b A B D wy := ⟨Blk.below_then h.1 hb h.1.size, (hb.block _ (Blk.blk_lt h.2.1)).trans h.2.1, (hb.block _ (Blk.blk_lt h.2.2.1)).trans h.2.2.1, (hb.block _ (Blk.blk_lt h.2.2.2.1)).trans h.2.2.2.1, (hb.block _ (Blk.blk_lt h.2.2.2.2.1)).trans h.2.2.2.2.1, h.2.2.2.2.2⟩
theorem Jx.drew {w : World} {b : Nat} {A B D : List Int} {wx : World} (h : Jx w b A B D wx) : Jx w b A B D wx.drew := ⟨⟨h.1.os, h.1.tape, h.1.output, h.1.size, h.1.block⟩, h.2⟩
theorem Jx.alloc {w : World} {b : Nat} {A B D : List Int} {wx : World} (h : Jx w b A B D wx) (o : Obj) : Jx w b A B D (wx.alloc o) := ⟨h.1.alloc h.1.size _, Blk.blk_alloc h.2.1 o, Blk.blk_alloc h.2.2.1 o, Blk.blk_alloc h.2.2.2.1 o, Blk.blk_alloc h.2.2.2.2.1 o, h.2.2.2.2.2⟩
theorem Jx.far {w : World} {b : Nat} {A B D : List Int} {wx : World} (h : Jx w b A B D wx) {q : Nat} (hq : b + 3 < q) (j : Nat) (v : Value) : Jx w b A B D (wx.setCell ⟨q, j, none⟩ v) := ⟨h.1.setCell (p := ⟨q, j, none⟩) (show w.heap.size ≤ q by have := h.2.2.2.2.2; omega) v, Blk.blk_far h.2.1 (show b ≠ q by omega) v, Blk.blk_far h.2.2.1 (show b + 1 ≠ q by omega) v, Blk.blk_far h.2.2.2.1 (show b + 2 ≠ q by omega) v, Blk.blk_far h.2.2.2.2.1 (show b + 3 ≠ q by omega) v, h.2.2.2.2.2⟩
theorem Jx.set {w : World} {b : Nat} {A B D : List Int} {wx : World} (h : Jx w b A B D wx) (j : Nat) (v : Int) : Jx w b A B (D.set j v) (wx.setCell ⟨b + 3, j, none⟩ (.int .i64 v)) := ⟨h.1.setCell (p := ⟨b + 3, j, none⟩) (show w.heap.size ≤ b + 3 by have := h.2.2.2.2.2; omega) _, Blk.blk_far h.2.1 (show b ≠ b + 3 by omega) _, Blk.blk_far h.2.2.1 (show b + 1 ≠ b + 3 by omega) _, Blk.blk_far h.2.2.2.1 (show b + 2 ≠ b + 3 by omega) _, by have := Blk.blk_set h.2.2.2.2.1 j (.int .i64 v); unfold dC at this ⊢; rw [List.setIfInBounds_toArray, ← List.map_set] at this; exact this, h.2.2.2.2.2⟩
theorem Jx.two {w : World} {b : Nat} {A B D : List Int} {wx : World} (h : Jx w b A B D wx) (k : Nat) (ha : k < A.length) (hb : k < B.length) : wx.cell? ⟨b, k, none⟩ = some (.int .i64 (A.getD k 0)) ∧ wx.cell? ⟨b + 1, k, none⟩ = some (.int .i64 (B.getD k 0)) := ⟨(Blk.blk_cell h.2.1 k).trans (dC_at A k ha), (Blk.blk_cell h.2.2.1 k).trans (dC_at B k hb)⟩
def S5 (W : World) (b : Nat) (a0 a1 a2 a3 a4 : Int) : World := ((((W.setCell ⟨b, 0, none⟩ (.int .i64 a0)).setCell ⟨b, 1, none⟩ (.int .i64 a1)).setCell ⟨b, 2, none⟩ (.int .i64 a2)).setCell ⟨b, 3, none⟩ (.int .i64 a3)).setCell ⟨b, 4, none⟩ (.int .i64 a4)
theorem S5_blk {W : World} {b : Nat} {c0 c1 c2 c3 c4 : Value} (a0 a1 a2 a3 a4 : Int) (h : W.heap[b]? = some (.cells #[c0, c1, c2, c3, c4] 24 (0, 0))) : (S5 W b a0 a1 a2 a3 a4).heap[b]? = some (.cells (dC [a0, a1, a2, a3, a4]) 24 (0, 0)) := by
 have h0 : (W.setCell ⟨b, 0, none⟩ (.int .i64 a0)).heap[b]? = some (.cells #[.int .i64 a0, c1, c2, c3, c4] 24 (0, 0)) := Blk.blk_set h 0 _
 have h1 : ((W.setCell ⟨b, 0, none⟩ (.int .i64 a0)).setCell ⟨b, 1, none⟩ (.int .i64 a1)).heap[b]? = some (.cells #[.int .i64 a0, .int .i64 a1, c2, c3, c4] 24 (0, 0)) := Blk.blk_set h0 1 _
 have h2 : (((W.setCell ⟨b, 0, none⟩ (.int .i64 a0)).setCell ⟨b, 1, none⟩ (.int .i64 a1)).setCell ⟨b, 2, none⟩ (.int .i64 a2)).heap[b]? = some (.cells #[.int .i64 a0, .int .i64 a1, .int .i64 a2, c3, c4] 24 (0, 0)) := Blk.blk_set h1 2 _
 have h3 : ((((W.setCell ⟨b, 0, none⟩ (.int .i64 a0)).setCell ⟨b, 1, none⟩ (.int .i64 a1)).setCell ⟨b, 2, none⟩ (.int .i64 a2)).setCell ⟨b, 3, none⟩ (.int .i64 a3)).heap[b]? = some (.cells #[.int .i64 a0, .int .i64 a1, .int .i64 a2, .int .i64 a3, c4] 24 (0, 0)) := Blk.blk_set h2 3 _
 exact Blk.blk_set h3 4 _
theorem S5_below {w W : World} {B b : Nat} (a0 a1 a2 a3 a4 : Int) (h : Below B w W) (hb : B ≤ b) : Below B w (S5 W b a0 a1 a2 a3 a4) := ((((h.setCell (p := ⟨b, 0, none⟩) hb _).setCell (p := ⟨b, 1, none⟩) hb _).setCell (p := ⟨b, 2, none⟩) hb _).setCell (p := ⟨b, 3, none⟩) hb _).setCell (p := ⟨b, 4, none⟩) hb _
theorem Jx.outs {w : World} {b : Nat} {A B D : List Int} {wx : World} (h : Jx w b A B D wx) : wx.cell? ⟨b + 2, 0, none⟩ = some (.int .i64 0) ∧ wx.cell? ⟨b + 2, 1, none⟩ = some (.int .i64 0) ∧ wx.cell? ⟨b + 2, 2, none⟩ = some (.int .i64 0) ∧ wx.cell? ⟨b + 2, 3, none⟩ = some (.int .i64 0) ∧ wx.cell? ⟨b + 2, 4, none⟩ = some (.int .i64 0) :=
 ⟨(Blk.blk_cell h.2.2.2.1 0).trans rfl, (Blk.blk_cell h.2.2.2.1 1).trans rfl, (Blk.blk_cell h.2.2.2.1 2).trans rfl, (Blk.blk_cell h.2.2.2.1 3).trans rfl, (Blk.blk_cell h.2.2.2.1 4).trans rfl⟩
theorem Jx.outz {w : World} {b : Nat} {A B D : List Int} {wx : World} (h : Jx w b A B D wx) : wx.frozen? ⟨b + 2, 0, none⟩ = false ∧ wx.frozen? ⟨b + 2, 1, none⟩ = false ∧ wx.frozen? ⟨b + 2, 2, none⟩ = false ∧ wx.frozen? ⟨b + 2, 3, none⟩ = false ∧ wx.frozen? ⟨b + 2, 4, none⟩ = false :=
 ⟨Blk.blk_frozen h.2.2.2.1 0, Blk.blk_frozen h.2.2.2.1 1, Blk.blk_frozen h.2.2.2.1 2, Blk.blk_frozen h.2.2.2.1 3, Blk.blk_frozen h.2.2.2.1 4⟩
theorem Jx.put {w : World} {b : Nat} {A B D : List Int} {wx : World} (h : Jx w b A B D wx) (a0 a1 a2 a3 a4 : Int) : (S5 wx (b + 2) a0 a1 a2 a3 a4).heap[b + 2]? = some (.cells (dC [a0, a1, a2, a3, a4]) 24 (0, 0)) ∧ Below w.heap.size w (S5 wx (b + 2) a0 a1 a2 a3 a4) := ⟨S5_blk a0 a1 a2 a3 a4 h.2.2.2.1, S5_below a0 a1 a2 a3 a4 h.1 (by have := h.2.2.2.2.2; omega)⟩
def JPost (w : World) (r : List Int × Bool) (e : Ending) (w' : World) : Prop := e = .returned (.tuple #[.agg (dC r.1), .bool r.2]) ∧ Below w.heap.size w w'
theorem len5d {l : List Int} (h : l.length = 5) : ∃ a b c d e, l = [a, b, c, d, e] := by
 match l, h with
 | [a, b, c, d, e], _ => exact ⟨a, b, c, d, e, rfl⟩
theorem resD (f : Func) (hf : f.results = Tryd.f24.results) (W : World) (b : Nat) (D : List Int) (hD : D.length = 5) (o : Bool) (tmps : Array Value) (h6 : tmps.getD 6 undef = .pointer (some ⟨b, 0, none⟩)) (h7 : tmps.getD 7 undef = .bool o) (hat : W.heap[b]? = some (.cells (dC D) 24 (0, 0))) : (results f tmps).run Tryd.prog W = .ok (.tuple #[.agg (dC D), .bool o]) W := by
 obtain ⟨a, b1, c, d, e, rfl⟩ := len5d hD
 have c0 := Blk.blk_cell hat 0
 have c1 := Blk.blk_cell hat 1
 have c2 := Blk.blk_cell hat 2
 have c3 := Blk.blk_cell hat 3
 have c4 := Blk.blk_cell hat 4
 simp [dC] at c0 c1 c2 c3 c4
 simp only [Array.getD_eq_getD_getElem?] at h6 h7
 simp [results, hf, Tryd.results24, h6, h7, go_sem, c0, c1, c2, c3, c4, dC]
theorem hold_bd (v : Int) : -9223372036854775808 ≤ hold v ∧ hold v ≤ 9223372036854775807 := by unfold hold; split <;> (try split) <;> omega
theorem jF_len (A B : List Int) (neg : Bool) : ∀ (g i : Nat) (D : List Int), D.length = 5 → (jF A B neg g i D).1.length = 5
 | 0, i, D, h => h
 | g + 1, i, D, h => by
  unfold jF
  split
  ·rfl
  ·exact jF_len A B neg g (i + 1) _ (by rw [List.length_set]; exact h)
set_option maxHeartbeats 8000000 in
set_option maxRecDepth 100000 in
theorem both_any (A B : List Int) (sg : Int) (x0 x1 x2 x3 x4 y0 y1 y2 y3 y4 : Int) (hA : A = [x0, x1, x2, x3, x4]) (hB : B = [y0, y1, y2, y3, y4]) (hbA : ∀ x ∈ A, I64 x) (hbB : ∀ x ∈ B, I64 x) (w : World) : Calls Tryd.prog 24 #[.agg #[.int .i64 x0, .int .i64 x1, .int .i64 x2, .int .i64 x3, .int .i64 x4], .agg #[.int .i64 y0, .int .i64 y1, .int .i64 y2, .int .i64 y3, .int .i64 y4], .int .i64 sg] w (JPost w (jF A B (decide (sg < 0)) 5 0 Z5)) := by
 obtain ⟨R, hR⟩ : ∃ R, jF A B (decide (sg < 0)) 5 0 Z5 = R := ⟨_, rfl⟩
 rw [hR]
 have HF := Lib.hid hR
 have HAB := Lib.hid hbA
 have HBB := Lib.hid hbB
 have hAl : A.length = 5 := by rw [hA]; rfl
 have hBl : B.length = 5 := by rw [hB]; rfl
 have HK0 := Lib.hid (show Jx w w.heap.size A B Z5 ((((w.alloc (.cells #[.int .i64 x0, .int .i64 x1, .int .i64 x2, .int .i64 x3, .int .i64 x4] 24)).alloc (.cells #[.int .i64 y0, .int .i64 y1, .int .i64 y2, .int .i64 y3, .int .i64 y4] 24)).alloc (.cells #[.int .i64 0, .int .i64 0, .int .i64 0, .int .i64 0, .int .i64 0] 24)).alloc (.cells #[.int .i64 0, .int .i64 0, .int .i64 0, .int .i64 0, .int .i64 0] 24)) from by
  subst hA hB
  exact ⟨((((Below.refl w.heap.size w).alloc (Nat.le_refl _) _).alloc (by simp) _).alloc (by simp; omega) _).alloc (by simp; omega) _, Blk.blk_alloc (Blk.blk_alloc (Blk.blk_alloc (Blk.blk_new w _) _) _) _, Blk.blk_alloc (Blk.blk_alloc (Blk.blk_at _ _ (w.heap.size + 1) (by simp)) _) _, Blk.blk_alloc (Blk.blk_at _ _ (w.heap.size + 2) (by simp)) _, Blk.blk_at _ _ (w.heap.size + 3) (by simp), Nat.le_refl _⟩)
 obtain ⟨b, hb⟩ : ∃ b, w.heap.size = b := ⟨_, rfl⟩
 rw [hb] at HK0
 clear hA hB hbA hbB hR
 go_enter Tryd.func24, Tryd.ntmps24
 go_wp2_with fail
 try simp only [hb, Nat.add_assoc, Nat.reduceAdd]
 clear hb
 go_loopg [11] 5 (fun gf v11 wx => ∃ (i : Nat) (D : List Int), v11 = .int .i64 i ∧ i + gf = 5 ∧ Hid (D.length = 5) ∧ Hid (jF A B (decide (sg < 0)) gf i D = R) ∧ Hid (Jx w b A B D wx))
 case atStart => exact ⟨0, Z5, rfl, by omega, Lib.hid rfl, HF, HK0⟩
 case round =>
  clear HK0 HF
  obtain ⟨i, D, rfl, hi, HDL, HF, HK⟩ := hrel
  have hDl : D.length = 5 := HDL.out
  by_cases hlt : i < 5
  ·obtain ⟨g', rfl⟩ : ∃ g', gk = g' + 1 := ⟨gk - 1, by omega⟩
   have q0 : decide ((i : Int) < 5) = true := by simp; omega
   have hlt5 : (i : Int) < 5 := by omega
   have hx := HAB.out (A.getD i 0) (by rw [List.getD_eq_getElem?_getD, List.getElem?_eq_getElem (by omega : i < A.length)]; exact List.getElem_mem _)
   have hy := HBB.out (B.getD i 0) (by rw [List.getD_eq_getElem?_getD, List.getElem?_eq_getElem (by omega : i < B.length)]; exact List.getElem_mem _)
   have HTW := Lib.hid (show ∀ W, Jx w b A B D W → W.cell? ⟨b, i, none⟩ = some (.int .i64 (A.getD i 0)) ∧ W.cell? ⟨b + 1, i, none⟩ = some (.int .i64 (B.getD i 0)) from fun W h => h.two i (by omega) (by omega))
   have HJV := Lib.hid (show jv A B (decide (sg < 0)) i = if decide (sg < 0) = true then hold (A.getD i 0 - B.getD i 0) else hold (A.getD i 0 + B.getD i 0) from rfl)
   obtain ⟨x, hxe⟩ : ∃ x, A.getD i 0 = x := ⟨_, rfl⟩
   obtain ⟨y, hye⟩ : ∃ y, B.getD i 0 = y := ⟨_, rfl⟩
   rw [hxe] at hx HTW HJV
   rw [hye] at hy HTW HJV
   have HC1 := Lib.hid (fun W => OW.fix_Add.calls x y _ W (add_is x y hx hy))
   have HC2 := Lib.hid (fun W => OW.fix_Sub.calls x y _ W (sub_is x y hx hy))
   have hb1 := hold_bd (x + y)
   have hb2 := hold_bd (x - y)
   obtain ⟨v1, hv1⟩ : ∃ v, hold (x + y) = v := ⟨_, rfl⟩
   obtain ⟨v2, hv2⟩ : ∃ v, hold (x - y) = v := ⟨_, rfl⟩
   rw [hv1] at HC1 hb1 HJV
   rw [hv2] at HC2 hb2 HJV
   clear hxe hye hv1 hv2 hx hy
   have HKn := HK.out
   obtain ⟨c0, c1⟩ := HTW.out _ HKn
   clear HK
   go_upto_region 5 with fail
   go_region_held3 (fun W => W.cell? ⟨b, i, none⟩ = some (.int .i64 x) ∧ W.cell? ⟨b + 1, i, none⟩ = some (.int .i64 y))
    (first | (with_reducible exact HTW.out _ HKn) | (with_reducible exact HTW.out _ HKn.drew) | (with_reducible exact HTW.out _ HKa))
    (first | (go_at_call 41; (with_reducible refine (HC1.out _).mono ?_); rintro e wa ⟨rfl, hba⟩; have HKa := Jx.below (Jx.drew HKn) hba))
   clear HKn c0 c1 hba
   have HKn := HKa
   clear HKa
   obtain ⟨c0, c1⟩ := HTW.out _ HKn
   by_cases hsg : sg < 0
   ·have q2 : decide (sg < 0) = true := by simpa using hsg
    rw [q2, if_pos rfl] at HJV
    rw [q2] at HF
    go_upto_region 7 with fail
    go_region_held3 (fun W => W.cell? ⟨b, i, none⟩ = some (.int .i64 x) ∧ W.cell? ⟨b + 1, i, none⟩ = some (.int .i64 y))
     (first | (with_reducible exact HTW.out _ HKn) | (with_reducible exact HTW.out _ HKn.drew) | (with_reducible exact HTW.out _ HKa))
     (first | (go_at_call 42; (with_reducible refine (HC2.out _).mono ?_); rintro e wb ⟨rfl, hba⟩; have HKa := Jx.below (Jx.drew HKn) hba))
    clear HKn c0 c1 hba
    have HKn := HKa
    clear HKa HTW HC1 HC2
    have HV := Lib.hid HJV.out
    have HVB := Lib.hid hb2
    clear HJV hb1 hb2
    obtain ⟨v, hv⟩ : ∃ v, v2 = v := ⟨_, rfl⟩
    subst hv
    have hvb : -9223372036854775808 ≤ v2 ∧ v2 ≤ 9223372036854775807 := HVB.out
    have hF := HF.out
    rw [jF, HV.out] at hF
    clear HF
    by_cases h1 : v2 > 8
    ·have q3 : decide (v2 > 8) = true := by simp; omega
     rw [if_pos (.inl h1)] at hF
     subst hF
     obtain ⟨r0, r1, r2, r3, r4⟩ := HKn.outs
     obtain ⟨z0, z1, z2, z3, z4⟩ := HKn.outz
     go_wp2_with fail
     refine bodyPost_ret (v := .tuple #[.agg (dC Z5), .bool false]) ?_ rfl ?_
     ·exact resD Tryd.f24 rfl (S5 wb (b + 2) 0 0 0 0 0) (b + 2) Z5 rfl false _ rfl rfl (HKn.put 0 0 0 0 0).1
     ·exact ⟨rfl, (HKn.put 0 0 0 0 0).2⟩
    ·have q3 : decide (v2 > 8) = false := by simp; omega
     by_cases h2 : v2 < -8
     ·have q4 : decide (v2 < -8) = true := by simp; omega
      rw [if_pos (.inr h2)] at hF
      subst hF
      obtain ⟨r0, r1, r2, r3, r4⟩ := HKn.outs
      obtain ⟨z0, z1, z2, z3, z4⟩ := HKn.outz
      go_wp2_with fail
      refine bodyPost_ret (v := .tuple #[.agg (dC Z5), .bool false]) ?_ rfl ?_
      ·exact resD Tryd.f24 rfl (S5 wb (b + 2) 0 0 0 0 0) (b + 2) Z5 rfl false _ rfl rfl (HKn.put 0 0 0 0 0).1
      ·exact ⟨rfl, (HKn.put 0 0 0 0 0).2⟩
     ·have q4 : decide (v2 < -8) = false := by simp; omega
      rw [if_neg (by rintro (h | h); exact h1 h; exact h2 h)] at hF
      have HF2 := Lib.hid hF
      clear hF
      have y3 := (Blk.blk_cell HKn.2.2.2.2.1 i).trans (dC_at D i (by omega))
      have y4 := Blk.blk_frozen HKn.2.2.2.2.1 i
      have HKs := Lib.hid (HKn.set i v2)
      have HLs := Lib.hid (show (D.set i v2).length = 5 by rw [List.length_set]; exact hDl)
      go_wp2_with fail
      go_roundg g'
      case measure => omega
      case rel => exact ⟨i + 1, D.set i v2, by go_num, by omega, HLs, (by rw [q2]; exact HF2), HKs⟩
   ·have q2 : decide (sg < 0) = false := by simpa using hsg
    rw [q2, if_neg (by decide)] at HJV
    rw [q2] at HF
    clear HTW HC1 HC2 c0 c1
    have HV := Lib.hid HJV.out
    have HVB := Lib.hid hb1
    clear HJV hb1 hb2
    have hvb : -9223372036854775808 ≤ v1 ∧ v1 ≤ 9223372036854775807 := HVB.out
    have hF := HF.out
    rw [jF, HV.out] at hF
    clear HF
    by_cases h1 : v1 > 8
    ·have q3 : decide (v1 > 8) = true := by simp; omega
     rw [if_pos (.inl h1)] at hF
     subst hF
     obtain ⟨r0, r1, r2, r3, r4⟩ := HKn.outs
     obtain ⟨z0, z1, z2, z3, z4⟩ := HKn.outz
     go_wp2_with fail
     refine bodyPost_ret (v := .tuple #[.agg (dC Z5), .bool false]) ?_ rfl ?_
     ·exact resD Tryd.f24 rfl (S5 wa (b + 2) 0 0 0 0 0) (b + 2) Z5 rfl false _ rfl rfl (HKn.put 0 0 0 0 0).1
     ·exact ⟨rfl, (HKn.put 0 0 0 0 0).2⟩
    ·have q3 : decide (v1 > 8) = false := by simp; omega
     by_cases h2 : v1 < -8
     ·have q4 : decide (v1 < -8) = true := by simp; omega
      rw [if_pos (.inr h2)] at hF
      subst hF
      obtain ⟨r0, r1, r2, r3, r4⟩ := HKn.outs
      obtain ⟨z0, z1, z2, z3, z4⟩ := HKn.outz
      go_wp2_with fail
      refine bodyPost_ret (v := .tuple #[.agg (dC Z5), .bool false]) ?_ rfl ?_
      ·exact resD Tryd.f24 rfl (S5 wa (b + 2) 0 0 0 0 0) (b + 2) Z5 rfl false _ rfl rfl (HKn.put 0 0 0 0 0).1
      ·exact ⟨rfl, (HKn.put 0 0 0 0 0).2⟩
     ·have q4 : decide (v1 < -8) = false := by simp; omega
      rw [if_neg (by rintro (h | h); exact h1 h; exact h2 h)] at hF
      have HF2 := Lib.hid hF
      clear hF
      have y3 := (Blk.blk_cell HKn.2.2.2.2.1 i).trans (dC_at D i (by omega))
      have y4 := Blk.blk_frozen HKn.2.2.2.2.1 i
      have HKs := Lib.hid (HKn.set i v1)
      have HLs := Lib.hid (show (D.set i v1).length = 5 by rw [List.length_set]; exact hDl)
      go_wp2_with fail
      go_roundg g'
      case measure => omega
      case rel => exact ⟨i + 1, D.set i v1, by go_num, by omega, HLs, (by rw [q2]; exact HF2), HKs⟩
  ·obtain rfl : gk = 0 := by omega
   obtain rfl : i = 5 := by omega
   have q0 : decide (((5 : Nat) : Int) < 5) = false := by decide
   have hF := HF.out
   rw [jF] at hF
   subst hF
   obtain ⟨d0, d1, d2, d3, d4, rfl⟩ := len5d hDl
   have HKn := HK.out
   obtain ⟨r0, r1, r2, r3, r4⟩ := HKn.outs
   obtain ⟨z0, z1, z2, z3, z4⟩ := HKn.outz
   have s0 := (Blk.blk_cell HKn.2.2.2.2.1 0).trans (show _ = some (.int .i64 d0) from rfl)
   have s1 := (Blk.blk_cell HKn.2.2.2.2.1 1).trans (show _ = some (.int .i64 d1) from rfl)
   have s2 := (Blk.blk_cell HKn.2.2.2.2.1 2).trans (show _ = some (.int .i64 d2) from rfl)
   have s3 := (Blk.blk_cell HKn.2.2.2.2.1 3).trans (show _ = some (.int .i64 d3) from rfl)
   have s4 := (Blk.blk_cell HKn.2.2.2.2.1 4).trans (show _ = some (.int .i64 d4) from rfl)
   clear HK HF
   go_wp2_with fail
   refine bodyPost_ret (v := .tuple #[.agg (dC [d0, d1, d2, d3, d4]), .bool true]) ?_ rfl ?_
   ·exact resD Tryd.f24 rfl (S5 wr (b + 2) d0 d1 d2 d3 d4) (b + 2) [d0, d1, d2, d3, d4] rfl true _ rfl rfl (HKn.put d0 d1 d2 d3 d4).1
   ·exact ⟨rfl, (HKn.put d0 d1 d2 d3 d4).2⟩
end Go.Proofs.YtdplfphgomckfaaDoor.Dj
