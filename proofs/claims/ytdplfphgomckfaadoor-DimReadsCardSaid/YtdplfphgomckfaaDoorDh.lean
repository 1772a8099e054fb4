/- The reference's Read, walked. Conditions: as each theorem states. -/
import Derived.Test.YtdplfphgomckfaaDoorDg
import Derived.Deep.RegionLaw
import Derived.Deep.RegionHeld3
namespace Go.Proofs.YtdplfphgomckfaaDoor.Dh
set_option linter.unusedVariables false
set_option linter.unusedSimpArgs false
open Go.RowKit Go.Proofs.YtdplfphgomckfaaDoorW.PrintWords Go.Proofs.YtdplfphgomckfaaDoor.Laid Go.Proofs.YtdplfphgomckfaaDoor.Da Go.Proofs.YtdplfphgomckfaaDoor.Db Go.Proofs.YtdplfphgomckfaaDoor.Dc Go.Proofs.YtdplfphgomckfaaDoor.Dd Go.Proofs.YtdplfphgomckfaaDoor.De Go.Proofs.YtdplfphgomckfaaDoor.Dr Go.Proofs.YtdplfphgomckfaaDoor.Dt Go.Proofs.YtdplfphgomckfaaDoor.Dg
open Go.Proofs.YtdplfphgomckfaaDoor.OP (S52 S46 z52 k52)
def Rr (w : World) (b : Nat) (p d : List Int) (wx : World) : Prop := Below w.heap.size w wx ∧ wx.heap[b]? = some (.cells (unC Zu) 26 (0, 0)) ∧ wx.heap[b + 1]? = some (.cells (p3C p) 46 (0, 0)) ∧ wx.heap[b + 2]? = some (.cells (dC d) 24 (0, 0)) ∧ w.heap.size ≤ b
theorem Rr.row {w : World} {b : Nat} {p d : List Int} {wx : World} (h : Rr w b p d wx) (o : Obj) : Rr w b p d (wx.alloc o) := ⟨h.1.alloc h.1.size _, Blk.blk_alloc h.2.1 o, Blk.blk_alloc h.2.2.1 o, Blk.blk_alloc h.2.2.2.1 o, h.2.2.2.2⟩
theorem Rr.below {w : World} {b : Nat} {p d : List Int} {wx wy : World} (h : Rr w b p d wx) (hb : Below wx.heap.size wx wy) : Rr w b p d wy := ⟨Blk.below_then h.1 hb h.1.size, (hb.block _ (Blk.blk_lt h.2.1)).trans h.2.1, (hb.block _ (Blk.blk_lt h.2.2.1)).trans h.2.2.1, (hb.block _ (Blk.blk_lt h.2.2.2.1)).trans h.2.2.2.1, h.2.2.2.2⟩
theorem Rr.lt {w : World} {b : Nat} {p d : List Int} {wx : World} (h : Rr w b p d wx) : b + 2 < wx.heap.size := Blk.blk_lt h.2.2.2.1
theorem Rr.rs {w : World} {b : Nat} {p d : List Int} {wx : World} (h : Rr w b p d wx) : wx.cell? ⟨b, 0, none⟩ = some (.int .i64 0) ∧ wx.cell? ⟨b, 1, none⟩ = some (.int .i64 0) ∧ wx.cell? ⟨b, 2, none⟩ = some (.int .i64 0) ∧ wx.cell? ⟨b, 3, none⟩ = some (.int .i64 0) ∧ wx.cell? ⟨b, 4, none⟩ = some (.int .i64 0) ∧ wx.cell? ⟨b, 5, none⟩ = some (.int .i64 0) ∧ wx.cell? ⟨b, 6, none⟩ = some (.int .i64 0) :=
  ⟨(Blk.blk_cell h.2.1 0).trans rfl, (Blk.blk_cell h.2.1 1).trans rfl, (Blk.blk_cell h.2.1 2).trans rfl, (Blk.blk_cell h.2.1 3).trans rfl, (Blk.blk_cell h.2.1 4).trans rfl, (Blk.blk_cell h.2.1 5).trans rfl, (Blk.blk_cell h.2.1 6).trans rfl⟩
theorem Rr.rz {w : World} {b : Nat} {p d : List Int} {wx : World} (h : Rr w b p d wx) : wx.frozen? ⟨b, 0, none⟩ = false ∧ wx.frozen? ⟨b, 1, none⟩ = false ∧ wx.frozen? ⟨b, 2, none⟩ = false ∧ wx.frozen? ⟨b, 3, none⟩ = false ∧ wx.frozen? ⟨b, 4, none⟩ = false ∧ wx.frozen? ⟨b, 5, none⟩ = false ∧ wx.frozen? ⟨b, 6, none⟩ = false :=
  ⟨Blk.blk_frozen h.2.1 0, Blk.blk_frozen h.2.1 1, Blk.blk_frozen h.2.1 2, Blk.blk_frozen h.2.1 3, Blk.blk_frozen h.2.1 4, Blk.blk_frozen h.2.1 5, Blk.blk_frozen h.2.1 6⟩
theorem Rr.fail {w : World} {b : Nat} {p d : List Int} {wx : World} (h : Rr w b p d wx) : (S7 wx b 0 0 0 0 0 0 0).heap[b]? = some (.cells (unC Zu) 26 (0, 0)) ∧ Below w.heap.size w (S7 wx b 0 0 0 0 0 0 0) := ⟨S7_blk 0 0 0 0 0 0 0 h.2.1, S7_below 0 0 0 0 0 0 0 h.1 h.2.2.2.2⟩
theorem res11 (W : World) (b : Nat) (u : Un) (hu : u.d.length = 5) (pl : Int) (er : Int) (tmps : Array Value) (h2 : tmps.getD 2 undef = .pointer (some ⟨b, 0, none⟩)) (h3 : tmps.getD 3 undef = .int .i64 pl) (h4 : tmps.getD 4 undef = .int .i64 er) (hat : W.heap[b]? = some (.cells (unC u) 26 (0, 0))) : (results Tryd.f11 tmps).run Tryd.prog W = .ok (.tuple #[.agg (unC u), .int .i64 pl, .int .i64 er]) W := by
  obtain ⟨N, D, ds⟩ := u
  obtain ⟨a, b1, c, d, e, rfl⟩ := len5 hu
  have c0 := Blk.blk_cell hat 0
  have c1 := Blk.blk_cell hat 1
  have c2 := Blk.blk_cell hat 2
  have c3 := Blk.blk_cell hat 3
  have c4 := Blk.blk_cell hat 4
  have c5 := Blk.blk_cell hat 5
  have c6 := Blk.blk_cell hat 6
  simp [unC] at c0 c1 c2 c3 c4 c5 c6
  simp only [Array.getD_eq_getD_getElem?] at h2 h3 h4
  simp [results, Tryd.results11, h2, h3, h4, go_sem, c0, c1, c2, c3, c4, c5, c6, unC]
theorem RU1 : RU U1 [0, 0, 0] [0, 0, 0, 0, 0] := ⟨by decide, by decide, rfl, rfl⟩
def p48 (i t a e : Nat) : Array Value := #[.int .i64 (i : Int), .int .i64 (t : Int), .int .i64 (a : Int), .int .i64 (e : Int)]
def wC (x : S52) : Array Value := #[.string x.f0, .int .i64 x.f1.f0, .int .i64 x.f1.f1, .int .i64 x.f1.f2, .int .i64 x.f2]
def row52 (W : World) (ad : Addr) (x : S52) : Prop := W.cell? ad = some (.string x.f0) ∧ W.cell? ⟨ad.block, ad.off + 1, none⟩ = some (.int .i64 x.f1.f0) ∧ W.cell? ⟨ad.block, ad.off + 2, none⟩ = some (.int .i64 x.f1.f1) ∧ W.cell? ⟨ad.block, ad.off + 3, none⟩ = some (.int .i64 x.f1.f2) ∧ W.cell? ⟨ad.block, ad.off + 4, none⟩ = some (.int .i64 x.f2)
theorem names_at (i : Nat) (hi : i < 18) (w : World) : Calls Tryd.prog 22 #[] w fun e w' => ∃ (ad : Addr) (c : Nat), e = .returned (.slice (some ad) 18 c) ∧ row52 w' (ad.add (i * 5)) (NL.getD i z52) ∧ (∀ o, row52 (w'.alloc o) (ad.add (i * 5)) (NL.getD i z52)) ∧ Below w.heap.size w w' := by
  refine (OP.capstanref02_Names.calls NL w NL_f).mono ?_
  rintro e w' ⟨v0, rfl, hR, hb⟩
  obtain ⟨A, c, rfl⟩ := Kd.R_slice hR
  have key : ∀ (W : World), Kd.R k52 52 W w.heap.size (fun _ => True) (.slice A NL.length c) NL → ∃ ad, A = some ad ∧ row52 W (ad.add (i * 5)) (NL.getD i z52) := by
    intro W h
    have h18 : NL.length = 18 := by decide
    obtain ⟨ad, e, h0, h1, h2, h3, h4⟩ := OP.at_T52 (Kd.R_reads' h).2.2 i (by omega) (by omega)
    exact ⟨ad, e, h0, h1, h2, h3, h4⟩
  obtain ⟨ad, rfl, h1⟩ := key w' hR
  refine ⟨ad, c, rfl, h1, fun o => ?_, hb⟩
  obtain ⟨ad', he, h2⟩ := key _ (Kd.R_alloc hR o)
  injection he with he
  subst he
  exact h2
def Q1 (w : World) (b : Nat) (p d : List Int) (bp ix t a e : Nat) (W : World) : Prop := Rr w b p d W ∧ W.heap[bp]? = some (.cells (p48 ix t a e) 48 (0, 0)) ∧ b + 2 < bp
theorem Rr.drew {w : World} {b : Nat} {p d : List Int} {wx : World} (h : Rr w b p d wx) : Rr w b p d wx.drew := ⟨⟨h.1.os, h.1.tape, h.1.output, h.1.size, h.1.block⟩, h.2⟩
theorem Q1.row {w : World} {b : Nat} {p d : List Int} {bp ix t a e : Nat} {W : World} (h : Q1 w b p d bp ix t a e W) (o : Obj) : Q1 w b p d bp ix t a e (W.alloc o) := ⟨h.1.row o, Blk.blk_alloc h.2.1 o, h.2.2⟩
theorem Q1.below {w : World} {b : Nat} {p d : List Int} {bp ix t a e : Nat} {W W' : World} (h : Q1 w b p d bp ix t a e W) (hb : Below W.heap.size W W') : Q1 w b p d bp ix t a e W' := ⟨h.1.below hb, Blk.blk_below h.2.1 hb (Blk.blk_lt h.2.1), h.2.2⟩
theorem Q1.drew {w : World} {b : Nat} {p d : List Int} {bp ix t a e : Nat} {W : World} (h : Q1 w b p d bp ix t a e W) : Q1 w b p d bp ix t a e W.drew := ⟨h.1.drew, h.2.1, h.2.2⟩
theorem Q1.c0 {w : World} {b : Nat} {p d : List Int} {bp ix t a e : Nat} {W : World} (h : Q1 w b p d bp ix t a e W) : W.cell? ⟨bp, 0, none⟩ = some (.int .i64 (ix : Int)) ∧ W.cell? ⟨bp, 1, none⟩ = some (.int .i64 (t : Int)) ∧ W.cell? ⟨bp, 2, none⟩ = some (.int .i64 (a : Int)) ∧ W.cell? ⟨bp, 3, none⟩ = some (.int .i64 (e : Int)) := ⟨(Blk.blk_cell h.2.1 0).trans rfl, (Blk.blk_cell h.2.1 1).trans rfl, (Blk.blk_cell h.2.1 2).trans rfl, (Blk.blk_cell h.2.1 3).trans rfl⟩
theorem Rr.set {w : World} {b : Nat} {p d : List Int} {W : World} (h : Rr w b p d W) {q : Nat} (hq : b + 2 < q) (j : Nat) (v : Value) : Rr w b p d (W.setCell ⟨q, j, none⟩ v) := ⟨h.1.setCell (p := ⟨q, j, none⟩) (show w.heap.size ≤ q by have := h.2.2.2.2; omega) v, Blk.blk_far h.2.1 (show b ≠ q by omega) v, Blk.blk_far h.2.2.1 (show b + 1 ≠ q by omega) v, Blk.blk_far h.2.2.2.1 (show b + 2 ≠ q by omega) v, h.2.2.2.2⟩
theorem Q1.set {w : World} {b : Nat} {p d : List Int} {bp ix t a e : Nat} {W : World} (h : Q1 w b p d bp ix t a e W) {q : Nat} (hq : bp < q) (j : Nat) (v : Value) : Q1 w b p d bp ix t a e (W.setCell ⟨q, j, none⟩ v) := ⟨h.1.set (by have := h.2.2; omega) j v, Blk.blk_far h.2.1 (show bp ≠ q by omega) v, h.2.2⟩
def S5 (W : World) (q : Nat) (x : S52) : World := ((((W.setCell ⟨q, 0, none⟩ (.string x.f0)).setCell ⟨q, 1, none⟩ (.int .i64 x.f1.f0)).setCell ⟨q, 2, none⟩ (.int .i64 x.f1.f1)).setCell ⟨q, 3, none⟩ (.int .i64 x.f1.f2)).setCell ⟨q, 4, none⟩ (.int .i64 x.f2)
theorem Q1.set5 {w : World} {b : Nat} {p d : List Int} {bp ix t a e : Nat} {W : World} (h : Q1 w b p d bp ix t a e W) {q : Nat} (hq : bp < q) {c0 c1 c2 c3 c4 : Value} (hc : W.heap[q]? = some (.cells #[c0, c1, c2, c3, c4] 52 (0, 0))) (x : S52) : (S5 W q x).heap[q]? = some (.cells (wC x) 52 (0, 0)) ∧ Q1 w b p d bp ix t a e (S5 W q x) := by
  refine ⟨?_, ((((h.set hq 0 _).set hq 1 _).set hq 2 _).set hq 3 _).set hq 4 _⟩
  have h0 : (W.setCell ⟨q, 0, none⟩ (.string x.f0)).heap[q]? = some (.cells #[.string x.f0, c1, c2, c3, c4] 52 (0, 0)) := Blk.blk_set hc 0 _
  have h1 : ((W.setCell ⟨q, 0, none⟩ (.string x.f0)).setCell ⟨q, 1, none⟩ (.int .i64 x.f1.f0)).heap[q]? = some (.cells #[.string x.f0, .int .i64 x.f1.f0, c2, c3, c4] 52 (0, 0)) := Blk.blk_set h0 1 _
  have h2 : (((W.setCell ⟨q, 0, none⟩ (.string x.f0)).setCell ⟨q, 1, none⟩ (.int .i64 x.f1.f0)).setCell ⟨q, 2, none⟩ (.int .i64 x.f1.f1)).heap[q]? = some (.cells #[.string x.f0, .int .i64 x.f1.f0, .int .i64 x.f1.f1, c3, c4] 52 (0, 0)) := Blk.blk_set h1 2 _
  have h3 : ((((W.setCell ⟨q, 0, none⟩ (.string x.f0)).setCell ⟨q, 1, none⟩ (.int .i64 x.f1.f0)).setCell ⟨q, 2, none⟩ (.int .i64 x.f1.f1)).setCell ⟨q, 3, none⟩ (.int .i64 x.f1.f2)).heap[q]? = some (.cells #[.string x.f0, .int .i64 x.f1.f0, .int .i64 x.f1.f1, .int .i64 x.f1.f2, c4] 52 (0, 0)) := Blk.blk_set h2 3 _
  exact Blk.blk_set h3 4 _
theorem Q1.lt {w : World} {b : Nat} {p d : List Int} {bp ix t a e : Nat} {W : World} (h : Q1 w b p d bp ix t a e W) : bp < W.heap.size := Blk.blk_lt h.2.1
def xg (x : S46) (j : Nat) : Int := match j with | 0 => x.f0 | 1 => x.f1 | _ => x.f2
/-- The first j exponents moved. -/
def bumpJ (p : List Int) (x : S46) (sg : Int) : Nat → List Int
  | 0 => p
  | j + 1 => (bumpJ p x sg j).set j (p.getD j 0 + sg * xg x j)
theorem bumpJ_3 (p : List Int) (x : S46) (sg : Int) (h : p.length = 3) : bumpJ p x sg 3 = bump p x sg := by
  obtain ⟨a, b, c, rfl⟩ : ∃ a b c, p = [a, b, c] := by
    match p, h with
    | [a, b, c], _ => exact ⟨a, b, c, rfl⟩
  rfl
theorem bumpJ_len (p : List Int) (x : S46) (sg : Int) : ∀ j, (bumpJ p x sg j).length = p.length
  | 0 => rfl
  | j + 1 => by rw [bumpJ, List.length_set, bumpJ_len p x sg j]
theorem bumpJ_at (p : List Int) (x : S46) (sg : Int) (i : Nat) : ∀ j, j ≤ i → (bumpJ p x sg j).getD i 0 = p.getD i 0
  | 0, _ => rfl
  | j + 1, h => by rw [bumpJ, List.getD_eq_getElem?_getD, List.getElem?_set_ne (by omega), ← List.getD_eq_getElem?_getD, bumpJ_at p x sg i j (by omega)]
theorem p3C_set (p : List Int) (j : Nat) (v : Int) : (p3C p).setIfInBounds j (.int .i64 v) = p3C (p.set j v) := by
  unfold p3C
  rw [List.setIfInBounds_toArray, List.map_set]
theorem wC_at (x : S52) (j : Nat) (h : j < 3) : (wC x)[1 + j]? = some (.int .i64 (xg x.f1 j)) := by
  have : j = 0 ∨ j = 1 ∨ j = 2 := by omega
  rcases this with rfl | rfl | rfl <;> rfl
theorem Q1.p {w : World} {b : Nat} {p d : List Int} {bp ix t a e : Nat} {W : World} (h : Q1 w b p d bp ix t a e W) (j : Nat) (v : Int) : Q1 w b (p.set j v) d bp ix t a e (W.setCell ⟨b + 1, j, none⟩ (.int .i64 v)) := by
  obtain ⟨⟨h1, h2, h3, h4, h5⟩, h6, h7⟩ := h
  exact ⟨⟨h1.setCell (p := ⟨b + 1, j, none⟩) (show w.heap.size ≤ b + 1 by omega) _, Blk.blk_far h2 (show b ≠ b + 1 by omega) _, by rw [← p3C_set]; exact Blk.blk_set h3 j _, Blk.blk_far h4 (show b + 2 ≠ b + 1 by omega) _, h5⟩, Blk.blk_far h6 (show bp ≠ b + 1 by omega) _, h7⟩
theorem Q1.d {w : World} {b : Nat} {p d : List Int} {bp ix t a e : Nat} {W : World} (h : Q1 w b p d bp ix t a e W) (j : Nat) (v : Int) : Q1 w b p (d.set j v) bp ix t a e (W.setCell ⟨b + 2, j, none⟩ (.int .i64 v)) := by
  obtain ⟨⟨h1, h2, h3, h4, h5⟩, h6, h7⟩ := h
  exact ⟨⟨h1.setCell (p := ⟨b + 2, j, none⟩) (show w.heap.size ≤ b + 2 by omega) _, Blk.blk_far h2 (show b ≠ b + 2 by omega) _, Blk.blk_far h3 (show b + 1 ≠ b + 2 by omega) _, by have := Blk.blk_set h4 j (.int .i64 v); unfold dC at this ⊢; rw [List.setIfInBounds_toArray, ← List.map_set] at this; exact this, h5⟩, Blk.blk_far h6 (show bp ≠ b + 2 by omega) _, h7⟩
theorem bump_bd (p : List Int) (x : S46) (sg : Int) (h3 : p.length = 3) (hp : ∀ x ∈ p, -60 ≤ x ∧ x ≤ 60) (hs : sg = 1 ∨ sg = -1) (h0 : -30 ≤ x.f0 ∧ x.f0 ≤ 30) (h1 : -30 ≤ x.f1 ∧ x.f1 ≤ 30) (h2 : -30 ≤ x.f2 ∧ x.f2 ≤ 30) : ∀ y ∈ bump p x sg, -1000000 ≤ y ∧ y ≤ 1000000 := by
  obtain ⟨a, b, c, rfl⟩ : ∃ a b c, p = [a, b, c] := by
    match p, h3 with
    | [a, b, c], _ => exact ⟨a, b, c, rfl⟩
  have ha := hp a (by simp)
  have hb := hp b (by simp)
  have hc := hp c (by simp)
  intro y hy
  simp [bump] at hy
  rcases hs with rfl | rfl <;> rcases hy with rfl | rfl | rfl <;> omega
theorem dim_bd (u : Un) (p d : List Int) (hu : OkU u) (h : RU u p d) : ∀ x ∈ d, -8 ≤ x ∧ x ≤ 8 := by
  rw [← h.2.2.1]; exact hu.2.2.2.2.2
theorem Q1.pcells {w : World} {b : Nat} {p d : List Int} {bp ix t a e : Nat} {W : World} (h : Q1 w b p d bp ix t a e W) (h3 : p.length = 3) : W.cell? ⟨b + 1, 0, none⟩ = some (.int .i64 (p.getD 0 0)) ∧ W.cell? ⟨b + 1, 1, none⟩ = some (.int .i64 (p.getD 1 0)) ∧ W.cell? ⟨b + 1, 2, none⟩ = some (.int .i64 (p.getD 2 0)) := by
  exact ⟨(Blk.blk_cell h.1.2.2.1 0).trans (p3C_at p 0 (by omega)), (Blk.blk_cell h.1.2.2.1 1).trans (p3C_at p 1 (by omega)), (Blk.blk_cell h.1.2.2.1 2).trans (p3C_at p 2 (by omega))⟩
theorem Q1.dcells {w : World} {b : Nat} {p : List Int} {bp ix t a e : Nat} {W : World} {x0 x1 x2 x3 x4 : Int} (h : Q1 w b p [x0, x1, x2, x3, x4] bp ix t a e W) : W.cell? ⟨b + 2, 0, none⟩ = some (.int .i64 x0) ∧ W.cell? ⟨b + 2, 1, none⟩ = some (.int .i64 x1) ∧ W.cell? ⟨b + 2, 2, none⟩ = some (.int .i64 x2) ∧ W.cell? ⟨b + 2, 3, none⟩ = some (.int .i64 x3) ∧ W.cell? ⟨b + 2, 4, none⟩ = some (.int .i64 x4) := ⟨(Blk.blk_cell h.1.2.2.2.1 0).trans rfl, (Blk.blk_cell h.1.2.2.2.1 1).trans rfl, (Blk.blk_cell h.1.2.2.2.1 2).trans rfl, (Blk.blk_cell h.1.2.2.2.1 3).trans rfl, (Blk.blk_cell h.1.2.2.2.1 4).trans rfl⟩
theorem drew_ok {w W : World} {B b : Nat} {o : Obj} (h : W.heap[b]? = some o ∧ Below B w W) : W.drew.heap[b]? = some o ∧ Below B w W.drew := ⟨h.1, ⟨h.2.os, h.2.tape, h.2.output, h.2.size, h.2.block⟩⟩
theorem Rr.failD {w : World} {b : Nat} {p d : List Int} {wx : World} (h : Rr w b p d wx) : (S7 wx b 0 0 0 0 0 0 0).drew.heap[b]? = some (.cells (unC Zu) 26 (0, 0)) ∧ Below w.heap.size w (S7 wx b 0 0 0 0 0 0 0).drew := drew_ok h.fail
theorem Q1.pc3 {w : World} {b : Nat} {pa pb pc : Int} {d : List Int} {bp ix t a e : Nat} {W : World} (h : Q1 w b [pa, pb, pc] d bp ix t a e W) : W.cell? ⟨b + 1, 0, none⟩ = some (.int .i64 pa) ∧ W.cell? ⟨b + 1, 1, none⟩ = some (.int .i64 pb) ∧ W.cell? ⟨b + 1, 2, none⟩ = some (.int .i64 pc) := h.pcells rfl
theorem Q1.eight {w : World} {b : Nat} {pa pb pc x0 x1 x2 x3 x4 : Int} {bp ix t a e : Nat} {W : World} (h : Q1 w b [pa, pb, pc] [x0, x1, x2, x3, x4] bp ix t a e W) : W.cell? ⟨b + 1, 0, none⟩ = some (.int .i64 pa) ∧ W.cell? ⟨b + 1, 1, none⟩ = some (.int .i64 pb) ∧ W.cell? ⟨b + 1, 2, none⟩ = some (.int .i64 pc) ∧ W.cell? ⟨b + 2, 0, none⟩ = some (.int .i64 x0) ∧ W.cell? ⟨b + 2, 1, none⟩ = some (.int .i64 x1) ∧ W.cell? ⟨b + 2, 2, none⟩ = some (.int .i64 x2) ∧ W.cell? ⟨b + 2, 3, none⟩ = some (.int .i64 x3) ∧ W.cell? ⟨b + 2, 4, none⟩ = some (.int .i64 x4) := ⟨h.pc3.1, h.pc3.2.1, h.pc3.2.2, h.dcells⟩
theorem S7_far {W : World} {b c : Nat} {o : Obj} (h : W.heap[c]? = some o) (hc : c ≠ b) (a0 a1 a2 a3 a4 a5 a6 : Int) : (S7 W b a0 a1 a2 a3 a4 a5 a6).heap[c]? = some o := Blk.blk_far (p := ⟨b, 6, none⟩) (Blk.blk_far (p := ⟨b, 5, none⟩) (Blk.blk_far (p := ⟨b, 4, none⟩) (Blk.blk_far (p := ⟨b, 3, none⟩) (Blk.blk_far (p := ⟨b, 2, none⟩) (Blk.blk_far (p := ⟨b, 1, none⟩) (Blk.blk_far (p := ⟨b, 0, none⟩) h hc _) hc _) hc _) hc _) hc _) hc _) hc _
theorem Q1.eightS {w : World} {b : Nat} {pa pb pc x0 x1 x2 x3 x4 : Int} {bp ix t a e : Nat} {W : World} (h : Q1 w b [pa, pb, pc] [x0, x1, x2, x3, x4] bp ix t a e W) (a0 a1 a2 a3 a4 a5 a6 : Int) : (((((((W.setCell ⟨b, 0, none⟩ (.int .i64 a0)).setCell ⟨b, 1, none⟩ (.int .i64 a1)).setCell ⟨b, 2, none⟩ (.int .i64 a2)).setCell ⟨b, 3, none⟩ (.int .i64 a3)).setCell ⟨b, 4, none⟩ (.int .i64 a4)).setCell ⟨b, 5, none⟩ (.int .i64 a5)).setCell ⟨b, 6, none⟩ (.int .i64 a6)).cell? ⟨b + 1, 0, none⟩ = some (.int .i64 pa) ∧ (((((((W.setCell ⟨b, 0, none⟩ (.int .i64 a0)).setCell ⟨b, 1, none⟩ (.int .i64 a1)).setCell ⟨b, 2, none⟩ (.int .i64 a2)).setCell ⟨b, 3, none⟩ (.int .i64 a3)).setCell ⟨b, 4, none⟩ (.int .i64 a4)).setCell ⟨b, 5, none⟩ (.int .i64 a5)).setCell ⟨b, 6, none⟩ (.int .i64 a6)).cell? ⟨b + 1, 1, none⟩ = some (.int .i64 pb) ∧ (((((((W.setCell ⟨b, 0, none⟩ (.int .i64 a0)).setCell ⟨b, 1, none⟩ (.int .i64 a1)).setCell ⟨b, 2, none⟩ (.int .i64 a2)).setCell ⟨b, 3, none⟩ (.int .i64 a3)).setCell ⟨b, 4, none⟩ (.int .i64 a4)).setCell ⟨b, 5, none⟩ (.int .i64 a5)).setCell ⟨b, 6, none⟩ (.int .i64 a6)).cell? ⟨b + 1, 2, none⟩ = some (.int .i64 pc) ∧ (((((((W.setCell ⟨b, 0, none⟩ (.int .i64 a0)).setCell ⟨b, 1, none⟩ (.int .i64 a1)).setCell ⟨b, 2, none⟩ (.int .i64 a2)).setCell ⟨b, 3, none⟩ (.int .i64 a3)).setCell ⟨b, 4, none⟩ (.int .i64 a4)).setCell ⟨b, 5, none⟩ (.int .i64 a5)).setCell ⟨b, 6, none⟩ (.int .i64 a6)).cell? ⟨b + 2, 0, none⟩ = some (.int .i64 x0) ∧ (((((((W.setCell ⟨b, 0, none⟩ (.int .i64 a0)).setCell ⟨b, 1, none⟩ (.int .i64 a1)).setCell ⟨b, 2, none⟩ (.int .i64 a2)).setCell ⟨b, 3, none⟩ (.int .i64 a3)).setCell ⟨b, 4, none⟩ (.int .i64 a4)).setCell ⟨b, 5, none⟩ (.int .i64 a5)).setCell ⟨b, 6, none⟩ (.int .i64 a6)).cell? ⟨b + 2, 1, none⟩ = some (.int .i64 x1) ∧ (((((((W.setCell ⟨b, 0, none⟩ (.int .i64 a0)).setCell ⟨b, 1, none⟩ (.int .i64 a1)).setCell ⟨b, 2, none⟩ (.int .i64 a2)).setCell ⟨b, 3, none⟩ (.int .i64 a3)).setCell ⟨b, 4, none⟩ (.int .i64 a4)).setCell ⟨b, 5, none⟩ (.int .i64 a5)).setCell ⟨b, 6, none⟩ (.int .i64 a6)).cell? ⟨b + 2, 2, none⟩ = some (.int .i64 x2) ∧ (((((((W.setCell ⟨b, 0, none⟩ (.int .i64 a0)).setCell ⟨b, 1, none⟩ (.int .i64 a1)).setCell ⟨b, 2, none⟩ (.int .i64 a2)).setCell ⟨b, 3, none⟩ (.int .i64 a3)).setCell ⟨b, 4, none⟩ (.int .i64 a4)).setCell ⟨b, 5, none⟩ (.int .i64 a5)).setCell ⟨b, 6, none⟩ (.int .i64 a6)).cell? ⟨b + 2, 3, none⟩ = some (.int .i64 x3) ∧ (((((((W.setCell ⟨b, 0, none⟩ (.int .i64 a0)).setCell ⟨b, 1, none⟩ (.int .i64 a1)).setCell ⟨b, 2, none⟩ (.int .i64 a2)).setCell ⟨b, 3, none⟩ (.int .i64 a3)).setCell ⟨b, 4, none⟩ (.int .i64 a4)).setCell ⟨b, 5, none⟩ (.int .i64 a5)).setCell ⟨b, 6, none⟩ (.int .i64 a6)).cell? ⟨b + 2, 4, none⟩ = some (.int .i64 x4) := by
  have h1 := S7_far h.1.2.2.1 (show b + 1 ≠ b by omega) a0 a1 a2 a3 a4 a5 a6
  have h2 := S7_far h.1.2.2.2.1 (show b + 2 ≠ b by omega) a0 a1 a2 a3 a4 a5 a6
  exact ⟨(Blk.blk_cell h1 0).trans rfl, (Blk.blk_cell h1 1).trans rfl, (Blk.blk_cell h1 2).trans rfl, (Blk.blk_cell h2 0).trans rfl, (Blk.blk_cell h2 1).trans rfl, (Blk.blk_cell h2 2).trans rfl, (Blk.blk_cell h2 3).trans rfl, (Blk.blk_cell h2 4).trans rfl⟩
theorem three {p : List Int} (h : p.length = 3) : p = [p.getD 0 0, p.getD 1 0, p.getD 2 0] := by
  match p, h with
  | [a, b, c], _ => rfl
set_option maxHeartbeats 8000000 in
set_option maxRecDepth 100000 in
theorem rread_any (s : ByteArray) (w : World) (hs : ¬ s.size > 64) (k : Nat) (RES : Un × Nat × Int) (h : rdL s k 0 false U1 = some RES) : Calls Tryd.prog 11 #[.string s] w (RPost w RES) := by
  have HR := Lib.hid h
  have q0 : decide ((s.size : Int) > 64) = false := by simp; omega
  have hs64 : s.size ≤ 64 := by omega
  have HRS := Lib.hid (show Rr w w.heap.size [0, 0, 0] [0, 0, 0, 0, 0] (((w.alloc (.cells (unC Zu) 26)).alloc (.cells (p3C [0, 0, 0]) 46)).alloc (.cells (dC [0, 0, 0, 0, 0]) 24)) from ⟨(((Below.refl w.heap.size w).alloc (Nat.le_refl _) _).alloc (by simp) _).alloc (by simp; omega) _, Blk.blk_alloc (Blk.blk_alloc (Blk.blk_new w _) _) _, Blk.blk_alloc (Blk.blk_at _ _ (w.heap.size + 1) (by simp)) _, Blk.blk_at _ _ (w.heap.size + 2) (by simp), Nat.le_refl _⟩)
  have HOK := Lib.hid okU1
  have HRU := Lib.hid RU1
  obtain ⟨b, hb⟩ : ∃ b, w.heap.size = b := ⟨_, rfl⟩
  rw [hb] at HRS
  clear h hs
  go_enter Tryd.func11, Tryd.ntmps11
  go_wp2_with fail
  try simp only [hb]
  clear hb
  go_loopg [7, 8] k (fun gf v7 v8 wx => ∃ (at_ : Nat) (down : Bool) (u : Un) (p d : List Int), v7 = .int .i64 at_ ∧ v8 = .int .i64 (sgn down) ∧ at_ ≤ s.size ∧ Hid (OkU u) ∧ Hid (RU u p d) ∧ Hid (rdL s gf at_ down u = some RES) ∧ Hid (Rr w b p d wx))
  case atStart => exact ⟨0, false, U1, _, _, rfl, rfl, by omega, HOK, HRU, HR, HRS⟩
  case round =>
    clear HR HRS HOK HRU
    obtain ⟨at_, down, u, p, d, rfl, rfl, ha, HOK, HRU, HR, HRS⟩ := hrel
    cases gk with
    | zero => exact absurd HR.out (by simp [rdL])
    | succ g' =>
    have hres := HR.out
    rw [rdL] at hres
    obtain ⟨⟨r, t, en, ok⟩, hf⟩ : ∃ f, facF s at_ = f := ⟨_, rfl⟩
    obtain ⟨hen, hok, ht⟩ := fac_ok s at_ ha r t en ok hf
    have hpt := part_is s hs64 at_ ha
    unfold pt at hpt
    rw [hf] at hres hpt
    unfold rdF at hres
    have HF := Lib.hid hres
    clear hf hres HR
    cases ok with
    | false =>
      have hres := HF.out
      rw [if_neg (by simp)] at hres
      injection hres with hres
      subst hres
      have HC := Lib.hid (OP.capstanref02_part.calls 200 s at_ 0 0 0 0 en false wr hpt)
      clear HF hok hpt
      go_wp2_with fail
      refine HC.out.mono ?_
      rintro e w1 ⟨rfl, hb1⟩
      have HR1 := Lib.hid (HRS.out.below hb1)
      clear hb1 HC HRS
      go_upto_region 9 with fail
      have HW2 := Lib.hid (HR1.out.row (.cells #[.int .i64 0, .int .i64 0, .int .i64 0, .int .i64 0] 48))
      obtain ⟨W2, hW2⟩ : ∃ W, w1.alloc (.cells #[.int .i64 0, .int .i64 0, .int .i64 0, .int .i64 0] 48) = W := ⟨_, rfl⟩
      rw [hW2] at HW2 ⊢
      clear hW2
      obtain ⟨y0, y1, y2, y3, y4, y5, y6⟩ := HW2.out.rs
      obtain ⟨z0, z1, z2, z3, z4, z5, z6⟩ := HW2.out.rz
      go_wp2_with fail
      refine bodyPost_ret (v := .tuple #[.agg (unC Zu), .int .i64 en, .int .i64 20]) ?_ rfl ?_
      · exact res11 (S7 W2 b 0 0 0 0 0 0 0) b Zu rfl en 20 _ rfl rfl rfl HW2.out.fail.1
      · exact ⟨rfl, HW2.out.fail.2⟩
    | true =>
      have hrt := (hok rfl).1
      have hae := (hok rfl).2
      obtain ⟨hi18, hbase, hx0, hx1, hx2⟩ := idx_ok hrt
      have HC := Lib.hid (OP.capstanref02_part.calls 200 s at_ (idx r : Nat) t at_ en 0 true wr hpt)
      have hrow := row_ok hrt
      have HRT := Lib.hid hrt
      have hres := HF.out
      rw [if_pos rfl] at hres
      simp only at hres
      obtain ⟨TR, hTR⟩ : ∃ T, takes r down t u = T := ⟨_, rfl⟩
      rw [hTR] at hres
      have HE := Lib.hid hres
      have HTR := Lib.hid hTR
      have HBASE := Lib.hid hbase
      obtain ⟨ix, hix⟩ : ∃ i, idx r = i := ⟨_, rfl⟩
      rw [hix] at HC hi18 HBASE
      have HIX := Lib.hid hix
      clear HF hok hpt hres hTR hrt hix hbase
      go_wp2_with fail
      refine HC.out.mono ?_
      rintro e w1 ⟨rfl, hb1⟩
      have HR1 := Lib.hid (HRS.out.below hb1)
      clear hb1 HC HRS
      go_upto_region 10 with fail
      have HQ := Lib.hid (show Q1 w b p d w1.heap.size ix t at_ en (w1.alloc (.cells (p48 ix t at_ en) 48)) from ⟨HR1.out.row _, Blk.blk_new w1 _, HR1.out.lt⟩)
      obtain ⟨W2, hW2⟩ : ∃ W, w1.alloc (.cells (p48 ix t at_ en) 48) = W := ⟨_, rfl⟩
      obtain ⟨bp, hbp⟩ : ∃ n, w1.heap.size = n := ⟨_, rfl⟩
      have hW2' : w1.alloc (.cells #[.int .i64 (ix : Int), .int .i64 (t : Int), .int .i64 (at_ : Int), .int .i64 (en : Int)] 48) = W2 := hW2
      rw [hW2, hbp] at HQ
      rw [hW2']
      simp only [hbp]
      clear hW2 hW2' hbp HR1
      have HNM0 := names_at ix hi18
      have hexx : (NL.getD ix z52).f1 = ex r := by rw [← HIX.out]; rfl
      obtain ⟨X, hX⟩ : ∃ X, NL.getD ix z52 = X := ⟨_, rfl⟩
      rw [hX] at HNM0 HBASE hexx
      have HEX := Lib.hid hexx
      have HNM := Lib.hid HNM0
      clear hX HNM0 hexx
      have h18 : (ix : Int) < 18 := by omega
      go_cut [12] (fun v12 wx => ∃ q : Nat, v12 = .pointer (some ⟨q, 0, none⟩) ∧ Hid (wx.heap[q]? = some (.cells (wC X) 52 (0, 0))) ∧ Hid (Q1 w b p d bp ix t at_ en wx) ∧ bp < q)
      case first =>
        have c0 := HQ.out.c0.1
        have n0 := (HQ.out.row (.cells #[.string ⟨#[]⟩, .int .i64 0, .int .i64 0, .int .i64 0, .int .i64 0] 52)).c0.1
        have N0 : (W2.alloc (.cells #[.string ⟨#[]⟩, .int .i64 0, .int .i64 0, .int .i64 0, .int .i64 0] 52)).drew.heap[W2.heap.size]? = some (.cells #[.string ⟨#[]⟩, .int .i64 0, .int .i64 0, .int .i64 0, .int .i64 0] 52 (0, 0)) := Blk.blk_new W2 (.cells #[.string ⟨#[]⟩, .int .i64 0, .int .i64 0, .int .i64 0, .int .i64 0] 52)
        have HN0 := Lib.hid N0
        clear N0
        go_region_law (first | (go_simp; go_wp2_with (go_at_call 22; refine (HNM.out _).mono ?_; rintro e w3 ⟨ad, cc, rfl, HX, HXA, HB3⟩; have HQ3 : Q1 w b p d bp ix t at_ en w3 := (by (first | exact HQ.out.drew.below HB3 | exact (HQ.out.drew.row _).below HB3 | exact (HQ.out.row _).drew.below HB3)); have c1 := HQ3.c0.1; have m0 := (HQ3.row (.cells #[.string ⟨#[]⟩, .int .i64 0, .int .i64 0, .int .i64 0, .int .i64 0] 52)).c0.1; obtain ⟨x0, x1, x2, x3, x4⟩ := HX; obtain ⟨k0, k1, k2, k3, k4⟩ := HXA (.cells #[.string ⟨#[]⟩, .int .i64 0, .int .i64 0, .int .i64 0, .int .i64 0] 52); (first | (have G : w3.heap[W2.heap.size]? = some (.cells #[.string ⟨#[]⟩, .int .i64 0, .int .i64 0, .int .i64 0, .int .i64 0] 52 (0, 0)) := Blk.blk_below HN0.out HB3 (Blk.blk_lt HN0.out); have G0 := (Blk.blk_cell G 0).trans (show _ = some (.string ⟨#[]⟩) from rfl); have G1 := (Blk.blk_cell G 1).trans (show _ = some (.int .i64 0) from rfl); have G2 := (Blk.blk_cell G 2).trans (show _ = some (.int .i64 0) from rfl); have G3 := (Blk.blk_cell G 3).trans (show _ = some (.int .i64 0) from rfl); have G4 := (Blk.blk_cell G 4).trans (show _ = some (.int .i64 0) from rfl); have F0 := Blk.blk_frozen G 0; have F1 := Blk.blk_frozen G 1; have F2 := Blk.blk_frozen G 2; have F3 := Blk.blk_frozen G 3; have F4 := Blk.blk_frozen G 4) | skip))))
        all_goals (try go_wp2)
        all_goals (go_meet; (first | (have HS := HQ3.set5 HQ.out.lt G X; exact ⟨_, rfl, Lib.hid HS.1, Lib.hid HS.2, HQ.out.lt⟩) | exact ⟨_, rfl, Lib.hid (Blk.blk_new w3 _), Lib.hid (HQ3.row _), HQ3.lt⟩))
      case rest =>
        obtain ⟨q, rfl, HWX, HQ1, hbq⟩ := hcut
        clear HQ HNM
        simp only [show b + 1 + 1 = b + 2 from rfl]
        go_upto_region 11 with fail
        go_wp2_with fail
        go_loopg [13] t (fun gf v13 wx => ∃ (i : Nat) (u : Un) (p d : List Int), v13 = .int .i64 i ∧ i + gf = t ∧ Hid (OkU u) ∧ Hid (RU u p d) ∧ Hid (takes r down gf u = TR) ∧ Hid (wx.heap[q]? = some (.cells (wC X) 52 (0, 0))) ∧ Hid (Q1 w b p d bp ix t at_ en wx))
        case atStart => exact ⟨0, u, p, d, rfl, by omega, HOK, HRU, HTR, HWX, HQ1⟩
        case round =>
          clear HOK HRU HTR HWX HQ1
          obtain ⟨i, u, p, d, rfl, hit, HOK, HRU, HTR, HWX, HQ1⟩ := hrel
          obtain ⟨y0, y1, y2, y3⟩ := HQ1.out.c0
          by_cases hlt : i < t
          · obtain ⟨g2, rfl⟩ : ∃ g', gk = g' + 1 := ⟨gk - 1, by omega⟩
            have q1 : decide ((i : Int) < (t : Int)) = true := by simp; omega
            have hp3 := HRU.out.2.2.2
            have HPB := Lib.hid (exp_bd u p d HOK.out HRU.out)
            go_wp2_with fail
            go_loopg [14] 3 (fun gf v14 wx => ∃ (j : Nat), v14 = .int .i64 j ∧ j + gf = 3 ∧ Hid (wx.heap[q]? = some (.cells (wC X) 52 (0, 0))) ∧ Hid (Q1 w b (bumpJ p (ex r) (sgn down) j) d bp ix t at_ en wx))
            case atStart => exact ⟨0, rfl, by omega, HWX, HQ1⟩
            case round =>
              clear HWX HQ1
              obtain ⟨j, rfl, hj, HWX, HQ1⟩ := hrel
              by_cases hlj : j < 3
              · obtain ⟨g3, rfl⟩ : ∃ g', gk = g' + 1 := ⟨gk - 1, by omega⟩
                have q2 : decide ((j : Int) < 3) = true := by simp; omega
                have hj3 : (j : Int) < 3 := by omega
                have hj0 : (0 : Int) ≤ (j : Int) := by omega
                have a1 := (Blk.blk_cell HQ1.out.1.2.2.1 j).trans (p3C_at _ j (by rw [bumpJ_len, hp3]; exact hlj))
                rw [bumpJ_at _ _ _ _ _ (Nat.le_refl j)] at a1
                have a2 := Blk.blk_frozen HQ1.out.1.2.2.1 j
                have a3 := (Blk.blk_cell HWX.out (1 + j)).trans (wC_at X j hlj)
                rw [HEX.out] at a3
                have hP0 : -60 ≤ p.getD j 0 ∧ p.getD j 0 ≤ 60 := HPB.out _ (by rw [List.getD_eq_getElem?_getD, List.getElem?_eq_getElem (by omega : j < p.length)]; exact List.getElem_mem _)
                have hG0 : -30 ≤ xg (ex r) j ∧ xg (ex r) j ≤ 30 := by unfold xg; split <;> assumption
                have hsg : sgn down = 1 ∨ sgn down = -1 := by unfold sgn; split <;> simp
                have HQS := HQ1.out.p j (p.getD j 0 + sgn down * xg (ex r) j)
                obtain ⟨P0, hP0e⟩ : ∃ x, p.getD j 0 = x := ⟨_, rfl⟩
                obtain ⟨G0, hG0e⟩ : ∃ x, xg (ex r) j = x := ⟨_, rfl⟩
                obtain ⟨SG, hSGe⟩ : ∃ x, sgn down = x := ⟨_, rfl⟩
                rw [hP0e] at a1 hP0 HQS
                rw [hG0e] at a3 hG0 HQS
                rw [hSGe] at hsg
                have hbj : (bumpJ p (ex r) (sgn down) j).set j (P0 + SG * G0) = bumpJ p (ex r) (sgn down) (j + 1) := by rw [bumpJ, hP0e, hG0e, hSGe]
                have HQS' : Hid (∀ v, v = P0 + SG * G0 → Q1 w b (bumpJ p (ex r) (sgn down) (j + 1)) d bp ix t at_ en (wr.setCell ⟨b + 1, j, none⟩ (.int .i64 v))) := Lib.hid (by rintro v rfl; rw [← hbj]; rw [← hSGe] at *; exact HQS)
                have HWS := Lib.hid (fun v => Blk.blk_far HWX.out (p := ⟨b + 1, j, none⟩) (show q ≠ b + 1 by have := HQ1.out.2.2; omega) (.int .i64 v))
                have hSGb : -30 ≤ SG * G0 ∧ SG * G0 ≤ 30 := by rcases hsg with rfl | rfl <;> omega
                rw [hSGe]
                have HSG := Lib.hid hSGe
                clear HQS hbj hSGe hP0e hG0e hsg
                obtain ⟨M0, hM0⟩ : ∃ m, SG * G0 = m := ⟨_, rfl⟩
                rw [hM0] at hSGb HQS'
                obtain ⟨A0, hA0⟩ : ∃ m, P0 + M0 = m := ⟨_, rfl⟩
                rw [hA0] at HQS'
                have u1 : IntKind.i64.wrap M0 = M0 := by rw [IntKind.wrap_i64]; omega
                have u2 : wrap64 M0 = M0 := by unfold wrap64; omega
                have u3 : IntKind.i64.wrap A0 = A0 := by rw [IntKind.wrap_i64]; omega
                have u4 : wrap64 A0 = A0 := by unfold wrap64; omega
                go_upto_region 17 with fail
                go_region
                go_wp2_with fail
                obtain rfl := HSG.out
                go_roundg g3
                case measure => omega
                case rel => exact ⟨j + 1, by go_num, by omega, Lib.hid (HWS.out A0), Lib.hid (HQS'.out A0 rfl).drew⟩
              · -- EXIT
                obtain rfl : gk = 0 := by omega
                obtain rfl : j = 3 := by omega
                have q2 : decide (((3 : Nat) : Int) < 3) = false := by decide
                have hq1 := HQ1.out
                rw [bumpJ_3 _ _ _ hp3] at hq1
                have HQ1' := Lib.hid hq1
                clear hq1 HQ1
                have HQ1 := HQ1'
                clear HQ1'
                have HST := Lib.hid (step_ref u p d r down HOK.out HRT.out HRU.out)
                have hd5 : d.length = 5 := by rw [← HRU.out.2.2.1]; exact HOK.out.2.2.2.2.1
                have HDB := Lib.hid (dim_bd u p d HOK.out HRU.out)
                have hsg : sgn down = 1 ∨ sgn down = -1 := by unfold sgn; split <;> simp
                have x2 := (Blk.blk_cell HWX.out 4).trans (show _ = some (.int .i64 X.f2) from rfl)
                rw [HBASE.out] at x2
                obtain ⟨P', hP'⟩ : ∃ x, bump p (ex r) (sgn down) = x := ⟨_, rfl⟩
                rw [hP'] at HQ1 HST
                have hPl : P' = [P'.getD 0 0, P'.getD 1 0, P'.getD 2 0] := by rw [← hP']; rfl
                have HPb := Lib.hid (show ∀ x ∈ P', -1000000 ≤ x ∧ x ≤ 1000000 by
                  rw [← hP']
                  have b0 := bump_bd p (ex r) (sgn down) hp3 HPB.out hsg hx0 hx1 hx2
                  exact b0)
                have HC1 := Lib.hid (side_any (P'.getD 0 0) (P'.getD 1 0) (P'.getD 2 0) 1 P' hPl (.inl rfl) HPb.out (up P') (fun k _ => by unfold up; rw [Int.one_mul]))
                have HC2 := Lib.hid (side_any (P'.getD 0 0) (P'.getD 1 0) (P'.getD 2 0) (-1) P' hPl (.inr rfl) HPb.out (dn P') (fun k _ => by unfold dn; rw [Int.neg_mul, Int.one_mul]))
                obtain ⟨B, hB⟩ : ∃ x, r.base = x := ⟨_, rfl⟩
                have hrb : -1 ≤ B ∧ B ≤ 4 := by rw [← hB]; exact hrow.2.2.2.2
                rw [hB] at x2 HST HBASE
                have HP3 := Lib.hid (show P'.length = 3 by rw [hPl]; rfl)
                clear hP' hPl hB
                by_cases hB0 : 0 ≤ B
                · obtain ⟨n, rfl⟩ : ∃ n : Nat, B = n := ⟨B.toNat, by omega⟩
                  have hn5 : (n : Int) < 5 := by omega
                  have hn0 : (0 : Int) ≤ (n : Int) := by omega
                  have q8 : decide ((n : Int) ≥ 0) = true := by simp
                  have d1 := (Blk.blk_cell HQ1.out.1.2.2.2.1 n).trans (dC_at d n (by omega))
                  have d2z := Blk.blk_frozen HQ1.out.1.2.2.2.1 n
                  have hD0 : -8 ≤ d.getD n 0 ∧ d.getD n 0 ≤ 8 := HDB.out _ (by rw [List.getD_eq_getElem?_getD, List.getElem?_eq_getElem (by omega : n < d.length)]; exact List.getElem_mem _)
                  obtain ⟨D0, hD0e⟩ : ∃ x, d.getD n 0 = x := ⟨_, rfl⟩
                  rw [hD0e] at d1 hD0
                  obtain ⟨D1, hD1⟩ : ∃ x, D0 + sgn down = x := ⟨_, rfl⟩
                  have hD1b : -9 ≤ D1 ∧ D1 ≤ 9 := by rcases hsg with h | h <;> omega
                  have u1 : IntKind.i64.wrap D1 = D1 := by rw [IntKind.wrap_i64]; omega
                  have u2 : wrap64 D1 = D1 := by unfold wrap64; omega
                  have hd2 : bumpD d (n : Int) (sgn down) = d.set n D1 := by unfold bumpD; rw [if_neg (by omega), Int.toNat_natCast, hD0e, hD1]
                  rw [hd2] at HST
                  obtain ⟨d2, hd2e⟩ : ∃ x, d.set n D1 = x := ⟨_, rfl⟩
                  rw [hd2e] at HST
                  have HL2 := Lib.hid (show n < d2.length by rw [← hd2e, List.length_set]; omega)
                  have HD2 := Lib.hid (show d2.getD n 0 = D1 by rw [← hd2e, List.getD_eq_getElem?_getD, List.getElem?_set_self (by omega)]; rfl)
                  have HQ2v : Hid (∀ v, v = D1 → Q1 w b P' d2 bp ix t at_ en (wr.setCell ⟨b + 2, n, none⟩ (.int .i64 v))) := Lib.hid (by rintro v rfl; rw [← hd2e]; exact HQ1.out.d n v)
                  have HWX2v := Lib.hid (fun v => Blk.blk_far HWX.out (p := ⟨b + 2, n, none⟩) (show q ≠ b + 2 by have := HQ1.out.2.2; omega) (.int .i64 v))
                  go_upto_region 20 with fail
                  have HQ2 := Lib.hid (HQ2v.out D1 rfl)
                  have HWX2 := Lib.hid (HWX2v.out D1)
                  obtain ⟨WZ, hWZ⟩ : ∃ W, wr.setCell ⟨b + 2, n, none⟩ (.int .i64 D1) = W := ⟨_, rfl⟩
                  rw [hWZ] at HQ2 HWX2 ⊢
                  clear hWZ HQ2v HWX2v HQ1 HWX d1 d2z x2 hD0e hD1 hd2 hd2e
                  obtain ⟨f0, f1, f2⟩ := HQ2.out.pcells HP3.out
                  have HWA := HWX2
                  go_wp2_with fail
                  refine (HC1.out WZ).mono ?_
                  rintro e wa ⟨rfl, hba⟩
                  have HQ3 := Lib.hid (HQ2.out.below hba)
                  have HWX3 := Lib.hid (Blk.blk_below HWX2.out hba (Blk.blk_lt HWX2.out))
                  clear hba HQ2 HWX2 HWA f0 f1 f2
                  obtain ⟨f0, f1, f2⟩ := HQ3.out.pcells HP3.out
                  obtain ⟨f3, HX4⟩ := And.intro ((Blk.blk_cell HWX3.out 4).trans (show _ = some (.int .i64 X.f2) from rfl)) trivial
                  rw [HBASE.out] at f3
                  by_cases h1 : sideV (up P') > 1000000000000000
                  · have q3 : decide ((sideV (up P') : Int) > 1000000000000000) = true := by simp; omega
                    obtain ⟨y0, y1, y2, y3, y4, y5, y6⟩ := HQ3.out.1.rs
                    obtain ⟨z0, z1, z2, z3, z4, z5, z6⟩ := HQ3.out.1.rz
                    have hov : over P' d2 (n : Int) := .inl h1
                    have hst : (stepR u r down).2 = false := by
                      cases hc : (stepR u r down).2 with
                      | false => rfl
                      | true => exact absurd hov (HST.out.1 hc).2
                    have hRES : RES = (Zu, at_, 21) := by
                      have h1 := HTR.out
                      rw [takes, if_neg (by rw [hst]; simp)] at h1
                      have h2 := HE.out
                      rw [← h1] at h2
                      injection h2 with h2
                      exact h2.symm
                    clear hov hst
                    go_wp2_with fail
                    rw [hRES]
                    refine bodyPost_ret (v := .tuple #[.agg (unC Zu), .int .i64 at_, .int .i64 21]) ?_ rfl ?_
                    · exact res11 (S7 wa b 0 0 0 0 0 0 0) b Zu rfl at_ 21 _ rfl rfl rfl HQ3.out.1.fail.1
                    · exact ⟨rfl, HQ3.out.1.fail.2⟩
                  · have q3 : decide ((sideV (up P') : Int) > 1000000000000000) = false := by simp; omega
                    go_wp2_with fail
                    refine (HC2.out wa).mono ?_
                    rintro e wb ⟨rfl, hbb⟩
                    have HQ4 := Lib.hid (HQ3.out.below hbb)
                    have HWX4 := Lib.hid (Blk.blk_below HWX3.out hbb (Blk.blk_lt HWX3.out))
                    clear hbb HQ3 HWX3 f0 f1 f2 f3
                    have f3 := (Blk.blk_cell HWX4.out 4).trans (show _ = some (.int .i64 X.f2) from rfl)
                    rw [HBASE.out] at f3
                    have f4 := (Blk.blk_cell HQ4.out.1.2.2.2.1 n).trans (dC_at d2 n HL2.out)
                    rw [HD2.out] at f4
                    by_cases h2 : sideV (dn P') > 1000000000000000
                    · have q4 : decide ((sideV (dn P') : Int) > 1000000000000000) = true := by simp; omega
                      obtain ⟨y0, y1, y2, y3, y4, y5, y6⟩ := HQ4.out.1.rs
                      obtain ⟨z0, z1, z2, z3, z4, z5, z6⟩ := HQ4.out.1.rz
                      have hov : over P' d2 (n : Int) := .inr (.inl h2)
                      have hst : (stepR u r down).2 = false := by
                        cases hc : (stepR u r down).2 with
                        | false => rfl
                        | true => exact absurd hov (HST.out.1 hc).2
                      have hRES : RES = (Zu, at_, 21) := by
                        have h1 := HTR.out
                        rw [takes, if_neg (by rw [hst]; simp)] at h1
                        have h2 := HE.out
                        rw [← h1] at h2
                        injection h2 with h2
                        exact h2.symm
                      clear hov hst
                      go_wp2_with fail
                      rw [hRES]
                      refine bodyPost_ret (v := .tuple #[.agg (unC Zu), .int .i64 at_, .int .i64 21]) ?_ rfl ?_
                      · exact res11 (S7 wb b 0 0 0 0 0 0 0) b Zu rfl at_ 21 _ rfl rfl rfl HQ4.out.1.fail.1
                      · exact ⟨rfl, HQ4.out.1.fail.2⟩
                    · have q4 : decide ((sideV (dn P') : Int) > 1000000000000000) = false := by simp; omega
                      by_cases h3 : D1 > 8
                      · have q5 : decide (D1 > 8) = true := by simp; omega
                        obtain ⟨y0, y1, y2, y3, y4, y5, y6⟩ := HQ4.out.1.rs
                        obtain ⟨z0, z1, z2, z3, z4, z5, z6⟩ := HQ4.out.1.rz
                        have hov : over P' d2 (n : Int) := .inr (.inr ⟨by omega, .inl (by rw [Int.toNat_natCast, HD2.out]; exact h3)⟩)
                        have hst : (stepR u r down).2 = false := by
                          cases hc : (stepR u r down).2 with
                          | false => rfl
                          | true => exact absurd hov (HST.out.1 hc).2
                        have hRES : RES = (Zu, at_, 21) := by
                          have h1 := HTR.out
                          rw [takes, if_neg (by rw [hst]; simp)] at h1
                          have h2 := HE.out
                          rw [← h1] at h2
                          injection h2 with h2
                          exact h2.symm
                        clear hov hst
                        go_wp2_with fail
                        rw [hRES]
                        refine bodyPost_ret (v := .tuple #[.agg (unC Zu), .int .i64 at_, .int .i64 21]) ?_ rfl ?_
                        · exact res11 (S7 wb b 0 0 0 0 0 0 0) b Zu rfl at_ 21 _ rfl rfl rfl HQ4.out.1.fail.1
                        · exact ⟨rfl, HQ4.out.1.fail.2⟩
                      · have q5 : decide (D1 > 8) = false := by simp; omega
                        by_cases h4 : D1 < -8
                        · have q6 : decide (D1 < -8) = true := by simp; omega
                          obtain ⟨y0, y1, y2, y3, y4, y5, y6⟩ := HQ4.out.1.rs
                          obtain ⟨z0, z1, z2, z3, z4, z5, z6⟩ := HQ4.out.1.rz
                          have hov : over P' d2 (n : Int) := .inr (.inr ⟨by omega, .inr (by rw [Int.toNat_natCast, HD2.out]; exact h4)⟩)
                          have hst : (stepR u r down).2 = false := by
                            cases hc : (stepR u r down).2 with
                            | false => rfl
                            | true => exact absurd hov (HST.out.1 hc).2
                          have hRES : RES = (Zu, at_, 21) := by
                            have h1 := HTR.out
                            rw [takes, if_neg (by rw [hst]; simp)] at h1
                            have h2 := HE.out
                            rw [← h1] at h2
                            injection h2 with h2
                            exact h2.symm
                          clear hov hst
                          go_wp2_with fail
                          rw [hRES]
                          refine bodyPost_ret (v := .tuple #[.agg (unC Zu), .int .i64 at_, .int .i64 21]) ?_ rfl ?_
                          · exact res11 (S7 wb b 0 0 0 0 0 0 0) b Zu rfl at_ 21 _ rfl rfl rfl HQ4.out.1.fail.1
                          · exact ⟨rfl, HQ4.out.1.fail.2⟩
                        · have q6 : decide (D1 < -8) = false := by simp; omega
                          have hst : (stepR u r down).2 = true := by
                            cases hc : (stepR u r down).2 with
                            | true => rfl
                            | false => exact absurd (HST.out.2 hc) (by rintro (h | h | ⟨_, h | h⟩); exact h1 h; exact h2 h; (have := HD2.out; simp only [Int.toNat_natCast] at h; omega); (have := HD2.out; simp only [Int.toNat_natCast] at h; omega))
                          have HTK := Lib.hid (show takes r down g2 (stepR u r down).1 = TR from by have h1 := HTR.out; rw [takes, if_pos hst] at h1; exact h1)
                          have HOK2 := Lib.hid (stepR_ok u r down HOK.out HRT.out hst)
                          have HRU2 := Lib.hid (HST.out.1 hst).1
                          clear hst
                          go_wp2_with fail
                          go_roundg g2
                          case measure => omega
                          case rel => exact ⟨i + 1, (stepR u r down).1, P', d2, by go_num, by omega, HOK2, HRU2, HTK, HWX4, HQ4⟩
                · have q8 : decide (B ≥ 0) = false := by simp; omega
                  obtain ⟨d2, hd2⟩ : ∃ x, bumpD d B (sgn down) = x := ⟨_, rfl⟩
                  have hd2e : d2 = d := by rw [← hd2]; unfold bumpD; rw [if_pos (by omega)]
                  rw [hd2] at HST
                  subst hd2e
                  have HQ2 := HQ1
                  have HWX2 := HWX
                  clear hd2 HQ1 HWX
                  obtain ⟨f0, f1, f2⟩ := HQ2.out.pcells HP3.out
                  have HWA := HWX2
                  go_wp2_with fail
                  refine (HC1.out wr).mono ?_
                  rintro e wa ⟨rfl, hba⟩
                  have HQ3 := Lib.hid (HQ2.out.below hba)
                  have HWX3 := Lib.hid (Blk.blk_below HWX2.out hba (Blk.blk_lt HWX2.out))
                  clear hba HQ2 HWX2 HWA f0 f1 f2
                  obtain ⟨f0, f1, f2⟩ := HQ3.out.pcells HP3.out
                  obtain ⟨f3, HX4⟩ := And.intro ((Blk.blk_cell HWX3.out 4).trans (show _ = some (.int .i64 X.f2) from rfl)) trivial
                  rw [HBASE.out] at f3
                  by_cases h1 : sideV (up P') > 1000000000000000
                  · have q3 : decide ((sideV (up P') : Int) > 1000000000000000) = true := by simp; omega
                    obtain ⟨y0, y1, y2, y3, y4, y5, y6⟩ := HQ3.out.1.rs
                    obtain ⟨z0, z1, z2, z3, z4, z5, z6⟩ := HQ3.out.1.rz
                    have hov : over P' d2 B := .inl h1
                    have hst : (stepR u r down).2 = false := by
                      cases hc : (stepR u r down).2 with
                      | false => rfl
                      | true => exact absurd hov (HST.out.1 hc).2
                    have hRES : RES = (Zu, at_, 21) := by
                      have h1 := HTR.out
                      rw [takes, if_neg (by rw [hst]; simp)] at h1
                      have h2 := HE.out
                      rw [← h1] at h2
                      injection h2 with h2
                      exact h2.symm
                    clear hov hst
                    go_wp2_with fail
                    rw [hRES]
                    refine bodyPost_ret (v := .tuple #[.agg (unC Zu), .int .i64 at_, .int .i64 21]) ?_ rfl ?_
                    · exact res11 (S7 wa b 0 0 0 0 0 0 0) b Zu rfl at_ 21 _ rfl rfl rfl HQ3.out.1.fail.1
                    · exact ⟨rfl, HQ3.out.1.fail.2⟩
                  · have q3 : decide ((sideV (up P') : Int) > 1000000000000000) = false := by simp; omega
                    go_wp2_with fail
                    refine (HC2.out wa).mono ?_
                    rintro e wb ⟨rfl, hbb⟩
                    have HQ4 := Lib.hid (HQ3.out.below hbb)
                    have HWX4 := Lib.hid (Blk.blk_below HWX3.out hbb (Blk.blk_lt HWX3.out))
                    clear hbb HQ3 HWX3 f0 f1 f2 f3
                    have f3 := (Blk.blk_cell HWX4.out 4).trans (show _ = some (.int .i64 X.f2) from rfl)
                    rw [HBASE.out] at f3
                    by_cases h2 : sideV (dn P') > 1000000000000000
                    · have q4 : decide ((sideV (dn P') : Int) > 1000000000000000) = true := by simp; omega
                      obtain ⟨y0, y1, y2, y3, y4, y5, y6⟩ := HQ4.out.1.rs
                      obtain ⟨z0, z1, z2, z3, z4, z5, z6⟩ := HQ4.out.1.rz
                      have hov : over P' d2 B := .inr (.inl h2)
                      have hst : (stepR u r down).2 = false := by
                        cases hc : (stepR u r down).2 with
                        | false => rfl
                        | true => exact absurd hov (HST.out.1 hc).2
                      have hRES : RES = (Zu, at_, 21) := by
                        have h1 := HTR.out
                        rw [takes, if_neg (by rw [hst]; simp)] at h1
                        have h2 := HE.out
                        rw [← h1] at h2
                        injection h2 with h2
                        exact h2.symm
                      clear hov hst
                      go_wp2_with fail
                      rw [hRES]
                      refine bodyPost_ret (v := .tuple #[.agg (unC Zu), .int .i64 at_, .int .i64 21]) ?_ rfl ?_
                      · exact res11 (S7 wb b 0 0 0 0 0 0 0) b Zu rfl at_ 21 _ rfl rfl rfl HQ4.out.1.fail.1
                      · exact ⟨rfl, HQ4.out.1.fail.2⟩
                    · have q4 : decide ((sideV (dn P') : Int) > 1000000000000000) = false := by simp; omega
                      have hst : (stepR u r down).2 = true := by
                        cases hc : (stepR u r down).2 with
                        | true => rfl
                        | false => exact absurd (HST.out.2 hc) (by rintro (h | h | ⟨h, _⟩); exact h1 h; exact h2 h; exact absurd h (by omega))
                      have HTK := Lib.hid (show takes r down g2 (stepR u r down).1 = TR from by have h1 := HTR.out; rw [takes, if_pos hst] at h1; exact h1)
                      have HOK2 := Lib.hid (stepR_ok u r down HOK.out HRT.out hst)
                      have HRU2 := Lib.hid (HST.out.1 hst).1
                      clear hst
                      go_wp2_with fail
                      go_roundg g2
                      case measure => omega
                      case rel => exact ⟨i + 1, (stepR u r down).1, P', d2, by go_num, by omega, HOK2, HRU2, HTK, HWX4, HQ4⟩
          · obtain rfl : gk = 0 := by omega
            obtain rfl : i = t := by omega
            have q1 : decide ((i : Int) < (i : Int)) = false := by simp
            have hTR := HTR.out
            rw [takes] at hTR
            have hres := HE.out
            rw [← hTR] at hres
            unfold rdE at hres
            dsimp only at hres
            have HE2 := Lib.hid hres
            clear HE HTR hTR hres HWX
            by_cases hes : en = s.size
            · have hres := HE2.out
              rw [if_pos hes] at hres
              injection hres with hres
              subst hres
              have e1 : ((en : Int) == (s.size : Int)) = true := by simp; omega
              obtain ⟨hsu, hsd⟩ := side_up u p d HOK.out HRU.out
              have hbd := exp_bd u p d HOK.out HRU.out
              obtain ⟨hun, hud, hdd, hp3⟩ := HRU.out
              have hl5 := HOK.out.2.2.2.2.1
              obtain ⟨N, D, ds⟩ := u
              dsimp only at hdd hsu hsd hl5
              subst hdd
              obtain ⟨x0, x1, x2, x3, x4, rfl⟩ := len5 hl5
              obtain ⟨pa, pb, pc, rfl⟩ : ∃ pa pb pc, p = [pa, pb, pc] := ⟨_, _, _, three hp3⟩
              have hPb : ∀ x ∈ [pa, pb, pc], -1000000 ≤ x ∧ x ≤ 1000000 := fun x hx => by have := hbd x hx; omega
              have HC1 : Hid (∀ W, Calls Tryd.prog 23 #[.agg #[.int .i64 pa, .int .i64 pb, .int .i64 pc], .int .i64 1] W (SPost W N)) := Lib.hid (fun W => by
                have h := side_any pa pb pc 1 [pa, pb, pc] rfl (.inl rfl) hPb (up [pa, pb, pc]) (fun k _ => by unfold up; rw [Int.one_mul]) W
                rw [hsu] at h; exact h)
              have HC2 : Hid (∀ W, Calls Tryd.prog 23 #[.agg #[.int .i64 pa, .int .i64 pb, .int .i64 pc], .int .i64 (-1)] W (SPost W D)) := Lib.hid (fun W => by
                have h := side_any pa pb pc (-1) [pa, pb, pc] rfl (.inr rfl) hPb (dn [pa, pb, pc]) (fun k _ => by unfold dn; rw [Int.neg_mul, Int.one_mul]) W
                rw [hsd] at h; exact h)
              have HQn := HQ1.out
              clear hsu hsd hbd hun hud hp3 hl5 hPb HRU HOK HE2 hes
              go_upto_region 23 with fail
              obtain ⟨f0, f1, f2⟩ := HQn.pc3
              obtain ⟨g0, g1, g2, g3, g4⟩ := HQn.dcells
              obtain ⟨r0, r1, r2, r3, r4, r5, r6⟩ := HQn.1.rs
              obtain ⟨z0, z1, z2, z3, z4, z5, z6⟩ := HQn.1.rz
              have HE0 := Q1.eight HQn
              have HE1 := Q1.eight (Q1.drew HQn)
              go_region_held3 (fun W => W.cell? ⟨b + 1, 0, none⟩ = some (.int .i64 pa) ∧ W.cell? ⟨b + 1, 1, none⟩ = some (.int .i64 pb) ∧ W.cell? ⟨b + 1, 2, none⟩ = some (.int .i64 pc) ∧ W.cell? ⟨b + 2, 0, none⟩ = some (.int .i64 x0) ∧ W.cell? ⟨b + 2, 1, none⟩ = some (.int .i64 x1) ∧ W.cell? ⟨b + 2, 2, none⟩ = some (.int .i64 x2) ∧ W.cell? ⟨b + 2, 3, none⟩ = some (.int .i64 x3) ∧ W.cell? ⟨b + 2, 4, none⟩ = some (.int .i64 x4))
                (with_reducible assumption)
                (first | (go_at_call 23; (first | (with_reducible refine (HC1.out _).mono ?_) | (with_reducible refine (HC2.out _).mono ?_)); rintro e wa ⟨rfl, hba⟩; (have HQm := HQn); clear HQn; have HQn : Q1 w b [pa, pb, pc] [x0, x1, x2, x3, x4] bp ix i at_ en wa := (by (first | (with_reducible exact Q1.below HQm hba) | (with_reducible exact Q1.below (Q1.drew HQm) hba))); clear HE0 HE1; have HE0 := Q1.eight HQn; have HE1 := Q1.eightS HQn (N : Int) (D : Int) x0 x1 x2 x3 x4; clear hba HQm r0 r1 r2 r3 r4 r5 r6 z0 z1 z2 z3 z4 z5 z6; obtain ⟨r0, r1, r2, r3, r4, r5, r6⟩ := HQn.1.rs; obtain ⟨z0, z1, z2, z3, z4, z5, z6⟩ := HQn.1.rz))
              clear HE0 HE1
              go_wp2_with fail
              refine bodyPost_ret (v := .tuple #[.agg (unC ⟨N, D, [x0, x1, x2, x3, x4]⟩), .int .i64 0, .int .i64 0]) ?_ rfl ?_
              · exact res11 (S7 wa b N D x0 x1 x2 x3 x4) b ⟨N, D, [x0, x1, x2, x3, x4]⟩ rfl 0 0 _ rfl rfl rfl (by rw [unC_five]; exact S7_blk N D x0 x1 x2 x3 x4 HQn.1.2.1)
              · exact ⟨rfl, S7_below N D x0 x1 x2 x3 x4 HQn.1.1 HQn.1.2.2.2.2⟩
            · have e1 : ((en : Int) == (s.size : Int)) = false := by simp; omega
              have hlt2 : en < s.size := by omega
              have hg : s.data.toList.getD en 0 = s[en] := by
                rw [List.getD_eq_getElem?_getD, List.getElem?_eq_getElem (by simpa using hlt2)]; rfl
              obtain ⟨x, hx⟩ : ∃ x : UInt8, s[en] = x := ⟨_, rfl⟩
              have hres := HE2.out
              rw [if_neg hes, hg, hx] at hres
              clear hes hg HE2
              have HW2 := Lib.hid HQ1.out.1
              by_cases h42 : x = 42
              · rw [if_neg (by rintro ⟨h, _⟩; exact h h42)] at hres
                have HN := Lib.hid hres
                have f1 : ((x.toNat : Int) != 42) = false := by rw [h42]; rfl
                have f2 : ((x.toNat : Int) == 42) = true := by rw [h42]; rfl
                have f3 : ((x.toNat : Int) == 47) = false := by rw [h42]; rfl
                have f5 : (x == 47) = false := by rw [h42]; rfl
                have HF5 := Lib.hid f5
                clear h42 hres f5
                go_wp2_with fail
                go_roundg g'
                case measure => omega
                case rel => exact ⟨en + 1, false, u, p, d, by go_num, rfl, by omega, HOK, HRU, by rw [← HF5.out]; exact HN, HW2⟩
              · have hn42 : ¬ x.toNat = 42 := fun h => h42 (UInt8.toNat_inj.1 h)
                have f1 : ((x.toNat : Int) != 42) = true := by simp; omega
                have f2 : ((x.toNat : Int) == 42) = false := by simp; omega
                by_cases h47 : x = 47
                · rw [if_neg (by rintro ⟨_, h⟩; exact h h47)] at hres
                  have HN := Lib.hid hres
                  have f3 : ((x.toNat : Int) == 47) = true := by rw [h47]; rfl
                  have f4 : ((x.toNat : Int) != 47) = false := by rw [h47]; rfl
                  have HF5 := Lib.hid (show (x == 47) = true by rw [h47]; rfl)
                  clear h42 h47 hres hn42
                  go_wp2_with fail
                  go_roundg g'
                  case measure => omega
                  case rel => exact ⟨en + 1, true, u, p, d, by go_num, rfl, by omega, HOK, HRU, by rw [← HF5.out]; exact HN, HW2⟩
                · rw [if_pos ⟨h42, h47⟩] at hres
                  injection hres with hres
                  subst hres
                  have hn47 : ¬ x.toNat = 47 := fun h => h47 (UInt8.toNat_inj.1 h)
                  have f3 : ((x.toNat : Int) == 47) = false := by simp; omega
                  have f4 : ((x.toNat : Int) != 47) = true := by simp; omega
                  clear h42 h47 hn42 hn47
                  obtain ⟨r0, r1, r2, r3, r4, r5, r6⟩ := HQ1.out.1.rs
                  obtain ⟨z0, z1, z2, z3, z4, z5, z6⟩ := HQ1.out.1.rz
                  have n1 : bp ≠ b := by have := HQ1.out.2.2; omega
                  have y3S : ((((wr.setCell ⟨b, 0, none⟩ (.int .i64 0)).setCell ⟨b, 1, none⟩ (.int .i64 0)).setCell ⟨b, 2, none⟩ (.int .i64 0)).setCell ⟨b, 3, none⟩ (.int .i64 0)).cell? ⟨bp, 3, none⟩ = some (.int .i64 (en : Int)) := (Blk.blk_cell (Blk.blk_far (p := ⟨b, 3, none⟩) (Blk.blk_far (p := ⟨b, 2, none⟩) (Blk.blk_far (p := ⟨b, 1, none⟩) (Blk.blk_far (p := ⟨b, 0, none⟩) HQ1.out.2.1 n1 _) n1 _) n1 _) n1 _) 3).trans rfl
                  clear n1
                  go_upto_region 25 with fail
                  go_region
                  go_wp2_with fail
                  refine bodyPost_ret (v := .tuple #[.agg (unC Zu), .int .i64 en, .int .i64 20]) ?_ rfl ?_
                  · exact res11 (S7 wr b 0 0 0 0 0 0 0).drew b Zu rfl en 20 _ rfl rfl rfl HQ1.out.1.failD.1
                  · exact ⟨rfl, HQ1.out.1.failD.2⟩
end Go.Proofs.YtdplfphgomckfaaDoor.Dh
