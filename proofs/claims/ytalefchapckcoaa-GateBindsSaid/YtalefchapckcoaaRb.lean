/- The reference's Bind where a moment is stale, or what is wanted is to hold. -/
import Derived.Test.YtalefchapckcoaaRa
namespace Go.Proofs.Ytalefchapckcoaa.Rb
set_option linter.unusedVariables false
open Go.RowKit Go.Proofs.Ytalefchapckcoaa.Blk Go.Proofs.Ytalefchapckcoaa.Blk2 Go.Proofs.Ytalefchapckcoaa.Ga Go.Proofs.Ytalefchapckcoaa.Gc Go.Proofs.Ytalefchapckcoaa.Ra

set_option maxHeartbeats 1000000 in
theorem rbind_stale (g : Nat) (r : GR) (s : GS) (h : Bool) (why want t : Int) (w : World) (hg : IsR w g r s) (hs : s.kb = true) (ht : t < s.kt) :
    Calls Try.prog 15 #[.pointer (some ⟨g, 0, none⟩), .agg #[.bool h, .int .i64 why, .int .i64 want], .int .i64 t] w fun e w' => e = .returned (.tuple #[.agg #[.bool false, .int .i64 0, .int .i64 0], .int .i64 32]) ∧ IsR w' g r s ∧ w.grownBy w' (some g) := by
  obtain ⟨mn, mx, st, up, dn⟩ := r
  obtain ⟨cnt, ct, cb, kt, kb⟩ := s
  simp only at hs ht
  subst hs
  have hlt : g < w.heap.size := blk_lt hg
  have c8 := blk_cell hg 8
  have c9 := blk_cell hg 9
  simp [gcells] at c8 c9
  have HG := Lib.hid hg; clear hg
  go_enter Try.func15, Try.ntmps15
  go_wp2
  go_returns
  exact ⟨rfl, blk_alloc (blk_alloc HG.out _) _, gb_alloc (gb_alloc (gb_refl _ _) _) _⟩
theorem IsR.set89 {w : World} {g : Nat} {r : GR} {s : GS} (h : IsR w g r s) (t : Int) : IsR ((w.setCell ⟨g, 8, none⟩ (.int .i64 t)).setCell ⟨g, 9, none⟩ (.bool true)) g r { s with kt := t, kb := true } := blk_set (blk_set h 8 _) 9 _
set_option maxHeartbeats 1000000 in
theorem rbind_hold (g : Nat) (r : GR) (s : GS) (why want t : Int) (w : World) (hg : IsR w g r s) (ht : s.kb = false ∨ s.kb = true ∧ ¬ t < s.kt) :
    Calls Try.prog 15 #[.pointer (some ⟨g, 0, none⟩), .agg #[.bool true, .int .i64 why, .int .i64 want], .int .i64 t] w fun e w' => e = .returned (.tuple #[.agg #[.bool true, .int .i64 why, .int .i64 s.cnt], .int .i64 0]) ∧ IsR w' g r { s with kt := t, kb := true } ∧ w.grownBy w' (some g) := by
  obtain ⟨mn, mx, st, up, dn⟩ := r
  obtain ⟨cnt, ct, cb, kt, kb⟩ := s
  simp only at ht
  have hlt : g < w.heap.size := blk_lt hg
  have hlt1 : g < w.heap.size + 1 := by omega
  have hlt2 : g < w.heap.size + 1 + 1 := by omega
  have hne1 : g ≠ w.heap.size := by omega
  have hne2 : g ≠ w.heap.size + 1 := by omega
  have c5 := blk_cell hg 5
  have c8 := blk_cell hg 8
  have c9 := blk_cell hg 9
  have f8 := blk_frozen hg 8
  have f9 := blk_frozen hg 9
  simp [gcells] at c5 c8 c9
  have HG := Lib.hid hg; clear hg
  rcases ht with rfl | ⟨rfl, ht⟩
  all_goals
    go_enter Try.func15, Try.ntmps15
    go_wp2
    go_region
    go_wp2
    go_returns
    refine ⟨rfl, blk_alloc (blk_alloc (IsR.set89 HG.out t) _) _, ?_⟩
    repeat (first | exact gb_refl _ _ | refine gb_alloc ?_ _ | refine gb_drewN ?_ _ | refine gb_drew ?_ | refine gb_set ?_ _ _ (.inl rfl) _)
/-- The world behind the reckoning of the count. -/
def SR (w : World) (g : Nat) (r : GR) (s : GS) (t : Int) (w' : World) : Prop :=
  IsR w' g r { s with kt := t, kb := true } ∧ w.grownBy w' (some g) ∧ w'.heap[w.heap.size + 1]? = some (.cells #[.bool false, .int .i64 0, .int .i64 0] 39 (0, 0))
section
variable {w : World} {g : Nat} {r : GR} {s : GS} {t : Int} {w1 w2 : World}
theorem SR.drew (h : SR w g r s t w1) : SR w g r s t w1.drew := ⟨h.1, gb_drew h.2.1, h.2.2⟩
theorem SR.drewN (h : SR w g r s t w1) (n : Nat) : SR w g r s t (w1.drewN n) := ⟨h.1, gb_drewN h.2.1 n, h.2.2⟩
theorem SR.below (h : SR w g r s t w1) (hb : Below w1.heap.size w1 w2) : SR w g r s t w2 := ⟨blk_below h.1 hb (blk_lt h.1), gb_below h.2.1 hb, blk_below h.2.2 hb (blk_lt h.2.2)⟩
theorem SR.below' (h : SR w g r s t w1) {B : Nat} (hb : Below B w1 w2) (hB : B = w1.heap.size) : SR w g r s t w2 := by subst hB; exact h.below hb
theorem SR.six (h : SR w g r s t w1) : SR w g r s t w1 ∧ w1.cell? ⟨g, 3, none⟩ = some (.int .i64 r.up) ∧ w1.cell? ⟨g, 4, none⟩ = some (.int .i64 r.dn) ∧ w1.cell? ⟨g, 5, none⟩ = some (.int .i64 s.cnt) ∧ w1.cell? ⟨g, 6, none⟩ = some (.int .i64 s.ct) ∧ w1.cell? ⟨g, 7, none⟩ = some (.bool s.cb) :=
  ⟨h, blk_cell h.1 3, blk_cell h.1 4, blk_cell h.1 5, blk_cell h.1 6, blk_cell h.1 7⟩
theorem SR.box5 (h : SR w g r s t w1) (hne : g ≠ w.heap.size + 1) (v u z : Value) : (((w1.setCell ⟨g, 5, none⟩ v).setCell ⟨g, 6, none⟩ u).setCell ⟨g, 7, none⟩ z).heap[w.heap.size + 1]? = some (.cells #[.bool false, .int .i64 0, .int .i64 0] 39 (0, 0)) :=
  blk_far (blk_far (blk_far h.2.2 (fun e => hne e.symm) _) (fun e => hne e.symm) _) (fun e => hne e.symm) z
theorem SR.all (h : SR w g r s t w1) : g < w1.heap.size ∧ w.heap.size + 1 < w1.heap.size ∧ w1.cell? ⟨g, 3, none⟩ = some (.int .i64 r.up) ∧ w1.cell? ⟨g, 4, none⟩ = some (.int .i64 r.dn) ∧ w1.cell? ⟨g, 5, none⟩ = some (.int .i64 s.cnt) ∧ w1.cell? ⟨g, 6, none⟩ = some (.int .i64 s.ct) ∧ w1.cell? ⟨g, 7, none⟩ = some (.bool s.cb) ∧
    w1.cell? ⟨w.heap.size + 1, 0, none⟩ = some (.bool false) ∧ w1.cell? ⟨w.heap.size + 1, 1, none⟩ = some (.int .i64 0) ∧ w1.cell? ⟨w.heap.size + 1, 2, none⟩ = some (.int .i64 0) ∧
    w1.frozen? ⟨g, 5, none⟩ = false ∧ w1.frozen? ⟨g, 6, none⟩ = false ∧ w1.frozen? ⟨g, 7, none⟩ = false ∧ w1.frozen? ⟨w.heap.size + 1, 0, none⟩ = false ∧ w1.frozen? ⟨w.heap.size + 1, 1, none⟩ = false ∧ w1.frozen? ⟨w.heap.size + 1, 2, none⟩ = false :=
  ⟨blk_lt h.1, blk_lt h.2.2, blk_cell h.1 3, blk_cell h.1 4, blk_cell h.1 5, blk_cell h.1 6, blk_cell h.1 7, blk_cell h.2.2 0, blk_cell h.2.2 1, blk_cell h.2.2 2, blk_frozen h.1 5, blk_frozen h.1 6, blk_frozen h.1 7, blk_frozen h.2.2 0, blk_frozen h.2.2 1, blk_frozen h.2.2 2⟩
theorem IsR.far3 {b : Nat} (h : IsR w1 g r s) (hne : g ≠ b) (x y z : Value) : IsR (((w1.setCell ⟨b, 0, none⟩ x).setCell ⟨b, 1, none⟩ y).setCell ⟨b, 2, none⟩ z) g r s := blk_far (blk_far (blk_far h hne _) hne _) hne _
theorem IsR.set567 (h : IsR w1 g r s) (c x : Int) : IsR (((w1.setCell ⟨g, 5, none⟩ (.int .i64 c)).setCell ⟨g, 6, none⟩ (.int .i64 x)).setCell ⟨g, 7, none⟩ (.bool true)) g r { s with cnt := c, ct := x, cb := true } := blk_set (blk_set (blk_set h 5 _) 6 _) 7 _
end
/-- Is it less than n seconds since the latest change? -/
def lessB (s : GS) (t n : Int) : Bool := s.cb && decide (Go.Proofs.Ytalefchapckcoaa.BnGateBinds.hold (t - s.ct) < n)
/-- What the reference's gate answers and is, where nothing asks to hold and the moment is not stale. -/
def stepR (r : GR) (s : GS) (want t : Int) : (Bool × Int × Int) × (Int × Int × Bool) :=
  if s.cnt < cl r.mn r.mx r.st s.cnt want then (if lessB s t r.up = true then ((true, 5, s.cnt), (s.cnt, s.ct, s.cb)) else ((false, 0, cl r.mn r.mx r.st s.cnt want), (cl r.mn r.mx r.st s.cnt want, t, true)))
  else if cl r.mn r.mx r.st s.cnt want < s.cnt then (if lessB s t r.dn = true then ((true, 6, s.cnt), (s.cnt, s.ct, s.cb)) else ((false, 0, cl r.mn r.mx r.st s.cnt want), (cl r.mn r.mx r.st s.cnt want, t, true)))
  else ((false, 0, s.cnt), (s.cnt, s.ct, s.cb))
def RPost (g : Nat) (r : GR) (s : GS) (w : World) (t : Int) (q : (Bool × Int × Int) × (Int × Int × Bool)) (e : Ending) (w' : World) : Prop :=
  e = .returned (.tuple #[.agg #[.bool q.1.1, .int .i64 q.1.2.1, .int .i64 q.1.2.2], .int .i64 0]) ∧ IsR w' g r ⟨q.2.1, q.2.2.1, q.2.2.2, t, true⟩ ∧ w.grownBy w' (some g)
def RMid (w : World) (g : Nat) (r : GR) (s : GS) (C t : Int) (s8 : Value) (wx : World) : Prop := s8 = .int .i64 C ∧ SR w g r s t wx
end Go.Proofs.Ytalefchapckcoaa.Rb
