/- Contracts of the gate's functions: what each call answers and leaves in memory, for a gate block of any content. -/
import Derived.Test.YtalefchapckcoaaRows
import Derived.Test.YtalefchapckcoaaBlk
import Derived.WalkKit
import Derived.WalkSpells
import Derived.WalkLawsBesides
import Derived.Handy
import Derived.Laws.Rows
import Derived.Deep.QuietTactic
import Derived.BigQuiet
import Derived.Deep.RegionHeld3
import Derived.Deep.DeepCutAuto
namespace Go.Proofs.Ytalefchapckcoaa.Ga
open Go.RowKit Go.Proofs.Ytalefchapckcoaa.Blk
attribute [local go_sem] max2_int min2_int max_two min_two

def gcells (mn mx st up dn cnt ct : Int) (cb : Bool) (kt : Int) (kb : Bool) : Array Value := #[.int .i64 mn, .int .i64 mx, .int .i64 st, .int .i64 up, .int .i64 dn, .int .i64 cnt, .int .i64 ct, .bool cb, .int .i64 kt, .bool kb]
/-- A block that holds a gate. -/
def IsG (w : World) (g : Nat) (mn mx st up dn cnt ct : Int) (cb : Bool) (kt : Int) (kb : Bool) : Prop :=
  w.heap[g]? = some (.cells (gcells mn mx st up dn cnt ct cb kt kb) 58 (0, 0))
theorem IsG.of {W : World} {g : Nat} {mn mx st up dn cnt ct : Int} {cb : Bool} {kt : Int} {kb : Bool} {cs : Array Value} (h : W.heap[g]? = some (.cells cs 58 (0, 0))) (e : cs = gcells mn mx st up dn cnt ct cb kt kb) : IsG W g mn mx st up dn cnt ct cb kt kb := by subst e; exact h

theorem IsG.alloc {W : World} {g : Nat} {mn mx st up dn cnt ct : Int} {cb : Bool} {kt : Int} {kb : Bool} (h : IsG W g mn mx st up dn cnt ct cb kt kb) (o : Obj) : IsG (W.alloc o) g mn mx st up dn cnt ct cb kt kb := blk_alloc h o
theorem IsG.drewN {W : World} {g : Nat} {mn mx st up dn cnt ct : Int} {cb : Bool} {kt : Int} {kb : Bool} (h : IsG W g mn mx st up dn cnt ct cb kt kb) (n : Nat) : IsG (W.drewN n) g mn mx st up dn cnt ct cb kt kb := h
theorem IsG.drew {W : World} {g : Nat} {mn mx st up dn cnt ct : Int} {cb : Bool} {kt : Int} {kb : Bool} (h : IsG W g mn mx st up dn cnt ct cb kt kb) : IsG W.drew g mn mx st up dn cnt ct cb kt kb := h
theorem IsG.set89 {W : World} {g : Nat} {mn mx st up dn cnt ct : Int} {cb : Bool} {kt : Int} {kb : Bool} (h : IsG W g mn mx st up dn cnt ct cb kt kb) (t : Int) : IsG ((W.setCell ⟨g, 8, none⟩ (.int .i64 t)).setCell ⟨g, 9, none⟩ (.bool true)) g mn mx st up dn cnt ct cb t true := blk_set (blk_set h 8 _) 9 _
theorem IsG.set67 {W : World} {g : Nat} {mn mx st up dn cnt ct : Int} {cb : Bool} {kt : Int} {kb : Bool} (h : IsG W g mn mx st up dn cnt ct cb kt kb) (t : Int) : IsG ((W.setCell ⟨g, 6, none⟩ (.int .i64 t)).setCell ⟨g, 7, none⟩ (.bool true)) g mn mx st up dn cnt t true kt kb := blk_set (blk_set h 6 _) 7 _
theorem IsG.set5 {W : World} {g : Nat} {mn mx st up dn cnt ct : Int} {cb : Bool} {kt : Int} {kb : Bool} (h : IsG W g mn mx st up dn cnt ct cb kt kb) (c : Int) : IsG (W.setCell ⟨g, 5, none⟩ (.int .i64 c)) g mn mx st up dn c ct cb kt kb := blk_set h 5 _
theorem IsG.far3 {W : World} {g b : Nat} {mn mx st up dn cnt ct : Int} {cb : Bool} {kt : Int} {kb : Bool} (h : IsG W g mn mx st up dn cnt ct cb kt kb) (hne : g ≠ b) (x y z : Value) : IsG (((W.setCell ⟨b, 0, none⟩ x).setCell ⟨b, 1, none⟩ y).setCell ⟨b, 2, none⟩ z) g mn mx st up dn cnt ct cb kt kb := blk_far (blk_far (blk_far h hne _) hne _) hne _
theorem none_nil (w : World) : Calls Try.prog 18 #[.pointer none] w fun e w' => e = .returned (.bool true) ∧ w = w' := by
  go_enter Try.func18, Try.ntmps18
  go_wp2
  go_ret
  exact ⟨rfl, rfl⟩

theorem none_gate (g : Nat) (mx : Int) (w : World) (hg : w.cell? ⟨g, 1, none⟩ = some (.int .i64 mx)) : Calls Try.prog 18 #[.pointer (some ⟨g, 0, none⟩)] w fun e w' => e = .returned (.bool (mx == 0)) ∧ w = w' := by
  go_enter Try.func18, Try.ntmps18
  go_wp2
  go_ret
  exact ⟨rfl, rfl⟩

theorem hold_gate (g : Nat) (cnt why : Int) (w : World) (hlt : g < w.heap.size) (hg : w.cell? ⟨g, 5, none⟩ = some (.int .i64 cnt)) : Calls Try.prog 19 #[.pointer (some ⟨g, 0, none⟩), .int .i64 why] w fun e w' => e = .returned (.agg #[.bool true, .int .i64 why, .int .i64 cnt]) ∧ Below w.heap.size w w' := by
  go_enter Try.func19, Try.ntmps19
  go_wp2
  go_returns
  exact ⟨rfl, by go_grown⟩

def sinceB (ct : Int) (cb : Bool) (t n : Int) : Bool := cb && decide (IntKind.u64.wrap (IntKind.u64.wrap t - IntKind.u64.wrap ct) < IntKind.u64.wrap n)
theorem since_any (ct : Int) (cb : Bool) (t n : Int) (w : World) : Calls Try.prog 20 #[.agg #[.int .i64 ct, .bool cb], .int .i64 t, .int .i64 n] w fun e w' => e = .returned (.bool (sinceB ct cb t n)) ∧ Below w.heap.size w w' := by
  cases cb
  · go_enter Try.func20, Try.ntmps20
    go_wp2
    go_ret
    exact ⟨rfl, by go_grown⟩
  · go_enter Try.func20, Try.ntmps20
    go_wp2
    go_ret
    exact ⟨rfl, by go_grown⟩

def Rt (mn mx st cnt : Int) : Prop := 0 ≤ mn ∧ mn ≤ mx ∧ 1 ≤ mx ∧ mx ≤ 1000000 ∧ 1 ≤ st ∧ st ≤ 1000000 ∧ mn ≤ cnt ∧ cnt ≤ mx
/-- What a want comes to. -/
def cl (mn mx st cnt want : Int) : Int := mnv (mxv (mnv (mxv want mn) mx) (cnt - st)) (cnt + st)

set_option maxHeartbeats 1000000 in
theorem bind_stale (g : Nat) (mn mx st up dn cnt ct : Int) (cb : Bool) (kt : Int) (h : Bool) (why want t : Int) (w : World) (hg : IsG w g mn mx st up dn cnt ct cb kt true) (hm : 1 ≤ mx) (ht : t < kt) :
    Calls Try.prog 12 #[.pointer (some ⟨g, 0, none⟩), .agg #[.bool h, .int .i64 why, .int .i64 want], .int .i64 t] w fun e w' => e = .returned (.tuple #[.agg #[.bool false, .int .i64 0, .int .i64 0], .int .i64 32]) ∧ IsG w' g mn mx st up dn cnt ct cb kt true ∧ w.grownBy w' (some g) := by
  have hlt : g < w.heap.size := (Array.getElem?_eq_some_iff.1 hg).1
  have c1 := blk_cell hg 1
  have c8 := blk_cell hg 8
  have c9 := blk_cell hg 9
  simp [gcells] at c1 c8 c9
  have hm' : (mx == 0) = false := by simp; omega
  have HG := Lib.hid hg; clear hg
  go_enter Try.func12, Try.ntmps12
  go_wp2
  go_returns
  exact ⟨rfl, blk_alloc (blk_alloc HG.out _) _, gb_alloc (gb_alloc (gb_refl _ _) _) _⟩

set_option maxHeartbeats 16000000 in
set_option maxRecDepth 100000 in
theorem bind_hold (g : Nat) (mn mx st up dn cnt ct : Int) (cb : Bool) (kt : Int) (kb : Bool) (why want t : Int) (w : World) (hg : IsG w g mn mx st up dn cnt ct cb kt kb) (hr : Rt mn mx st cnt) (ht : kb = false ∨ kb = true ∧ ¬ t < kt)  :
    Calls Try.prog 12 #[.pointer (some ⟨g, 0, none⟩), .agg #[.bool true, .int .i64 why, .int .i64 want], .int .i64 t] w fun e w' => e = .returned (.tuple #[.agg #[.bool true, .int .i64 why, .int .i64 cnt], .int .i64 0]) ∧ IsG w' g mn mx st up dn cnt ct cb t true ∧ w.grownBy w' (some g) := by
  have hlt : g < w.heap.size := (Array.getElem?_eq_some_iff.1 hg).1
  have hlt1 : g < w.heap.size + 1 := by omega
  have hlt2 : g < w.heap.size + 1 + 1 := by omega
  have hlt3 : g < w.heap.size + 1 + 1 + 1 := by omega
  have c0 := blk_cell hg 0
  have c1 := blk_cell hg 1
  have c2 := blk_cell hg 2
  have c3 := blk_cell hg 3
  have c4 := blk_cell hg 4
  have c5 := blk_cell hg 5
  have c6 := blk_cell hg 6
  have c7 := blk_cell hg 7
  have c8 := blk_cell hg 8
  have c9 := blk_cell hg 9
  have f5 := blk_frozen hg 5
  have f6 := blk_frozen hg 6
  have f7 := blk_frozen hg 7
  have f8 := blk_frozen hg 8
  have f9 := blk_frozen hg 9
  simp [gcells] at c0 c1 c2 c3 c4 c5 c6 c7 c8 c9
  obtain ⟨r1, r2, r3, r4, r5, r6, r7, r8⟩ := hr
  have hm' : (mx == 0) = false := by simp; omega
  have HG := Lib.hid hg; clear hg
  have HS := Lib.hid (rfl : cnt = cnt)
  rcases ht with rfl | ⟨rfl, ht⟩
  all_goals
    go_enter Try.func12, Try.ntmps12
    go_wp2
    go_returns
    refine ⟨rfl, (((HG.out.set89 t).alloc _).alloc _).alloc _, ?_⟩
    repeat (first | exact gb_refl _ _ | refine gb_alloc ?_ _ | refine gb_drewN ?_ _ | refine gb_drew ?_ | refine gb_set ?_ _ _ (.inl rfl) _)

/-- The world behind the reckoning of the count: the gate with its clock turned, the answer's box, the rules' copy. -/
def SS (w : World) (g : Nat) (mn mx st up dn cnt ct : Int) (cb : Bool) (t : Int) (w' : World) : Prop :=
  IsG w' g mn mx st up dn cnt ct cb t true ∧ w.grownBy w' (some g) ∧ w'.heap[w.heap.size + 1]? = some (.cells #[.bool false, .int .i64 0, .int .i64 0] 39 (0, 0)) ∧ w'.heap[w.heap.size + 1 + 1]? = some (.cells #[.int .i64 mn, .int .i64 mx, .int .i64 st, .int .i64 up, .int .i64 dn] 23 (0, 0))
section
variable {w : World} {g : Nat} {mn mx st up dn cnt ct : Int} {cb : Bool} {t : Int} {w1 w2 : World}
theorem SS.drew (h : SS w g mn mx st up dn cnt ct cb t w1) : SS w g mn mx st up dn cnt ct cb t w1.drew := ⟨h.1, gb_drew h.2.1, h.2.2.1, h.2.2.2⟩
theorem SS.drewN (h : SS w g mn mx st up dn cnt ct cb t w1) (n : Nat) : SS w g mn mx st up dn cnt ct cb t (w1.drewN n) := ⟨h.1, gb_drewN h.2.1 n, h.2.2.1, h.2.2.2⟩
theorem SS.below (h : SS w g mn mx st up dn cnt ct cb t w1) (hb : Below w1.heap.size w1 w2) : SS w g mn mx st up dn cnt ct cb t w2 :=
  ⟨blk_below h.1 hb (blk_lt h.1), gb_below h.2.1 hb, blk_below h.2.2.1 hb (blk_lt h.2.2.1), blk_below h.2.2.2 hb (blk_lt h.2.2.2)⟩
theorem SS.below' (h : SS w g mn mx st up dn cnt ct cb t w1) {B : Nat} (hb : Below B w1 w2) (hB : B = w1.heap.size) : SS w g mn mx st up dn cnt ct cb t w2 := by subst hB; exact h.below hb
theorem SS.six (h : SS w g mn mx st up dn cnt ct cb t w1) : SS w g mn mx st up dn cnt ct cb t w1 ∧ w1.cell? ⟨g, 5, none⟩ = some (.int .i64 cnt) ∧ w1.cell? ⟨g, 6, none⟩ = some (.int .i64 ct) ∧ w1.cell? ⟨g, 7, none⟩ = some (.bool cb) ∧ w1.cell? ⟨w.heap.size + 1 + 1, 3, none⟩ = some (.int .i64 up) ∧ w1.cell? ⟨w.heap.size + 1 + 1, 4, none⟩ = some (.int .i64 dn) :=
  ⟨h, blk_cell h.1 5, blk_cell h.1 6, blk_cell h.1 7, blk_cell h.2.2.2 3, blk_cell h.2.2.2 4⟩
theorem SS.box5 (h : SS w g mn mx st up dn cnt ct cb t w1) (hne : g ≠ w.heap.size + 1) (n : Nat) (v : Value) : ((w1.drewN n).setCell ⟨g, 5, none⟩ v).heap[w.heap.size + 1]? = some (.cells #[.bool false, .int .i64 0, .int .i64 0] 39 (0, 0)) :=
  blk_far (h.drewN n).2.2.1 (fun e => hne e.symm) v
theorem SS.box765 (h : SS w g mn mx st up dn cnt ct cb t w1) (hne : g ≠ w.heap.size + 1) (n : Nat) (v u z : Value) : ((((w1.drewN n).setCell ⟨g, 6, none⟩ z).setCell ⟨g, 7, none⟩ u).setCell ⟨g, 5, none⟩ v).heap[w.heap.size + 1]? = some (.cells #[.bool false, .int .i64 0, .int .i64 0] 39 (0, 0)) :=
  blk_far (blk_far (blk_far (h.drewN n).2.2.1 (fun e => hne e.symm) _) (fun e => hne e.symm) _) (fun e => hne e.symm) v
theorem SS.box765' (h : SS w g mn mx st up dn cnt ct cb t w1) (hne : g ≠ w.heap.size + 1) (v u z : Value) : (((w1.setCell ⟨g, 6, none⟩ z).setCell ⟨g, 7, none⟩ u).setCell ⟨g, 5, none⟩ v).heap[w.heap.size + 1]? = some (.cells #[.bool false, .int .i64 0, .int .i64 0] 39 (0, 0)) :=
  blk_far (blk_far (blk_far h.2.2.1 (fun e => hne e.symm) _) (fun e => hne e.symm) _) (fun e => hne e.symm) v
theorem SS.all (h : SS w g mn mx st up dn cnt ct cb t w1) : SS w g mn mx st up dn cnt ct cb t w1 ∧ g < w1.heap.size ∧ w.heap.size + 1 < w1.heap.size ∧ w1.cell? ⟨g, 0, none⟩ = some (.int .i64 mn) ∧ w1.cell? ⟨g, 5, none⟩ = some (.int .i64 cnt) ∧ w1.cell? ⟨g, 6, none⟩ = some (.int .i64 ct) ∧ w1.cell? ⟨g, 7, none⟩ = some (.bool cb) ∧ w1.cell? ⟨g, 8, none⟩ = some (.int .i64 t) ∧ w1.cell? ⟨g, 9, none⟩ = some (.bool true) ∧
    w1.cell? ⟨w.heap.size + 1 + 1, 3, none⟩ = some (.int .i64 up) ∧ w1.cell? ⟨w.heap.size + 1 + 1, 4, none⟩ = some (.int .i64 dn) ∧
    w1.cell? ⟨w.heap.size + 1, 0, none⟩ = some (.bool false) ∧ w1.cell? ⟨w.heap.size + 1, 1, none⟩ = some (.int .i64 0) ∧ w1.cell? ⟨w.heap.size + 1, 2, none⟩ = some (.int .i64 0) ∧
    w1.frozen? ⟨g, 5, none⟩ = false ∧ w1.frozen? ⟨g, 6, none⟩ = false ∧ w1.frozen? ⟨g, 7, none⟩ = false ∧ w1.frozen? ⟨w.heap.size + 1, 0, none⟩ = false ∧ w1.frozen? ⟨w.heap.size + 1, 1, none⟩ = false ∧ w1.frozen? ⟨w.heap.size + 1, 2, none⟩ = false :=
  ⟨h, blk_lt h.1, blk_lt h.2.2.1, blk_cell h.1 0, blk_cell h.1 5, blk_cell h.1 6, blk_cell h.1 7, blk_cell h.1 8, blk_cell h.1 9, blk_cell h.2.2.2 3, blk_cell h.2.2.2 4, blk_cell h.2.2.1 0, blk_cell h.2.2.1 1, blk_cell h.2.2.1 2, blk_frozen h.1 5, blk_frozen h.1 6, blk_frozen h.1 7, blk_frozen h.2.2.1 0, blk_frozen h.2.2.1 1, blk_frozen h.2.2.1 2⟩
end
/-- What a gate answers and is behind a moment that is not stale, where nothing asks to hold. -/
def stepG (mn mx st up dn cnt ct : Int) (cb : Bool) (want t : Int) : (Bool × Int × Int) × (Int × Int × Bool) :=
  if cnt < cl mn mx st cnt want then (if sinceB ct cb t up = true then ((true, 5, cnt), (cnt, ct, cb)) else ((false, 0, cl mn mx st cnt want), (cl mn mx st cnt want, t, true)))
  else if cl mn mx st cnt want < cnt then (if sinceB ct cb t dn = true then ((true, 6, cnt), (cnt, ct, cb)) else ((false, 0, cl mn mx st cnt want), (cl mn mx st cnt want, t, true)))
  else ((false, 0, cl mn mx st cnt want), (cl mn mx st cnt want, ct, cb))
end Go.Proofs.Ytalefchapckcoaa.Ga
