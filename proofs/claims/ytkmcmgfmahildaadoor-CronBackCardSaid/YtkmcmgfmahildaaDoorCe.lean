/- cron.Read. -/
import Derived.Test.YtkmcmgfmahildaaDoorCf
import Derived.Test.YtkmcmgfmahildaaDoorOAx1
namespace Go.Proofs.YtkmcmgfmahildaaDoor.Ce
set_option linter.unusedVariables false
open Go.RowKit Go.Proofs.YtkmcmgfmahildaaDoorW.PrintWords Go.Proofs.YtkmcmgfmahildaaDoor.Laid Go.Proofs.YtkmcmgfmahildaaDoor.Ca Go.Proofs.YtkmcmgfmahildaaDoor.Cf Go.Proofs.YtkmcmgfmahildaaDoor.Blk2
open Go.Proofs.YtkmcmgfmahildaaDoor.OA (IsS39)

def upd (V : Nat → Int) (k : Nat) (v : Int) : Nat → Int := fun i => if i = k then v else V i
def CV (V : Nat → Int) : Array Value := #[.int .u64 (V 0), .int .u64 (V 1), .int .u64 (V 2), .int .u64 (V 3), .int .u64 (V 4)]
theorem CV_upd (V : Nat → Int) (k : Nat) (hk : k < 5) (v : Int) : (CV V).setIfInBounds k (.int .u64 v) = CV (upd V k v) := by
  have : k = 0 ∨ k = 1 ∨ k = 2 ∨ k = 3 ∨ k = 4 := by omega
  rcases this with rfl | rfl | rfl | rfl | rfl <;> rfl
theorem CV_cell {w : World} {g : Nat} {V : Nat → Int} {t : TypeId} (h : w.heap[g]? = some (.cells (CV V) t (0, 0))) (k : Nat) (hk : k < 5) : w.cell? ⟨g, k, none⟩ = some (.int .u64 (V k)) := by
  rw [Blk.blk_cell h k]
  have : k = 0 ∨ k = 1 ∨ k = 2 ∨ k = 3 ∨ k = 4 := by omega
  rcases this with rfl | rfl | rfl | rfl | rfl <;> rfl
/-- The fields read from a place on, one behind the other. -/
def readF (kk : Nat) : Nat → (Nat → Int) → ByteArray → Int → Option ((Nat → Int) × Int × Int)
  | 0, V, _, p => some (V, p, 0)
  | g + 1, V, s, p => (if 0 < 4 - g then OA.cron_reader_is.f s p 32 else some (true, s, p)).bind fun q =>
      if q.1 = true then (OA.cron_reader_set.f kk q.2.1 q.2.2 (low (4 - g)) (high (4 - g))).bind fun t =>
        if t.2.1 = true then readF kk g (upd V (4 - g) t.1) t.2.2.1 t.2.2.2 else some (V, t.2.2.2, 26)
      else some (V, q.2.2, 26)
def Read.f (k : Nat) (a0 : ByteArray) : Option (Int × Int × Int × Int × Int × Int × Int) :=
  if 256 < a0.size then some (0, 0, 0, 0, 0, 0, 2) else
    (readF k 5 (fun _ => 0) a0 0).bind fun r => if r.2.2 = 0 then (if r.2.1 < (a0.size : Int) then some (0, 0, 0, 0, 0, r.2.1, 26) else some (r.1 0, r.1 1, r.1 2, r.1 3, r.1 4, 0, 0)) else some (0, 0, 0, 0, 0, r.2.1, 26)
def flds : Array Value := #[.int .i64 0, .int .i64 59, .int .i64 0, .int .i64 23, .int .i64 1, .int .i64 31, .int .i64 1, .int .i64 12, .int .i64 0, .int .i64 6]
theorem index43 (i : Nat) (hi : i < 5) (W : World) : (Instr.index 43 (.agg #[.int .i64 0, .int .i64 59, .int .i64 0, .int .i64 23, .int .i64 1, .int .i64 31, .int .i64 1, .int .i64 12, .int .i64 0, .int .i64 6]) (.int .i64 i)).run Tryd.prog W = .ok (.agg #[.int .i64 (low i), .int .i64 (high i)]) W := by
  have h0 : (Instr.index 43 (.agg #[.int .i64 0, .int .i64 59, .int .i64 0, .int .i64 23, .int .i64 1, .int .i64 31, .int .i64 1, .int .i64 12, .int .i64 0, .int .i64 6]) (.int .i64 0)).run Tryd.prog W = .ok (.agg #[.int .i64 0, .int .i64 59]) W := by kernel_rfl
  have h1 : (Instr.index 43 (.agg #[.int .i64 0, .int .i64 59, .int .i64 0, .int .i64 23, .int .i64 1, .int .i64 31, .int .i64 1, .int .i64 12, .int .i64 0, .int .i64 6]) (.int .i64 1)).run Tryd.prog W = .ok (.agg #[.int .i64 0, .int .i64 23]) W := by kernel_rfl
  have h2 : (Instr.index 43 (.agg #[.int .i64 0, .int .i64 59, .int .i64 0, .int .i64 23, .int .i64 1, .int .i64 31, .int .i64 1, .int .i64 12, .int .i64 0, .int .i64 6]) (.int .i64 2)).run Tryd.prog W = .ok (.agg #[.int .i64 1, .int .i64 31]) W := by kernel_rfl
  have h3 : (Instr.index 43 (.agg #[.int .i64 0, .int .i64 59, .int .i64 0, .int .i64 23, .int .i64 1, .int .i64 31, .int .i64 1, .int .i64 12, .int .i64 0, .int .i64 6]) (.int .i64 3)).run Tryd.prog W = .ok (.agg #[.int .i64 1, .int .i64 12]) W := by kernel_rfl
  have h4 : (Instr.index 43 (.agg #[.int .i64 0, .int .i64 59, .int .i64 0, .int .i64 23, .int .i64 1, .int .i64 31, .int .i64 1, .int .i64 12, .int .i64 0, .int .i64 6]) (.int .i64 4)).run Tryd.prog W = .ok (.agg #[.int .i64 0, .int .i64 6]) W := by kernel_rfl
  have : i = 0 ∨ i = 1 ∨ i = 2 ∨ i = 3 ∨ i = 4 := by omega
  rcases this with rfl | rfl | rfl | rfl | rfl
  · exact h0
  · exact h1
  · exact h2
  · exact h3
  · exact h4
theorem fields_cells {w : World} (h : Laid w) : w.cell? ⟨0, 0, none⟩ = some (.int .i64 0) ∧ w.cell? ⟨0, 1, none⟩ = some (.int .i64 59) ∧ w.cell? ⟨0, 2, none⟩ = some (.int .i64 0) ∧ w.cell? ⟨0, 3, none⟩ = some (.int .i64 23) ∧ w.cell? ⟨0, 4, none⟩ = some (.int .i64 1) ∧ w.cell? ⟨0, 5, none⟩ = some (.int .i64 31) ∧ w.cell? ⟨0, 6, none⟩ = some (.int .i64 1) ∧ w.cell? ⟨0, 7, none⟩ = some (.int .i64 12) ∧ w.cell? ⟨0, 8, none⟩ = some (.int .i64 0) ∧ w.cell? ⟨0, 9, none⟩ = some (.int .i64 6) :=
  ⟨(h.2 0 (by omega)).1, (h.2 0 (by omega)).2, (h.2 1 (by omega)).1, (h.2 1 (by omega)).2, (h.2 2 (by omega)).1, (h.2 2 (by omega)).2, (h.2 3 (by omega)).1, (h.2 3 (by omega)).2, (h.2 4 (by omega)).1, (h.2 4 (by omega)).2⟩
/-- The reader, the answer's box, the sets, as they stand. -/
def St (w : World) (s : ByteArray) (p : Int) (V : Nat → Int) (wx : World) : Prop :=
  IsS39 w wx (w.heap.size + 1) s p ∧ wx.heap[w.heap.size]? = some (.cells #[.int .u64 0, .int .u64 0, .int .u64 0, .int .u64 0, .int .u64 0] 25 (0, 0)) ∧
    wx.heap[w.heap.size + 1 + 1]? = some (.cells (CV V) 40 (0, 0)) ∧ Below w.heap.size w wx
section
variable {w wx w' : World} {s s' : ByteArray} {p p' : Int} {V : Nat → Int}
theorem St.keep (h : St w s p V wx) (h1 : IsS39 w w' (w.heap.size + 1) s' p') (h2 : Below w.heap.size w w') (h3 : KeepBut wx w' (w.heap.size + 1) none) : St w s' p' V w' :=
  ⟨h1, (h3.2 _ (Blk.blk_lt h.2.1) (by omega) (by simp)).trans h.2.1, (h3.2 _ (Blk.blk_lt h.2.2.1) (by omega) (by simp)).trans h.2.2.1, h2⟩
theorem St.alloc (h : St w s p V wx) (o : Obj) : St w s p V (wx.alloc o) := ⟨h.1.alloc o, Blk.blk_alloc h.2.1 o, Blk.blk_alloc h.2.2.1 o, h.2.2.2.alloc h.2.2.2.size _⟩
theorem St.drew (h : St w s p V wx) : St w s p V wx.drew := ⟨h.1.drew, h.2.1, h.2.2.1, h.2.2.2.drew⟩
theorem St.set (h : St w s p V wx) (k : Nat) (hk : k < 5) (v : Int) : St w s p (upd V k v) (wx.setCell ⟨w.heap.size + 1 + 1, k, none⟩ (.int .u64 v)) :=
  ⟨h.1.far (by show w.heap.size + 1 ≠ w.heap.size + 1 + 1; omega) _, Blk.blk_far h.2.1 (by show w.heap.size ≠ w.heap.size + 1 + 1; omega) _, by have := Blk.blk_set h.2.2.1 k (.int .u64 v); rw [CV_upd V k hk v] at this; exact this, h.2.2.2.setCell (by show w.heap.size ≤ w.heap.size + 1 + 1; omega) _⟩
theorem St.at (h : St w s p V wx) : wx.cell? ⟨w.heap.size + 1, 1, none⟩ = some (.int .i64 p) := Blk.blk_cell h.1.1 1
end
/-- What the walks ask of the state. -/
def Facts (w wx : World) (p : Int) : Prop := wx.cell? ⟨w.heap.size + 1, 1, none⟩ = some (.int .i64 p) ∧
  wx.cell? ⟨w.heap.size, 0, none⟩ = some (.int .u64 0) ∧ wx.cell? ⟨w.heap.size, 1, none⟩ = some (.int .u64 0) ∧ wx.cell? ⟨w.heap.size, 2, none⟩ = some (.int .u64 0) ∧ wx.cell? ⟨w.heap.size, 3, none⟩ = some (.int .u64 0) ∧ wx.cell? ⟨w.heap.size, 4, none⟩ = some (.int .u64 0) ∧
  wx.frozen? ⟨w.heap.size, 0, none⟩ = false ∧ wx.frozen? ⟨w.heap.size, 1, none⟩ = false ∧ wx.frozen? ⟨w.heap.size, 2, none⟩ = false ∧ wx.frozen? ⟨w.heap.size, 3, none⟩ = false ∧ wx.frozen? ⟨w.heap.size, 4, none⟩ = false
theorem St.facts {w wx : World} {s : ByteArray} {p : Int} {V : Nat → Int} (h : St w s p V wx) : Facts w wx p :=
  ⟨h.at, Blk.blk_cell h.2.1 0, Blk.blk_cell h.2.1 1, Blk.blk_cell h.2.1 2, Blk.blk_cell h.2.1 3, Blk.blk_cell h.2.1 4, Blk.blk_frozen h.2.1 0, Blk.blk_frozen h.2.1 1, Blk.blk_frozen h.2.1 2, Blk.blk_frozen h.2.1 3, Blk.blk_frozen h.2.1 4⟩
theorem St.below {w wx : World} {s : ByteArray} {p : Int} {V : Nat → Int} (h : St w s p V wx) : Below w.heap.size w wx := h.2.2.2
theorem St.zero {w wx : World} {s : ByteArray} {p : Int} {V : Nat → Int} (h : St w s p V wx) (k : Nat) (hk : k < 5) : St w s p V (wx.setCell ⟨w.heap.size, k, none⟩ (.int .u64 0)) :=
  ⟨h.1.far (by show w.heap.size + 1 ≠ w.heap.size; omega) _, by
    have := Blk.blk_set h.2.1 k (.int .u64 0)
    have hk : k = 0 ∨ k = 1 ∨ k = 2 ∨ k = 3 ∨ k = 4 := by omega
    rcases hk with rfl | rfl | rfl | rfl | rfl <;> exact this, Blk.blk_far h.2.2.1 (by show w.heap.size + 1 + 1 ≠ w.heap.size; omega) _, h.2.2.2.setCell (by show w.heap.size ≤ w.heap.size; omega) _⟩
theorem St.zero5 {w wx : World} {s : ByteArray} {p : Int} {V : Nat → Int} (h : St w s p V wx) : St w s p V (((((wx.setCell ⟨w.heap.size, 0, none⟩ (.int .u64 0)).setCell ⟨w.heap.size, 1, none⟩ (.int .u64 0)).setCell ⟨w.heap.size, 2, none⟩ (.int .u64 0)).setCell ⟨w.heap.size, 3, none⟩ (.int .u64 0)).setCell ⟨w.heap.size, 4, none⟩ (.int .u64 0)).drew :=
  (((((h.zero 0 (by omega)).zero 1 (by omega)).zero 2 (by omega)).zero 3 (by omega)).zero 4 (by omega)).drew
theorem St.box5 {w wx : World} {s : ByteArray} {p : Int} {V : Nat → Int} (h : St w s p V wx) (x0 x1 x2 x3 x4 : Int) :
    ((((((wx.setCell ⟨w.heap.size, 0, none⟩ (.int .u64 x0)).setCell ⟨w.heap.size, 1, none⟩ (.int .u64 x1)).setCell ⟨w.heap.size, 2, none⟩ (.int .u64 x2)).setCell ⟨w.heap.size, 3, none⟩ (.int .u64 x3)).setCell ⟨w.heap.size, 4, none⟩ (.int .u64 x4))).heap[w.heap.size]? = some (.cells #[.int .u64 x0, .int .u64 x1, .int .u64 x2, .int .u64 x3, .int .u64 x4] 25 (0, 0)) ∧
    Below w.heap.size w ((((((wx.setCell ⟨w.heap.size, 0, none⟩ (.int .u64 x0)).setCell ⟨w.heap.size, 1, none⟩ (.int .u64 x1)).setCell ⟨w.heap.size, 2, none⟩ (.int .u64 x2)).setCell ⟨w.heap.size, 3, none⟩ (.int .u64 x3)).setCell ⟨w.heap.size, 4, none⟩ (.int .u64 x4))) := by
  have h0 : _ = some (Obj.cells #[.int .u64 x0, .int .u64 0, .int .u64 0, .int .u64 0, .int .u64 0] 25 (0, 0)) := Blk.blk_set h.2.1 0 (.int .u64 x0)
  have h1 : _ = some (Obj.cells #[.int .u64 x0, .int .u64 x1, .int .u64 0, .int .u64 0, .int .u64 0] 25 (0, 0)) := Blk.blk_set h0 1 (.int .u64 x1)
  have h2 : _ = some (Obj.cells #[.int .u64 x0, .int .u64 x1, .int .u64 x2, .int .u64 0, .int .u64 0] 25 (0, 0)) := Blk.blk_set h1 2 (.int .u64 x2)
  have h3 : _ = some (Obj.cells #[.int .u64 x0, .int .u64 x1, .int .u64 x2, .int .u64 x3, .int .u64 0] 25 (0, 0)) := Blk.blk_set h2 3 (.int .u64 x3)
  have h4 : _ = some (Obj.cells #[.int .u64 x0, .int .u64 x1, .int .u64 x2, .int .u64 x3, .int .u64 x4] 25 (0, 0)) := Blk.blk_set h3 4 (.int .u64 x4)
  exact ⟨h4, ((((h.2.2.2.setCell (Nat.le_refl w.heap.size) _).setCell (Nat.le_refl w.heap.size) _).setCell (Nat.le_refl w.heap.size) _).setCell (Nat.le_refl w.heap.size) _).setCell (Nat.le_refl w.heap.size) _⟩
theorem keep_alloc_ {w : World} (g : Nat) (o : Obj) : KeepBut w (w.alloc o) g none := ⟨by simp, fun i hi _ _ => Below.heap_alloc w o i hi⟩
def Mid8 (w : World) (b : Bool) (s : ByteArray) (p : Int) (V : Nat → Int) (g8 : Nat) (lo hi : Int) (s29 : Value) (wx : World) : Prop :=
  s29 = .bool (!b) ∧ St w s p V wx ∧ wx.heap[g8]? = some (.cells #[.int .i64 lo, .int .i64 hi] 42 (0, 0)) ∧ w.heap.size + 1 + 1 < g8
def Mid10 (w : World) (ok : Bool) (v : Int) (s : ByteArray) (p : Int) (V : Nat → Int) (s9 s10 : Value) (wx : World) : Prop := s9 = .int .u64 v ∧ s10 = .bool ok ∧ St w s p V wx
def RPost (r : Int × Int × Int × Int × Int × Int × Int) (w : World) (x : Ending) (w' : World) : Prop :=
  x = .returned (.tuple #[.agg #[.int .u64 r.1, .int .u64 r.2.1, .int .u64 r.2.2.1, .int .u64 r.2.2.2.1, .int .u64 r.2.2.2.2.1], .int .i64 r.2.2.2.2.2.1, .int .i64 r.2.2.2.2.2.2]) ∧ Below w.heap.size w w'
set_option maxHeartbeats 8000000 in
set_option maxRecDepth 100000 in
theorem read_any (kk : Nat) (t : ByteArray) (r : Int × Int × Int × Int × Int × Int × Int) (h : Read.f kk t = some r) (w : World) (hL : Laid w) : Calls Tryd.prog 11 #[.string t] w (RPost r w) := by
  have HL := Lib.hid hL; clear hL
  by_cases hz : 256 < t.size
  · have e : r = (0, 0, 0, 0, 0, 0, 2) := by unfold Read.f at h; rw [if_pos hz] at h; exact (Option.some.inj h).symm
    subst e
    clear h HL
    go_enter Tryd.func11, Tryd.ntmps11
    go_wp2
    go_returns
    exact ⟨rfl, (Below.refl _ _).alloc (Nat.le_refl _) _⟩
  · have e : ((readF kk 5 (fun _ => 0) t 0).bind fun r => if r.2.2 = 0 then (if r.2.1 < (t.size : Int) then some (0, 0, 0, 0, 0, r.2.1, 26) else some (r.1 0, r.1 1, r.1 2, r.1 3, r.1 4, 0, 0)) else some (0, 0, 0, 0, 0, r.2.1, 26)) = some r := by unfold Read.f at h; rw [if_neg hz] at h; exact h
    obtain ⟨⟨F, P, E⟩, he, e⟩ := Option.bind_eq_some_iff.1 e
    simp only at e
    have HE := Lib.hid he; have HR := Lib.hid e
    clear h he e
    obtain ⟨c0, c1, c2, c3, c4, c5, c6, c7, c8, c9⟩ := fields_cells HL.out
    have hlt := World.block_lt_of_cell? _ _ c0
    simp only at hlt
    go_enter Tryd.func11, Tryd.ntmps11
    go_wp2
    clear c0 c1 c2 c3 c4 c5 c6 c7 c8 c9
    go_loopg [19] 5 (fun gf v19 wx => ∃ (k : Nat) (s : ByteArray) (p : Int) (V : Nat → Int), v19 = .int .i64 k ∧ k + gf = 5 ∧ Hid (readF kk gf V s p = some (F, P, E)) ∧ St w s p V wx)
    case atStart => exact ⟨0, t, 0, fun _ => 0, rfl, rfl, HE, ⟨by exact Blk.blk_alloc (Blk.blk_at _ _ _ (by simp)) _, by show w.heap.size ≤ _; omega⟩, Blk.blk_alloc (Blk.blk_alloc (Blk.blk_new _ _) _) _, Blk.blk_at _ _ _ (by simp), (((Below.refl _ _).alloc (Nat.le_refl _) _).alloc (by simp) _).alloc (by simp; omega) _⟩
    case round =>
      clear HE
      obtain ⟨k, s, p, V, rfl, hk, hx, hst⟩ := hrel
      have HST := Lib.hid hst; clear hst
      by_cases hlt5 : k < 5
      · obtain ⟨g', rfl⟩ : ∃ g', gk = g' + 1 := ⟨gk - 1, by omega⟩
        have hx := hx.out
        unfold readF at hx
        rw [show 4 - g' = k from by omega] at hx
        have hix := fun W => index43 k hlt5 W
        obtain ⟨lo, hlo⟩ : ∃ lo, low k = lo := ⟨_, rfl⟩
        obtain ⟨hi, hhi⟩ : ∃ hi, high k = hi := ⟨_, rfl⟩
        rw [hlo, hhi] at hix hx
        obtain ⟨⟨b, s1, p1⟩, hq, hx⟩ := Option.bind_eq_some_iff.1 hx
        have HQ := Lib.hid hq; have HX := Lib.hid hx
        clear hlo hhi hq hx
        have q9 : decide ((k : Int) < 5) = true := by simp; omega
        have hgs := Blk.blk_lt HST.out.2.2.1
        go_upto_region 8 with (fail)
        go_cut [29] (Mid8 w b s1 p1 V wr.heap.size lo hi)
        case first =>
          by_cases h0 : 0 < k
          · have hq := HQ.out
            rw [if_pos h0] at hq
            have hcall := OA.cron_reader_is.calls (w.heap.size + 1) s p 32 b s1 p1 w _ (HST.out.alloc (.cells #[.int .i64 lo, .int .i64 hi] 42)).1 (HST.out.alloc (.cells #[.int .i64 lo, .int .i64 hi] 42)).2.2.2 hq
            have HCALL := Lib.hid hcall
            clear hq hcall
            have q0 : decide (0 < (k : Int)) = true := by simpa using h0
            clear h0
            go_wp2_with (go_at_call 21; refine HCALL.out.mono ?_; rintro x w2 ⟨rfl, hi1, hb1, hk1⟩; have HS2 := Lib.hid (St.keep (HST.out.alloc _) hi1 hb1 hk1); have HB8 := Lib.hid ((hk1.2 wr.heap.size (by simp) (by omega) (by simp)).trans (Blk.blk_new wr _)); clear hi1 hb1 hk1)
            any_goals (exfalso; have q0' := of_decide_eq_true q0; omega)
            go_meet
            exact ⟨rfl, HS2.out, HB8.out, hgs⟩
          · have hq := HQ.out
            rw [if_neg h0] at hq
            simp only [Option.some.injEq, Prod.mk.injEq] at hq
            obtain ⟨rfl, rfl, rfl⟩ := hq
            have q0 : decide (0 < (k : Int)) = false := by simp; omega
            clear h0
            go_wp2
            any_goals (exfalso; have q0' := of_decide_eq_false q0; omega)
            go_meet
            exact ⟨rfl, HST.out.alloc _, Blk.blk_new _ _, hgs⟩
        case rest =>
          obtain ⟨rfl, hst8, hb8, _⟩ := hcut
          have HS8 := Lib.hid hst8; have HB8 := Lib.hid hb8
          clear hst8 hb8 HQ HST hgs hix
          cases b with
          | false =>
            have hx := HX.out
            simp only [Bool.false_eq_true, if_false, Option.some.injEq, Prod.mk.injEq] at hx
            obtain ⟨rfl, rfl, rfl⟩ := hx
            obtain ⟨hp, b0, b1, b2, b3, b4, f0, f1, f2, f3, f4⟩ := HS8.out.facts
            go_wp2
            go_region
            go_wp2
            clear hp b0 b1 b2 b3 b4 f0 f1 f2 f3 f4
            have HZ := Lib.hid HS8.out.zero5
            obtain ⟨hp, b0, b1, b2, b3, b4, f0, f1, f2, f3, f4⟩ := HZ.out.facts
            refine bodyPost_ret (v := .tuple #[.agg #[.int .u64 0, .int .u64 0, .int .u64 0, .int .u64 0, .int .u64 0], .int .i64 p1, .int .i64 26]) ?_ rfl ?_
            · simp [results, Tryd.results11, go_sem, b0, b1, b2, b3, b4]
            · have hr := HR.out
              rw [if_neg (by decide)] at hr
              obtain rfl := (Option.some.inj hr).symm
              exact ⟨rfl, HZ.out.below⟩
          | true =>
            have hx := HX.out
            simp only [if_true] at hx
            obtain ⟨⟨v, ok, s2, p2⟩, hq, hx⟩ := Option.bind_eq_some_iff.1 hx
            have hcall := OA.cron_reader_set.calls kk (w.heap.size + 1) s1 p1 lo hi v ok s2 p2 w _ HS8.out.1 HS8.out.2.2.2 hq
            have HCALL := Lib.hid hcall
            have d0 := Blk.blk_cell HB8.out 0
            have d1 := Blk.blk_cell HB8.out 1
            clear hq hcall HX
            cases ok with
            | false =>
              simp only [Bool.false_eq_true, if_false, Option.some.injEq, Prod.mk.injEq] at hx
              obtain ⟨rfl, rfl, rfl⟩ := hx
              go_wp2_with (go_at_call 22; refine HCALL.out.mono ?_; rintro x w3 ⟨rfl, hi1, hb1, hk1⟩; have HS3 := Lib.hid (St.keep HS8.out hi1 hb1 hk1); clear hi1 hb1 hk1)
              obtain ⟨hp, b0, b1, b2, b3, b4, f0, f1, f2, f3, f4⟩ := HS3.out.facts
              go_region
              go_wp2
              clear hp b0 b1 b2 b3 b4 f0 f1 f2 f3 f4
              have HZ := Lib.hid HS3.out.zero5
              obtain ⟨hp, b0, b1, b2, b3, b4, f0, f1, f2, f3, f4⟩ := HZ.out.facts
              refine bodyPost_ret (v := .tuple #[.agg #[.int .u64 0, .int .u64 0, .int .u64 0, .int .u64 0, .int .u64 0], .int .i64 p2, .int .i64 26]) ?_ rfl ?_
              · simp [results, Tryd.results11, go_sem, b0, b1, b2, b3, b4]
              · have hr := HR.out
                rw [if_neg (by decide)] at hr
                obtain rfl := (Option.some.inj hr).symm
                exact ⟨rfl, HZ.out.below⟩
            | true =>
              have HX := Lib.hid hx
              clear hx
              go_wp2_with (go_at_call 22; refine HCALL.out.mono ?_; rintro x w3 ⟨rfl, hi1, hb1, hk1⟩; have HS3 := Lib.hid (St.keep HS8.out hi1 hb1 hk1); have CC := CV_cell HS3.out.2.2.1 k hlt5; have FF := Blk.blk_frozen HS3.out.2.2.1 k; clear hi1 hb1 hk1)
              go_roundg g'
              case measure => omega
              case rel => exact ⟨k + 1, s2, p2, upd V k v, by go_num, by omega, Lib.hid (by have := HX.out; rwa [if_pos trivial] at this), by first | exact (HS3.out.set k hlt5 v) | exact (HS3.out.set k hlt5 v).drew⟩
      · obtain rfl : gk = 0 := by omega
        have hx := hx.out
        simp only [readF, Option.some.injEq, Prod.mk.injEq] at hx
        obtain ⟨rfl, rfl, rfl⟩ := hx
        have q9 : decide ((k : Int) < 5) = false := by simp; omega
        have hp := HST.out.at
        have hr := HR.out
        rw [if_pos rfl] at hr
        by_cases hpt : p < (t.size : Int)
        · rw [if_pos hpt] at hr
          obtain rfl := (Option.some.inj hr).symm
          have q8 : decide (p < (t.size : Int)) = true := by simpa using hpt
          obtain ⟨hp1, b0, b1, b2, b3, b4, f0, f1, f2, f3, f4⟩ := HST.out.facts
          go_upto_region 16 with (fail)
          go_region
          go_wp2
          clear hp hp1 b0 b1 b2 b3 b4 f0 f1 f2 f3 f4
          have HZ := Lib.hid HST.out.zero5
          obtain ⟨hp, b0, b1, b2, b3, b4, f0, f1, f2, f3, f4⟩ := HZ.out.facts
          refine bodyPost_ret (v := .tuple #[.agg #[.int .u64 0, .int .u64 0, .int .u64 0, .int .u64 0, .int .u64 0], .int .i64 p, .int .i64 26]) ?_ rfl ?_
          · simp [results, Tryd.results11, go_sem, b0, b1, b2, b3, b4]
          · exact ⟨rfl, HZ.out.below⟩
        · rw [if_neg hpt] at hr
          obtain rfl := (Option.some.inj hr).symm
          have q8 : decide (p < (t.size : Int)) = false := by simpa using hpt
          obtain ⟨hp1, b0, b1, b2, b3, b4, f0, f1, f2, f3, f4⟩ := HST.out.facts
          have v0 := CV_cell HST.out.2.2.1 0 (by omega)
          have v1 := CV_cell HST.out.2.2.1 1 (by omega)
          have v2 := CV_cell HST.out.2.2.1 2 (by omega)
          have v3 := CV_cell HST.out.2.2.1 3 (by omega)
          have v4 := CV_cell HST.out.2.2.1 4 (by omega)
          go_upto_region 17 with (fail)
          go_wp2
          clear hp hp1 b0 b1 b2 b3 b4 f0 f1 f2 f3 f4 v0 v1 v2 v3 v4
          have HZ := Lib.hid (HST.out.box5 (V 0) (V 1) (V 2) (V 3) (V 4))
          have b0 := Blk.blk_cell HZ.out.1 0
          have b1 := Blk.blk_cell HZ.out.1 1
          have b2 := Blk.blk_cell HZ.out.1 2
          have b3 := Blk.blk_cell HZ.out.1 3
          have b4 := Blk.blk_cell HZ.out.1 4
          refine bodyPost_ret (v := .tuple #[.agg #[.int .u64 (V 0), .int .u64 (V 1), .int .u64 (V 2), .int .u64 (V 3), .int .u64 (V 4)], .int .i64 0, .int .i64 0]) ?_ rfl ?_
          · simp [results, Tryd.results11, go_sem, b0, b1, b2, b3, b4]
          · exact ⟨rfl, HZ.out.2⟩
theorem readF_mono : ∀ g V s p kk, LeO (readF kk g V s p) (readF (kk + 1) g V s p) := by
  intro g
  induction g with
  | zero => intro V s p kk; exact LeO.refl _
  | succ g ih =>
    intro V s p kk
    unfold readF
    repeat' first
      | (with_reducible exact ih _ _ _ _)
      | (with_reducible exact OA.cron_reader_set.mono _ _ _ _ _)
      | (with_reducible exact LeO.refl _)
      | (with_reducible refine LeO.ite ?_ ?_)
      | (with_reducible refine LeO.bind ?_ (fun _ => ?_))
theorem Read.mono : ∀ a0 k, LeO (Read.f k a0) (Read.f (k + 1) a0) := by
  intro a k
  unfold Read.f
  repeat' first
    | (with_reducible exact readF_mono _ _ _ _ _)
    | (with_reducible exact LeO.refl _)
    | (with_reducible refine LeO.ite ?_ ?_)
    | (with_reducible refine LeO.bind ?_ (fun _ => ?_))
theorem Read.calls (k : Nat) (a0 : ByteArray) (r1 r2 r3 r4 r5 r6 r7 : Int) (w : World) (h : Read.f k a0 = some (r1, r2, r3, r4, r5, r6, r7)) (hL_ : Laid w) :
    Calls Tryd.prog 11 #[.string a0] w fun e w' => e = .returned (.tuple #[.agg #[.int .u64 r1, .int .u64 r2, .int .u64 r3, .int .u64 r4, .int .u64 r5], .int .i64 r6, .int .i64 r7]) ∧ Below w.heap.size w w' :=
  (read_any k a0 _ h w hL_).mono fun x w' hp => hp
end Go.Proofs.YtkmcmgfmahildaaDoor.Ce
