/- The reference's Read. -/
import Derived.Test.YtkmcmgfmahildaaDoorCf
import Derived.Test.YtkmcmgfmahildaaDoorOAx9
namespace Go.Proofs.YtkmcmgfmahildaaDoor.Cz
set_option linter.unusedVariables false
open Go.RowKit Go.Proofs.YtkmcmgfmahildaaDoorW.PrintWords Go.Proofs.YtkmcmgfmahildaaDoor.Laid Go.Proofs.YtkmcmgfmahildaaDoor.Ca Go.Proofs.YtkmcmgfmahildaaDoor.Cf Go.Proofs.YtkmcmgfmahildaaDoor.Blk2

/-- One field's items. -/
def rItems (kk : Nat) : Nat → List Bool → ByteArray → Int → Int → Option (List Bool × Int × Bool)
  | 0, _, _, _, _ => none
  | g + 1, l, s, i, f => (OA.capstanref04_item.f kk s i f l).bind fun t => if t.2.1 = true then (if 0 ≤ t.1 then (if t.1 < (s.size : Int) then (if bt s t.1 = 44 then rItems kk g t.2.2 s (t.1 + 1) f else some (t.2.2, t.1, true)) else some (t.2.2, t.1, true)) else none) else some (t.2.2, t.1, false)
def upd (V : Nat → Int) (k : Nat) (v : Int) : Nat → Int := fun i => if i = k then v else V i
def rField (kk : Nat) (s : ByteArray) (i f : Int) : Option (Int × Int × Bool) :=
  (rItems kk kk (List.replicate 64 false) s i f).bind fun t => if t.2.2 = true then (OA.capstanref04_bitsOf.f kk t.1).bind fun v => some (v, t.2.1, true) else some (0, t.2.1, false)
/-- The fields from a place on. -/
def rF (kk : Nat) : Nat → (Nat → Int) → ByteArray → Int → Option ((Nat → Int) × Int × Int)
  | 0, V, _, i => some (V, i, 0)
  | g + 1, V, s, i => (if 0 < 4 - g then (if 0 ≤ i then (if i < (s.size : Int) then (if bt s i = 32 then some (i + 1, true) else some (i, false)) else some (i, false)) else none) else some (i, true)).bind fun q =>
      if q.2 = true then (rField kk s q.1 (4 - g : Nat)).bind fun t => if t.2.2 = true then rF kk g (upd V (4 - g) t.1) s t.2.1 else some (V, t.2.1, 26)
      else some (V, q.1, 26)
def RRead.f (k : Nat) (a0 : ByteArray) : Option (Int × Int × Int × Int × Int × Int × Int) :=
  if 256 < a0.size then some (0, 0, 0, 0, 0, 0, 2) else
    (rF k 5 (fun _ => 0) a0 0).bind fun r => if r.2.2 = 0 then (if r.2.1 < (a0.size : Int) then some (0, 0, 0, 0, 0, r.2.1, 26) else some (r.1 0, r.1 1, r.1 2, r.1 3, r.1 4, 0, 0)) else some (0, 0, 0, 0, 0, r.2.1, 26)
def CV (V : Nat → Int) : Array Value := #[.int .u64 (V 0), .int .u64 (V 1), .int .u64 (V 2), .int .u64 (V 3), .int .u64 (V 4)]
theorem CV_upd (V : Nat → Int) (k : Nat) (hk : k < 5) (v : Int) : (CV V).setIfInBounds k (.int .u64 v) = CV (upd V k v) := by
  have : k = 0 ∨ k = 1 ∨ k = 2 ∨ k = 3 ∨ k = 4 := by omega
  rcases this with rfl | rfl | rfl | rfl | rfl <;> rfl
theorem CV_cell {w : World} {g : Nat} {V : Nat → Int} {t : TypeId} (h : w.heap[g]? = some (.cells (CV V) t (0, 0))) (k : Nat) (hk : k < 5) : w.cell? ⟨g, k, none⟩ = some (.int .u64 (V k)) := by
  rw [Blk.blk_cell h k]
  have : k = 0 ∨ k = 1 ∨ k = 2 ∨ k = 3 ∨ k = 4 := by omega
  rcases this with rfl | rfl | rfl | rfl | rfl <;> rfl
def Z5 : Obj := .cells #[.int .u64 0, .int .u64 0, .int .u64 0, .int .u64 0, .int .u64 0] 25 (0, 0)
/-- The answer's box, the sets, as they stand. -/
def St (w : World) (V : Nat → Int) (wx : World) : Prop :=
  wx.heap[w.heap.size]? = some Z5 ∧ wx.heap[w.heap.size + 1]? = some (.cells (CV V) 40 (0, 0)) ∧ Below w.heap.size w wx
section
variable {w wx w' : World} {V : Nat → Int}
theorem St.lt (h : St w V wx) : w.heap.size + 1 < wx.heap.size := Blk.blk_lt h.2.1
theorem St.kept (h : St w V wx) (hb : Below w.heap.size w w') {S : Nat → Prop} (hk : Kept wx w' S) (h0 : ¬ S w.heap.size) (h1 : ¬ S (w.heap.size + 1)) : St w V w' :=
  ⟨(hk.2 _ (Blk.blk_lt h.1) h0).trans h.1, (hk.2 _ (Blk.blk_lt h.2.1) h1).trans h.2.1, hb⟩
theorem St.alloc (h : St w V wx) (o : Obj) : St w V (wx.alloc o) := ⟨Blk.blk_alloc h.1 o, Blk.blk_alloc h.2.1 o, h.2.2.alloc h.2.2.size _⟩
theorem St.drew (h : St w V wx) : St w V wx.drew := ⟨h.1, h.2.1, h.2.2.drew⟩
theorem St.drewN (h : St w V wx) (n : Nat) : St w V (wx.drewN n) := ⟨Blk2.blk_drewN h.1 n, Blk2.blk_drewN h.2.1 n, Blk.below_drewN h.2.2 n⟩
theorem St.grown (h : St w V wx) (hb : Below w.heap.size w w') (hg : wx.grownBy w' none) : St w V w' := ⟨Blk.blk_grown h.1 hg (by simp), Blk.blk_grown h.2.1 hg (by simp), hb⟩
theorem St.set (h : St w V wx) (k : Nat) (hk : k < 5) (v : Int) : St w (upd V k v) (wx.setCell ⟨w.heap.size + 1, k, none⟩ (.int .u64 v)) :=
  ⟨Blk.blk_far h.1 (by show w.heap.size ≠ w.heap.size + 1; omega) _, by have := Blk.blk_set h.2.1 k (.int .u64 v); rw [CV_upd V k hk v] at this; exact this, h.2.2.setCell (by show w.heap.size ≤ w.heap.size + 1; omega) _⟩
theorem St.zero (h : St w V wx) (k : Nat) (hk : k < 5) : St w V (wx.setCell ⟨w.heap.size, k, none⟩ (.int .u64 0)) :=
  ⟨by
    have := Blk.blk_set h.1 k (.int .u64 0)
    have hk : k = 0 ∨ k = 1 ∨ k = 2 ∨ k = 3 ∨ k = 4 := by omega
    rcases hk with rfl | rfl | rfl | rfl | rfl <;> exact this, Blk.blk_far h.2.1 (by show w.heap.size + 1 ≠ w.heap.size; omega) _, h.2.2.setCell (by show w.heap.size ≤ w.heap.size; omega) _⟩
end
theorem St.zero5 {w wx : World} {V : Nat → Int} (h : St w V wx) : St w V (((((wx.setCell ⟨w.heap.size, 0, none⟩ (.int .u64 0)).setCell ⟨w.heap.size, 1, none⟩ (.int .u64 0)).setCell ⟨w.heap.size, 2, none⟩ (.int .u64 0)).setCell ⟨w.heap.size, 3, none⟩ (.int .u64 0)).setCell ⟨w.heap.size, 4, none⟩ (.int .u64 0)) :=
  ((((h.zero 0 (by omega)).zero 1 (by omega)).zero 2 (by omega)).zero 3 (by omega)).zero 4 (by omega)
def Facts (w wx : World) : Prop :=
  wx.cell? ⟨w.heap.size, 0, none⟩ = some (.int .u64 0) ∧ wx.cell? ⟨w.heap.size, 1, none⟩ = some (.int .u64 0) ∧ wx.cell? ⟨w.heap.size, 2, none⟩ = some (.int .u64 0) ∧ wx.cell? ⟨w.heap.size, 3, none⟩ = some (.int .u64 0) ∧ wx.cell? ⟨w.heap.size, 4, none⟩ = some (.int .u64 0) ∧
  wx.frozen? ⟨w.heap.size, 0, none⟩ = false ∧ wx.frozen? ⟨w.heap.size, 1, none⟩ = false ∧ wx.frozen? ⟨w.heap.size, 2, none⟩ = false ∧ wx.frozen? ⟨w.heap.size, 3, none⟩ = false ∧ wx.frozen? ⟨w.heap.size, 4, none⟩ = false
theorem St.facts {w wx : World} {V : Nat → Int} (h : St w V wx) : Facts w wx :=
  ⟨Blk.blk_cell h.1 0, Blk.blk_cell h.1 1, Blk.blk_cell h.1 2, Blk.blk_cell h.1 3, Blk.blk_cell h.1 4, Blk.blk_frozen h.1 0, Blk.blk_frozen h.1 1, Blk.blk_frozen h.1 2, Blk.blk_frozen h.1 3, Blk.blk_frozen h.1 4⟩
theorem St.box5 {w wx : World} {V : Nat → Int} (h : St w V wx) (x0 x1 x2 x3 x4 : Int) :
    ((((((wx.setCell ⟨w.heap.size, 0, none⟩ (.int .u64 x0)).setCell ⟨w.heap.size, 1, none⟩ (.int .u64 x1)).setCell ⟨w.heap.size, 2, none⟩ (.int .u64 x2)).setCell ⟨w.heap.size, 3, none⟩ (.int .u64 x3)).setCell ⟨w.heap.size, 4, none⟩ (.int .u64 x4))).heap[w.heap.size]? = some (.cells #[.int .u64 x0, .int .u64 x1, .int .u64 x2, .int .u64 x3, .int .u64 x4] 25 (0, 0)) ∧
    Below w.heap.size w ((((((wx.setCell ⟨w.heap.size, 0, none⟩ (.int .u64 x0)).setCell ⟨w.heap.size, 1, none⟩ (.int .u64 x1)).setCell ⟨w.heap.size, 2, none⟩ (.int .u64 x2)).setCell ⟨w.heap.size, 3, none⟩ (.int .u64 x3)).setCell ⟨w.heap.size, 4, none⟩ (.int .u64 x4))) := by
  have h0 : _ = some (Obj.cells #[.int .u64 x0, .int .u64 0, .int .u64 0, .int .u64 0, .int .u64 0] 25 (0, 0)) := Blk.blk_set h.1 0 (.int .u64 x0)
  have h1 : _ = some (Obj.cells #[.int .u64 x0, .int .u64 x1, .int .u64 0, .int .u64 0, .int .u64 0] 25 (0, 0)) := Blk.blk_set h0 1 (.int .u64 x1)
  have h2 : _ = some (Obj.cells #[.int .u64 x0, .int .u64 x1, .int .u64 x2, .int .u64 0, .int .u64 0] 25 (0, 0)) := Blk.blk_set h1 2 (.int .u64 x2)
  have h3 : _ = some (Obj.cells #[.int .u64 x0, .int .u64 x1, .int .u64 x2, .int .u64 x3, .int .u64 0] 25 (0, 0)) := Blk.blk_set h2 3 (.int .u64 x3)
  have h4 : _ = some (Obj.cells #[.int .u64 x0, .int .u64 x1, .int .u64 x2, .int .u64 x3, .int .u64 x4] 25 (0, 0)) := Blk.blk_set h3 4 (.int .u64 x4)
  exact ⟨h4, ((((h.2.2.setCell (Nat.le_refl w.heap.size) _).setCell (Nat.le_refl w.heap.size) _).setCell (Nat.le_refl w.heap.size) _).setCell (Nat.le_refl w.heap.size) _).setCell (Nat.le_refl w.heap.size) _⟩
/-- A place in the text, behind a field's ahead mark. -/
def Mid (w : World) (i : Int) (V : Nat → Int) (s6 : Value) (wx : World) : Prop := s6 = .int .i64 i ∧ St w V wx
/-- The slice that marks the numbers. -/
def Own (w : World) (v : Value) (l : List Bool) (wx : World) : Prop := Kd.R Kd.bool 4 wx w.heap.size (fun k => w.heap.size + 1 < k) v l
theorem bt_nat (s : ByteArray) (n : Nat) (h : n < s.size) : bt s (n : Int) = (s[n].toNat : Int) := by
  unfold bt
  rw [dif_pos (by simpa using h)]
  simp
def RPost (r : Int × Int × Int × Int × Int × Int × Int) (w : World) (x : Ending) (w' : World) : Prop :=
  x = .returned (.tuple #[.agg #[.int .u64 r.1, .int .u64 r.2.1, .int .u64 r.2.2.1, .int .u64 r.2.2.2.1, .int .u64 r.2.2.2.2.1], .int .i64 r.2.2.2.2.2.1, .int .i64 r.2.2.2.2.2.2]) ∧ Below w.heap.size w w'
theorem info4 : (Tryd.prog.info? 4).map (fun i => (i.zero, i.size, i.bytes)) = some (some (.bool false), 1, 1) := by kernel_rfl
set_option maxHeartbeats 8000000 in
set_option maxRecDepth 100000 in
theorem rread_any (kk : Nat) (t : ByteArray) (r : Int × Int × Int × Int × Int × Int × Int) (h : RRead.f kk t = some r) (w : World) : Calls Tryd.prog 12 #[.string t] w (RPost r w) := by
  by_cases hz : 256 < t.size
  · have e : r = (0, 0, 0, 0, 0, 0, 2) := by unfold RRead.f at h; rw [if_pos hz] at h; exact (Option.some.inj h).symm
    subst e
    clear h
    go_enter Tryd.func12, Tryd.ntmps12
    go_wp2
    go_returns
    exact ⟨rfl, (Below.refl _ _).alloc (Nat.le_refl _) _⟩
  · have e : ((rF kk 5 (fun _ => 0) t 0).bind fun r => if r.2.2 = 0 then (if r.2.1 < (t.size : Int) then some (0, 0, 0, 0, 0, r.2.1, 26) else some (r.1 0, r.1 1, r.1 2, r.1 3, r.1 4, 0, 0)) else some (0, 0, 0, 0, 0, r.2.1, 26)) = some r := by unfold RRead.f at h; rw [if_neg hz] at h; exact h
    obtain ⟨⟨F, P, E⟩, he, e2⟩ := Option.bind_eq_some_iff.1 e
    simp only at e2
    have HE := Lib.hid he; have HR := Lib.hid e2
    clear h he e e2
    go_enter Tryd.func12, Tryd.ntmps12
    go_wp2
    go_loopg [6, 7, 8, 9, 10] 5 (fun gf v6 v7 v8 v9 v10 wx => ∃ (k : Nat) (i : Int) (V : Nat → Int), v6 = .int .i64 i ∧ v7 = .int .i64 k ∧ k + gf = 5 ∧ Hid (rF kk gf V t i = some (F, P, E)) ∧ St w V wx)
    case atStart => exact ⟨0, 0, fun _ => 0, rfl, rfl, rfl, HE, Blk.blk_alloc (Blk.blk_new _ _) _, Blk.blk_at _ _ _ (by simp), ((Below.refl _ _).alloc (Nat.le_refl _) _).alloc (by simp) _⟩
    case round =>
      clear HE
      obtain ⟨k, i, V, rfl, rfl, hk, hx, hst⟩ := hrel
      have HST := Lib.hid hst; clear hst
      by_cases hlt5 : k < 5
      · obtain ⟨g', rfl⟩ : ∃ g', gk = g' + 1 := ⟨gk - 1, by omega⟩
        have hx1 := hx.out
        unfold rF at hx1
        rw [show 4 - g' = k from by omega] at hx1
        obtain ⟨⟨i1, b⟩, hq, hx2⟩ := Option.bind_eq_some_iff.1 hx1
        have HQ := Lib.hid hq; have HX := Lib.hid hx2
        clear hq hx1 hx2 hx
        have q9 : decide ((k : Int) < 5) = true := by simp; omega
        cases b with
        | false =>
          have hq := HQ.out
          have hx := HX.out
          simp only [Bool.false_eq_true, if_false, Option.some.injEq, Prod.mk.injEq] at hx
          obtain ⟨rfl, rfl, rfl⟩ := hx
          have hr := HR.out
          rw [if_neg (by decide)] at hr
          obtain rfl := (Option.some.inj hr).symm
          clear hr HX HR HQ
          have h0 : 0 < k := by
            rcases Nat.lt_or_ge 0 k with h | h
            · exact h
            · rw [if_neg (by omega)] at hq; simp at hq
          rw [if_pos h0] at hq
          have hi0 : 0 ≤ i := by
            by_cases h : 0 ≤ i
            · exact h
            · rw [if_neg h] at hq; cases hq
          obtain ⟨n, rfl⟩ : ∃ n : Nat, i = n := ⟨i.toNat, by omega⟩
          rw [if_pos hi0] at hq
          have q0 : decide (0 < (k : Int)) = true := by simpa using h0
          by_cases hn : n < t.size
          · rw [if_pos (by omega)] at hq
            have q1 : decide ((t.size : Int) ≤ (n : Int)) = false := by simp; omega
            have q2 : ((t[n].toNat : Int) != 32) = true := by
              rw [bt_nat t n hn] at hq
              split at hq
              · simp at hq
              · simpa using ‹_›
            have e1 : (n : Int) = i1 := by
              rw [bt_nat t n hn] at hq
              split at hq <;> simp at hq
              exact hq
            subst e1
            clear hq hi0
            obtain ⟨b0, b1, b2, b3, b4, f0, f1, f2, f3, f4⟩ := HST.out.facts
            go_wp2
            clear b0 b1 b2 b3 b4 f0 f1 f2 f3 f4
            have HZ := Lib.hid HST.out.zero5
            obtain ⟨b0, b1, b2, b3, b4, f0, f1, f2, f3, f4⟩ := HZ.out.facts
            refine bodyPost_ret (v := .tuple #[.agg #[.int .u64 0, .int .u64 0, .int .u64 0, .int .u64 0, .int .u64 0], .int .i64 n, .int .i64 26]) ?_ rfl ?_
            · simp [results, Tryd.results12, go_sem, b0, b1, b2, b3, b4]
            · exact ⟨rfl, HZ.out.2.2⟩
          · rw [if_neg (by omega)] at hq
            simp only [Option.some.injEq, Prod.mk.injEq] at hq
            have e1 := hq.1
            subst e1
            have q1 : decide ((t.size : Int) ≤ (n : Int)) = true := by simp; omega
            clear hq hi0
            obtain ⟨b0, b1, b2, b3, b4, f0, f1, f2, f3, f4⟩ := HST.out.facts
            go_wp2
            clear b0 b1 b2 b3 b4 f0 f1 f2 f3 f4
            have HZ := Lib.hid HST.out.zero5
            obtain ⟨b0, b1, b2, b3, b4, f0, f1, f2, f3, f4⟩ := HZ.out.facts
            refine bodyPost_ret (v := .tuple #[.agg #[.int .u64 0, .int .u64 0, .int .u64 0, .int .u64 0, .int .u64 0], .int .i64 n, .int .i64 26]) ?_ rfl ?_
            · simp [results, Tryd.results12, go_sem, b0, b1, b2, b3, b4]
            · exact ⟨rfl, HZ.out.2.2⟩
        | true =>
          go_upto_if 20 with (fail)
          go_cut [6] from 15 to 64 (Mid w i1 V)
          case first =>
            have hq := HQ.out
            clear HX HQ HR
            by_cases h0 : 0 < k
            · rw [if_pos h0] at hq
              have hi0 : 0 ≤ i := by
                by_cases h : 0 ≤ i
                · exact h
                · rw [if_neg h] at hq; cases hq
              obtain ⟨n, rfl⟩ : ∃ n : Nat, i = n := ⟨i.toNat, by omega⟩
              rw [if_pos hi0] at hq
              have hn : n < t.size := by
                rcases Nat.lt_or_ge n t.size with h | h
                · exact h
                · rw [if_neg (by omega)] at hq; simp at hq
              rw [if_pos (by omega), bt_nat t n hn] at hq
              have q2 : ((t[n].toNat : Int) != 32) = false := by
                split at hq
                · rename_i h; simpa using h
                · simp at hq
              have e1 : (n : Int) + 1 = i1 := by
                split at hq <;> simp at hq
                exact hq
              have q0 : decide (0 < (k : Int)) = true := by simpa using h0
              have q1 : decide ((t.size : Int) ≤ (n : Int)) = false := by simp; omega
              have E1 := Lib.hid e1
              clear hq e1 hi0
              go_wp2
              go_meet
              exact ⟨by rw [E1.out], HST.out⟩
            · have q0 : decide (0 < (k : Int)) = false := by simp; omega
              rw [if_neg h0] at hq
              simp only [Option.some.injEq, Prod.mk.injEq] at hq
              have e1 := hq.1
              subst e1
              have q0' : decide (0 < k) = false := by simp; omega
              clear hq
              go_wp2
              go_meet
              exact ⟨rfl, HST.out⟩
          case rest =>
            obtain ⟨rfl, hst⟩ := hcut
            have HST1 := Lib.hid hst; clear hst
            have hw0 : w.heap.size ≤ wc.heap.size := HST1.out.2.2.size
            have hsz := HST1.out.lt
            have hx1 := HX.out
            simp only [if_true] at hx1
            obtain ⟨⟨v, P2, B2⟩, hf, hx2⟩ := Option.bind_eq_some_iff.1 hx1
            unfold rField at hf
            obtain ⟨⟨L, P3, B3⟩, hi, hf2⟩ := Option.bind_eq_some_iff.1 hf
            have HI := Lib.hid hi; have HF := Lib.hid hf2; have HX2 := Lib.hid hx2
            clear hi hf hf2 hx1 hx2 HX HQ
            go_wp2_with ((with_reducible refine gate_dst (N := 35) rfl ?_); refine Kd.R_make Kd.bool (w0 := w) w.heap.size 4 rfl (N := 35) rfl 47 _ _ rfl 64 rfl rfl Tryd.underlying47 (.bool false) 1 info4 rfl (by decide) (by omega) false (ok := fun k_ => w.heap.size + 1 < k_) (okp := fun _ => False) rfl (fun _ h => h.elim) hsz (by omega) (by omega) HST1.out.2.2 hw0 ?_; intro v1 w1 hR hB hG _; have HR1 := Lib.hid hR; have HS1 := Lib.hid (HST1.out.grown hB hG); clear hR hB hG)
            go_loopg [6, 9, 10] kk (fun gi v6 v9 v10 wx => ∃ (l : List Bool) (j : Int), v6 = .int .i64 j ∧ Hid (rItems kk gi l t j k = some (L, P3, B3)) ∧ Own w v1 l wx ∧ St w V wx)
            case atStart => exact ⟨_, _, rfl, HI, HR1.out, HS1.out⟩
            case round =>
              clear HI HR1 HS1 hw0 hsz HST1
              obtain ⟨l, j, rfl, hit, how, hst⟩ := hrel
              have HOW := Lib.hid how; have HS := Lib.hid hst; clear how hst
              obtain ⟨gi, rfl⟩ : ∃ g, gk = g + 1 := by
                rcases gk with _ | g
                · have := hit.out; simp [rItems] at this
                · exact ⟨g, rfl⟩
              have h1 := hit.out
              unfold rItems at h1
              obtain ⟨⟨at_, ok, l2⟩, hc, h2⟩ := Option.bind_eq_some_iff.1 h1
              have HCALL := Lib.hid (OA.capstanref04_item.calls kk t j k (fun k_ => w.heap.size + 1 < k_) v1 l at_ ok l2 w _ HS.out.2.2 HOW.out hc)
              have H2 := Lib.hid h2
              clear h1 h2 hc hit
              cases ok with
              | false =>
                have h2 := H2.out
                simp only [Bool.false_eq_true, if_false, Option.some.injEq, Prod.mk.injEq] at h2
                obtain ⟨rfl, rfl, rfl⟩ := h2
                have h3 := HF.out
                simp only [Bool.false_eq_true, if_false, Option.some.injEq, Prod.mk.injEq] at h3
                obtain ⟨rfl, rfl, rfl⟩ := h3
                have h4 := HX2.out
                simp only [Bool.false_eq_true, if_false, Option.some.injEq, Prod.mk.injEq] at h4
                obtain ⟨rfl, rfl, rfl⟩ := h4
                have hr := HR.out
                rw [if_neg (by decide)] at hr
                obtain rfl := (Option.some.inj hr).symm
                clear hr HX2 HF H2 HR
                go_wp2_with (go_at_call 23; refine HCALL.out.mono ?_; rintro x w3 ⟨rfl, hr3, hb3, hk3⟩; have HR3 := Lib.hid (Kd.R_mono hr3 (fun k_ hk_ => hk_.elim id (fun h => Nat.lt_of_lt_of_le HS.out.lt h))); have HS3 := Lib.hid (HS.out.kept hb3 hk3 (by omega) (by omega)); obtain ⟨b0, b1, b2, b3, b4, f0, f1, f2, f3, f4⟩ := HS3.out.facts; clear hr3 hb3 hk3)
                have HZ := Lib.hid HS3.out.zero5
                clear b0 b1 b2 b3 b4 f0 f1 f2 f3 f4
                obtain ⟨b0, b1, b2, b3, b4, f0, f1, f2, f3, f4⟩ := HZ.out.facts
                refine bodyPost_ret (v := .tuple #[.agg #[.int .u64 0, .int .u64 0, .int .u64 0, .int .u64 0, .int .u64 0], .int .i64 at_, .int .i64 26]) ?_ rfl ?_
                · simp [results, Tryd.results12, go_sem, b0, b1, b2, b3, b4]
                · exact ⟨rfl, HZ.out.2.2⟩
              | true =>
                have h2 := H2.out
                simp only [if_true] at h2
                have hi0 : 0 ≤ at_ := by
                  by_cases h : 0 ≤ at_
                  · exact h
                  · rw [if_neg h] at h2; cases h2
                obtain ⟨n, rfl⟩ : ∃ n : Nat, at_ = n := ⟨at_.toNat, by omega⟩
                rw [if_pos hi0] at h2
                have hdone : ∀ wy : World, St w V wy → Own w v1 l2 wy → some (l2, (n : Int), true) = some (L, P3, B3) → (∃ A c, v1 = .slice A L.length c ∧ L.length ≤ c ∧ Kd.C Kd.bool wy A L.length L) ∧ OA.capstanref04_bitsOf.f kk L = some v ∧ P2 = n ∧ rF kk g' (upd V k v) t n = some (F, P, E) := by
                  intro wy _ ho he
                  simp only [Option.some.injEq, Prod.mk.injEq] at he
                  obtain ⟨rfl, rfl, rfl⟩ := he
                  have h3 := HF.out
                  simp only [if_true] at h3
                  obtain ⟨v', hv, h3⟩ := Option.bind_eq_some_iff.1 h3
                  simp only [Option.some.injEq, Prod.mk.injEq] at h3
                  obtain ⟨rfl, rfl, rfl⟩ := h3
                  have h4 := HX2.out
                  simp only [if_true] at h4
                  exact ⟨Kd.R_reads ho, hv, rfl, h4⟩
                have HD := Lib.hid hdone
                clear hdone hi0
                by_cases hn : n < t.size
                · rw [if_pos (by omega), bt_nat t n hn] at h2
                  have q1 : decide ((t.size : Int) ≤ (n : Int)) = false := by simp; omega
                  have q1' : decide (t.size ≤ n) = false := by simp; omega
                  by_cases h44 : (t[n].toNat : Int) = 44
                  · rw [if_pos h44] at h2
                    have q2 : ((t[n].toNat : Int) != 44) = false := by simpa using h44
                    have H3 := Lib.hid h2
                    clear h44 h2 H2 HD
                    go_wp2_with (go_at_call 23; refine HCALL.out.mono ?_; rintro x w3 ⟨rfl, hr3, hb3, hk3⟩; have HR3 := Lib.hid (Kd.R_mono hr3 (fun k_ hk_ => hk_.elim id (fun h => Nat.lt_of_lt_of_le HS.out.lt h))); have HS3 := Lib.hid (HS.out.kept hb3 hk3 (by omega) (by omega));  clear hr3 hb3 hk3)
                    go_roundg gi
                    case measure => omega
                    case rel => exact ⟨l2, _, rfl, H3.out, HR3.out, HS3.out⟩
                  · rw [if_neg h44] at h2
                    have q2 : ((t[n].toNat : Int) != 44) = true := by simpa using h44
                    have H3 := Lib.hid h2
                    clear h44 h2 H2
                    go_wp2_with (go_at_call 23; refine HCALL.out.mono ?_; rintro x w3 ⟨rfl, hr3, hb3, hk3⟩; have HR3 := Lib.hid (Kd.R_mono hr3 (fun k_ hk_ => hk_.elim id (fun h => Nat.lt_of_lt_of_le HS.out.lt h))); have HS3 := Lib.hid (HS.out.kept hb3 hk3 (by omega) (by omega));  clear hr3 hb3 hk3)
                    obtain ⟨⟨A, c, hv1, hcl, hC⟩, hbits, hP2, hrf⟩ := HD.out w3 HS3.out HR3.out H3.out
                    subst hv1
                    have HRF := Lib.hid hrf
                    clear hP2 hrf HCALL
                    refine (OA.capstanref04_bitsOf.calls kk A c L v _ hC hcl hbits).mono ?_
                    rintro x w4 ⟨rfl, ⟨nd, rfl⟩⟩
                    have HS4 := Lib.hid (HS3.out.drewN nd)
                    have CC := CV_cell HS4.out.2.1 k hlt5
                    have FF := Blk.blk_frozen HS4.out.2.1 k
                    clear hC hcl hbits HD H3
                    go_wp2
                    go_roundg g'
                    case measure => omega
                    case rel => exact ⟨k + 1, n, upd V k v, rfl, by go_num, by omega, HRF.out, by first | exact HS4.out.set k hlt5 v | exact (HS4.out.set k hlt5 v).drew⟩
                · rw [if_neg (by omega)] at h2
                  have q1 : decide ((t.size : Int) ≤ (n : Int)) = true := by simp; omega
                  have q1' : decide (t.size ≤ n) = true := by simp; omega
                  have H3 := Lib.hid h2
                  clear h2 H2
                  go_wp2_with (go_at_call 23; refine HCALL.out.mono ?_; rintro x w3 ⟨rfl, hr3, hb3, hk3⟩; have HR3 := Lib.hid (Kd.R_mono hr3 (fun k_ hk_ => hk_.elim id (fun h => Nat.lt_of_lt_of_le HS.out.lt h))); have HS3 := Lib.hid (HS.out.kept hb3 hk3 (by omega) (by omega));  clear hr3 hb3 hk3)
                  obtain ⟨⟨A, c, hv1, hcl, hC⟩, hbits, hP2, hrf⟩ := HD.out w3 HS3.out HR3.out H3.out
                  subst hv1
                  have HRF := Lib.hid hrf
                  clear hP2 hrf HCALL
                  refine (OA.capstanref04_bitsOf.calls kk A c L v _ hC hcl hbits).mono ?_
                  rintro x w4 ⟨rfl, ⟨nd, rfl⟩⟩
                  have HS4 := Lib.hid (HS3.out.drewN nd)
                  have CC := CV_cell HS4.out.2.1 k hlt5
                  have FF := Blk.blk_frozen HS4.out.2.1 k
                  clear hC hcl hbits HD H3
                  go_wp2
                  go_roundg g'
                  case measure => omega
                  case rel => exact ⟨k + 1, n, upd V k v, rfl, by go_num, by omega, HRF.out, by first | exact HS4.out.set k hlt5 v | exact (HS4.out.set k hlt5 v).drew⟩
      · obtain rfl : gk = 0 := by omega
        have hx1 := hx.out
        simp only [rF, Option.some.injEq, Prod.mk.injEq] at hx1
        obtain ⟨rfl, rfl, rfl⟩ := hx1
        have q9 : decide ((k : Int) < 5) = false := by simp; omega
        have hr := HR.out
        rw [if_pos rfl] at hr
        by_cases hpt : i < (t.size : Int)
        · rw [if_pos hpt] at hr
          obtain rfl := (Option.some.inj hr).symm
          have q8 : decide (i < (t.size : Int)) = true := by simpa using hpt
          clear hr HR hx
          obtain ⟨b0, b1, b2, b3, b4, f0, f1, f2, f3, f4⟩ := HST.out.facts
          go_wp2
          clear b0 b1 b2 b3 b4 f0 f1 f2 f3 f4
          have HZ := Lib.hid HST.out.zero5
          obtain ⟨b0, b1, b2, b3, b4, f0, f1, f2, f3, f4⟩ := HZ.out.facts
          refine bodyPost_ret (v := .tuple #[.agg #[.int .u64 0, .int .u64 0, .int .u64 0, .int .u64 0, .int .u64 0], .int .i64 i, .int .i64 26]) ?_ rfl ?_
          · simp [results, Tryd.results12, go_sem, b0, b1, b2, b3, b4]
          · exact ⟨rfl, HZ.out.2.2⟩
        · rw [if_neg hpt] at hr
          obtain rfl := (Option.some.inj hr).symm
          have q8 : decide (i < (t.size : Int)) = false := by simpa using hpt
          clear hr HR hx
          obtain ⟨b0, b1, b2, b3, b4, f0, f1, f2, f3, f4⟩ := HST.out.facts
          have v0 := CV_cell HST.out.2.1 0 (by omega)
          have v1 := CV_cell HST.out.2.1 1 (by omega)
          have v2 := CV_cell HST.out.2.1 2 (by omega)
          have v3 := CV_cell HST.out.2.1 3 (by omega)
          have v4 := CV_cell HST.out.2.1 4 (by omega)
          go_wp2
          clear b0 b1 b2 b3 b4 f0 f1 f2 f3 f4 v0 v1 v2 v3 v4
          have HZ := Lib.hid (HST.out.box5 (V 0) (V 1) (V 2) (V 3) (V 4))
          have b0 := Blk.blk_cell HZ.out.1 0
          have b1 := Blk.blk_cell HZ.out.1 1
          have b2 := Blk.blk_cell HZ.out.1 2
          have b3 := Blk.blk_cell HZ.out.1 3
          have b4 := Blk.blk_cell HZ.out.1 4
          refine bodyPost_ret (v := .tuple #[.agg #[.int .u64 (V 0), .int .u64 (V 1), .int .u64 (V 2), .int .u64 (V 3), .int .u64 (V 4)], .int .i64 0, .int .i64 0]) ?_ rfl ?_
          · simp [results, Tryd.results12, go_sem, b0, b1, b2, b3, b4]
          · exact ⟨rfl, HZ.out.2⟩
theorem rItems_mono : ∀ g l s i f kk, LeO (rItems kk g l s i f) (rItems (kk + 1) g l s i f) := by
  intro g
  induction g with
  | zero => intro l s i f kk; exact LeO.refl _
  | succ g ih =>
    intro l s i f kk
    unfold rItems
    repeat' first
      | (with_reducible exact ih _ _ _ _ _)
      | (with_reducible exact OA.capstanref04_item.mono _ _ _ _ _)
      | (with_reducible exact LeO.refl _)
      | (with_reducible refine LeO.ite ?_ ?_)
      | (with_reducible refine LeO.bind ?_ (fun _ => ?_))
theorem rItems_more : ∀ g l s i f kk, LeO (rItems kk g l s i f) (rItems kk (g + 1) l s i f) := by
  intro g
  induction g with
  | zero => intro l s i f kk r h; simp [rItems] at h
  | succ g ih =>
    intro l s i f kk
    have e1 : rItems kk (g + 1) l s i f = (OA.capstanref04_item.f kk s i f l).bind fun t => if t.2.1 = true then (if 0 ≤ t.1 then (if t.1 < (s.size : Int) then (if bt s t.1 = 44 then rItems kk g t.2.2 s (t.1 + 1) f else some (t.2.2, t.1, true)) else some (t.2.2, t.1, true)) else none) else some (t.2.2, t.1, false) := rfl
    have e2 : rItems kk (g + 1 + 1) l s i f = (OA.capstanref04_item.f kk s i f l).bind fun t => if t.2.1 = true then (if 0 ≤ t.1 then (if t.1 < (s.size : Int) then (if bt s t.1 = 44 then rItems kk (g + 1) t.2.2 s (t.1 + 1) f else some (t.2.2, t.1, true)) else some (t.2.2, t.1, true)) else none) else some (t.2.2, t.1, false) := rfl
    rw [e1, e2]
    repeat' first
      | (with_reducible exact ih _ _ _ _ _)
      | (with_reducible exact LeO.refl _)
      | (with_reducible refine LeO.ite ?_ ?_)
      | (with_reducible refine LeO.bind ?_ (fun _ => ?_))
theorem rField_mono (s : ByteArray) (i f : Int) (kk : Nat) : LeO (rField kk s i f) (rField (kk + 1) s i f) := by
  unfold rField
  refine LeO.bind (fun r h => rItems_mono _ _ _ _ _ _ _ (rItems_more _ _ _ _ _ _ _ h)) (fun _ => ?_)
  repeat' first
    | (with_reducible exact OA.capstanref04_bitsOf.mono _ _)
    | (with_reducible exact LeO.refl _)
    | (with_reducible refine LeO.ite ?_ ?_)
    | (with_reducible refine LeO.bind ?_ (fun _ => ?_))
theorem rF_mono : ∀ g V s i kk, LeO (rF kk g V s i) (rF (kk + 1) g V s i) := by
  intro g
  induction g with
  | zero => intro V s p kk; exact LeO.refl _
  | succ g ih =>
    intro V s p kk
    unfold rF
    repeat' first
      | (with_reducible exact ih _ _ _ _)
      | (with_reducible exact rField_mono _ _ _ _)
      | (with_reducible exact LeO.refl _)
      | (with_reducible refine LeO.ite ?_ ?_)
      | (with_reducible refine LeO.bind ?_ (fun _ => ?_))
theorem RRead.mono : ∀ a0 k, LeO (RRead.f k a0) (RRead.f (k + 1) a0) := by
  intro a k
  unfold RRead.f
  repeat' first
    | (with_reducible exact rF_mono _ _ _ _ _)
    | (with_reducible exact LeO.refl _)
    | (with_reducible refine LeO.ite ?_ ?_)
    | (with_reducible refine LeO.bind ?_ (fun _ => ?_))
theorem RRead.calls (k : Nat) (a0 : ByteArray) (r1 r2 r3 r4 r5 r6 r7 : Int) (w : World) (h : RRead.f k a0 = some (r1, r2, r3, r4, r5, r6, r7)) :
    Calls Tryd.prog 12 #[.string a0] w fun e w' => e = .returned (.tuple #[.agg #[.int .u64 r1, .int .u64 r2, .int .u64 r3, .int .u64 r4, .int .u64 r5], .int .i64 r6, .int .i64 r7]) ∧ Below w.heap.size w w' :=
  (rread_any k a0 _ h w).mono fun x w' hp => hp
end Go.Proofs.YtkmcmgfmahildaaDoor.Cz
