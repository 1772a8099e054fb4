/- (*reader).program: a whole program taken, or the reader gives up. -/
import Derived.Test.YtkdboaaganmagaaCd
import Derived.Test.YtkdboaaganmagaaCe0
import Derived.Deep.RegionHeld3
import Derived.Deep.RegionLaw
import Derived.Outline
import Derived.Deep.Cut
import Derived.Deep.MidRow
namespace Go.Proofs.Ytkdboaaganmagaa.Ce
set_option linter.unusedVariables false
set_option linter.unusedSimpArgs false
open Go.RowKit Go.Proofs.YtkdboaaganmagaaW.PrintWords Go.Proofs.Ytkdboaaganmagaa.OP Go.Proofs.Ytkdboaaganmagaa.Ca Go.Proofs.Ytkdboaaganmagaa.Cd

def PB (p : Pg) (v6 v7 v8 v11 : Value) : Array Value := #[.int .i64 p.a0, .int .i64 p.a1, .int .i64 p.a2, .int .i64 p.a3, .int .i64 p.a4, .int .i64 p.a5, v6, v7, v8, .int .i64 p.a9, .int .i64 p.a10, v11]
def Z29 : Array Value := #[.int .i64 0, .int .i64 0, .int .i64 0, .int .i64 0, .int .i64 0, .int .i64 0, .slice none 0 0, .slice none 0 0, .slice none 0 0, .int .i64 0, .int .i64 0, .slice none 0 0]
/-- The rows that a program's fields lead to. -/
def Rows (B : Nat) (W : World) (p : Pg) (v6 v7 v8 v11 : Value) : Prop := Kd.R (Kd.int .i64) 2 W B (fun _ => True) v6 p.l6 ∧ Kd.R k51 51 W B (fun _ => True) v7 p.l7 ∧ Kd.R k54 54 W B (fun _ => True) v8 p.l8 ∧ Kd.R k45 45 W B (fun _ => True) v11 p.l11
/-- Where program stands: what is left, the program's box (block b + 1), the answer's box (block b). -/
def Ps (w0 : World) (g b : Nat) (l : List Int) (p : Pg) (v6 v7 v8 v11 : Value) (W : World) : Prop :=
 Rd w0 W g l ∧ InB l ∧ Below w0.heap.size w0 W ∧ W.heap[b]? = some (.cells Z29 29 (0, 0)) ∧ W.heap[b + 1]? = some (.cells (PB p v6 v7 v8 v11) 29 (0, 0)) ∧ Rows b W p v6 v7 v8 v11
def PPost (w0 W : World) (g : Nat) (o : Option Pg) (e : Ending) (W' : World) : Prop :=
 (match o with
  | none => e = .panicked gives
  | some p => ∃ v6 v7 v8 v11, e = .returned (.agg (PB p v6 v7 v8 v11)) ∧ Rows w0.heap.size W' p v6 v7 v8 v11) ∧ Below w0.heap.size w0 W' ∧ KeepBut W W' g none
theorem info2 : (Try.prog.info? 2).map (fun i => (i.zero, i.size, i.bytes)) = some (some (.int .i64 0), 1, 8) := by kernel_rfl
theorem info51 : (Try.prog.info? 51).map (fun i => (i.zero, i.size, i.bytes)) = some (some (.agg #[.int .i64 0, .int .i64 0, .int .i64 0, .int .i64 0]), 4, 32) := by kernel_rfl
theorem info54 : (Try.prog.info? 54).map (fun i => (i.zero, i.size, i.bytes)) = some (some (.agg #[.int .u64 0, .int .u64 0, .int .u64 0, .int .u64 0, .int .u64 0]), 5, 40) := by kernel_rfl
theorem info45 : (Try.prog.info? 45).map (fun i => (i.zero, i.size, i.bytes)) = some (some (.agg #[.int .i64 0, .int .i64 0]), 2, 16) := by kernel_rfl
theorem lit_one {α : Type} {W : World} {k : Nat} {t : TypeId} {fr : Nat × Nat} {R : α → List Value → Prop} (x : α) (cs : List Value) (hR : R x cs) (h : W.heap[k]? = some (.cells cs.toArray t fr)) : ReadsRow R cs.length W (some ⟨k, 0, none⟩) 1 [x] := by
 refine ⟨rfl, by omega, fun _ => ⟨_, rfl, fun j p hj => ?_⟩⟩
 have hj0 : j = 0 := by
  have := (List.getElem?_eq_some_iff.1 hj).1
  simp at this; exact this
 rw [hj0] at hj ⊢
 simp only [List.getElem?_cons_zero, Option.some.injEq] at hj
 subst hj
 refine ⟨cs, rfl, hR, fun i u hu => ?_⟩
 have := Blk.blk_cell h i
 rw [show (⟨k, 0, none⟩ : Addr).add (0 * cs.length + i) = ⟨k, i, none⟩ from by simp [Addr.add]; omega, this]
 simpa using hu
theorem byte_at {w0 : World} {A : Option Addr} {a : Int} {r : List Int} (h : Kd.C (Kd.int .u8) w0 A 1 ((a :: r).take 1)) : ∃ ad, A = some ad ∧ Hid (∀ W, Below w0.heap.size w0 W → W.cell? ad = some (.int .u8 a)) := by
 obtain ⟨ad, hA, _⟩ := h.2.2 (by decide)
 refine ⟨ad, hA, Lib.hid fun W hb => ?_⟩
 obtain ⟨ad2, c, hA2, hcl, hK, hcell⟩ := Kd.C_get (Kd.C_below h hb) 0 0 (by decide) (by decide)
 rw [hA] at hA2
 injection hA2 with hA2
 subst hA2
 have hc : c = [.int .u8 a] := hK
 subst hc
 have := hcell 0 _ rfl
 simpa [Addr.add] using this
theorem row_ne {α : Type} {d : Kd α} {e B k t : Nat} {ok : Nat → Prop} {W : World} {v : Value} {l : List α} {cs : Array Value} {fr : Nat × Nat} (h : d.R e W B ok v l) (hk : W.heap[k]? = some (.cells cs t fr)) (ht : t ≠ e) : some k ≠ v.ownBlock := by
 intro he
 obtain ⟨inner, hown, _⟩ := h.2
 obtain ⟨cells, hc⟩ := own_typed hown k he.symm
 rw [hk] at hc
 injection hc with hc
 injection hc with _ h2
 exact ht h2
theorem row_keep {α : Type} {d : Kd α} {e B g t : Nat} {W W' : World} {v : Value} {l : List α} {cs : Array Value} {fr : Nat × Nat} (hE : d.E = []) (h : d.R e W B (fun _ => True) v l) (hg : W.heap[g]? = some (.cells cs t fr)) (ht : t ≠ e) (hk : KeepBut W W' g none) : d.R e W' B (fun _ => True) v l :=
 Kd.R_mono (Kd.R_keep (Kd.R_far1 h hE (row_ne h hg ht)) hk (fun _ hk => hk.2)) (fun _ _ => trivial)
theorem row_far {α : Type} {d : Kd α} {e B t : Nat} {W : World} {v : Value} {l : List α} {cs : Array Value} {fr : Nat × Nat} (hE : d.E = []) (h : d.R e W B (fun _ => True) v l) {p : Addr} (hg : W.heap[p.block]? = some (.cells cs t fr)) (ht : t ≠ e) (u : Value) : d.R e (W.setCell p u) B (fun _ => True) v l :=
 Kd.R_mono (Kd.R_far (Kd.R_far1 h hE (row_ne h hg ht)) (fun _ hk => hk.2) u) (fun _ _ => trivial)
theorem heap_sets (W : World) (b o : Nat) (vs : List Value) (k : Nat) (hk : k ≠ b) : (W.setCells b o vs).heap[k]? = W.heap[k]? := by
 induction vs generalizing W o with
 | nil => rfl
 | cons v r ih =>
  show ((W.setCell ⟨b, o, none⟩ v).setCells b (o + 1) r).heap[k]? = _
  rw [ih, Below.heap_setCell _ _ _ k hk]
theorem size_sets (W : World) (b o : Nat) (vs : List Value) : (W.setCells b o vs).heap.size = W.heap.size := by
 induction vs generalizing W o with
 | nil => rfl
 | cons v r ih =>
  show ((W.setCell ⟨b, o, none⟩ v).setCells b (o + 1) r).heap.size = _
  rw [ih]
  simp [World.setCell]
theorem row_end {α : Type} {d : Kd α} {e B B' t : Nat} {W : World} {v : Value} {l : List α} {b : Nat} {cs : Array Value} {fr : Nat × Nat} (hE : d.E = []) (h : d.R e W B (fun _ => True) v l) (hg : W.heap[b]? = some (.cells cs t fr)) (ht : t ≠ e) (hB : B' ≤ B) (vs : List Value) : d.R e (W.setCells b 0 vs) B' (fun _ => True) v l :=
 Kd.R_mono (Kd.R_lower (Kd.R_move (Kd.R_far1 h hE (row_ne h hg ht)) (fun k hk => heap_sets W b 0 vs k hk.2)) hB) (fun _ _ => trivial)
theorem below_sets {w0 W : World} {B b : Nat} (hb : B ≤ b) (h : Below B w0 W) (o : Nat) (vs : List Value) : Below B w0 (W.setCells b o vs) := by
 induction vs generalizing W o with
 | nil => exact h
 | cons v r ih => exact ih (W := W.setCell ⟨b, o, none⟩ v) (h.setCell (by show B ≤ b; omega) _) (o + 1)
theorem KeepBut.sets {W W1 : World} {g b : Nat} (h : KeepBut W W1 g none) (hb : W.heap.size ≤ b) (o : Nat) (vs : List Value) : KeepBut W (W1.setCells b o vs) g none :=
 ⟨by rw [size_sets]; exact h.1, fun i hi hg hn => (heap_sets W1 b o vs i (by omega)).trans (h.2 i hi hg hn)⟩
theorem there_blk {W : World} {b n t : Nat} {cs : Array Value} (h : W.heap[b]? = some (.cells cs t (0, 0))) (hn : cs.size = n) : W.there b 0 n := fun j hj => by
 refine ⟨?_, ?_⟩
 ·rw [Nat.zero_add, Blk.blk_cell h j, Array.getElem?_eq_getElem (by omega)]; rfl
 ·rw [Nat.zero_add]; exact Blk.blk_frozen h j
theorem range_blk {W : World} {b t : Nat} {cs : Array Value} (h : W.heap[b]? = some (.cells cs t (0, 0))) : W.rangeAt b 0 cs.toList := fun j v hj => by
 rw [Nat.zero_add, Blk.blk_cell h j]; simpa using hj
theorem info29 : (Try.prog.info? 29).map (·.size) = some 12 := by kernel_rfl
section
variable {w0 W W' : World} {g b : Nat} {l r : List Int} {p p' : Pg} {v6 v7 v8 v11 v6' v7' v8' v11' : Value}
theorem Ps.took (h : Ps w0 g b l p v6 v7 v8 v11 W) (hgb : g < b) (hr : Rd w0 W' g r) (hi : InB r) (hb : Below w0.heap.size w0 W') (hk : KeepBut W W' g none) : Ps w0 g b r p v6 v7 v8 v11 W' := by
 obtain ⟨⟨A, c, hg, _⟩, _, _, h2, h3, r6, r7, r8, r11⟩ := h
 exact ⟨hr, hi, hb, hk.blk h2 (by omega) (by simp), hk.blk h3 (by omega) (by simp), row_keep rfl r6 hg (by decide) hk, row_keep rfl r7 hg (by decide) hk, row_keep rfl r8 hg (by decide) hk, row_keep rfl r11 hg (by decide) hk⟩
theorem Ps.store (h : Ps w0 g b l p v6 v7 v8 v11 W) (hgb : g < b) (i : Nat) (u : Value) (he : (PB p v6 v7 v8 v11).setIfInBounds i u = PB p' v6' v7' v8' v11') (hrows : Rows b W p' v6' v7' v8' v11') : Ps w0 g b l p' v6' v7' v8' v11' (W.setCell ⟨b + 1, i, none⟩ u) := by
 obtain ⟨⟨A, c, hg, x1, x2, x3⟩, hi, hb, h2, h3, _⟩ := h
 obtain ⟨r6, r7, r8, r11⟩ := hrows
 exact ⟨⟨A, c, Blk.blk_far hg (by show g ≠ b + 1; omega) u, x1, x2, x3⟩, hi, hb.setCell (by show w0.heap.size ≤ b + 1; omega) _, Blk.blk_far h2 (by show b ≠ b + 1; omega) u, by have := Blk.blk_set h3 i u; rw [he] at this; exact this, row_far rfl r6 h3 (by decide) u, row_far rfl r7 h3 (by decide) u, row_far rfl r8 h3 (by decide) u, row_far rfl r11 h3 (by decide) u⟩
theorem Ps.drew (h : Ps w0 g b l p v6 v7 v8 v11 W) : Ps w0 g b l p v6 v7 v8 v11 W.drew := by
 obtain ⟨⟨A, c, hg, x⟩, hi, hb, h2, h3, r6, r7, r8, r11⟩ := h
 exact ⟨⟨A, c, hg, x⟩, hi, hb.drew, h2, h3, Kd.R_drew r6, Kd.R_drew r7, Kd.R_drew r8, Kd.R_drew r11⟩
theorem Ps.alloc (h : Ps w0 g b l p v6 v7 v8 v11 W) (o : Obj) : Ps w0 g b l p v6 v7 v8 v11 (W.alloc o) := by
 obtain ⟨⟨A, c, hg, x⟩, hi, hb, h2, h3, r6, r7, r8, r11⟩ := h
 exact ⟨⟨A, c, Blk.blk_alloc hg o, x⟩, hi, hb.alloc hb.size _, Blk.blk_alloc h2 o, Blk.blk_alloc h3 o, Kd.R_alloc r6 o, Kd.R_alloc r7 o, Kd.R_alloc r8 o, Kd.R_alloc r11 o⟩
theorem row_base {α : Type} {d : Kd α} {e B : Nat} {ok : Nat → Prop} {W : World} {v : Value} {l : List α} (h : d.R e W B ok v l) : ∀ k, v.ownBlock = some k → B ≤ k ∧ ∃ cells, W.heap[k]? = some (.cells cells e (0, 0)) := by
 intro k hk
 obtain ⟨inner, hown, _⟩ := h.2
 exact ⟨own_base hown k hk, own_typed hown k hk⟩
theorem row_other {α β : Type} {d : Kd α} {d2 : Kd β} {e e2 B : Nat} {W w1 : World} {v v2 : Value} {l : List α} {l2 : List β} (hE : d2.E = []) (h : d.R e W B (fun _ => True) v l) (h2 : d2.R e2 W B (fun _ => True) v2 l2) (hne : e ≠ e2) (hgr : W.grownBy w1 v.ownBlock) : d2.R e2 w1 B (fun _ => True) v2 l2 :=
 Kd.R_grown2 h2 hE hgr (fun k hk => by
  obtain ⟨_, cells, hc⟩ := row_base h k hk
  exact row_ne h2 hc hne)
theorem KeepBut.grown_new {W W1 w1 : World} {g : Nat} {row : Option Nat} (h : KeepBut W W1 g none) (hgr : W1.grownBy w1 row) (hr : ∀ k, row = some k → W.heap.size ≤ k) : KeepBut W w1 g none :=
 ⟨Nat.le_trans h.1 hgr.size, fun i hi hg hn => (hgr.block i (Nat.lt_of_lt_of_le hi h.1) (fun he => by have := hr i he.symm; omega)).trans (h.2 i hi hg hn)⟩
theorem Ps.put (x1 : Rd w0 W g l) (x2 : InB l) (x3 : Below w0.heap.size w0 W) (x4 : W.heap[b]? = some (.cells Z29 29 (0, 0))) (x5 : W.heap[b + 1]? = some (.cells (PB p v6 v7 v8 v11) 29 (0, 0))) (hgb : g < b) (i : Nat) (u : Value) (he : (PB p v6 v7 v8 v11).setIfInBounds i u = PB p' v6' v7' v8' v11') (hrows : Rows b W p' v6' v7' v8' v11') : Ps w0 g b l p' v6' v7' v8' v11' (W.setCell ⟨b + 1, i, none⟩ u) := by
 obtain ⟨A, c, hg, y1, y2, y3⟩ := x1
 obtain ⟨r6, r7, r8, r11⟩ := hrows
 exact ⟨⟨A, c, Blk.blk_far hg (by show g ≠ b + 1; omega) u, y1, y2, y3⟩, x2, x3.setCell (by show w0.heap.size ≤ b + 1; omega) _, Blk.blk_far x4 (by show b ≠ b + 1; omega) u, by have := Blk.blk_set x5 i u; rw [he] at this; exact this, row_far rfl r6 x5 (by decide) u, row_far rfl r7 x5 (by decide) u, row_far rfl r8 x5 (by decide) u, row_far rfl r11 x5 (by decide) u⟩
theorem Ps.app6 {w1 : World} {u : Value} {l' : List Int} (h : Ps w0 g b l p v6 v7 v8 v11 W) (hgb : g < b) (hwb : w0.heap.size ≤ b) (hgr : W.grownBy w1 v6.ownBlock) (hr : Kd.R (Kd.int .i64) 2 w1 b (fun _ => True) u l') : Ps w0 g b l { p with l6 := l' } u v7 v8 v11 (w1.setCell ⟨b + 1, 6, none⟩ u) ∧ w1.heap[b + 1]? = some (.cells (PB p v6 v7 v8 v11) 29 (0, 0)) := by
 obtain ⟨⟨A, c, hg, x⟩, hi, hb, h2, h3, r6, r7, r8, r11⟩ := h
 have h3' := Blk.blk_grown h3 hgr (row_ne r6 h3 (by decide))
 refine ⟨Ps.put (p := p) ⟨A, c, Blk.blk_grown hg hgr (row_ne r6 hg (by decide)), x⟩ hi (hb.grown hgr hb.size (fun k hk => Nat.le_trans hwb (row_base r6 k hk).1)) (Blk.blk_grown h2 hgr (row_ne r6 h2 (by decide))) h3' hgb 6 u rfl ⟨hr, row_other rfl r6 r7 (by decide) hgr, row_other rfl r6 r8 (by decide) hgr, row_other rfl r6 r11 (by decide) hgr⟩, h3'⟩
theorem Ps.app7 {w1 : World} {u : Value} {l' : List S51} (h : Ps w0 g b l p v6 v7 v8 v11 W) (hgb : g < b) (hwb : w0.heap.size ≤ b) (hgr : W.grownBy w1 v7.ownBlock) (hr : Kd.R k51 51 w1 b (fun _ => True) u l') : Ps w0 g b l { p with l7 := l' } v6 u v8 v11 (w1.setCell ⟨b + 1, 7, none⟩ u) ∧ w1.heap[b + 1]? = some (.cells (PB p v6 v7 v8 v11) 29 (0, 0)) := by
 obtain ⟨⟨A, c, hg, x⟩, hi, hb, h2, h3, r6, r7, r8, r11⟩ := h
 have h3' := Blk.blk_grown h3 hgr (row_ne r7 h3 (by decide))
 refine ⟨Ps.put (p := p) ⟨A, c, Blk.blk_grown hg hgr (row_ne r7 hg (by decide)), x⟩ hi (hb.grown hgr hb.size (fun k hk => Nat.le_trans hwb (row_base r7 k hk).1)) (Blk.blk_grown h2 hgr (row_ne r7 h2 (by decide))) h3' hgb 7 u rfl ⟨row_other rfl r7 r6 (by decide) hgr, hr, row_other rfl r7 r8 (by decide) hgr, row_other rfl r7 r11 (by decide) hgr⟩, h3'⟩
theorem Ps.app8 {w1 : World} {u : Value} {l' : List S54} (h : Ps w0 g b l p v6 v7 v8 v11 W) (hgb : g < b) (hwb : w0.heap.size ≤ b) (hgr : W.grownBy w1 v8.ownBlock) (hr : Kd.R k54 54 w1 b (fun _ => True) u l') : Ps w0 g b l { p with l8 := l' } v6 v7 u v11 (w1.setCell ⟨b + 1, 8, none⟩ u) ∧ w1.heap[b + 1]? = some (.cells (PB p v6 v7 v8 v11) 29 (0, 0)) := by
 obtain ⟨⟨A, c, hg, x⟩, hi, hb, h2, h3, r6, r7, r8, r11⟩ := h
 have h3' := Blk.blk_grown h3 hgr (row_ne r8 h3 (by decide))
 refine ⟨Ps.put (p := p) ⟨A, c, Blk.blk_grown hg hgr (row_ne r8 hg (by decide)), x⟩ hi (hb.grown hgr hb.size (fun k hk => Nat.le_trans hwb (row_base r8 k hk).1)) (Blk.blk_grown h2 hgr (row_ne r8 h2 (by decide))) h3' hgb 8 u rfl ⟨row_other rfl r8 r6 (by decide) hgr, row_other rfl r8 r7 (by decide) hgr, hr, row_other rfl r8 r11 (by decide) hgr⟩, h3'⟩
theorem Ps.app11 {w1 : World} {u : Value} {l' : List S45} (h : Ps w0 g b l p v6 v7 v8 v11 W) (hgb : g < b) (hwb : w0.heap.size ≤ b) (hgr : W.grownBy w1 v11.ownBlock) (hr : Kd.R k45 45 w1 b (fun _ => True) u l') : Ps w0 g b l { p with l11 := l' } v6 v7 v8 u (w1.setCell ⟨b + 1, 11, none⟩ u) ∧ w1.heap[b + 1]? = some (.cells (PB p v6 v7 v8 v11) 29 (0, 0)) := by
 obtain ⟨⟨A, c, hg, x⟩, hi, hb, h2, h3, r6, r7, r8, r11⟩ := h
 have h3' := Blk.blk_grown h3 hgr (row_ne r11 h3 (by decide))
 refine ⟨Ps.put (p := p) ⟨A, c, Blk.blk_grown hg hgr (row_ne r11 hg (by decide)), x⟩ hi (hb.grown hgr hb.size (fun k hk => Nat.le_trans hwb (row_base r11 k hk).1)) (Blk.blk_grown h2 hgr (row_ne r11 h2 (by decide))) h3' hgb 11 u rfl ⟨row_other rfl r11 r6 (by decide) hgr, row_other rfl r11 r7 (by decide) hgr, row_other rfl r11 r8 (by decide) hgr, hr⟩, h3'⟩
theorem KeepBut.new {W W1 : World} {g k : Nat} (h : KeepBut W W1 g none) (hk : W.heap.size ≤ k) (i : Nat) (u : Value) : KeepBut W (W1.setCell ⟨k, i, none⟩ u) g none :=
 ⟨by simpa [World.setCell] using h.1, fun j hj hg hr => (Below.heap_setCell W1 ⟨k, i, none⟩ u j (by show j ≠ k; omega)).trans (h.2 j hj hg hr)⟩
theorem Ps.cells (h : Ps w0 g b l p v6 v7 v8 v11 W) (i : Nat) : W.cell? ⟨b + 1, i, none⟩ = (PB p v6 v7 v8 v11)[i]? ∧ W.frozen? ⟨b + 1, i, none⟩ = false := ⟨Blk.blk_cell h.2.2.2.2.1 i, Blk.blk_frozen h.2.2.2.2.1 i⟩
end
theorem q4_in {l : List Int} {v : Int} {r : List Int} (h : q4 l = some (v, r)) (hin : InB l) : InB r ∧ 0 ≤ v ∧ v ≤ 2147483647 := by
 unfold q4 at h
 obtain ⟨t, h1, h2⟩ := Option.bind_eq_some_iff.1 h
 split at h2
 ·cases h2
 ·injection h2 with h2
  subst h2
  have := p4_in h1 hin
  exact ⟨this.1, this.2.1, by omega⟩
theorem qc_in {m : Int} {l : List Int} {v : Int} {r : List Int} (h : qc m l = some (v, r)) (hin : InB l) : InB r ∧ 0 ≤ v ∧ v ≤ m := by
 unfold qc at h
 obtain ⟨t, h1, h2⟩ := Option.bind_eq_some_iff.1 h
 split at h2
 ·cases h2
 ·injection h2 with h2
  subst h2
  have := q4_in h1 hin
  exact ⟨this.1, this.2.1, by omega⟩
theorem q8_in {l : List Int} {v : Int} {r : List Int} (h : q8 l = some (v, r)) (hin : InB l) : InB r ∧ True := by
 unfold q8 at h
 obtain ⟨t, h1, h2⟩ := Option.bind_eq_some_iff.1 h
 obtain ⟨u, h3, h4⟩ := Option.bind_eq_some_iff.1 h2
 injection h4 with h4
 injection h4 with h5 h6
 subst h6
 exact ⟨(p4_in h3 (p4_in h1 hin).1).1, trivial⟩
set_option maxHeartbeats 8000000 in
set_option maxRecDepth 100000 in
theorem prog_short (w0 W : World) (g : Nat) (l : List Int) (h : l.length < 4) (hW : Rd w0 W g l) (hB : Below w0.heap.size w0 W) : Calls Try.prog 23 #[.pointer (some ⟨g, 0, none⟩)] W (PPost w0 W g none) := by
 obtain ⟨A, c, hv, hr⟩ := hW
 have hg0 := Blk.blk_lt hv
 have HC := Lib.hid (fun W1 (hb : Below w0.heap.size w0 W1) (hh : W1.heap[g]? = W.heap[g]?) => take_no w0 W1 g 4 l (by decide) h ⟨A, c, hh.trans hv, hr⟩ hb)
 have HB := Lib.hid hB
 have hsz := hB.size
 clear hr hB h
 go_enter Try.func23, Try.ntmps23
 go_wp2_with fail
 refine (HC.out _ ((HB.out.alloc hsz _).alloc (by simp; omega) _) ((Blk.blk_alloc (Blk.blk_alloc hv _) _).trans hv.symm)).mono ?_
 rintro e w1 ⟨rfl, hb, hk⟩
 have HB1 := Lib.hid hb; have HK1 := Lib.hid hk
 clear hb hk
 go_wp2
 refine ⟨rfl, rfl, HB1.out, ?_⟩
 exact (((KeepBut.of_grown (World.grownBy_alloc W _ none) g).trans (KeepBut.of_grown (World.grownBy_alloc _ _ none) g) (.inl rfl)).trans HK1.out (.inl rfl))
set_option maxHeartbeats 8000000 in
set_option maxRecDepth 100000 in
theorem prog_long (w0 W : World) (g : Nat) (l : List Int) (h : ¬ l.length < 4) (hin : InB l) (hW : Rd w0 W g l) (hB : Below w0.heap.size w0 W) : Calls Try.prog 23 #[.pointer (some ⟨g, 0, none⟩)] W (PPost w0 W g (prog l)) := by
 have e : prog l = if (strOfNums (l.take 4)).toList = ([99, 112, 115, 49] : List UInt8) then c0 (l.drop 4) else none := by unfold prog; rw [if_neg h]
 rw [e]
 clear e
 obtain ⟨RES, hRES⟩ : ∃ R, (if (strOfNums (l.take 4)).toList = ([99, 112, 115, 49] : List UInt8) then c0 (l.drop 4) else none) = R := ⟨_, rfl⟩
 rw [hRES]
 have HR := Lib.hid hRES; clear hRES
 obtain ⟨A, c, hv, hr⟩ := hW
 have hg0 := Blk.blk_lt hv
 have HC := Lib.hid (fun W1 (hb : Below w0.heap.size w0 W1) (hh : W1.heap[g]? = W.heap[g]?) => take_yes w0 W1 g 4 l (by decide) (by decide) (by omega) ⟨A, c, hh.trans hv, hr⟩ hb)
 have hin4 : InB (l.drop 4) := fun x hx => hin x (List.mem_of_mem_drop hx)
 have HIN := Lib.hid hin4
 have HB := Lib.hid hB
 have hsz := hB.size
 have K0 := Lib.hid ((KeepBut.of_grown (World.grownBy_alloc W (.cells Z29 29) none) g).trans (KeepBut.of_grown (World.grownBy_alloc _ (.cells Z29 29) none) g) (.inl rfl))
 have X0 := Lib.hid (Blk.blk_alloc (Blk.blk_new W (.cells Z29 29)) (.cells Z29 29))
 have X1 := Lib.hid (Blk.blk_at (W.alloc (.cells Z29 29)) (.cells Z29 29) (W.heap.size + 1) (by simp))
 clear hr hB h hin hin4
 go_enter Try.func23, Try.ntmps23
 go_wp2_with fail
 refine (HC.out _ ((HB.out.alloc hsz _).alloc (by simp; omega) _) ((Blk.blk_alloc (Blk.blk_alloc hv _) _).trans hv.symm)).mono ?_
 rintro e w1 ⟨A4, rfl, hc4, hr, hb, hk⟩
 have hcv := Kd.C_string (P := Try.prog) (A := A4) (c := 4) Try.underlying31 Try.underlying5 Try.underlying9 (Kd.C_below hc4 hb)
 have HCV := Lib.hid hcv
 obtain ⟨b, hbb⟩ : ∃ b, W.heap.size = b := ⟨_, rfl⟩
 have HP : Hid (Ps w0 g b (l.drop 4) ⟨0, 0, 0, 0, 0, 0, [], [], [], 0, 0, []⟩ (.slice none 0 0) (.slice none 0 0) (.slice none 0 0) (.slice none 0 0) w1) := Lib.hid ⟨hr, HIN.out, hb, by rw [← hbb]; exact hk.blk X0.out (by omega) (by simp), by rw [← hbb]; exact hk.blk X1.out (by omega) (by simp), Kd.R_nil _ _ _ _ _, Kd.R_nil _ _ _ _ _, Kd.R_nil _ _ _ _ _, Kd.R_nil _ _ _ _ _⟩
 have HK := Lib.hid (K0.out.trans hk (.inl rfl))
 simp only [hbb]
 have hgb : g < b := by omega
 have hWb : W.heap.size ≤ b := by omega
 have hwb : w0.heap.size ≤ b := by omega
 clear hc4 hr hb hk hv X0 X1 K0 HC HB hbb hsz hg0
 obtain ⟨l1, hl1⟩ : ∃ l1, l.drop 4 = l1 := ⟨_, rfl⟩
 rw [hl1] at HP HIN HR
 clear hl1
 by_cases hm : (strOfNums (l.take 4)).toList = ([99, 112, 115, 49] : List UInt8)
 ·have hres := HR.out
  rw [if_pos hm] at hres
  have HR1 := Lib.hid hres
  have hm3 : (!(strOfNums (l.take 4)).toList == ([99, 112, 115, 49] : List UInt8)) = false := by simp [hm]
  clear hres HR hm
  go_wp2_with fail
  clear hcv HCV hm3
  unfold c0 at HR1
  cases hq1 : q4 l1 with
  | none =>
   have hres := HR1.out
   rw [hq1] at hres
   simp only [Option.bind_none] at hres
   subst hres
   refine (four_any w0 _ g _ HP.out.2.1 HP.out.1 HP.out.2.2.1).mono ?_
   rw [hq1]
   rintro e wz ⟨rfl, hb, hk⟩
   have HBZ := Lib.hid hb; have HKZ := Lib.hid (HK.out.trans hk (.inl rfl)); clear hb hk
   go_wp2
   exact ⟨rfl, rfl, HBZ.out, HKZ.out⟩
  | some t =>
   obtain ⟨x1, l2⟩ := t
   have hres := HR1.out
   rw [hq1] at hres
   simp only [Option.bind_some] at hres
   have HR2 := Lib.hid hres
   clear hres HR1
   have hin := q4_in hq1 HP.out.2.1
   refine (four_any w0 _ g _ HP.out.2.1 HP.out.1 HP.out.2.2.1).mono ?_
   rw [hq1]
   rintro e w2 ⟨rfl, hr, hb, hk⟩
   have HP2 := Lib.hid (HP.out.took hgb hr hin.1 hb hk)
   have HK2 := Lib.hid (HK.out.trans hk (.inl rfl))
   clear hr hb hk hq1 HP HK
   go_wp2_with fail
   skip
   cases hq2 : q4 l2 with
   | none =>
    have hres := HR2.out
    rw [hq2] at hres
    simp only [Option.bind_none] at hres
    subst hres
    refine (four_any w0 _ g _ HP2.out.2.1 HP2.out.1 HP2.out.2.2.1).mono ?_
    rw [hq2]
    rintro e wz ⟨rfl, hb, hk⟩
    have HBZ := Lib.hid hb; have HKZ := Lib.hid (HK2.out.trans hk (.inl rfl)); clear hb hk
    go_wp2
    exact ⟨rfl, rfl, HBZ.out, HKZ.out⟩
   | some t =>
    obtain ⟨x2, l3⟩ := t
    have hres := HR2.out
    rw [hq2] at hres
    simp only [Option.bind_some] at hres
    have HR3 := Lib.hid hres
    clear hres HR2
    have hin := q4_in hq2 HP2.out.2.1
    refine (four_any w0 _ g _ HP2.out.2.1 HP2.out.1 HP2.out.2.2.1).mono ?_
    rw [hq2]
    rintro e w3 ⟨rfl, hr, hb, hk⟩
    have HP3 := Lib.hid (HP2.out.took hgb hr hin.1 hb hk)
    have HK3 := Lib.hid (HK2.out.trans hk (.inl rfl))
    clear hr hb hk hq2 HP2 HK2
    go_wp2_with fail
    cases hq3 : q4 l3 with
    | none =>
     have hres := HR3.out
     rw [hq3] at hres
     simp only [Option.bind_none] at hres
     subst hres
     refine (four_any w0 _ g _ HP3.out.2.1 HP3.out.1 HP3.out.2.2.1).mono ?_
     rw [hq3]
     rintro e wz ⟨rfl, hb, hk⟩
     have HBZ := Lib.hid hb; have HKZ := Lib.hid (HK3.out.trans hk (.inl rfl)); clear hb hk
     go_wp2
     exact ⟨rfl, rfl, HBZ.out, HKZ.out⟩
    | some t =>
     obtain ⟨x3, l4⟩ := t
     have hres := HR3.out
     rw [hq3] at hres
     simp only [Option.bind_some] at hres
     have HR4 := Lib.hid hres
     clear hres HR3
     have hin := q4_in hq3 HP3.out.2.1
     refine (four_any w0 _ g _ HP3.out.2.1 HP3.out.1 HP3.out.2.2.1).mono ?_
     rw [hq3]
     rintro e w4 ⟨rfl, hr, hb, hk⟩
     have HP4 := Lib.hid (HP3.out.took hgb hr hin.1 hb hk)
     have HK4 := Lib.hid (HK3.out.trans hk (.inl rfl))
     clear hr hb hk hq3 HP3 HK3
     obtain ⟨y0, z0⟩ := HP4.out.cells 0
     obtain ⟨y9, z9⟩ := HP4.out.cells 9
     obtain ⟨y10, z10⟩ := HP4.out.cells 10
     unfold PB at y0 y9 y10
     try simp at y0 y9 y10
     go_wp2_with fail
     clear y0 z0 y9 z9 y10 z10
     have hs0 := Ps.store (p' := ⟨x1, 0, 0, 0, 0, 0, [], [], [], 0, 0, []⟩) (HP4.out) hgb 0 (.int .i64 x1) rfl (HP4.out).2.2.2.2.2
     have hs1 := Ps.store (p' := ⟨x1, 0, 0, 0, 0, 0, [], [], [], x2, 0, []⟩) (hs0) hgb 9 (.int .i64 x2) rfl (hs0).2.2.2.2.2
     have hs2 := Ps.store (p' := ⟨x1, 0, 0, 0, 0, 0, [], [], [], x2, x3, []⟩) (hs1) hgb 10 (.int .i64 x3) rfl (hs1).2.2.2.2.2
     have HPS := Lib.hid hs2
     have HKS := Lib.hid (KeepBut.new (KeepBut.new (KeepBut.new (HK4.out) (by omega : W.heap.size ≤ b + 1) 0 (.int .i64 x1)) (by omega : W.heap.size ≤ b + 1) 9 (.int .i64 x2)) (by omega : W.heap.size ≤ b + 1) 10 (.int .i64 x3))
     clear hs0 hs1 hs2 HP4 HK4
     cases hq4 : q8 l4 with
     | none =>
      have hres := HR4.out
      rw [hq4] at hres
      simp only [Option.bind_none] at hres
      subst hres
      refine (eight_any w0 _ g _ HPS.out.2.1 HPS.out.1 HPS.out.2.2.1).mono ?_
      rw [hq4]
      rintro e wz ⟨rfl, hb, hk⟩
      have HBZ := Lib.hid hb; have HKZ := Lib.hid (HKS.out.trans hk (.inl rfl)); clear hb hk
      go_wp2
      exact ⟨rfl, rfl, HBZ.out, HKZ.out⟩
     | some t =>
      obtain ⟨x4, l5⟩ := t
      have hres := HR4.out
      rw [hq4] at hres
      simp only [Option.bind_some] at hres
      have HR5 := Lib.hid hres
      clear hres HR4
      have hin := q8_in hq4 HPS.out.2.1
      refine (eight_any w0 _ g _ HPS.out.2.1 HPS.out.1 HPS.out.2.2.1).mono ?_
      rw [hq4]
      rintro e w5 ⟨rfl, hr, hb, hk⟩
      have HP5 := Lib.hid (HPS.out.took hgb hr hin.1 hb hk)
      have HK5 := Lib.hid (HKS.out.trans hk (.inl rfl))
      clear hr hb hk hq4 HPS HKS
      go_wp2_with fail
      cases hq5 : q8 l5 with
      | none =>
       have hres := HR5.out
       rw [hq5] at hres
       simp only [Option.bind_none] at hres
       subst hres
       refine (eight_any w0 _ g _ HP5.out.2.1 HP5.out.1 HP5.out.2.2.1).mono ?_
       rw [hq5]
       rintro e wz ⟨rfl, hb, hk⟩
       have HBZ := Lib.hid hb; have HKZ := Lib.hid (HK5.out.trans hk (.inl rfl)); clear hb hk
       go_wp2
       exact ⟨rfl, rfl, HBZ.out, HKZ.out⟩
      | some t =>
       obtain ⟨x5, l6⟩ := t
       have hres := HR5.out
       rw [hq5] at hres
       simp only [Option.bind_some] at hres
       have HR6 := Lib.hid hres
       clear hres HR5
       have hin := q8_in hq5 HP5.out.2.1
       refine (eight_any w0 _ g _ HP5.out.2.1 HP5.out.1 HP5.out.2.2.1).mono ?_
       rw [hq5]
       rintro e w6 ⟨rfl, hr, hb, hk⟩
       have HP6 := Lib.hid (HP5.out.took hgb hr hin.1 hb hk)
       have HK6 := Lib.hid (HK5.out.trans hk (.inl rfl))
       clear hr hb hk hq5 HP5 HK5
       go_wp2_with fail
       cases hq6 : q8 l6 with
       | none =>
        have hres := HR6.out
        rw [hq6] at hres
        simp only [Option.bind_none] at hres
        subst hres
        refine (eight_any w0 _ g _ HP6.out.2.1 HP6.out.1 HP6.out.2.2.1).mono ?_
        rw [hq6]
        rintro e wz ⟨rfl, hb, hk⟩
        have HBZ := Lib.hid hb; have HKZ := Lib.hid (HK6.out.trans hk (.inl rfl)); clear hb hk
        go_wp2
        exact ⟨rfl, rfl, HBZ.out, HKZ.out⟩
       | some t =>
        obtain ⟨x6, l7⟩ := t
        have hres := HR6.out
        rw [hq6] at hres
        simp only [Option.bind_some] at hres
        have HR7 := Lib.hid hres
        clear hres HR6
        have hin := q8_in hq6 HP6.out.2.1
        refine (eight_any w0 _ g _ HP6.out.2.1 HP6.out.1 HP6.out.2.2.1).mono ?_
        rw [hq6]
        rintro e w7 ⟨rfl, hr, hb, hk⟩
        have HP7 := Lib.hid (HP6.out.took hgb hr hin.1 hb hk)
        have HK7 := Lib.hid (HK6.out.trans hk (.inl rfl))
        clear hr hb hk hq6 HP6 HK6
        go_wp2_with fail
        cases hq7 : q8 l7 with
        | none =>
         have hres := HR7.out
         rw [hq7] at hres
         simp only [Option.bind_none] at hres
         subst hres
         refine (eight_any w0 _ g _ HP7.out.2.1 HP7.out.1 HP7.out.2.2.1).mono ?_
         rw [hq7]
         rintro e wz ⟨rfl, hb, hk⟩
         have HBZ := Lib.hid hb; have HKZ := Lib.hid (HK7.out.trans hk (.inl rfl)); clear hb hk
         go_wp2
         exact ⟨rfl, rfl, HBZ.out, HKZ.out⟩
        | some t =>
         obtain ⟨x7, l8⟩ := t
         have hres := HR7.out
         rw [hq7] at hres
         simp only [Option.bind_some] at hres
         have HR8 := Lib.hid hres
         clear hres HR7
         have hin := q8_in hq7 HP7.out.2.1
         refine (eight_any w0 _ g _ HP7.out.2.1 HP7.out.1 HP7.out.2.2.1).mono ?_
         rw [hq7]
         rintro e w8 ⟨rfl, hr, hb, hk⟩
         have HP8 := Lib.hid (HP7.out.took hgb hr hin.1 hb hk)
         have HK8 := Lib.hid (HK7.out.trans hk (.inl rfl))
         clear hr hb hk hq7 HP7 HK7
         go_wp2_with fail
         cases hq8 : q8 l8 with
         | none =>
          have hres := HR8.out
          rw [hq8] at hres
          simp only [Option.bind_none] at hres
          subst hres
          refine (eight_any w0 _ g _ HP8.out.2.1 HP8.out.1 HP8.out.2.2.1).mono ?_
          rw [hq8]
          rintro e wz ⟨rfl, hb, hk⟩
          have HBZ := Lib.hid hb; have HKZ := Lib.hid (HK8.out.trans hk (.inl rfl)); clear hb hk
          go_wp2
          exact ⟨rfl, rfl, HBZ.out, HKZ.out⟩
         | some t =>
          obtain ⟨x8, l9⟩ := t
          have hres := HR8.out
          rw [hq8] at hres
          simp only [Option.bind_some] at hres
          have HR9 := Lib.hid hres
          clear hres HR8
          have hin := q8_in hq8 HP8.out.2.1
          refine (eight_any w0 _ g _ HP8.out.2.1 HP8.out.1 HP8.out.2.2.1).mono ?_
          rw [hq8]
          rintro e w9 ⟨rfl, hr, hb, hk⟩
          have HP9 := Lib.hid (HP8.out.took hgb hr hin.1 hb hk)
          have HK9 := Lib.hid (HK8.out.trans hk (.inl rfl))
          clear hr hb hk hq8 HP8 HK8
          obtain ⟨y1, z1⟩ := HP9.out.cells 1
          obtain ⟨y2, z2⟩ := HP9.out.cells 2
          obtain ⟨y3, z3⟩ := HP9.out.cells 3
          obtain ⟨y4, z4⟩ := HP9.out.cells 4
          obtain ⟨y5, z5⟩ := HP9.out.cells 5
          unfold PB at y1 y2 y3 y4 y5
          try simp at y1 y2 y3 y4 y5
          go_wp2_with fail
          clear y1 z1 y2 z2 y3 z3 y4 z4 y5 z5
          have HPX := HP9; have HKX := HK9; clear HP9 HK9
          have hs0 := Ps.store (p' := ⟨x1, x4, 0, 0, 0, 0, [], [], [], x2, x3, []⟩) (HPX.out) hgb 1 (.int .i64 x4) rfl (HPX.out).2.2.2.2.2
          have hs1 := Ps.store (p' := ⟨x1, x4, x5, 0, 0, 0, [], [], [], x2, x3, []⟩) (hs0) hgb 2 (.int .i64 x5) rfl (hs0).2.2.2.2.2
          have hs2 := Ps.store (p' := ⟨x1, x4, x5, x6, 0, 0, [], [], [], x2, x3, []⟩) (hs1) hgb 3 (.int .i64 x6) rfl (hs1).2.2.2.2.2
          have hs3 := Ps.store (p' := ⟨x1, x4, x5, x6, x7, 0, [], [], [], x2, x3, []⟩) (hs2) hgb 4 (.int .i64 x7) rfl (hs2).2.2.2.2.2
          have hs4 := Ps.store (p' := ⟨x1, x4, x5, x6, x7, x8, [], [], [], x2, x3, []⟩) (hs3) hgb 5 (.int .i64 x8) rfl (hs3).2.2.2.2.2
          have HPS := Lib.hid hs4
          have HKS := Lib.hid (KeepBut.new (KeepBut.new (KeepBut.new (KeepBut.new (KeepBut.new (HKX.out) (by omega : W.heap.size ≤ b + 1) 1 (.int .i64 x4)) (by omega : W.heap.size ≤ b + 1) 2 (.int .i64 x5)) (by omega : W.heap.size ≤ b + 1) 3 (.int .i64 x6)) (by omega : W.heap.size ≤ b + 1) 4 (.int .i64 x7)) (by omega : W.heap.size ≤ b + 1) 5 (.int .i64 x8))
          clear hs0 hs1 hs2 hs3 hs4 HPX HKX
          unfold c1 at HR9
          cases hq9 : qc 16384 l9 with
          | none =>
           have hres := HR9.out
           rw [hq9] at hres
           simp only [Option.bind_none] at hres
           subst hres
           refine (count_any w0 _ g _ _ HPS.out.2.1 HPS.out.1 HPS.out.2.2.1).mono ?_
           rw [hq9]
           rintro e wz ⟨rfl, hb, hk⟩
           have HBZ := Lib.hid hb; have HKZ := Lib.hid (HKS.out.trans hk (.inl rfl)); clear hb hk
           go_wp2
           exact ⟨rfl, rfl, HBZ.out, HKZ.out⟩
          | some t =>
           obtain ⟨x9, l10⟩ := t
           have hres := HR9.out
           rw [hq9] at hres
           simp only [Option.bind_some] at hres
           have HR10 := Lib.hid hres
           clear hres HR9
           have hin := qc_in hq9 HPS.out.2.1
           refine (count_any w0 _ g _ _ HPS.out.2.1 HPS.out.1 HPS.out.2.2.1).mono ?_
           rw [hq9]
           rintro e w10 ⟨rfl, hr, hb, hk⟩
           have HP10 := Lib.hid (HPS.out.took hgb hr hin.1 hb hk)
           have HK10 := Lib.hid (HKS.out.trans hk (.inl rfl))
           clear hr hb hk hq9 HPS HKS
           obtain ⟨n1, hn1⟩ : ∃ n : Nat, x9 = n := ⟨x9.toNat, by omega⟩
           subst hn1
           go_wp2
           rw [Int.toNat_natCast] at HR10
           go_loopg [33] n1 (fun gf vi wx => ∃ (q : Nat) (acc : List Int) (lx : List Int) (vf : Value), vi = .int .i64 q ∧ q + gf = n1 ∧ acc.length = q ∧ Hid (((qA q8 gf acc lx).bind fun u => c2 ⟨x1, x4, x5, x6, x7, x8, u.1, [], [], x2, x3, []⟩ u.2) = RES) ∧ Hid (Ps w0 g b lx ⟨x1, x4, x5, x6, x7, x8, acc, [], [], x2, x3, []⟩ vf (.slice none 0 0) (.slice none 0 0) (.slice none 0 0) wx) ∧ Hid (KeepBut W wx g none))
           case atStart => exact ⟨0, [], _, _, rfl, by omega, rfl, HR10, HP10, HK10⟩
           case round =>
            clear HR10 HP10 HK10
            obtain ⟨q, acc1, lx1, vf1, rfl, hq, hal, HRL, HPL1, HKL1⟩ := hrel
            by_cases hlt : q < n1
            ·obtain ⟨g', rfl⟩ : ∃ g', gk = g' + 1 := ⟨gk - 1, by omega⟩
             obtain ⟨Af, cf, ef⟩ := Kd.R_slice (HPL1.out.2.2.2.2.2.1)
             subst ef
             obtain ⟨yf, zf⟩ := HPL1.out.cells 6
             unfold PB at yf
             try simp at yf
             have hres := HRL.out
             unfold qA at hres
             skip
             simp only [Option.bind_assoc] at hres
             have q0 : decide ((q : Int) < (n1 : Int)) = true := by simp; omega
             have q0n : decide (q < n1) = true := by simp; omega
             have hbs : b + 1 < wr.heap.size := Blk.blk_lt HPL1.out.2.2.2.2.1
             have hacc : acc1.length ≤ 16384 := by omega
             have HAL := Lib.hid hal; clear hal
             have hil := HPL1.out.2.1
             have HC1 := Lib.hid (fun W1 (h1 : Rd w0 W1 g lx1) (h2 : Below w0.heap.size w0 W1) => eight_any w0 W1 g lx1 hil h1 h2)
             cases h8 : q8 lx1 with
             | none =>
              rw [h8] at hres HC1
              simp only [Option.bind_none] at hres
              subst hres
              clear h8
              go_wp2_with fail
              go_region_with (first | (go_at_call 30; refine (HC1.out _ ?_ ?_).mono ?_; (exact HPL1.out.1); (first | exact HPL1.out.2.2.1 | exact HPL1.out.2.2.1.drew); rintro e wz ⟨rfl, hb, hk⟩; (suffices hz : wpAny Try.prog .any #[] (fun _ _ _ => True) 0 #[] ⟨#[], []⟩ wz from ⟨rfl, rfl, hb, HKL1.out.trans hk (.inl rfl)⟩)))
              all_goals trivial
             | some t =>
              obtain ⟨xv1, lz1⟩ := t
              rw [h8] at hres HC1
              simp only [Option.bind_some] at hres
              have hin1 := q8_in h8 hil
              clear h8 hil
              have hil := hin1.1
              have HRZ := Lib.hid hres
              clear hres HRL
              go_wp2_with fail
              go_region_law (first | (refine Kd.R_append_rows_step (Kd.int .i64) (Rr := (fun x cs => cs = [Value.int .i64 x])) (w0 := wz.alloc (.cells #[.int .i64 xv1] 2)) b (by rfl) (.tmp 36) (.tmp 39) 24 2 (.int .i64 0) 8 (by rfl) Try.underlying24 info2 rfl ?_ ?_ (.slice Af acc1.length cf) acc1 [xv1] (some ⟨wz.heap.size, 0, none⟩) 1 1 (fun _ => True) (fun _ => False) ?_ ?_ ?_ ?_ ?_ ?_ ?_ ?_ ?_ ?_ ?_; decide; decide; rfl; rfl; exact Kd.R_alloc HPP1.out.2.2.2.2.2.1 _; exact lit_row .i64 [xv1] (by simp) (Blk.blk_new _ _); exact fun _ _ h => h; exact fun _ h => h.elim; exact fun _ _ => trivial; exact Below.refl _ _; (simp; omega); omega; intro v1 w1_ ho hb hgr hown; obtain ⟨A1, c1_, e1⟩ := Kd.R_slice ho; subst e1; have HAP := Lib.hid ((HPP1.out.alloc _).app6 hgb hwb hgr ho); have HKA := Lib.hid (KeepBut.grown_new (HKK1.out.trans (KeepBut.of_grown (World.grownBy_alloc _ _ none) g) (.inl rfl)) hgr (fun k hk => Nat.le_trans hWb (row_base HPP1.out.2.2.2.2.2.1 k hk).1)); have y1 := Blk.blk_cell HAP.out.2 6; have z1 := Blk.blk_frozen HAP.out.2 6; unfold PB at y1; simp at y1; clear ho hb hgr hown) | (go_simp; go_wp2_with ((first | (go_at_call 30; refine (HC1.out _ ?_ ?_).mono ?_; (exact HPL1.out.1); (first | exact HPL1.out.2.2.1 | exact HPL1.out.2.2.1.drew); rintro e wz ⟨rfl, hr, hb, hk⟩; have HPP1 := Lib.hid (HPL1.out.drew.took hgb hr hin1.1 hb hk); have HKK1 := Lib.hid (HKL1.out.trans hk (.inl rfl)); have yz1 := (HPP1.out.cells 6).1; unfold PB at yz1; simp at yz1; have hbz1 := Blk.blk_lt HPP1.out.2.2.2.2.1; clear hr hb hk)))))
              all_goals (try go_wp2)
              all_goals (go_roundg g'; (case measure => omega); (case rel => exact ⟨q + 1, acc1 ++ [xv1], lz1, .slice A1 (acc1.length + 1) c1_, by simp, by omega, by simp [HAL.out], HRZ, Lib.hid (by have h := HAP.out.1; simp only [List.length_append, List.length_cons, List.length_nil, Nat.zero_add] at h; exact h), Lib.hid (KeepBut.new HKA.out (by omega) 6 _)⟩))
            ·obtain rfl : gk = 0 := by omega
             obtain rfl : q = n1 := by omega
             have q0 : decide ((q : Int) < (q : Int)) = false := by simp
             have q0n : decide (q < q) = false := by simp
             have hres := HRL.out
             simp only [qA, Option.bind_some] at hres
             have HRM1 := Lib.hid hres
             clear hres HRL hlt
             go_wp2_with fail
             clear q0 q0n hq hal
             obtain ⟨l11, hl11⟩ : ∃ l, lx1 = l := ⟨_, rfl⟩
             subst hl11
             unfold c2 at HRM1
             cases hq11 : qc 256 lx1 with
             | none =>
              have hres := HRM1.out
              rw [hq11] at hres
              simp only [Option.bind_none] at hres
              subst hres
              refine (count_any w0 _ g _ _ HPL1.out.2.1 HPL1.out.1 HPL1.out.2.2.1).mono ?_
              rw [hq11]
              rintro e wz ⟨rfl, hb, hk⟩
              have HBZ := Lib.hid hb; have HKZ := Lib.hid (HKL1.out.trans hk (.inl rfl)); clear hb hk
              go_wp2
              exact ⟨rfl, rfl, HBZ.out, HKZ.out⟩
             | some t =>
              obtain ⟨x11, l12⟩ := t
              have hres := HRM1.out
              rw [hq11] at hres
              simp only [Option.bind_some] at hres
              have HR12 := Lib.hid hres
              clear hres HRM1
              have hin := qc_in hq11 HPL1.out.2.1
              refine (count_any w0 _ g _ _ HPL1.out.2.1 HPL1.out.1 HPL1.out.2.2.1).mono ?_
              rw [hq11]
              rintro e w11 ⟨rfl, hr, hb, hk⟩
              have HP12 := Lib.hid (HPL1.out.took hgb hr hin.1 hb hk)
              have HK12 := Lib.hid (HKL1.out.trans hk (.inl rfl))
              clear hr hb hk hq11 HPL1 HKL1
              obtain ⟨n2, hn2⟩ : ∃ n : Nat, x11 = n := ⟨x11.toNat, by omega⟩
              subst hn2
              go_wp2
              rw [Int.toNat_natCast] at HR12
              go_loopg [45] n2 (fun gf vi wx => ∃ (q : Nat) (acc : List S51) (lx : List Int) (vf : Value), vi = .int .i64 q ∧ q + gf = n2 ∧ acc.length = q ∧ Hid (((qA fW gf acc lx).bind fun u => c3 ⟨x1, x4, x5, x6, x7, x8, acc1, u.1, [], x2, x3, []⟩ u.2) = RES) ∧ Hid (Ps w0 g b lx ⟨x1, x4, x5, x6, x7, x8, acc1, acc, [], x2, x3, []⟩ vf1 vf (.slice none 0 0) (.slice none 0 0) wx) ∧ Hid (KeepBut W wx g none))
              case atStart => exact ⟨0, [], _, _, rfl, by omega, rfl, HR12, HP12, HK12⟩
              case round =>
               clear HR12 HP12 HK12
               obtain ⟨q, acc2, lx2, vf2, rfl, hq, hal, HRL, HPL2, HKL2⟩ := hrel
               by_cases hlt : q < n2
               ·obtain ⟨g', rfl⟩ : ∃ g', gk = g' + 1 := ⟨gk - 1, by omega⟩
                obtain ⟨Af, cf, ef⟩ := Kd.R_slice (HPL2.out.2.2.2.2.2.2.1)
                subst ef
                obtain ⟨yf, zf⟩ := HPL2.out.cells 7
                unfold PB at yf
                try simp at yf
                have hres := HRL.out
                unfold qA at hres
                rw [fW] at hres
                simp only [Option.bind_assoc] at hres
                have q0 : decide ((q : Int) < (n2 : Int)) = true := by simp; omega
                have q0n : decide (q < n2) = true := by simp; omega
                have hbs : b + 1 < wr.heap.size := Blk.blk_lt HPL2.out.2.2.2.2.1
                have hacc : acc2.length ≤ 256 := by omega
                have HAL := Lib.hid hal; clear hal
                have hil := HPL2.out.2.1
                have HC1 := Lib.hid (fun W1 (h1 : Rd w0 W1 g lx2) (h2 : Below w0.heap.size w0 W1) => four_any w0 W1 g lx2 hil h1 h2)
                cases h8 : q4 lx2 with
                | none =>
                 rw [h8] at hres HC1
                 simp only [Option.bind_none] at hres
                 subst hres
                 clear h8
                 go_wp2_with fail
                 go_region_with (first | (go_at_call 29; refine (HC1.out _ ?_ ?_).mono ?_; (exact HPL2.out.1); (first | exact HPL2.out.2.2.1 | exact HPL2.out.2.2.1.drew); rintro e wz ⟨rfl, hb, hk⟩; (suffices hz : wpAny Try.prog .any #[] (fun _ _ _ => True) 0 #[] ⟨#[], []⟩ wz from ⟨rfl, rfl, hb, HKL2.out.trans hk (.inl rfl)⟩)))
                 all_goals trivial
                | some t =>
                 obtain ⟨xv1, lz1⟩ := t
                 rw [h8] at hres HC1
                 simp only [Option.bind_some] at hres
                 have hin1 := q4_in h8 hil
                 clear h8 hil
                 have hil := hin1.1
                 have HC2 := Lib.hid (fun W1 (h1 : Rd w0 W1 g lz1) (h2 : Below w0.heap.size w0 W1) => four_any w0 W1 g lz1 hil h1 h2)
                 cases h8 : q4 lz1 with
                 | none =>
                  rw [h8] at hres HC2
                  simp only [Option.bind_none] at hres
                  subst hres
                  clear h8
                  go_wp2_with fail
                  go_region_with (first | (go_at_call 29; refine (HC2.out _ ?_ ?_).mono ?_; (exact HPP1.out.1); (first | exact HPP1.out.2.2.1 | exact HPP1.out.2.2.1.drew); rintro e wz ⟨rfl, hb, hk⟩; (suffices hz : wpAny Try.prog .any #[] (fun _ _ _ => True) 0 #[] ⟨#[], []⟩ wz from ⟨rfl, rfl, hb, HKK1.out.trans hk (.inl rfl)⟩)) | (go_at_call 29; refine (HC1.out _ ?_ ?_).mono ?_; (exact HPL2.out.1); (first | exact HPL2.out.2.2.1 | exact HPL2.out.2.2.1.drew); rintro e wz1 ⟨rfl, hr, hb, hk⟩; have HPP1 := Lib.hid (HPL2.out.drew.took hgb hr hin1.1 hb hk); have HKK1 := Lib.hid (HKL2.out.trans hk (.inl rfl)); have yz1 := (HPP1.out.cells 7).1; unfold PB at yz1; simp at yz1; have hbz1 := Blk.blk_lt HPP1.out.2.2.2.2.1; clear hr hb hk))
                  all_goals trivial
                 | some t =>
                  obtain ⟨xv2, lz2⟩ := t
                  rw [h8] at hres HC2
                  simp only [Option.bind_some] at hres
                  have hin2 := q4_in h8 hil
                  clear h8 hil
                  have hil := hin2.1
                  have HC3 := Lib.hid (fun W1 (h1 : Rd w0 W1 g lz2) (h2 : Below w0.heap.size w0 W1) => eight_any w0 W1 g lz2 hil h1 h2)
                  cases h8 : q8 lz2 with
                  | none =>
                   rw [h8] at hres HC3
                   simp only [Option.bind_none] at hres
                   subst hres
                   clear h8
                   go_wp2_with fail
                   go_region_with (first | (go_at_call 30; refine (HC3.out _ ?_ ?_).mono ?_; (exact HPP2.out.1); (first | exact HPP2.out.2.2.1 | exact HPP2.out.2.2.1.drew); rintro e wz ⟨rfl, hb, hk⟩; (suffices hz : wpAny Try.prog .any #[] (fun _ _ _ => True) 0 #[] ⟨#[], []⟩ wz from ⟨rfl, rfl, hb, HKK2.out.trans hk (.inl rfl)⟩)) | (go_at_call 29; refine (HC2.out _ ?_ ?_).mono ?_; (exact HPP1.out.1); (first | exact HPP1.out.2.2.1 | exact HPP1.out.2.2.1.drew); rintro e wz2 ⟨rfl, hr, hb, hk⟩; have HPP2 := Lib.hid (HPP1.out.took hgb hr hin2.1 hb hk); have HKK2 := Lib.hid (HKK1.out.trans hk (.inl rfl)); have yz2 := (HPP2.out.cells 7).1; unfold PB at yz2; simp at yz2; have hbz2 := Blk.blk_lt HPP2.out.2.2.2.2.1; clear hr hb hk) | (go_at_call 29; refine (HC1.out _ ?_ ?_).mono ?_; (exact HPL2.out.1); (first | exact HPL2.out.2.2.1 | exact HPL2.out.2.2.1.drew); rintro e wz1 ⟨rfl, hr, hb, hk⟩; have HPP1 := Lib.hid (HPL2.out.drew.took hgb hr hin1.1 hb hk); have HKK1 := Lib.hid (HKL2.out.trans hk (.inl rfl)); have yz1 := (HPP1.out.cells 7).1; unfold PB at yz1; simp at yz1; have hbz1 := Blk.blk_lt HPP1.out.2.2.2.2.1; clear hr hb hk))
                   all_goals trivial
                  | some t =>
                   obtain ⟨xv3, lz3⟩ := t
                   rw [h8] at hres HC3
                   simp only [Option.bind_some] at hres
                   have hin3 := q8_in h8 hil
                   clear h8 hil
                   have hil := hin3.1
                   have HC4 := Lib.hid (fun W1 (h1 : Rd w0 W1 g lz3) (h2 : Below w0.heap.size w0 W1) => eight_any w0 W1 g lz3 hil h1 h2)
                   cases h8 : q8 lz3 with
                   | none =>
                    rw [h8] at hres HC4
                    simp only [Option.bind_none] at hres
                    subst hres
                    clear h8
                    go_wp2_with fail
                    go_region_with (first | (go_at_call 30; refine (HC4.out _ ?_ ?_).mono ?_; (exact HPP3.out.1); (first | exact HPP3.out.2.2.1 | exact HPP3.out.2.2.1.drew); rintro e wz ⟨rfl, hb, hk⟩; (suffices hz : wpAny Try.prog .any #[] (fun _ _ _ => True) 0 #[] ⟨#[], []⟩ wz from ⟨rfl, rfl, hb, HKK3.out.trans hk (.inl rfl)⟩)) | (go_at_call 30; refine (HC3.out _ ?_ ?_).mono ?_; (exact HPP2.out.1); (first | exact HPP2.out.2.2.1 | exact HPP2.out.2.2.1.drew); rintro e wz3 ⟨rfl, hr, hb, hk⟩; have HPP3 := Lib.hid (HPP2.out.took hgb hr hin3.1 hb hk); have HKK3 := Lib.hid (HKK2.out.trans hk (.inl rfl)); have yz3 := (HPP3.out.cells 7).1; unfold PB at yz3; simp at yz3; have hbz3 := Blk.blk_lt HPP3.out.2.2.2.2.1; clear hr hb hk) | (go_at_call 29; refine (HC2.out _ ?_ ?_).mono ?_; (exact HPP1.out.1); (first | exact HPP1.out.2.2.1 | exact HPP1.out.2.2.1.drew); rintro e wz2 ⟨rfl, hr, hb, hk⟩; have HPP2 := Lib.hid (HPP1.out.took hgb hr hin2.1 hb hk); have HKK2 := Lib.hid (HKK1.out.trans hk (.inl rfl)); have yz2 := (HPP2.out.cells 7).1; unfold PB at yz2; simp at yz2; have hbz2 := Blk.blk_lt HPP2.out.2.2.2.2.1; clear hr hb hk) | (go_at_call 29; refine (HC1.out _ ?_ ?_).mono ?_; (exact HPL2.out.1); (first | exact HPL2.out.2.2.1 | exact HPL2.out.2.2.1.drew); rintro e wz1 ⟨rfl, hr, hb, hk⟩; have HPP1 := Lib.hid (HPL2.out.drew.took hgb hr hin1.1 hb hk); have HKK1 := Lib.hid (HKL2.out.trans hk (.inl rfl)); have yz1 := (HPP1.out.cells 7).1; unfold PB at yz1; simp at yz1; have hbz1 := Blk.blk_lt HPP1.out.2.2.2.2.1; clear hr hb hk))
                    all_goals trivial
                   | some t =>
                    obtain ⟨xv4, lz4⟩ := t
                    rw [h8] at hres HC4
                    simp only [Option.bind_some] at hres
                    have hin4 := q8_in h8 hil
                    clear h8 hil
                    have hil := hin4.1
                    have HRZ := Lib.hid hres
                    clear hres HRL
                    go_wp2_with fail
                    go_region_law (first | (refine Kd.R_append_rows_step k51 (Rr := (fun x cs => cs = [Value.int .i64 x.f0, .int .i64 x.f1, .int .i64 x.f2, .int .i64 x.f3])) (w0 := wz.alloc (.cells #[.int .i64 xv1, .int .i64 xv2, .int .i64 xv3, .int .i64 xv4] 51)) b (by rfl) (.tmp 48) (.tmp 58) 25 51 (.agg #[.int .i64 0, .int .i64 0, .int .i64 0, .int .i64 0]) 32 (by rfl) Try.underlying25 info51 rfl ?_ ?_ (.slice Af acc2.length cf) acc2 [(⟨xv1, xv2, xv3, xv4⟩ : S51)] (some ⟨wz.heap.size, 0, none⟩) 1 1 (fun _ => True) (fun _ => False) ?_ ?_ ?_ ?_ ?_ ?_ ?_ ?_ ?_ ?_ ?_; decide; decide; rfl; rfl; exact Kd.R_alloc HPP4.out.2.2.2.2.2.2.1 _; exact lit_one _ [.int .i64 xv1, .int .i64 xv2, .int .i64 xv3, .int .i64 xv4] rfl (Blk.blk_new _ _); exact fun x _ h => h ▸ k51_mkM _ _ _ x; exact fun _ h => h.elim; exact fun _ _ => trivial; exact Below.refl _ _; (simp; omega); omega; intro v1 w1_ ho hb hgr hown; obtain ⟨A1, c1_, e1⟩ := Kd.R_slice ho; subst e1; have HAP := Lib.hid ((HPP4.out.alloc _).app7 hgb hwb hgr ho); have HKA := Lib.hid (KeepBut.grown_new (HKK4.out.trans (KeepBut.of_grown (World.grownBy_alloc _ _ none) g) (.inl rfl)) hgr (fun k hk => Nat.le_trans hWb (row_base HPP4.out.2.2.2.2.2.2.1 k hk).1)); have y1 := Blk.blk_cell HAP.out.2 7; have z1 := Blk.blk_frozen HAP.out.2 7; unfold PB at y1; simp at y1; clear ho hb hgr hown) | (go_simp; go_wp2_with ((first | (go_at_call 30; refine (HC4.out _ ?_ ?_).mono ?_; (exact HPP3.out.1); (first | exact HPP3.out.2.2.1 | exact HPP3.out.2.2.1.drew); rintro e wz ⟨rfl, hr, hb, hk⟩; have HPP4 := Lib.hid (HPP3.out.took hgb hr hin4.1 hb hk); have HKK4 := Lib.hid (HKK3.out.trans hk (.inl rfl)); have yz4 := (HPP4.out.cells 7).1; unfold PB at yz4; simp at yz4; have hbz4 := Blk.blk_lt HPP4.out.2.2.2.2.1; clear hr hb hk) | (go_at_call 30; refine (HC3.out _ ?_ ?_).mono ?_; (exact HPP2.out.1); (first | exact HPP2.out.2.2.1 | exact HPP2.out.2.2.1.drew); rintro e wz3 ⟨rfl, hr, hb, hk⟩; have HPP3 := Lib.hid (HPP2.out.took hgb hr hin3.1 hb hk); have HKK3 := Lib.hid (HKK2.out.trans hk (.inl rfl)); have yz3 := (HPP3.out.cells 7).1; unfold PB at yz3; simp at yz3; have hbz3 := Blk.blk_lt HPP3.out.2.2.2.2.1; clear hr hb hk) | (go_at_call 29; refine (HC2.out _ ?_ ?_).mono ?_; (exact HPP1.out.1); (first | exact HPP1.out.2.2.1 | exact HPP1.out.2.2.1.drew); rintro e wz2 ⟨rfl, hr, hb, hk⟩; have HPP2 := Lib.hid (HPP1.out.took hgb hr hin2.1 hb hk); have HKK2 := Lib.hid (HKK1.out.trans hk (.inl rfl)); have yz2 := (HPP2.out.cells 7).1; unfold PB at yz2; simp at yz2; have hbz2 := Blk.blk_lt HPP2.out.2.2.2.2.1; clear hr hb hk) | (go_at_call 29; refine (HC1.out _ ?_ ?_).mono ?_; (exact HPL2.out.1); (first | exact HPL2.out.2.2.1 | exact HPL2.out.2.2.1.drew); rintro e wz1 ⟨rfl, hr, hb, hk⟩; have HPP1 := Lib.hid (HPL2.out.drew.took hgb hr hin1.1 hb hk); have HKK1 := Lib.hid (HKL2.out.trans hk (.inl rfl)); have yz1 := (HPP1.out.cells 7).1; unfold PB at yz1; simp at yz1; have hbz1 := Blk.blk_lt HPP1.out.2.2.2.2.1; clear hr hb hk)))))
                    all_goals (try go_wp2)
                    all_goals (go_roundg g'; (case measure => omega); (case rel => exact ⟨q + 1, acc2 ++ [(⟨xv1, xv2, xv3, xv4⟩ : S51)], lz4, .slice A1 (acc2.length + 1) c1_, by simp, by omega, by simp [HAL.out], HRZ, Lib.hid (by have h := HAP.out.1; simp only [List.length_append, List.length_cons, List.length_nil, Nat.zero_add] at h; exact h), Lib.hid (KeepBut.new HKA.out (by omega) 7 _)⟩))
               ·obtain rfl : gk = 0 := by omega
                obtain rfl : q = n2 := by omega
                have q0 : decide ((q : Int) < (q : Int)) = false := by simp
                have q0n : decide (q < q) = false := by simp
                have hres := HRL.out
                simp only [qA, Option.bind_some] at hres
                have HRM2 := Lib.hid hres
                clear hres HRL hlt
                go_wp2_with fail
                clear q0 q0n hq hal
                obtain ⟨l13, hl13⟩ : ∃ l, lx2 = l := ⟨_, rfl⟩
                subst hl13
                unfold c3 at HRM2
                cases hq13 : qc 256 lx2 with
                | none =>
                 have hres := HRM2.out
                 rw [hq13] at hres
                 simp only [Option.bind_none] at hres
                 subst hres
                 refine (count_any w0 _ g _ _ HPL2.out.2.1 HPL2.out.1 HPL2.out.2.2.1).mono ?_
                 rw [hq13]
                 rintro e wz ⟨rfl, hb, hk⟩
                 have HBZ := Lib.hid hb; have HKZ := Lib.hid (HKL2.out.trans hk (.inl rfl)); clear hb hk
                 go_wp2
                 exact ⟨rfl, rfl, HBZ.out, HKZ.out⟩
                | some t =>
                 obtain ⟨x13, l14⟩ := t
                 have hres := HRM2.out
                 rw [hq13] at hres
                 simp only [Option.bind_some] at hres
                 have HR14 := Lib.hid hres
                 clear hres HRM2
                 have hin := qc_in hq13 HPL2.out.2.1
                 refine (count_any w0 _ g _ _ HPL2.out.2.1 HPL2.out.1 HPL2.out.2.2.1).mono ?_
                 rw [hq13]
                 rintro e w12 ⟨rfl, hr, hb, hk⟩
                 have HP14 := Lib.hid (HPL2.out.took hgb hr hin.1 hb hk)
                 have HK14 := Lib.hid (HKL2.out.trans hk (.inl rfl))
                 clear hr hb hk hq13 HPL2 HKL2
                 obtain ⟨n3, hn3⟩ : ∃ n : Nat, x13 = n := ⟨x13.toNat, by omega⟩
                 subst hn3
                 go_wp2
                 rw [Int.toNat_natCast] at HR14
                 go_loopg [64] n3 (fun gf vi wx => ∃ (q : Nat) (acc : List S54) (lx : List Int) (vf : Value), vi = .int .i64 q ∧ q + gf = n3 ∧ acc.length = q ∧ Hid (((qA fC gf acc lx).bind fun u => c4 ⟨x1, x4, x5, x6, x7, x8, acc1, acc2, u.1, x2, x3, []⟩ u.2) = RES) ∧ Hid (Ps w0 g b lx ⟨x1, x4, x5, x6, x7, x8, acc1, acc2, acc, x2, x3, []⟩ vf1 vf2 vf (.slice none 0 0) wx) ∧ Hid (KeepBut W wx g none))
                 case atStart => exact ⟨0, [], _, _, rfl, by omega, rfl, HR14, HP14, HK14⟩
                 case round =>
                  clear HR14 HP14 HK14
                  obtain ⟨q, acc3, lx3, vf3, rfl, hq, hal, HRL, HPL3, HKL3⟩ := hrel
                  by_cases hlt : q < n3
                  ·obtain ⟨g', rfl⟩ : ∃ g', gk = g' + 1 := ⟨gk - 1, by omega⟩
                   obtain ⟨Af, cf, ef⟩ := Kd.R_slice (HPL3.out.2.2.2.2.2.2.2.1)
                   subst ef
                   obtain ⟨yf, zf⟩ := HPL3.out.cells 8
                   unfold PB at yf
                   try simp at yf
                   have hres := HRL.out
                   unfold qA at hres
                   rw [fC] at hres
                   simp only [Option.bind_assoc] at hres
                   have q0 : decide ((q : Int) < (n3 : Int)) = true := by simp; omega
                   have q0n : decide (q < n3) = true := by simp; omega
                   have hbs : b + 1 < wr.heap.size := Blk.blk_lt HPL3.out.2.2.2.2.1
                   have hacc : acc3.length ≤ 256 := by omega
                   have HAL := Lib.hid hal; clear hal
                   have hil := HPL3.out.2.1
                   have HC1 := Lib.hid (fun W1 (h1 : Rd w0 W1 g lx3) (h2 : Below w0.heap.size w0 W1) => eight_any w0 W1 g lx3 hil h1 h2)
                   cases h8 : q8 lx3 with
                   | none =>
                    rw [h8] at hres HC1
                    simp only [Option.bind_none] at hres
                    subst hres
                    clear h8
                    go_wp2_with fail
                    go_region_with (first | (go_at_call 30; refine (HC1.out _ ?_ ?_).mono ?_; (exact HPL3.out.1); (first | exact HPL3.out.2.2.1 | exact HPL3.out.2.2.1.drew); rintro e wz ⟨rfl, hb, hk⟩; (suffices hz : wpAny Try.prog .any #[] (fun _ _ _ => True) 0 #[] ⟨#[], []⟩ wz from ⟨rfl, rfl, hb, HKL3.out.trans hk (.inl rfl)⟩)))
                    all_goals trivial
                   | some t =>
                    obtain ⟨xv1, lz1⟩ := t
                    rw [h8] at hres HC1
                    simp only [Option.bind_some] at hres
                    have hin1 := q8_in h8 hil
                    clear h8 hil
                    have hil := hin1.1
                    have HC2 := Lib.hid (fun W1 (h1 : Rd w0 W1 g lz1) (h2 : Below w0.heap.size w0 W1) => eight_any w0 W1 g lz1 hil h1 h2)
                    cases h8 : q8 lz1 with
                    | none =>
                     rw [h8] at hres HC2
                     simp only [Option.bind_none] at hres
                     subst hres
                     clear h8
                     go_wp2_with fail
                     go_region_with (first | (go_at_call 30; refine (HC2.out _ ?_ ?_).mono ?_; (exact HPP1.out.1); (first | exact HPP1.out.2.2.1 | exact HPP1.out.2.2.1.drew); rintro e wz ⟨rfl, hb, hk⟩; (suffices hz : wpAny Try.prog .any #[] (fun _ _ _ => True) 0 #[] ⟨#[], []⟩ wz from ⟨rfl, rfl, hb, HKK1.out.trans hk (.inl rfl)⟩)) | (go_at_call 30; refine (HC1.out _ ?_ ?_).mono ?_; (exact HPL3.out.1); (first | exact HPL3.out.2.2.1 | exact HPL3.out.2.2.1.drew); rintro e wz1 ⟨rfl, hr, hb, hk⟩; have HPP1 := Lib.hid (HPL3.out.drew.took hgb hr hin1.1 hb hk); have HKK1 := Lib.hid (HKL3.out.trans hk (.inl rfl)); have yz1 := (HPP1.out.cells 8).1; unfold PB at yz1; simp at yz1; have hbz1 := Blk.blk_lt HPP1.out.2.2.2.2.1; clear hr hb hk))
                     all_goals trivial
                    | some t =>
                     obtain ⟨xv2, lz2⟩ := t
                     rw [h8] at hres HC2
                     simp only [Option.bind_some] at hres
                     have hin2 := q8_in h8 hil
                     clear h8 hil
                     have hil := hin2.1
                     have HC3 := Lib.hid (fun W1 (h1 : Rd w0 W1 g lz2) (h2 : Below w0.heap.size w0 W1) => eight_any w0 W1 g lz2 hil h1 h2)
                     cases h8 : q8 lz2 with
                     | none =>
                      rw [h8] at hres HC3
                      simp only [Option.bind_none] at hres
                      subst hres
                      clear h8
                      go_wp2_with fail
                      go_region_with (first | (go_at_call 30; refine (HC3.out _ ?_ ?_).mono ?_; (exact HPP2.out.1); (first | exact HPP2.out.2.2.1 | exact HPP2.out.2.2.1.drew); rintro e wz ⟨rfl, hb, hk⟩; (suffices hz : wpAny Try.prog .any #[] (fun _ _ _ => True) 0 #[] ⟨#[], []⟩ wz from ⟨rfl, rfl, hb, HKK2.out.trans hk (.inl rfl)⟩)) | (go_at_call 30; refine (HC2.out _ ?_ ?_).mono ?_; (exact HPP1.out.1); (first | exact HPP1.out.2.2.1 | exact HPP1.out.2.2.1.drew); rintro e wz2 ⟨rfl, hr, hb, hk⟩; have HPP2 := Lib.hid (HPP1.out.took hgb hr hin2.1 hb hk); have HKK2 := Lib.hid (HKK1.out.trans hk (.inl rfl)); have yz2 := (HPP2.out.cells 8).1; unfold PB at yz2; simp at yz2; have hbz2 := Blk.blk_lt HPP2.out.2.2.2.2.1; clear hr hb hk) | (go_at_call 30; refine (HC1.out _ ?_ ?_).mono ?_; (exact HPL3.out.1); (first | exact HPL3.out.2.2.1 | exact HPL3.out.2.2.1.drew); rintro e wz1 ⟨rfl, hr, hb, hk⟩; have HPP1 := Lib.hid (HPL3.out.drew.took hgb hr hin1.1 hb hk); have HKK1 := Lib.hid (HKL3.out.trans hk (.inl rfl)); have yz1 := (HPP1.out.cells 8).1; unfold PB at yz1; simp at yz1; have hbz1 := Blk.blk_lt HPP1.out.2.2.2.2.1; clear hr hb hk))
                      all_goals trivial
                     | some t =>
                      obtain ⟨xv3, lz3⟩ := t
                      rw [h8] at hres HC3
                      simp only [Option.bind_some] at hres
                      have hin3 := q8_in h8 hil
                      clear h8 hil
                      have hil := hin3.1
                      have HC4 := Lib.hid (fun W1 (h1 : Rd w0 W1 g lz3) (h2 : Below w0.heap.size w0 W1) => eight_any w0 W1 g lz3 hil h1 h2)
                      cases h8 : q8 lz3 with
                      | none =>
                       rw [h8] at hres HC4
                       simp only [Option.bind_none] at hres
                       subst hres
                       clear h8
                       go_wp2_with fail
                       go_region_with (first | (go_at_call 30; refine (HC4.out _ ?_ ?_).mono ?_; (exact HPP3.out.1); (first | exact HPP3.out.2.2.1 | exact HPP3.out.2.2.1.drew); rintro e wz ⟨rfl, hb, hk⟩; (suffices hz : wpAny Try.prog .any #[] (fun _ _ _ => True) 0 #[] ⟨#[], []⟩ wz from ⟨rfl, rfl, hb, HKK3.out.trans hk (.inl rfl)⟩)) | (go_at_call 30; refine (HC3.out _ ?_ ?_).mono ?_; (exact HPP2.out.1); (first | exact HPP2.out.2.2.1 | exact HPP2.out.2.2.1.drew); rintro e wz3 ⟨rfl, hr, hb, hk⟩; have HPP3 := Lib.hid (HPP2.out.took hgb hr hin3.1 hb hk); have HKK3 := Lib.hid (HKK2.out.trans hk (.inl rfl)); have yz3 := (HPP3.out.cells 8).1; unfold PB at yz3; simp at yz3; have hbz3 := Blk.blk_lt HPP3.out.2.2.2.2.1; clear hr hb hk) | (go_at_call 30; refine (HC2.out _ ?_ ?_).mono ?_; (exact HPP1.out.1); (first | exact HPP1.out.2.2.1 | exact HPP1.out.2.2.1.drew); rintro e wz2 ⟨rfl, hr, hb, hk⟩; have HPP2 := Lib.hid (HPP1.out.took hgb hr hin2.1 hb hk); have HKK2 := Lib.hid (HKK1.out.trans hk (.inl rfl)); have yz2 := (HPP2.out.cells 8).1; unfold PB at yz2; simp at yz2; have hbz2 := Blk.blk_lt HPP2.out.2.2.2.2.1; clear hr hb hk) | (go_at_call 30; refine (HC1.out _ ?_ ?_).mono ?_; (exact HPL3.out.1); (first | exact HPL3.out.2.2.1 | exact HPL3.out.2.2.1.drew); rintro e wz1 ⟨rfl, hr, hb, hk⟩; have HPP1 := Lib.hid (HPL3.out.drew.took hgb hr hin1.1 hb hk); have HKK1 := Lib.hid (HKL3.out.trans hk (.inl rfl)); have yz1 := (HPP1.out.cells 8).1; unfold PB at yz1; simp at yz1; have hbz1 := Blk.blk_lt HPP1.out.2.2.2.2.1; clear hr hb hk))
                       all_goals trivial
                      | some t =>
                       obtain ⟨xv4, lz4⟩ := t
                       rw [h8] at hres HC4
                       simp only [Option.bind_some] at hres
                       have hin4 := q8_in h8 hil
                       clear h8 hil
                       have hil := hin4.1
                       have HC5 := Lib.hid (fun W1 (h1 : Rd w0 W1 g lz4) (h2 : Below w0.heap.size w0 W1) => eight_any w0 W1 g lz4 hil h1 h2)
                       cases h8 : q8 lz4 with
                       | none =>
                        rw [h8] at hres HC5
                        simp only [Option.bind_none] at hres
                        subst hres
                        clear h8
                        go_wp2_with fail
                        go_region_with (first | (go_at_call 30; refine (HC5.out _ ?_ ?_).mono ?_; (exact HPP4.out.1); (first | exact HPP4.out.2.2.1 | exact HPP4.out.2.2.1.drew); rintro e wz ⟨rfl, hb, hk⟩; (suffices hz : wpAny Try.prog .any #[] (fun _ _ _ => True) 0 #[] ⟨#[], []⟩ wz from ⟨rfl, rfl, hb, HKK4.out.trans hk (.inl rfl)⟩)) | (go_at_call 30; refine (HC4.out _ ?_ ?_).mono ?_; (exact HPP3.out.1); (first | exact HPP3.out.2.2.1 | exact HPP3.out.2.2.1.drew); rintro e wz4 ⟨rfl, hr, hb, hk⟩; have HPP4 := Lib.hid (HPP3.out.took hgb hr hin4.1 hb hk); have HKK4 := Lib.hid (HKK3.out.trans hk (.inl rfl)); have yz4 := (HPP4.out.cells 8).1; unfold PB at yz4; simp at yz4; have hbz4 := Blk.blk_lt HPP4.out.2.2.2.2.1; clear hr hb hk) | (go_at_call 30; refine (HC3.out _ ?_ ?_).mono ?_; (exact HPP2.out.1); (first | exact HPP2.out.2.2.1 | exact HPP2.out.2.2.1.drew); rintro e wz3 ⟨rfl, hr, hb, hk⟩; have HPP3 := Lib.hid (HPP2.out.took hgb hr hin3.1 hb hk); have HKK3 := Lib.hid (HKK2.out.trans hk (.inl rfl)); have yz3 := (HPP3.out.cells 8).1; unfold PB at yz3; simp at yz3; have hbz3 := Blk.blk_lt HPP3.out.2.2.2.2.1; clear hr hb hk) | (go_at_call 30; refine (HC2.out _ ?_ ?_).mono ?_; (exact HPP1.out.1); (first | exact HPP1.out.2.2.1 | exact HPP1.out.2.2.1.drew); rintro e wz2 ⟨rfl, hr, hb, hk⟩; have HPP2 := Lib.hid (HPP1.out.took hgb hr hin2.1 hb hk); have HKK2 := Lib.hid (HKK1.out.trans hk (.inl rfl)); have yz2 := (HPP2.out.cells 8).1; unfold PB at yz2; simp at yz2; have hbz2 := Blk.blk_lt HPP2.out.2.2.2.2.1; clear hr hb hk) | (go_at_call 30; refine (HC1.out _ ?_ ?_).mono ?_; (exact HPL3.out.1); (first | exact HPL3.out.2.2.1 | exact HPL3.out.2.2.1.drew); rintro e wz1 ⟨rfl, hr, hb, hk⟩; have HPP1 := Lib.hid (HPL3.out.drew.took hgb hr hin1.1 hb hk); have HKK1 := Lib.hid (HKL3.out.trans hk (.inl rfl)); have yz1 := (HPP1.out.cells 8).1; unfold PB at yz1; simp at yz1; have hbz1 := Blk.blk_lt HPP1.out.2.2.2.2.1; clear hr hb hk))
                        all_goals trivial
                       | some t =>
                        obtain ⟨xv5, lz5⟩ := t
                        rw [h8] at hres HC5
                        simp only [Option.bind_some] at hres
                        have hin5 := q8_in h8 hil
                        clear h8 hil
                        have hil := hin5.1
                        have HRZ := Lib.hid hres
                        clear hres HRL
                        go_wp2_with fail
                        go_region_law (first | (refine Kd.R_append_rows_step k54 (Rr := (fun x cs => cs = [Value.int .u64 x.f0, .int .u64 x.f1, .int .u64 x.f2, .int .u64 x.f3, .int .u64 x.f4])) (w0 := wz.alloc (.cells #[.int .u64 (IntKind.u64.wrap xv1), .int .u64 (IntKind.u64.wrap xv2), .int .u64 (IntKind.u64.wrap xv3), .int .u64 (IntKind.u64.wrap xv4), .int .u64 (IntKind.u64.wrap xv5)] 54)) b (by rfl) (.tmp 67) (.tmp 84) 26 54 (.agg #[.int .u64 0, .int .u64 0, .int .u64 0, .int .u64 0, .int .u64 0]) 40 (by rfl) Try.underlying26 info54 rfl ?_ ?_ (.slice Af acc3.length cf) acc3 [(⟨IntKind.u64.wrap xv1, IntKind.u64.wrap xv2, IntKind.u64.wrap xv3, IntKind.u64.wrap xv4, IntKind.u64.wrap xv5⟩ : S54)] (some ⟨wz.heap.size, 0, none⟩) 1 1 (fun _ => True) (fun _ => False) ?_ ?_ ?_ ?_ ?_ ?_ ?_ ?_ ?_ ?_ ?_; decide; decide; rfl; rfl; exact Kd.R_alloc HPP5.out.2.2.2.2.2.2.2.1 _; exact lit_one _ [.int .u64 (IntKind.u64.wrap xv1), .int .u64 (IntKind.u64.wrap xv2), .int .u64 (IntKind.u64.wrap xv3), .int .u64 (IntKind.u64.wrap xv4), .int .u64 (IntKind.u64.wrap xv5)] rfl (Blk.blk_new _ _); exact fun x _ h => h ▸ k54_mkM _ _ _ x; exact fun _ h => h.elim; exact fun _ _ => trivial; exact Below.refl _ _; (simp; omega); omega; intro v1 w1_ ho hb hgr hown; obtain ⟨A1, c1_, e1⟩ := Kd.R_slice ho; subst e1; have HAP := Lib.hid ((HPP5.out.alloc _).app8 hgb hwb hgr ho); have HKA := Lib.hid (KeepBut.grown_new (HKK5.out.trans (KeepBut.of_grown (World.grownBy_alloc _ _ none) g) (.inl rfl)) hgr (fun k hk => Nat.le_trans hWb (row_base HPP5.out.2.2.2.2.2.2.2.1 k hk).1)); have y1 := Blk.blk_cell HAP.out.2 8; have z1 := Blk.blk_frozen HAP.out.2 8; unfold PB at y1; simp at y1; clear ho hb hgr hown) | (go_simp; go_wp2_with ((first | (go_at_call 30; refine (HC5.out _ ?_ ?_).mono ?_; (exact HPP4.out.1); (first | exact HPP4.out.2.2.1 | exact HPP4.out.2.2.1.drew); rintro e wz ⟨rfl, hr, hb, hk⟩; have HPP5 := Lib.hid (HPP4.out.took hgb hr hin5.1 hb hk); have HKK5 := Lib.hid (HKK4.out.trans hk (.inl rfl)); have yz5 := (HPP5.out.cells 8).1; unfold PB at yz5; simp at yz5; have hbz5 := Blk.blk_lt HPP5.out.2.2.2.2.1; clear hr hb hk) | (go_at_call 30; refine (HC4.out _ ?_ ?_).mono ?_; (exact HPP3.out.1); (first | exact HPP3.out.2.2.1 | exact HPP3.out.2.2.1.drew); rintro e wz4 ⟨rfl, hr, hb, hk⟩; have HPP4 := Lib.hid (HPP3.out.took hgb hr hin4.1 hb hk); have HKK4 := Lib.hid (HKK3.out.trans hk (.inl rfl)); have yz4 := (HPP4.out.cells 8).1; unfold PB at yz4; simp at yz4; have hbz4 := Blk.blk_lt HPP4.out.2.2.2.2.1; clear hr hb hk) | (go_at_call 30; refine (HC3.out _ ?_ ?_).mono ?_; (exact HPP2.out.1); (first | exact HPP2.out.2.2.1 | exact HPP2.out.2.2.1.drew); rintro e wz3 ⟨rfl, hr, hb, hk⟩; have HPP3 := Lib.hid (HPP2.out.took hgb hr hin3.1 hb hk); have HKK3 := Lib.hid (HKK2.out.trans hk (.inl rfl)); have yz3 := (HPP3.out.cells 8).1; unfold PB at yz3; simp at yz3; have hbz3 := Blk.blk_lt HPP3.out.2.2.2.2.1; clear hr hb hk) | (go_at_call 30; refine (HC2.out _ ?_ ?_).mono ?_; (exact HPP1.out.1); (first | exact HPP1.out.2.2.1 | exact HPP1.out.2.2.1.drew); rintro e wz2 ⟨rfl, hr, hb, hk⟩; have HPP2 := Lib.hid (HPP1.out.took hgb hr hin2.1 hb hk); have HKK2 := Lib.hid (HKK1.out.trans hk (.inl rfl)); have yz2 := (HPP2.out.cells 8).1; unfold PB at yz2; simp at yz2; have hbz2 := Blk.blk_lt HPP2.out.2.2.2.2.1; clear hr hb hk) | (go_at_call 30; refine (HC1.out _ ?_ ?_).mono ?_; (exact HPL3.out.1); (first | exact HPL3.out.2.2.1 | exact HPL3.out.2.2.1.drew); rintro e wz1 ⟨rfl, hr, hb, hk⟩; have HPP1 := Lib.hid (HPL3.out.drew.took hgb hr hin1.1 hb hk); have HKK1 := Lib.hid (HKL3.out.trans hk (.inl rfl)); have yz1 := (HPP1.out.cells 8).1; unfold PB at yz1; simp at yz1; have hbz1 := Blk.blk_lt HPP1.out.2.2.2.2.1; clear hr hb hk)))))
                        all_goals (try go_wp2)
                        all_goals (go_roundg g'; (case measure => omega); (case rel => exact ⟨q + 1, acc3 ++ [(⟨IntKind.u64.wrap xv1, IntKind.u64.wrap xv2, IntKind.u64.wrap xv3, IntKind.u64.wrap xv4, IntKind.u64.wrap xv5⟩ : S54)], lz5, .slice A1 (acc3.length + 1) c1_, by simp, by omega, by simp [HAL.out], HRZ, Lib.hid (by have h := HAP.out.1; simp only [List.length_append, List.length_cons, List.length_nil, Nat.zero_add] at h; exact h), Lib.hid (KeepBut.new HKA.out (by omega) 8 _)⟩))
                  ·obtain rfl : gk = 0 := by omega
                   obtain rfl : q = n3 := by omega
                   have q0 : decide ((q : Int) < (q : Int)) = false := by simp
                   have q0n : decide (q < q) = false := by simp
                   have hres := HRL.out
                   simp only [qA, Option.bind_some] at hres
                   have HRM3 := Lib.hid hres
                   clear hres HRL hlt
                   go_wp2_with fail
                   clear q0 q0n hq hal
                   obtain ⟨l15, hl15⟩ : ∃ l, lx3 = l := ⟨_, rfl⟩
                   subst hl15
                   unfold c4 at HRM3
                   cases hq15 : qc 16384 lx3 with
                   | none =>
                    have hres := HRM3.out
                    rw [hq15] at hres
                    simp only [Option.bind_none] at hres
                    subst hres
                    refine (count_any w0 _ g _ _ HPL3.out.2.1 HPL3.out.1 HPL3.out.2.2.1).mono ?_
                    rw [hq15]
                    rintro e wz ⟨rfl, hb, hk⟩
                    have HBZ := Lib.hid hb; have HKZ := Lib.hid (HKL3.out.trans hk (.inl rfl)); clear hb hk
                    go_wp2
                    exact ⟨rfl, rfl, HBZ.out, HKZ.out⟩
                   | some t =>
                    obtain ⟨x15, l16⟩ := t
                    have hres := HRM3.out
                    rw [hq15] at hres
                    simp only [Option.bind_some] at hres
                    have HR16 := Lib.hid hres
                    clear hres HRM3
                    have hin := qc_in hq15 HPL3.out.2.1
                    refine (count_any w0 _ g _ _ HPL3.out.2.1 HPL3.out.1 HPL3.out.2.2.1).mono ?_
                    rw [hq15]
                    rintro e w13 ⟨rfl, hr, hb, hk⟩
                    have HP16 := Lib.hid (HPL3.out.took hgb hr hin.1 hb hk)
                    have HK16 := Lib.hid (HKL3.out.trans hk (.inl rfl))
                    clear hr hb hk hq15 HPL3 HKL3
                    obtain ⟨n4, hn4⟩ : ∃ n : Nat, x15 = n := ⟨x15.toNat, by omega⟩
                    subst hn4
                    go_wp2
                    rw [Int.toNat_natCast] at HR16
                    go_loopg [90] n4 (fun gf vi wx => ∃ (q : Nat) (acc : List S45) (lx : List Int) (vf : Value), vi = .int .i64 q ∧ q + gf = n4 ∧ acc.length = q ∧ Hid (((qA fI gf acc lx).bind fun u => c5 ⟨x1, x4, x5, x6, x7, x8, acc1, acc2, acc3, x2, x3, u.1⟩ u.2) = RES) ∧ Hid (Ps w0 g b lx ⟨x1, x4, x5, x6, x7, x8, acc1, acc2, acc3, x2, x3, acc⟩ vf1 vf2 vf3 vf wx) ∧ Hid (KeepBut W wx g none))
                    case atStart => exact ⟨0, [], _, _, rfl, by omega, rfl, HR16, HP16, HK16⟩
                    case round =>
                     clear HR16 HP16 HK16
                     obtain ⟨q, acc4, lx4, vf4, rfl, hq, hal, HRL, HPL4, HKL4⟩ := hrel
                     by_cases hlt : q < n4
                     ·obtain ⟨g', rfl⟩ : ∃ g', gk = g' + 1 := ⟨gk - 1, by omega⟩
                      obtain ⟨Af, cf, ef⟩ := Kd.R_slice HPL4.out.2.2.2.2.2.2.2.2
                      subst ef
                      obtain ⟨yf, zf⟩ := HPL4.out.cells 11
                      unfold PB at yf
                      try simp at yf
                      have hres := HRL.out
                      unfold qA at hres
                      have q0 : decide ((q : Int) < (n4 : Int)) = true := by simp; omega
                      have q0n : decide (q < n4) = true := by simp; omega
                      have hbs : b + 1 < wr.heap.size := Blk.blk_lt HPL4.out.2.2.2.2.1
                      have hacc : acc4.length ≤ 16384 := by omega
                      have HAL := Lib.hid hal; clear hal
                      have hil := HPL4.out.2.1
                      cases lx4 with
                      | nil =>
                       simp only [fI, Option.bind_none] at hres
                       subst hres
                       have HC1 := Lib.hid (fun W1 (h1 : Rd w0 W1 g []) (h2 : Below w0.heap.size w0 W1) => take_no w0 W1 g 1 [] (by decide) (by simp) h1 h2)
                       go_wp2_with fail
                       go_region_with (first | (go_at_call 28; refine (HC1.out _ ?_ ?_).mono ?_; (exact HPL4.out.1); (first | exact HPL4.out.2.2.1 | exact HPL4.out.2.2.1.drew); rintro e wz ⟨rfl, hb, hk⟩; (suffices hz : wpAny Try.prog .any #[] (fun _ _ _ => True) 0 #[] ⟨#[], []⟩ wz from ⟨rfl, rfl, hb, HKL4.out.trans hk (.inl rfl)⟩)))
                       all_goals trivial
                      | cons a9 r9 =>
                       simp only [fI, Option.bind_assoc] at hres
                       have HC1 := Lib.hid (fun W1 (h1 : Rd w0 W1 g (a9 :: r9)) (h2 : Below w0.heap.size w0 W1) => take_yes w0 W1 g 1 (a9 :: r9) (by decide) (by decide) (by simp) h1 h2)
                       have ha9 := hil a9 (by simp)
                       have hin1 : InB r9 ∧ True := ⟨fun x hx => hil x (List.mem_cons_of_mem _ hx), trivial⟩
                       have hw9 : IntKind.i64.wrap a9 = a9 := by rw [IntKind.wrap_i64]; omega
                       clear hil
                       have hil := hin1.1
                       have HC2 := Lib.hid (fun W1 (h1 : Rd w0 W1 g r9) (h2 : Below w0.heap.size w0 W1) => eight_any w0 W1 g r9 hil h1 h2)
                       cases h8 : q8 r9 with
                       | none =>
                        rw [h8] at hres HC2
                        simp only [Option.bind_none] at hres
                        subst hres
                        clear h8
                        go_wp2_with fail
                        go_region_with (first | (go_at_call 30; refine (HC2.out _ ?_ ?_).mono ?_; (exact HPP1.out.1); (first | exact HPP1.out.2.2.1 | exact HPP1.out.2.2.1.drew); rintro e wz ⟨rfl, hb, hk⟩; (suffices hz : wpAny Try.prog .any #[] (fun _ _ _ => True) 0 #[] ⟨#[], []⟩ wz from ⟨rfl, rfl, hb, HKK1.out.trans hk (.inl rfl)⟩)) | (go_at_call 28; refine (HC1.out _ ?_ ?_).mono ?_; (exact HPL4.out.1); (first | exact HPL4.out.2.2.1 | exact HPL4.out.2.2.1.drew); rintro e wz1 ⟨A9, rfl, hc9, hr, hb, hk⟩; obtain ⟨ad9, rfl, HY9⟩ := byte_at hc9; clear hc9; have yb1 := HY9.out _ hb; have HPP1 := Lib.hid (HPL4.out.drew.took hgb hr hin1.1 hb hk); have HKK1 := Lib.hid (HKL4.out.trans hk (.inl rfl)); have yz1 := (HPP1.out.cells 11).1; unfold PB at yz1; simp at yz1; have hbz1 := Blk.blk_lt HPP1.out.2.2.2.2.1; clear hr hb hk))
                        all_goals trivial
                       | some t =>
                        obtain ⟨xv2, lz2⟩ := t
                        rw [h8] at hres HC2
                        simp only [Option.bind_some] at hres
                        have hin2 := q8_in h8 hil
                        clear h8 hil
                        have HRZ := Lib.hid hres
                        clear hres HRL
                        go_wp2_with fail
                        go_region_law (first | (refine Kd.R_append_rows_step k45 (Rr := (fun x cs => cs = [Value.int .i64 x.f0, .int .i64 x.f1])) (w0 := wz.alloc (.cells #[.int .i64 a9, .int .i64 xv2] 45)) b (by rfl) (.tmp 93) (.tmp 102) 27 45 (.agg #[.int .i64 0, .int .i64 0]) 16 (by rfl) Try.underlying27 info45 rfl ?_ ?_ (.slice Af acc4.length cf) acc4 [(⟨a9, xv2⟩ : S45)] (some ⟨wz.heap.size, 0, none⟩) 1 1 (fun _ => True) (fun _ => False) ?_ ?_ ?_ ?_ ?_ ?_ ?_ ?_ ?_ ?_ ?_; decide; decide; rfl; rfl; exact Kd.R_alloc HPP2.out.2.2.2.2.2.2.2.2 _; exact lit_one _ [.int .i64 a9, .int .i64 xv2] rfl (Blk.blk_new _ _); exact fun x _ h => h ▸ k45_mkM _ _ _ x; exact fun _ h => h.elim; exact fun _ _ => trivial; exact Below.refl _ _; (simp; omega); omega; intro v1 w1_ ho hb hgr hown; obtain ⟨A1, c1_, e1⟩ := Kd.R_slice ho; subst e1; have HAP := Lib.hid ((HPP2.out.alloc _).app11 hgb hwb hgr ho); have HKA := Lib.hid (KeepBut.grown_new (HKK2.out.trans (KeepBut.of_grown (World.grownBy_alloc _ _ none) g) (.inl rfl)) hgr (fun k hk => Nat.le_trans hWb (row_base HPP2.out.2.2.2.2.2.2.2.2 k hk).1)); have y1 := Blk.blk_cell HAP.out.2 11; have z1 := Blk.blk_frozen HAP.out.2 11; unfold PB at y1; simp at y1; clear ho hb hgr hown) | (go_simp; go_wp2_with ((first | (go_at_call 30; refine (HC2.out _ ?_ ?_).mono ?_; (exact HPP1.out.1); (first | exact HPP1.out.2.2.1 | exact HPP1.out.2.2.1.drew); rintro e wz ⟨rfl, hr, hb, hk⟩; have HPP2 := Lib.hid (HPP1.out.took hgb hr hin2.1 hb hk); have HKK2 := Lib.hid (HKK1.out.trans hk (.inl rfl)); have yz2 := (HPP2.out.cells 11).1; unfold PB at yz2; simp at yz2; have hbz2 := Blk.blk_lt HPP2.out.2.2.2.2.1; have yb2 := HY9.out _ hb; clear hr hb hk) | (go_at_call 28; refine (HC1.out _ ?_ ?_).mono ?_; (exact HPL4.out.1); (first | exact HPL4.out.2.2.1 | exact HPL4.out.2.2.1.drew); rintro e wz1 ⟨A9, rfl, hc9, hr, hb, hk⟩; obtain ⟨ad9, rfl, HY9⟩ := byte_at hc9; clear hc9; have yb1 := HY9.out _ hb; have HPP1 := Lib.hid (HPL4.out.drew.took hgb hr hin1.1 hb hk); have HKK1 := Lib.hid (HKL4.out.trans hk (.inl rfl)); have yz1 := (HPP1.out.cells 11).1; unfold PB at yz1; simp at yz1; have hbz1 := Blk.blk_lt HPP1.out.2.2.2.2.1; clear hr hb hk)))))
                        all_goals (try go_wp2)
                        all_goals (go_roundg g'; (case measure => omega); (case rel => exact ⟨q + 1, acc4 ++ [⟨a9, xv2⟩], lz2, .slice A1 (acc4.length + 1) c1_, by simp, by omega, by simp [HAL.out], HRZ, Lib.hid (by have h := HAP.out.1; simp only [List.length_append, List.length_cons, List.length_nil, Nat.zero_add] at h; exact h), Lib.hid (KeepBut.new HKA.out (by omega) 11 _)⟩))
                     ·obtain rfl : gk = 0 := by omega
                      obtain rfl : q = n4 := by omega
                      have q0 : decide ((q : Int) < (q : Int)) = false := by simp
                      have q0n : decide (q < q) = false := by simp
                      have hres := HRL.out
                      simp only [qA, Option.bind_some, c5] at hres
                      have HRM4 := Lib.hid hres
                      clear hres HRL hlt
                      obtain ⟨⟨A5, c5_, hg5, hc51, _, hg6⟩, _⟩ := HPL4.out
                      have y5 := Blk.blk_cell hg5 0
                      simp at y5
                      have HB4 := Lib.hid HPL4.out.2.2.1
                      clear hg5
                      by_cases hz : lx4.length = 0
                      ·have hres := HRM4.out
                       rw [if_pos hz] at hres
                       subst hres
                       rw [hz] at y5
                       obtain ⟨AA1, cc1, ee1⟩ := Kd.R_slice HPL4.out.2.2.2.2.2.1; subst ee1
                       obtain ⟨AA2, cc2, ee2⟩ := Kd.R_slice HPL4.out.2.2.2.2.2.2.1; subst ee2
                       obtain ⟨AA3, cc3, ee3⟩ := Kd.R_slice HPL4.out.2.2.2.2.2.2.2.1; subst ee3
                       obtain ⟨AA4, cc4, ee4⟩ := Kd.R_slice HPL4.out.2.2.2.2.2.2.2.2; subst ee4
                       obtain ⟨_, _, _, h2, h3, _⟩ := HPL4.out
                       obtain ⟨PV, hPV⟩ : ∃ x, x = (PB ⟨x1, x4, x5, x6, x7, x8, acc1, acc2, acc3, x2, x3, acc4⟩ (.slice AA1 acc1.length cc1) (.slice AA2 acc2.length cc2) (.slice AA3 acc3.length cc3) (.slice AA4 acc4.length cc4)) := ⟨_, rfl⟩
                       rw [← hPV] at h3
                       have hall : PV.all (·.oneCell') = true := by rw [hPV]; simp [PB, Value.oneCell'] 
                       have hs12 : PV.size = 12 := by rw [hPV]; rfl
                       have TH := there_blk h2 (by rfl : Z29.size = 12)
                       have RA := range_blk h3
                       clear h3 hz h2
                       go_upto_region 24 with fail
                       refine wp_region_list ?_
                       refine wpList_load_mid rfl 29 (.tmp 3) rfl (b + 1) 0 (by simp [Act.eval]) PV.toList _ RA Try.underlying29 rfl (by rw [Array.length_toList, hs12]; exact info29) ?_
                       refine wpList_store_mid rfl 29 (.tmp 2) (.tmp 113) rfl b 0 PV (by simp [Act.eval, Act.put]) (by simp [Act.eval, Act.put]) (by rw [hs12]; exact TH) (by rw [hs12]; exact info29) hall ?_
                       have hat := World.rangeAt_setCells_same wr b 0 PV.toList (by rw [Array.length_toList, hs12]; exact TH)
                       have HAT := Lib.hid hat; have HPV := Lib.hid hPV; have HS12 := Lib.hid hs12; clear hat hPV hs12 hall TH RA
                       obtain ⟨WE, hWE⟩ : ∃ x, wr.setCells b 0 PV.toList = x := ⟨_, rfl⟩
                       rw [hWE] at HAT ⊢
                       have HWE := Lib.hid hWE; clear hWE
                       simp only [Act.put, List.setIfInBounds_toArray, List.set_cons_zero, List.set_cons_succ]
                       repeat (first | go_step | go_values | go_skip)
                       have hat := HAT.out; have hPV := HPV.out; have hs12 := HS12.out; have hWE := HWE.out
                       refine bodyPost_ret (v := .agg PV) ?_ rfl ?_
                       ·simp [results, Try.results23, asAddr, run_loadVar_mid _ b 0 29 PV.toList _ hat Try.underlying29 rfl (by rw [Array.length_toList, hs12]; exact info29)]
                       ·subst hWE
                        have hb0 : b < wr.heap.size := Blk.blk_lt HPL4.out.2.2.2.1
                        obtain ⟨r1, r2, r3, r4⟩ := HPL4.out.2.2.2.2.2
                        have h2 := HPL4.out.2.2.2.1
                        refine ⟨⟨_, _, _, _, by rw [hPV], row_end rfl r1 h2 (by decide) hwb _, row_end rfl r2 h2 (by decide) hwb _, row_end rfl r3 h2 (by decide) hwb _, row_end rfl r4 h2 (by decide) hwb _⟩, below_sets hwb HB4.out _ _, KeepBut.sets HKL4.out hWb _ _⟩
                      ·have hres := HRM4.out
                       rw [if_neg hz] at hres
                       subst hres
                       have hp5 : decide ((lx4.length : Int) > 0) = true := by simp; omega
                       have hp6 : decide (0 < lx4.length) = true := by simp; omega
                       go_wp2
                       exact ⟨rfl, rfl, HB4.out, HKL4.out⟩
 ·have hres := HR.out
  rw [if_neg hm] at hres
  subst hres
  have hm3 : (!(strOfNums (l.take 4)).toList == ([99, 112, 115, 49] : List UInt8)) = true := by simp [hm]
  clear HR hm
  go_wp2
  exact ⟨rfl, rfl, HP.out.2.2.1, HK.out⟩
theorem prog_any (w0 W : World) (g : Nat) (l : List Int) (hin : InB l) (hW : Rd w0 W g l) (hB : Below w0.heap.size w0 W) : Calls Try.prog 23 #[.pointer (some ⟨g, 0, none⟩)] W (PPost w0 W g (prog l)) := by
 by_cases h : l.length < 4
 ·have e : prog l = none := by unfold prog; rw [if_pos h]
  rw [e]
  exact prog_short w0 W g l h hW hB
 ·exact prog_long w0 W g l h hin hW hB
end Go.Proofs.Ytkdboaaganmagaa.Ce
