/- Where the reference's Decode stands: the reader, the program's cell, the answer's cell; and what each step does to it. Conditions: as each theorem states. -/
import Derived.Test.YtkdboaaganmagaaCg
import Derived.Test.YtkdboaaganmagaaCe
import Derived.Test.YtkdboaaganmagaaCf1
namespace Go.Proofs.Ytkdboaaganmagaa.Cg
set_option linter.unusedVariables false
set_option linter.unusedSimpArgs false
open Go.RowKit Go.Proofs.YtkdboaaganmagaaW.PrintWords Go.Proofs.Ytkdboaaganmagaa.OP Go.Proofs.Ytkdboaaganmagaa.Ca Go.Proofs.Ytkdboaaganmagaa.Cd Go.Proofs.Ytkdboaaganmagaa.Ce
theorem RS.typed {w0 W : World} {g : Nat} {B : List Int} {X : Option (List Int)} (h : RS w0 W g B X) : ∃ cs, W.heap[g]? = some (.cells cs 61 (0, 0)) := by
  obtain ⟨i, bad, ⟨A, c, hb, _⟩, _⟩ := h
  exact ⟨_, hb⟩
theorem RS.far {w0 W : World} {g : Nat} {B : List Int} {X : Option (List Int)} (h : RS w0 W g B X) {p : Addr} (hne : g ≠ p.block) (u : Value) : RS w0 (W.setCell p u) g B X := by
  obtain ⟨i, bad, hI, hA⟩ := h
  exact ⟨i, bad, hI.far hne u, hA⟩
theorem RS.alloc {w0 W : World} {g : Nat} {B : List Int} {X : Option (List Int)} (h : RS w0 W g B X) (o : Obj) : RS w0 (W.alloc o) g B X := by
  obtain ⟨i, bad, hI, hA⟩ := h
  exact ⟨i, bad, hI.alloc o, hA⟩
theorem RS.drew {w0 W : World} {g : Nat} {B : List Int} {X : Option (List Int)} (h : RS w0 W g B X) : RS w0 W.drew g B X := by
  obtain ⟨i, bad, hI, hA⟩ := h
  exact ⟨i, bad, hI.drew, hA⟩
theorem RS.grown {w0 W : World} {g : Nat} {B : List Int} {X : Option (List Int)} (h : RS w0 W g B X) {W1 : World} {row : Option Nat} (hw : W.grownBy W1 row) (hne : some g ≠ row) : RS w0 W1 g B X := by
  obtain ⟨i, bad, hI, hA⟩ := h
  exact ⟨i, bad, hI.grown hw hne, hA⟩
theorem RS.bad {w0 W : World} {g : Nat} {B : List Int} {X : Option (List Int)} (h : RS w0 W g B X) : W.cell? ⟨g, 2, none⟩ = some (.bool X.isNone) ∧ W.frozen? ⟨g, 2, none⟩ = false := by
  obtain ⟨i, bad, ⟨A, c, hb, _⟩, p, _, _, hX⟩ := h
  refine ⟨(Blk.blk_cell hb 2).trans ?_, Blk.blk_frozen hb 2⟩
  subst hX
  cases bad <;> rfl
theorem RS.place {w0 W : World} {g : Nat} {B l : List Int} (h : RS w0 W g B (some l)) : ∃ i : Nat, W.cell? ⟨g, 1, none⟩ = some (.int .i64 i) ∧ i ≤ B.length ∧ (i = B.length ↔ l.length = 0) := by
  obtain ⟨i, bad, ⟨A, c, hb, _⟩, p, rfl, hp, hX⟩ := h
  cases bad with
  | true => cases hX
  | false =>
    injection hX with hX
    subst hX
    refine ⟨p, (Blk.blk_cell hb 1).trans rfl, hp, ?_⟩
    rw [List.length_drop]
    omega
end Go.Proofs.Ytkdboaaganmagaa.Cg
namespace Go.Proofs.Ytkdboaaganmagaa.Ci
set_option linter.unusedVariables false
set_option linter.unusedSimpArgs false
open Go.RowKit Go.Proofs.YtkdboaaganmagaaW.PrintWords Go.Proofs.Ytkdboaaganmagaa.OP Go.Proofs.Ytkdboaaganmagaa.Ca Go.Proofs.Ytkdboaaganmagaa.Cd Go.Proofs.Ytkdboaaganmagaa.Ce Go.Proofs.Ytkdboaaganmagaa.Cg
/-- Where Decode stands. -/
def Qs (w0 : World) (B : List Int) (b : Nat) (X : Option (List Int)) (p : Pg) (v6 v7 v8 v11 : Value) (W : World) : Prop :=
  RS w0 W (b + 1) B X ∧ Below w0.heap.size w0 W ∧ W.heap[b]? = some (.cells Z29 29 (0, 0)) ∧ W.heap[b + 2]? = some (.cells (PB p v6 v7 v8 v11) 29 (0, 0)) ∧ Ce.Rows b W p v6 v7 v8 v11
/-- A block that is none of the rows'. -/
def Far (k : Nat) (v6 v7 v8 v11 : Value) : Prop := some k ≠ v6.ownBlock ∧ some k ≠ v7.ownBlock ∧ some k ≠ v8.ownBlock ∧ some k ≠ v11.ownBlock
theorem row_far' {α : Type} {d : Kd α} {e B : Nat} {W : World} {v : Value} {l : List α} (hE : d.E = []) (h : d.R e W B (fun _ => True) v l) {p : Addr} (hne : some p.block ≠ v.ownBlock) (u : Value) : d.R e (W.setCell p u) B (fun _ => True) v l :=
  Kd.R_mono (Kd.R_far (Kd.R_far1 h hE hne) (fun _ hk => hk.2) u) (fun _ _ => trivial)
theorem row_fresh {α : Type} {d : Kd α} {e B : Nat} {ok : Nat → Prop} {W : World} {v : Value} {l : List α} (h : d.R e W B ok v l) {k : Nat} (hk : W.heap.size ≤ k) : some k ≠ v.ownBlock := by
  intro he
  obtain ⟨_, cells, hc⟩ := row_base h k he.symm
  have := Blk.blk_lt hc
  omega
section
variable {w0 W W' : World} {B : List Int} {b : Nat} {X X' : Option (List Int)} {p p' : Pg} {v6 v7 v8 v11 v6' v7' v8' v11' : Value}
theorem Qs.took (h : Qs w0 B b X p v6 v7 v8 v11 W) (hr : RS w0 W' (b + 1) B X') (hb : Below w0.heap.size w0 W') (hk : KeepBut W W' (b + 1) none) : Qs w0 B b X' p v6 v7 v8 v11 W' := by
  obtain ⟨h1, _, h2, h3, r6, r7, r8, r11⟩ := h
  obtain ⟨cs, hg⟩ := h1.typed
  exact ⟨hr, hb, hk.blk h2 (by omega) (by simp), hk.blk h3 (by omega) (by simp), row_keep rfl r6 hg (by decide) hk, row_keep rfl r7 hg (by decide) hk, row_keep rfl r8 hg (by decide) hk, row_keep rfl r11 hg (by decide) hk⟩
theorem Qs.put (h1 : RS w0 W (b + 1) B X) (hb : Below w0.heap.size w0 W) (h2 : W.heap[b]? = some (.cells Z29 29 (0, 0))) (h3 : W.heap[b + 2]? = some (.cells (PB p v6 v7 v8 v11) 29 (0, 0))) (hwb : w0.heap.size ≤ b) (i : Nat) (u : Value) (he : (PB p v6 v7 v8 v11).setIfInBounds i u = PB p' v6' v7' v8' v11') (hrows : Ce.Rows b W p' v6' v7' v8' v11') : Qs w0 B b X p' v6' v7' v8' v11' (W.setCell ⟨b + 2, i, none⟩ u) := by
  obtain ⟨r6, r7, r8, r11⟩ := hrows
  exact ⟨h1.far (by show b + 1 ≠ b + 2; omega) u, hb.setCell (by show w0.heap.size ≤ b + 2; omega) _, Blk.blk_far h2 (by show b ≠ b + 2; omega) u, by have := Blk.blk_set h3 i u; rw [he] at this; exact this, row_far rfl r6 h3 (by decide) u, row_far rfl r7 h3 (by decide) u, row_far rfl r8 h3 (by decide) u, row_far rfl r11 h3 (by decide) u⟩
theorem Qs.store (h : Qs w0 B b X p v6 v7 v8 v11 W) (hwb : w0.heap.size ≤ b) (i : Nat) (u : Value) (he : (PB p v6 v7 v8 v11).setIfInBounds i u = PB p' v6' v7' v8' v11') (hrows : Ce.Rows b W p' v6' v7' v8' v11') : Qs w0 B b X p' v6' v7' v8' v11' (W.setCell ⟨b + 2, i, none⟩ u) := Qs.put h.1 h.2.1 h.2.2.1 h.2.2.2.1 hwb i u he hrows
theorem Qs.loc (h : Qs w0 B b X p v6 v7 v8 v11 W) (hwb : w0.heap.size ≤ b) {k : Nat} (hk : b + 2 < k) (hf : Far k v6 v7 v8 v11) (i : Nat) (u : Value) : Qs w0 B b X p v6 v7 v8 v11 (W.setCell ⟨k, i, none⟩ u) := by
  obtain ⟨h1, hb, h2, h3, r6, r7, r8, r11⟩ := h
  exact ⟨h1.far (by show b + 1 ≠ k; omega) u, hb.setCell (by show w0.heap.size ≤ k; omega) _, Blk.blk_far h2 (by show b ≠ k; omega) u, Blk.blk_far h3 (by show b + 2 ≠ k; omega) u, row_far' rfl r6 hf.1 u, row_far' rfl r7 hf.2.1 u, row_far' rfl r8 hf.2.2.1 u, row_far' rfl r11 hf.2.2.2 u⟩
theorem Qs.fresh (h : Qs w0 B b X p v6 v7 v8 v11 W) {k : Nat} (hk : W.heap.size ≤ k) : Far k v6 v7 v8 v11 := by
  obtain ⟨h1, hb, h2, h3, r6, r7, r8, r11⟩ := h
  exact ⟨row_fresh r6 hk, row_fresh r7 hk, row_fresh r8 hk, row_fresh r11 hk⟩
theorem Qs.lt (h : Qs w0 B b X p v6 v7 v8 v11 W) : b + 2 < W.heap.size := Blk.blk_lt h.2.2.2.1
theorem Qs.drew (h : Qs w0 B b X p v6 v7 v8 v11 W) : Qs w0 B b X p v6 v7 v8 v11 W.drew := by
  obtain ⟨h1, hb, h2, h3, r6, r7, r8, r11⟩ := h
  exact ⟨h1.drew, hb.drew, h2, h3, Kd.R_drew r6, Kd.R_drew r7, Kd.R_drew r8, Kd.R_drew r11⟩
theorem Qs.alloc (h : Qs w0 B b X p v6 v7 v8 v11 W) (o : Obj) : Qs w0 B b X p v6 v7 v8 v11 (W.alloc o) := by
  obtain ⟨h1, hb, h2, h3, r6, r7, r8, r11⟩ := h
  exact ⟨h1.alloc o, hb.alloc hb.size _, Blk.blk_alloc h2 o, Blk.blk_alloc h3 o, Kd.R_alloc r6 o, Kd.R_alloc r7 o, Kd.R_alloc r8 o, Kd.R_alloc r11 o⟩
theorem Qs.cells (h : Qs w0 B b X p v6 v7 v8 v11 W) (i : Nat) : W.cell? ⟨b + 2, i, none⟩ = (PB p v6 v7 v8 v11)[i]? ∧ W.frozen? ⟨b + 2, i, none⟩ = false := ⟨Blk.blk_cell h.2.2.2.1 i, Blk.blk_frozen h.2.2.2.1 i⟩
theorem Qs.app6 {w1 : World} {u : Value} {l' : List Int} (h : Qs w0 B b X p v6 v7 v8 v11 W) (hwb : w0.heap.size ≤ b) (hgr : W.grownBy w1 v6.ownBlock) (hr : Kd.R (Kd.int .i64) 2 w1 b (fun _ => True) u l') : Qs w0 B b X { p with l6 := l' } u v7 v8 v11 (w1.setCell ⟨b + 2, 6, none⟩ u) ∧ w1.heap[b + 2]? = some (.cells (PB p v6 v7 v8 v11) 29 (0, 0)) := by
  obtain ⟨h1, hb, h2, h3, r6, r7, r8, r11⟩ := h
  obtain ⟨cs, hg⟩ := h1.typed
  have h3' := Blk.blk_grown h3 hgr (row_ne r6 h3 (by decide))
  exact ⟨Qs.put (h1.grown hgr (row_ne r6 hg (by decide))) (hb.grown hgr hb.size (fun k hk => Nat.le_trans hwb (row_base r6 k hk).1)) (Blk.blk_grown h2 hgr (row_ne r6 h2 (by decide))) h3' hwb 6 u rfl ⟨hr, row_other rfl r6 r7 (by decide) hgr, row_other rfl r6 r8 (by decide) hgr, row_other rfl r6 r11 (by decide) hgr⟩, h3'⟩
theorem Qs.app7 {w1 : World} {u : Value} {l' : List S51} (h : Qs w0 B b X p v6 v7 v8 v11 W) (hwb : w0.heap.size ≤ b) (hgr : W.grownBy w1 v7.ownBlock) (hr : Kd.R k51 51 w1 b (fun _ => True) u l') : Qs w0 B b X { p with l7 := l' } v6 u v8 v11 (w1.setCell ⟨b + 2, 7, none⟩ u) ∧ w1.heap[b + 2]? = some (.cells (PB p v6 v7 v8 v11) 29 (0, 0)) := by
  obtain ⟨h1, hb, h2, h3, r6, r7, r8, r11⟩ := h
  obtain ⟨cs, hg⟩ := h1.typed
  have h3' := Blk.blk_grown h3 hgr (row_ne r7 h3 (by decide))
  exact ⟨Qs.put (h1.grown hgr (row_ne r7 hg (by decide))) (hb.grown hgr hb.size (fun k hk => Nat.le_trans hwb (row_base r7 k hk).1)) (Blk.blk_grown h2 hgr (row_ne r7 h2 (by decide))) h3' hwb 7 u rfl ⟨row_other rfl r7 r6 (by decide) hgr, hr, row_other rfl r7 r8 (by decide) hgr, row_other rfl r7 r11 (by decide) hgr⟩, h3'⟩
theorem Qs.app8 {w1 : World} {u : Value} {l' : List S54} (h : Qs w0 B b X p v6 v7 v8 v11 W) (hwb : w0.heap.size ≤ b) (hgr : W.grownBy w1 v8.ownBlock) (hr : Kd.R k54 54 w1 b (fun _ => True) u l') : Qs w0 B b X { p with l8 := l' } v6 v7 u v11 (w1.setCell ⟨b + 2, 8, none⟩ u) ∧ w1.heap[b + 2]? = some (.cells (PB p v6 v7 v8 v11) 29 (0, 0)) := by
  obtain ⟨h1, hb, h2, h3, r6, r7, r8, r11⟩ := h
  obtain ⟨cs, hg⟩ := h1.typed
  have h3' := Blk.blk_grown h3 hgr (row_ne r8 h3 (by decide))
  exact ⟨Qs.put (h1.grown hgr (row_ne r8 hg (by decide))) (hb.grown hgr hb.size (fun k hk => Nat.le_trans hwb (row_base r8 k hk).1)) (Blk.blk_grown h2 hgr (row_ne r8 h2 (by decide))) h3' hwb 8 u rfl ⟨row_other rfl r8 r6 (by decide) hgr, row_other rfl r8 r7 (by decide) hgr, hr, row_other rfl r8 r11 (by decide) hgr⟩, h3'⟩
theorem Qs.app11 {w1 : World} {u : Value} {l' : List S45} (h : Qs w0 B b X p v6 v7 v8 v11 W) (hwb : w0.heap.size ≤ b) (hgr : W.grownBy w1 v11.ownBlock) (hr : Kd.R k45 45 w1 b (fun _ => True) u l') : Qs w0 B b X { p with l11 := l' } v6 v7 v8 u (w1.setCell ⟨b + 2, 11, none⟩ u) ∧ w1.heap[b + 2]? = some (.cells (PB p v6 v7 v8 v11) 29 (0, 0)) := by
  obtain ⟨h1, hb, h2, h3, r6, r7, r8, r11⟩ := h
  obtain ⟨cs, hg⟩ := h1.typed
  have h3' := Blk.blk_grown h3 hgr (row_ne r11 h3 (by decide))
  exact ⟨Qs.put (h1.grown hgr (row_ne r11 hg (by decide))) (hb.grown hgr hb.size (fun k hk => Nat.le_trans hwb (row_base r11 k hk).1)) (Blk.blk_grown h2 hgr (row_ne r11 h2 (by decide))) h3' hwb 11 u rfl ⟨row_other rfl r11 r6 (by decide) hgr, row_other rfl r11 r7 (by decide) hgr, row_other rfl r11 r8 (by decide) hgr, hr⟩, h3'⟩
end
/-- The plain side: one step of a list's reading, whatever is left. -/
theorem qA_step {α β : Type} (q : List Int → Option (α × List Int)) (d : α) (X : Option (List Int)) (n : Nat) (acc : List α) (K : List α × List Int → Option β) : (X.bind fun l => (qA q (n + 1) acc l).bind K) = ((lft q d X).2.bind fun l => (qA q n (acc ++ [(lft q d X).1]) l).bind K) := by
  have : (fun l => (qA q (n + 1) acc l).bind K) = fun l => (q l).bind fun t => (qA q n (acc ++ [t.1]) t.2).bind K := by
    funext l
    show ((q l).bind fun t => qA q n (acc ++ [t.1]) t.2).bind K = _
    rw [Option.bind_assoc]
  rw [this, lft_bind q d X]
theorem qA_end {α β : Type} (q : List Int → Option (α × List Int)) (X : Option (List Int)) (acc : List α) (K : List α × List Int → Option β) : (X.bind fun l => (qA q 0 acc l).bind K) = X.bind fun l => K (acc, l) := rfl
theorem qA_one {α β : Type} (q : List Int → Option (α × List Int)) (X : Option (List Int)) (n : Nat) (acc : List α) (K : List α × List Int → Option β) : (X.bind fun l => (qA q (n + 1) acc l).bind K) = X.bind fun l => (q l).bind fun t => (qA q n (acc ++ [t.1]) t.2).bind K := by
  congr 1
  funext l
  show ((q l).bind fun t => qA q n (acc ++ [t.1]) t.2).bind K = _
  rw [Option.bind_assoc]
/-- A loop's round that is counted down: one element read. -/
theorem one8 {β : Type} {X X' : Option (List Int)} {v : Int} (h : lft q8 0 X = (v, X')) (c : Int × List Int → Option β) : (X.bind fun l => (q8 l).bind c) = X'.bind fun l => c (v, l) := by
  rw [lft_bind q8 0 X, h]
theorem oneq {β : Type} {m : Int} {X X' : Option (List Int)} {v : Int} (h : lft (qc m) 0 X = (v, X')) (c : Int × List Int → Option β) : (X.bind fun l => (qc m l).bind c) = X'.bind fun l => c (v, l) := by
  rw [lft_bind (qc m) 0 X, h]
theorem one1 {β : Type} {X X' : Option (List Int)} {v : Int} (h : lft q1 0 X = (v, X')) (c : Int × List Int → Option β) : (X.bind fun l => (q1 l).bind c) = X'.bind fun l => c (v, l) := by
  rw [lft_bind q1 0 X, h]
theorem one4 {β : Type} {X X' : Option (List Int)} {v : Int} (h : lft (qc 2147483647) 0 X = (v, X')) (c : Int × List Int → Option β) : (X.bind fun l => (q4 l).bind c) = X'.bind fun l => c (v, l) := by
  rw [← qc_q4, lft_bind (qc 2147483647) 0 X, h]
theorem fW_step {β : Type} {X X1 X2 X3 X4 : Option (List Int)} {a b c d : Int} (h1 : lft (qc 2147483647) 0 X = (a, X1)) (h2 : lft (qc 2147483647) 0 X1 = (b, X2)) (h3 : lft q8 0 X2 = (c, X3)) (h4 : lft q8 0 X3 = (d, X4)) (K : S51 × List Int → Option β) : (X.bind fun l => (fW l).bind K) = X4.bind fun l => K (⟨a, b, c, d⟩, l) := by
  have : (fun l => (fW l).bind K) = fun l => (q4 l).bind fun a => (q4 a.2).bind fun b => (q8 b.2).bind fun c => (q8 c.2).bind fun d => K (⟨a.1, b.1, c.1, d.1⟩, d.2) := by
    funext l
    unfold fW
    simp only [Option.bind_assoc, Option.bind_some]
  rw [this, one4 h1]
  dsimp only
  rw [one4 h2]
  dsimp only
  rw [one8 h3]
  dsimp only
  rw [one8 h4]
theorem fI_step {β : Type} {X X1 X2 : Option (List Int)} {a b : Int} (h1 : lft q1 0 X = (a, X1)) (h2 : lft q8 0 X1 = (b, X2)) (K : S45 × List Int → Option β) : (X.bind fun l => (fI l).bind K) = X2.bind fun l => K (⟨a, b⟩, l) := by
  have : (fun l => (fI l).bind K) = fun l => (q1 l).bind fun a => (q8 a.2).bind fun b => K (⟨a.1, b.1⟩, b.2) := by
    funext l
    cases l with
    | nil => rfl
    | cons x r =>
      show ((q8 r).bind _).bind K = _
      rw [Option.bind_assoc]
      rfl
  rw [this, one1 h1]
  dsimp only
  rw [one8 h2]
/-- Five numbers, as the reference takes them; the schedule that they are. -/
def cronOf : List Int → S54
  | [a, b, c, d, e] => ⟨IntKind.u64.wrap a, IntKind.u64.wrap b, IntKind.u64.wrap c, IntKind.u64.wrap d, IntKind.u64.wrap e⟩
  | _ => ⟨0, 0, 0, 0, 0⟩
theorem fC_five {β : Type} (X : Option (List Int)) (K : S54 × List Int → Option β) : (X.bind fun l => (fC l).bind K) = X.bind fun l => (qA q8 5 [] l).bind fun u => K (cronOf u.1, u.2) := by
  congr 1
  funext l
  unfold fC
  simp only [qA, Option.bind_assoc, Option.bind_some, List.nil_append, List.cons_append, cronOf]
def cR (a b c : Int) : List Int × List Int → Option Pg
  | ([d, e, f, g, h], l) => c1 ⟨a, d, e, f, g, h, [], [], [], b, c, []⟩ l
  | _ => none
theorem c0_five {X X1 X2 X3 : Option (List Int)} {a b c : Int} (h1 : lft (qc 2147483647) 0 X = (a, X1)) (h2 : lft (qc 2147483647) 0 X1 = (b, X2)) (h3 : lft (qc 2147483647) 0 X2 = (c, X3)) : X.bind c0 = X3.bind fun l => (qA q8 5 [] l).bind (cR a b c) := by
  have : c0 = fun l => (q4 l).bind fun a => (q4 a.2).bind fun b => (q4 b.2).bind fun c => (qA q8 5 [] c.2).bind (cR a.1 b.1 c.1) := by
    funext l
    unfold c0
    simp only [qA, Option.bind_assoc, Option.bind_some, List.nil_append, List.cons_append, cR]
  rw [this, one4 h1]
  dsimp only
  rw [one4 h2]
  dsimp only
  rw [one4 h3]
theorem five {l : List Int} (h : l.length = 5) : ∃ a b c d e, l = [a, b, c, d, e] := by
  match l, h with
  | [a, b, c, d, e], _ => exact ⟨a, b, c, d, e, rfl⟩
end Go.Proofs.Ytkdboaaganmagaa.Ci
