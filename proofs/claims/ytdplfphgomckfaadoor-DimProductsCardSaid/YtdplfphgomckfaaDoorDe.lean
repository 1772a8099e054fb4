/- dim.Read. Conditions: as each theorem states. -/
import Derived.Test.YtdplfphgomckfaaDoorDd
import Derived.Deep.CutBlock
import Derived.Outline
namespace Go.Proofs.YtdplfphgomckfaaDoor.De
set_option linter.unusedVariables false
set_option linter.unusedSimpArgs false
open Go.RowKit Go.Proofs.YtdplfphgomckfaaDoorW.PrintWords Go.Proofs.YtdplfphgomckfaaDoor.Laid Go.Proofs.YtdplfphgomckfaaDoor.Da Go.Proofs.YtdplfphgomckfaaDoor.Db Go.Proofs.YtdplfphgomckfaaDoor.Dc Go.Proofs.YtdplfphgomckfaaDoor.Dd
def Zu : Un := ⟨0, 0, [0, 0, 0, 0, 0]⟩
def U1 : Un := ⟨1, 1, [0, 0, 0, 0, 0]⟩
/-- A row's base unit's place. -/
def plc (r : Rw) : Option Nat := if r.base < 0 then none else some r.base.toNat
def stepR (u : Un) (r : Rw) (down : Bool) : Un × Bool := if down = true then stepF u r.den.toNat r.num.toNat (plc r) (-1) else stepF u r.num.toNat r.den.toNat (plc r) 1
def takes (r : Rw) (down : Bool) : Nat → Un → Option Un
  | 0, u => some u
  | n + 1, u => if (stepR u r down).2 = true then takes r down n (stepR u r down).1 else none
/-- What follows a factor that was taken. -/
def rdE (s : ByteArray) (at_ en : Nat) (go : Nat → Bool → Un → Option (Un × Nat × Int)) : Option Un → Option (Un × Nat × Int)
  | none => some (Zu, at_, 21)
  | some u => if en = s.size then some (u, 0, 0) else if s.data.toList.getD en 0 ≠ 42 ∧ s.data.toList.getD en 0 ≠ 47 then some (Zu, en, 20) else go (en + 1) (s.data.toList.getD en 0 == 47) u
def rdF (s : ByteArray) (at_ : Nat) (down : Bool) (u : Un) (go : Nat → Bool → Un → Option (Un × Nat × Int)) (f : Rw × Nat × Nat × Bool) : Option (Un × Nat × Int) :=
  if f.2.2.2 = true then rdE s at_ f.2.2.1 go (takes f.1 down f.2.1 u) else some (Zu, f.2.2.1, 20)
def rdL (s : ByteArray) : Nat → Nat → Bool → Un → Option (Un × Nat × Int)
  | 0, _, _, _ => none
  | k + 1, at_, down, u => rdF s at_ down u (rdL s k) (facF s at_)
def readF (k : Nat) (s : ByteArray) : Option (Un × Nat × Int) := if s.size > 64 then some (Zu, 0, 2) else rdL s k 0 false U1
/-! plain facts -/
theorem last_in (nb : ByteArray) : ∀ (i : Nat) (r : Rw), i ≤ 18 → lastRow nb i = some r → r ∈ table
  | 0, r, _, h => by cases h
  | i + 1, r, hi, h => by
    unfold lastRow at h
    split at h
    · injection h with h
      subst h
      rw [List.getD_eq_getElem?_getD, List.getElem?_eq_getElem (show i < table.length from hi)]
      exact List.getElem_mem _
    · exact last_in nb i r (by omega) h
def okRB (r : Rw) : Bool := decide (1 ≤ r.num) && decide (r.num ≤ 1073741824) && decide (1 ≤ r.den) && decide (r.den ≤ 1073741824) && decide (-1 ≤ r.base) && decide (r.base ≤ 4)
theorem all_ok : table.all okRB = true := by decide
theorem row_ok {r : Rw} (h : r ∈ table) : 1 ≤ r.num ∧ r.num ≤ 1073741824 ∧ 1 ≤ r.den ∧ r.den ≤ 1073741824 ∧ -1 ≤ r.base ∧ r.base ≤ 4 := by
  have := (List.all_eq_true.1 all_ok) r h
  simpa [okRB, and_assoc] using this
theorem val_lt : ∀ (l : List UInt8) (a : Nat), (∀ c ∈ l, digB c = true) → val a l < (a + 1) * 10 ^ l.length
  | [], a, _ => by simp [val]
  | c :: l, a, h => by
    have hc := (digB_iff c).1 (h c (List.mem_cons_self))
    have ih := val_lt l (10 * a + (c.toNat - 48)) (fun x hx => h x (List.mem_cons_of_mem _ hx))
    rw [List.length_cons, Nat.pow_succ]
    have e : val a (c :: l) = val (10 * a + (c.toNat - 48)) l := rfl
    rw [e]
    refine Nat.lt_of_lt_of_le ih ?_
    rw [Nat.mul_comm (10 ^ l.length) 10, ← Nat.mul_assoc]
    exact Nat.mul_le_mul_right _ (by omega)
theorem ext_digs (s : ByteArray) (d m : Nat) (hm : tw digB (s.data.toList.drop d) = m) : (s.extract d (d + m)).data.toList = (s.data.toList.drop d).takeWhile digB := by
  rw [Lib.extract_data, show d + m - d = m from by omega]
  have h := List.prefix_iff_eq_take.1 (List.takeWhile_prefix (l := s.data.toList.drop d) digB)
  rw [show ((s.data.toList.drop d).takeWhile digB).length = m from hm] at h
  exact h.symm
theorem val_small (s : ByteArray) (d m : Nat) (hm : tw digB (s.data.toList.drop d) = m) (h3 : m ≤ 3) : val 0 (s.extract d (d + m)).data.toList ≤ 999 := by
  have h1 := val_lt (s.extract d (d + m)).data.toList 0 (fun c hc => by
    rw [ext_digs s d m hm] at hc
    have := List.all_takeWhile (l := s.data.toList.drop d) (p := digB)
    rw [List.all_eq_true] at this
    exact this c hc)
  have hl : (s.extract d (d + m)).data.toList.length = m := by rw [ext_digs s d m hm]; exact hm
  rw [hl] at h1
  have h2 : 10 ^ m ≤ 10 ^ 3 := Nat.pow_le_pow_right (by decide) h3
  omega
theorem tw_size (p : UInt8 → Bool) (s : ByteArray) (a : Nat) (ha : a ≤ s.size) : a + tw p (s.data.toList.drop a) ≤ s.size := by
  have := tw_le p (s.data.toList.drop a)
  rw [List.length_drop] at this
  simp at this
  omega
theorem fac_ok (s : ByteArray) (a : Nat) (ha : a ≤ s.size) (r : Rw) (t en : Nat) (ok : Bool) (h : facF s a = (r, t, en, ok)) : en ≤ s.size ∧ (ok = true → r ∈ table ∧ a ≤ en) ∧ t ≤ 999 := by
  unfold facF at h
  have hc := tw_size letB s a ha
  generalize hcc : a + tw letB (s.data.toList.drop a) = c at h hc
  have hac : a ≤ c := by omega
  cases ho : lastRow (s.extract a c) 18 with
  | none =>
    rw [ho] at h
    unfold facG at h
    injection h with h1 h
    injection h with h2 h
    injection h with h3 h4
    subst h1 h2 h3 h4
    exact ⟨ha, (fun h => by cases h), by omega⟩
  | some r' =>
    have hin := last_in _ 18 r' (Nat.le_refl _) ho
    rw [ho] at h
    unfold facG at h
    dsimp only at h
    split at h
    · injection h with h1 h
      injection h with h2 h
      injection h with h3 h4
      subst h1 h2 h3 h4
      exact ⟨hc, fun _ => ⟨hin, hac⟩, by omega⟩
    · next hn =>
      have hne : c ≠ s.size := fun h => hn (.inl h)
      have hd := tw_size digB s (c + 1) (by omega)
      generalize hmm : tw digB (s.data.toList.drop (c + 1)) = m at h hd
      unfold facH at h
      split at h
      · injection h with h1 h
        injection h with h2 h
        injection h with h3 h4
        subst h1 h2 h3 h4
        exact ⟨by omega, (fun h => by cases h), by omega⟩
      · next hn2 =>
        injection h with h1 h
        injection h with h2 h
        injection h with h3 h4
        subst h1 h2 h3 h4
        exact ⟨hd, fun _ => ⟨hin, by omega⟩, val_small s (c + 1) m hmm (Nat.le_of_not_lt (fun h => hn2 (.inr (.inl h))))⟩
theorem prod_ok (a b : Nat) (ha : 1 ≤ a) (hb : 1 ≤ b) (h : (prodF a b).2 = true) : (prodF a b).1 = a * b ∧ 1 ≤ (prodF a b).1 ∧ (prodF a b).1 ≤ 1000000000000000 := by
  unfold prodF at h ⊢
  split at h
  · cases h
  · next hn =>
    rw [if_neg hn]
    have h1 : a * b ≤ 1000000000000000 := Nat.le_trans (Nat.mul_le_mul_right b (Nat.le_of_not_lt hn)) (Nat.div_mul_le_self M b)
    exact ⟨rfl, Nat.mul_pos ha hb, h1⟩
theorem div_pos' {a b : Nat} (hb : 1 ≤ b) (h : b ≤ a) : 1 ≤ a / b := (Nat.le_div_iff_mul_le (by omega)).2 (by omega)
theorem step_ok (u : Un) (x y : Nat) (i : Option Nat) (st : Int) (hu : OkU u) (hx : 1 ≤ x) (hy : 1 ≤ y) (hi : ∀ k, i = some k → k < 5) (h : (stepF u x y i st).2 = true) : OkU (stepF u x y i st).1 := by
  obtain ⟨N, D, ds⟩ := u
  obtain ⟨u1, u2, u3, u4, u5, u6⟩ := hu
  simp only at u1 u2 u3 u4 u5 u6
  unfold stepF at h ⊢
  simp only at h ⊢
  have n1 := div_pos' (Nat.gcd_pos_of_pos_left y u1) (Nat.gcd_le_left y u1)
  have n2 := div_pos' (Nat.gcd_pos_of_pos_left D hx) (Nat.gcd_le_left D hx)
  have n3 := div_pos' (Nat.gcd_pos_of_pos_left D hx) (Nat.gcd_le_right x u3)
  have n4 := div_pos' (Nat.gcd_pos_of_pos_left y u1) (Nat.gcd_le_right N hy)
  generalize hA : prodF (N / Nat.gcd N y) (x / Nat.gcd x D) = A at h ⊢
  generalize hB : prodF (D / Nat.gcd x D) (y / Nat.gcd N y) = B at h ⊢
  unfold endF at h ⊢
  split at h
  · next hab =>
    obtain ⟨ha, hb⟩ := hab
    rw [if_pos ⟨ha, hb⟩]
    have p1 := prod_ok _ _ n1 n2 (by rw [hA]; exact ha)
    have p2 := prod_ok _ _ n3 n4 (by rw [hB]; exact hb)
    rw [hA] at p1
    rw [hB] at p2
    cases i with
    | none => exact ⟨p1.2.1, p1.2.2, p2.2.1, p2.2.2, u5, u6⟩
    | some i =>
      simp only [Bool.and_eq_true, decide_eq_true_eq] at h
      refine ⟨p1.2.1, p1.2.2, p2.2.1, p2.2.2, by rw [List.length_set]; exact u5, fun z hz => ?_⟩
      rcases List.mem_or_eq_of_mem_set hz with h' | rfl
      · exact u6 z h'
      · exact ⟨h.2, h.1⟩
  · cases h
/-! the walk -/
def Rs (w : World) (b : Nat) (u : Un) (wx : World) : Prop := Below w.heap.size w wx ∧ wx.heap[b]? = some (.cells (unC Zu) 26 (0, 0)) ∧ wx.heap[b + 1]? = some (.cells (unC u) 26 (0, 0)) ∧ w.heap.size ≤ b
def RPost (w : World) (r : Un × Nat × Int) (e : Ending) (w' : World) : Prop := e = .returned (.tuple #[.agg (unC r.1), .int .i64 (r.2.1 : Int), .int .i64 r.2.2]) ∧ Below w.heap.size w w'
theorem Rs.row {w : World} {b : Nat} {u : Un} {wx : World} (h : Rs w b u wx) (o : Obj) : Rs w b u (wx.alloc o) := ⟨h.1.alloc h.1.size _, Blk.blk_alloc h.2.1 o, Blk.blk_alloc h.2.2.1 o, h.2.2.2⟩
theorem Rs.below {w : World} {b : Nat} {u : Un} {wx wy : World} (h : Rs w b u wx) (hb : Below wx.heap.size wx wy) : Rs w b u wy := ⟨Blk.below_then h.1 hb h.1.size, (hb.block _ (Blk.blk_lt h.2.1)).trans h.2.1, (hb.block _ (Blk.blk_lt h.2.2.1)).trans h.2.2.1, h.2.2.2⟩
theorem Rs.lt {w : World} {b : Nat} {u : Un} {wx : World} (h : Rs w b u wx) : b + 1 < wx.heap.size := Blk.blk_lt h.2.2.1
theorem len5 {l : List Int} (h : l.length = 5) : ∃ a b c d e, l = [a, b, c, d, e] := by
  match l, h with
  | [a, b, c, d, e], _ => exact ⟨a, b, c, d, e, rfl⟩
/-- Seven cells stored. -/
def S7 (W : World) (b : Nat) (a0 a1 a2 a3 a4 a5 a6 : Int) : World := ((((((W.setCell ⟨b, 0, none⟩ (.int .i64 a0)).setCell ⟨b, 1, none⟩ (.int .i64 a1)).setCell ⟨b, 2, none⟩ (.int .i64 a2)).setCell ⟨b, 3, none⟩ (.int .i64 a3)).setCell ⟨b, 4, none⟩ (.int .i64 a4)).setCell ⟨b, 5, none⟩ (.int .i64 a5)).setCell ⟨b, 6, none⟩ (.int .i64 a6)
theorem S7_blk {W : World} {b : Nat} {c0 c1 c2 c3 c4 c5 c6 : Value} (a0 a1 a2 a3 a4 a5 a6 : Int) (h : W.heap[b]? = some (.cells #[c0, c1, c2, c3, c4, c5, c6] 26 (0, 0))) : (S7 W b a0 a1 a2 a3 a4 a5 a6).heap[b]? = some (.cells #[.int .i64 a0, .int .i64 a1, .int .i64 a2, .int .i64 a3, .int .i64 a4, .int .i64 a5, .int .i64 a6] 26 (0, 0)) := by
  have h0 : (W.setCell ⟨b, 0, none⟩ (.int .i64 a0)).heap[b]? = some (.cells #[.int .i64 a0, c1, c2, c3, c4, c5, c6] 26 (0, 0)) := Blk.blk_set h 0 (.int .i64 a0)
  have h1 : ((W.setCell ⟨b, 0, none⟩ (.int .i64 a0)).setCell ⟨b, 1, none⟩ (.int .i64 a1)).heap[b]? = some (.cells #[.int .i64 a0, .int .i64 a1, c2, c3, c4, c5, c6] 26 (0, 0)) := Blk.blk_set h0 1 (.int .i64 a1)
  have h2 : (((W.setCell ⟨b, 0, none⟩ (.int .i64 a0)).setCell ⟨b, 1, none⟩ (.int .i64 a1)).setCell ⟨b, 2, none⟩ (.int .i64 a2)).heap[b]? = some (.cells #[.int .i64 a0, .int .i64 a1, .int .i64 a2, c3, c4, c5, c6] 26 (0, 0)) := Blk.blk_set h1 2 (.int .i64 a2)
  have h3 : ((((W.setCell ⟨b, 0, none⟩ (.int .i64 a0)).setCell ⟨b, 1, none⟩ (.int .i64 a1)).setCell ⟨b, 2, none⟩ (.int .i64 a2)).setCell ⟨b, 3, none⟩ (.int .i64 a3)).heap[b]? = some (.cells #[.int .i64 a0, .int .i64 a1, .int .i64 a2, .int .i64 a3, c4, c5, c6] 26 (0, 0)) := Blk.blk_set h2 3 (.int .i64 a3)
  have h4 : (((((W.setCell ⟨b, 0, none⟩ (.int .i64 a0)).setCell ⟨b, 1, none⟩ (.int .i64 a1)).setCell ⟨b, 2, none⟩ (.int .i64 a2)).setCell ⟨b, 3, none⟩ (.int .i64 a3)).setCell ⟨b, 4, none⟩ (.int .i64 a4)).heap[b]? = some (.cells #[.int .i64 a0, .int .i64 a1, .int .i64 a2, .int .i64 a3, .int .i64 a4, c5, c6] 26 (0, 0)) := Blk.blk_set h3 4 (.int .i64 a4)
  have h5 : ((((((W.setCell ⟨b, 0, none⟩ (.int .i64 a0)).setCell ⟨b, 1, none⟩ (.int .i64 a1)).setCell ⟨b, 2, none⟩ (.int .i64 a2)).setCell ⟨b, 3, none⟩ (.int .i64 a3)).setCell ⟨b, 4, none⟩ (.int .i64 a4)).setCell ⟨b, 5, none⟩ (.int .i64 a5)).heap[b]? = some (.cells #[.int .i64 a0, .int .i64 a1, .int .i64 a2, .int .i64 a3, .int .i64 a4, .int .i64 a5, c6] 26 (0, 0)) := Blk.blk_set h4 5 (.int .i64 a5)
  have h6 : (((((((W.setCell ⟨b, 0, none⟩ (.int .i64 a0)).setCell ⟨b, 1, none⟩ (.int .i64 a1)).setCell ⟨b, 2, none⟩ (.int .i64 a2)).setCell ⟨b, 3, none⟩ (.int .i64 a3)).setCell ⟨b, 4, none⟩ (.int .i64 a4)).setCell ⟨b, 5, none⟩ (.int .i64 a5)).setCell ⟨b, 6, none⟩ (.int .i64 a6)).heap[b]? = some (.cells #[.int .i64 a0, .int .i64 a1, .int .i64 a2, .int .i64 a3, .int .i64 a4, .int .i64 a5, .int .i64 a6] 26 (0, 0)) := Blk.blk_set h5 6 (.int .i64 a6)
  exact h6
theorem S7_below {w W : World} {B b : Nat} (a0 a1 a2 a3 a4 a5 a6 : Int) (h : Below B w W) (hb : B ≤ b) : Below B w (S7 W b a0 a1 a2 a3 a4 a5 a6) :=
  ((((((h.setCell (p := ⟨b, 0, none⟩) hb _).setCell (p := ⟨b, 1, none⟩) hb _).setCell (p := ⟨b, 2, none⟩) hb _).setCell (p := ⟨b, 3, none⟩) hb _).setCell (p := ⟨b, 4, none⟩) hb _).setCell (p := ⟨b, 5, none⟩) hb _).setCell (p := ⟨b, 6, none⟩) hb _
theorem Rs.zy {w : World} {b : Nat} {u : Un} {wx : World} (h : Rs w b u wx) : wx.cell? ⟨b, 0, none⟩ = some (.int .i64 0) ∧ wx.cell? ⟨b, 1, none⟩ = some (.int .i64 0) ∧ wx.cell? ⟨b, 2, none⟩ = some (.int .i64 0) ∧ wx.cell? ⟨b, 3, none⟩ = some (.int .i64 0) ∧ wx.cell? ⟨b, 4, none⟩ = some (.int .i64 0) ∧ wx.cell? ⟨b, 5, none⟩ = some (.int .i64 0) ∧ wx.cell? ⟨b, 6, none⟩ = some (.int .i64 0) :=
  ⟨(Blk.blk_cell h.2.1 0).trans rfl, (Blk.blk_cell h.2.1 1).trans rfl, (Blk.blk_cell h.2.1 2).trans rfl, (Blk.blk_cell h.2.1 3).trans rfl, (Blk.blk_cell h.2.1 4).trans rfl, (Blk.blk_cell h.2.1 5).trans rfl, (Blk.blk_cell h.2.1 6).trans rfl⟩
theorem Rs.zz {w : World} {b : Nat} {u : Un} {wx : World} (h : Rs w b u wx) : wx.frozen? ⟨b, 0, none⟩ = false ∧ wx.frozen? ⟨b, 1, none⟩ = false ∧ wx.frozen? ⟨b, 2, none⟩ = false ∧ wx.frozen? ⟨b, 3, none⟩ = false ∧ wx.frozen? ⟨b, 4, none⟩ = false ∧ wx.frozen? ⟨b, 5, none⟩ = false ∧ wx.frozen? ⟨b, 6, none⟩ = false :=
  ⟨Blk.blk_frozen h.2.1 0, Blk.blk_frozen h.2.1 1, Blk.blk_frozen h.2.1 2, Blk.blk_frozen h.2.1 3, Blk.blk_frozen h.2.1 4, Blk.blk_frozen h.2.1 5, Blk.blk_frozen h.2.1 6⟩
theorem Rs.fail {w : World} {b : Nat} {u : Un} {wx : World} (h : Rs w b u wx) (pl er : Int) (hpl : pl = pl) : (S7 wx b 0 0 0 0 0 0 0).heap[b]? = some (.cells (unC Zu) 26 (0, 0)) ∧ Below w.heap.size w (S7 wx b 0 0 0 0 0 0 0) := ⟨S7_blk 0 0 0 0 0 0 0 h.2.1, S7_below 0 0 0 0 0 0 0 h.1 h.2.2.2⟩
theorem res10 (W : World) (b : Nat) (u : Un) (hu : u.d.length = 5) (pl : Int) (er : Int) (tmps : Array Value) (h2 : tmps.getD 2 undef = .pointer (some ⟨b, 0, none⟩)) (h3 : tmps.getD 3 undef = .int .i64 pl) (h4 : tmps.getD 4 undef = .int .i64 er) (hat : W.heap[b]? = some (.cells (unC u) 26 (0, 0))) : (results Tryd.f10 tmps).run Tryd.prog W = .ok (.tuple #[.agg (unC u), .int .i64 pl, .int .i64 er]) W := by
  obtain ⟨N, D, ds⟩ := u
  obtain ⟨a, b1, c, d, e, rfl⟩ := len5 hu
  have c0 := Blk.blk_cell hat 0
  have c1 := Blk.blk_cell hat 1
  have c2 := Blk.blk_cell hat 2
  have c3 := Blk.blk_cell hat 3
  have c4 := Blk.blk_cell hat 4
  have c5 := Blk.blk_cell hat 5
  have c6 := Blk.blk_cell hat 6
  simp [unC] at c0 c1 c2 c3 c4 c5 c6
  simp only [Array.getD_eq_getD_getElem?] at h2 h3 h4
  simp [results, Tryd.results10, h2, h3, h4, go_sem, c0, c1, c2, c3, c4, c5, c6, unC]
theorem step_any (w W : World) (b : Nat) (u : Un) (nm : List UInt8) (p q : Nat) (base : Int) (down : Bool) (hu : OkU u) (hp : 1 ≤ p ∧ p ≤ 1073741824) (hq : 1 ≤ q ∧ q ≤ 1073741824) (hb : -1 ≤ base ∧ base ≤ 4) (hg : W.heap[b + 1]? = some (.cells (unC u) 26 (0, 0))) (hB : Below w.heap.size w W) (hw : w.heap.size ≤ b) :
    Calls Tryd.prog 20 #[.pointer (some ⟨b + 1, 0, none⟩), .agg #[.string (bs nm), .int .i64 (p : Int), .int .i64 (q : Int), .int .i64 base], .bool down] W (TPost w W (b + 1) (stepR u ⟨nm, p, q, base⟩ down)) := by
  have hi : (base < 0 ∧ plc ⟨nm, p, q, base⟩ = none) ∨ ∃ k : Nat, base = k ∧ k < 5 ∧ plc ⟨nm, p, q, base⟩ = some k := by
    unfold plc
    by_cases h : base < 0
    · exact .inl ⟨h, if_pos h⟩
    · exact .inr ⟨base.toNat, by omega, by omega, if_neg h⟩
  cases down with
  | false => exact take_up w W (b + 1) u.num u.den u.d (bs nm) p q base hu hp hq hg hB (by omega) _ hi
  | true => exact take_down w W (b + 1) u.num u.den u.d (bs nm) p q base hu hp hq hg hB (by omega) _ hi
theorem stepR_ok (u : Un) (r : Rw) (down : Bool) (hu : OkU u) (hr : r ∈ table) (h : (stepR u r down).2 = true) : OkU (stepR u r down).1 := by
  obtain ⟨h1, h2, h3, h4, h5, h6⟩ := row_ok hr
  have hi : ∀ k, plc r = some k → k < 5 := by
    intro k hk
    unfold plc at hk
    split at hk
    · cases hk
    · injection hk with hk; omega
  unfold stepR at h ⊢
  cases down with
  | false => exact step_ok u _ _ _ _ hu (by omega) (by omega) hi h
  | true => exact step_ok u _ _ _ _ hu (by omega) (by omega) hi h
theorem beq47 (x : UInt8) : ((x.toNat : Int) == 47) = (x == 47) := by
  rw [Bool.eq_iff_iff, beq_iff_eq, beq_iff_eq, ← UInt8.toNat_inj]
  have : (47 : UInt8).toNat = 47 := rfl
  omega
theorem unC_five (N D : Nat) (a b c d e : Int) : unC ⟨N, D, [a, b, c, d, e]⟩ = #[.int .i64 (N : Int), .int .i64 (D : Int), .int .i64 a, .int .i64 b, .int .i64 c, .int .i64 d, .int .i64 e] := rfl
theorem info26 : (Tryd.prog.info? 26).map (·.size) = some 7 := by kernel_rfl
set_option maxHeartbeats 8000000 in
set_option maxRecDepth 100000 in
theorem read_any (s : ByteArray) (w : World) (hs : ¬ s.size > 64) (hL : Laid w) (k : Nat) (RES : Un × Nat × Int) (h : rdL s k 0 false U1 = some RES) : Calls Tryd.prog 10 #[.string s] w (RPost w RES) := by
  have HR := Lib.hid h
  have HL := Lib.hid hL
  have q0 : decide ((s.size : Int) > 64) = false := by simp; omega
  have hs64 : s.size ≤ 64 := by omega
  have HRS := Lib.hid (show Rs w w.heap.size U1 ((w.alloc (.cells (unC Zu) 26)).alloc (.cells (unC U1) 26)) from ⟨((Below.refl w.heap.size w).alloc (Nat.le_refl _) _).alloc (by simp) _, Blk.blk_alloc (Blk.blk_new w _) _, Blk.blk_at _ _ (w.heap.size + 1) (by simp), Nat.le_refl _⟩)
  have HOK := Lib.hid (show OkU U1 from ⟨by decide, by decide, by decide, by decide, rfl, by simp [U1]⟩)
  obtain ⟨b, hb⟩ : ∃ b, w.heap.size = b := ⟨_, rfl⟩
  rw [hb] at HRS
  clear h hL hs
  go_enter Tryd.func10, Tryd.ntmps10
  go_wp2_with fail
  try simp only [hb]
  clear hb
  go_loopg [6, 7] k (fun gf v6 v7 wx => ∃ (at_ : Nat) (down : Bool) (u : Un), v6 = .int .i64 at_ ∧ v7 = .bool down ∧ at_ ≤ s.size ∧ Hid (OkU u) ∧ Hid (rdL s gf at_ down u = some RES) ∧ Hid (Rs w b u wx))
  case atStart => exact ⟨0, false, U1, rfl, rfl, by omega, HOK, HR, HRS⟩
  case round =>
    clear HR HRS HOK
    obtain ⟨at_, down, u, rfl, rfl, ha, HOK, HR, HRS⟩ := hrel
    cases gk with
    | zero => exact absurd HR.out (by simp [rdL])
    | succ g' =>
    have hres := HR.out
    rw [rdL] at hres
    obtain ⟨⟨r, t, en, ok⟩, hf⟩ : ∃ f, facF s at_ = f := ⟨_, rfl⟩
    obtain ⟨hen, hok, ht⟩ := fac_ok s at_ ha r t en ok hf
    have HC := Lib.hid (by have := factor_any s at_ wr hs64 ha (HL.out.below HRS.out.1); rw [hf] at this; exact this)
    rw [hf] at hres
    unfold rdF at hres
    have HF := Lib.hid hres
    clear hf hres HR
    go_wp2_with fail
    refine HC.out.mono ?_
    rintro e w1 ⟨rfl, hb1⟩
    have HR1 := Lib.hid (HRS.out.below hb1)
    clear hb1 HC HRS
    simp only [rowC]
    cases ok with
    | false =>
      have hres := HF.out
      rw [if_neg (by decide)] at hres
      injection hres with hres
      subst hres
      clear HF hok
      go_upto_region 7 with fail
      have HW2 := Lib.hid (HR1.out.row (.cells #[.string (bs r.name), .int .i64 r.num, .int .i64 r.den, .int .i64 r.base] 41))
      obtain ⟨W2, hW2⟩ : ∃ W, w1.alloc (.cells #[.string (bs r.name), .int .i64 r.num, .int .i64 r.den, .int .i64 r.base] 41) = W := ⟨_, rfl⟩
      rw [hW2] at HW2 ⊢
      clear hW2
      obtain ⟨y0, y1, y2, y3, y4, y5, y6⟩ := HW2.out.zy
      obtain ⟨z0, z1, z2, z3, z4, z5, z6⟩ := HW2.out.zz
      go_wp2_with fail
      refine bodyPost_ret (v := .tuple #[.agg (unC Zu), .int .i64 en, .int .i64 20]) ?_ rfl ?_
      · exact res10 (S7 W2 b 0 0 0 0 0 0 0) b Zu rfl en 20 _ rfl rfl rfl (HW2.out.fail 0 0 rfl).1
      · exact ⟨rfl, (HW2.out.fail 0 0 rfl).2⟩
    | true =>
      have hrt := (hok rfl).1
      have hae := (hok rfl).2
      obtain ⟨h1, h2, h3, h4, h5, h6⟩ := row_ok hrt
      obtain ⟨nm, num, den, base⟩ := r
      simp only at h1 h2 h3 h4 h5 h6
      obtain ⟨p, rfl⟩ : ∃ p : Nat, num = p := ⟨num.toNat, by omega⟩
      obtain ⟨q, rfl⟩ : ∃ p : Nat, den = p := ⟨den.toNat, by omega⟩
      have HSTEP := Lib.hid (fun (W : World) (u : Un) (hu : OkU u) (hg : W.heap[b + 1]? = some (.cells (unC u) 26 (0, 0))) (hB : Below w.heap.size w W) => step_any w W b u nm p q base down hu ⟨by omega, by omega⟩ ⟨by omega, by omega⟩ ⟨h5, h6⟩ hg hB HR1.out.2.2.2)
      have HSOK := Lib.hid (fun (u : Un) (hu : OkU u) => stepR_ok u ⟨nm, p, q, base⟩ down hu hrt)
      have hres := HF.out
      rw [if_pos rfl] at hres
      obtain ⟨TR, hTR⟩ : ∃ T, takes ⟨nm, p, q, base⟩ down t u = T := ⟨_, rfl⟩
      simp only [hTR] at hres
      have HE := Lib.hid hres
      have HTR := Lib.hid hTR
      have HRT := Lib.hid hrt
      have HBX := Lib.hid (Blk.blk_new w1 (.cells #[.string (bs nm), .int .i64 (p : Int), .int .i64 (q : Int), .int .i64 base] 41))
      have HW2 := Lib.hid (HR1.out.row (.cells #[.string (bs nm), .int .i64 (p : Int), .int .i64 (q : Int), .int .i64 base] 41))
      have hbw := HR1.out.lt
      clear hres hTR HF hok hrt h1 h2 h3 h4 h5 h6 HR1
      go_wp2_with fail
      obtain ⟨W2, hW2⟩ : ∃ W, w1.alloc (.cells #[.string (bs nm), .int .i64 (p : Int), .int .i64 (q : Int), .int .i64 base] 41) = W := ⟨_, rfl⟩
      obtain ⟨kb, hkb⟩ : ∃ k, w1.heap.size = k := ⟨_, rfl⟩
      rw [hW2] at HW2 HBX ⊢
      rw [hkb] at HBX hbw
      simp only [hkb]
      clear hW2 hkb
      go_loopg [30] t (fun gf v30 wx => ∃ (i : Nat) (u : Un), v30 = .int .i64 i ∧ i + gf = t ∧ Hid (OkU u) ∧ Hid (takes ⟨nm, p, q, base⟩ down gf u = TR) ∧ Hid (Rs w b u wx) ∧ Hid (wx.heap[kb]? = some (.cells #[.string (bs nm), .int .i64 (p : Int), .int .i64 (q : Int), .int .i64 base] 41 (0, 0))))
      case atStart => exact ⟨0, u, rfl, by omega, HOK, HTR, HW2, HBX⟩
      case round =>
        clear HOK HTR HW2 HBX
        obtain ⟨i, u2, rfl, hi, HOK, HTR, HW2, HBX⟩ := hrel
        by_cases hlt : i < t
        · obtain ⟨g2, rfl⟩ : ∃ g', gk = g' + 1 := ⟨gk - 1, by omega⟩
          have q1 : decide ((i : Int) < (t : Int)) = true := by simp; omega
          have q1n : decide (i < t) = true := by simp; omega
          obtain ⟨⟨u3, ok⟩, hst⟩ : ∃ r, stepR u2 ⟨nm, p, q, base⟩ down = r := ⟨_, rfl⟩
          have hx0 := Blk.blk_cell HBX.out 0
          have hx1 := Blk.blk_cell HBX.out 1
          have hx2 := Blk.blk_cell HBX.out 2
          have hx3 := Blk.blk_cell HBX.out 3
          simp at hx0 hx1 hx2 hx3
          have HC := Lib.hid (by have := HSTEP.out wr u2 HOK.out HW2.out.2.2.1 HW2.out.1; rw [hst] at this; exact this)
          have ht2 := HTR.out
          unfold takes at ht2
          rw [hst] at ht2
          have HT2 := Lib.hid ht2
          have HOK3 := Lib.hid (HSOK.out u2 HOK.out)
          rw [hst] at HOK3
          clear hst ht2 HTR
          go_wp2_with fail
          refine HC.out.mono ?_
          rintro e w3 ⟨rfl, hu3, hb3, hk3⟩
          have HW3 := Lib.hid (show Rs w b u3 w3 from ⟨hb3, hk3.blk HW2.out.2.1 (by omega) (by simp), hu3, HW2.out.2.2.2⟩)
          have HBX3 := Lib.hid (hk3.blk HBX.out (by omega) (by simp))
          clear hu3 hb3 hk3 HC hx0 hx1 hx2 hx3 HW2 HBX
          cases ok with
          | true =>
            have ht2 := HT2.out
            rw [if_pos rfl] at ht2
            have HT3 := Lib.hid ht2
            have HOK4 := Lib.hid (HOK3.out rfl)
            clear ht2 HT2 HOK3
            go_wp2_with fail
            go_roundg g2
            case measure => omega
            case rel => exact ⟨i + 1, u3, by go_num, by omega, HOK4, HT3, HW3, HBX3⟩
          | false =>
            have ht2 := HT2.out
            rw [if_neg (by decide)] at ht2
            subst ht2
            have hres := HE.out
            unfold rdE at hres
            injection hres with hres
            subst hres
            clear HE HT2 HOK3
            obtain ⟨y0, y1, y2, y3, y4, y5, y6⟩ := HW3.out.zy
            obtain ⟨z0, z1, z2, z3, z4, z5, z6⟩ := HW3.out.zz
            go_wp2_with fail
            refine bodyPost_ret (v := .tuple #[.agg (unC Zu), .int .i64 at_, .int .i64 21]) ?_ rfl ?_
            · exact res10 (S7 w3 b 0 0 0 0 0 0 0) b Zu rfl at_ 21 _ rfl rfl rfl (HW3.out.fail 0 0 rfl).1
            · exact ⟨rfl, (HW3.out.fail 0 0 rfl).2⟩
        · obtain rfl : gk = 0 := by omega
          obtain rfl : i = t := by omega
          have q1 : decide ((i : Int) < (i : Int)) = false := by simp
          have q1n : decide (i < i) = false := by simp
          have ht2 := HTR.out
          unfold takes at ht2
          subst ht2
          have hres := HE.out
          unfold rdE at hres
          dsimp only at hres
          have HE2 := Lib.hid hres
          clear hres HE HTR HSTEP HSOK HBX
          by_cases hes : en = s.size
          · have hres := HE2.out
            rw [if_pos hes] at hres
            injection hres with hres
            subst hres
            have e1 : ((en : Int) == (s.size : Int)) = true := by simp; omega
            have HES := Lib.hid hes
            obtain ⟨N, D, ds⟩ := u2
            obtain ⟨o1, o2, o3, o4, o5, o6⟩ := HOK.out
            obtain ⟨x0, x1, x2, x3, x4, rfl⟩ := len5 o5
            have hgu := HW2.out.2.2.1
            rw [unC_five] at hgu
            have c0 := Blk.blk_cell hgu 0
            have c1 := Blk.blk_cell hgu 1
            have c2 := Blk.blk_cell hgu 2
            have c3 := Blk.blk_cell hgu 3
            have c4 := Blk.blk_cell hgu 4
            have c5 := Blk.blk_cell hgu 5
            have c6 := Blk.blk_cell hgu 6
            simp at c0 c1 c2 c3 c4 c5 c6
            obtain ⟨y0, y1, y2, y3, y4, y5, y6⟩ := HW2.out.zy
            obtain ⟨z0, z1, z2, z3, z4, z5, z6⟩ := HW2.out.zz
            clear hes hgu HE2 o1 o2 o3 o4 o5 o6
            go_wp2_with fail
            refine bodyPost_ret (v := .tuple #[.agg (unC ⟨N, D, [x0, x1, x2, x3, x4]⟩), .int .i64 0, .int .i64 0]) ?_ rfl ?_
            · exact res10 (S7 wr b N D x0 x1 x2 x3 x4) b ⟨N, D, [x0, x1, x2, x3, x4]⟩ rfl 0 0 _ rfl rfl rfl (by rw [unC_five]; exact S7_blk _ _ _ _ _ _ _ HW2.out.2.1)
            · exact ⟨rfl, S7_below _ _ _ _ _ _ _ HW2.out.1 HW2.out.2.2.2⟩
          · have e1 : ((en : Int) == (s.size : Int)) = false := by simp; omega
            have hlt2 : en < s.size := by omega
            have hg : s.data.toList.getD en 0 = s[en] := by
              rw [List.getD_eq_getElem?_getD, List.getElem?_eq_getElem (by simpa using hlt2)]; rfl
            obtain ⟨x, hx⟩ : ∃ x : UInt8, s[en] = x := ⟨_, rfl⟩
            have hres := HE2.out
            rw [if_neg hes, hg, hx] at hres
            have HX47 := Lib.hid (beq47 x)
            clear hes hg HE2
            by_cases h42 : x = 42
            · rw [if_neg (by rintro ⟨h, _⟩; exact h h42)] at hres
              have HN := Lib.hid hres
              have f1 : ((x.toNat : Int) != 42) = false := by rw [h42]; rfl
              have f2 : ((x.toNat : Int) == 42) = true := by rw [h42]; rfl
              have f3 : ((x.toNat : Int) == 47) = false := by rw [h42]; rfl
              have f5 : (x == 47) = false := by rw [h42]; rfl
              have HF5 := Lib.hid f5
              clear h42 hres f5
              go_wp2_with fail
              go_roundg g'
              case measure => omega
              case rel => exact ⟨en + 1, false, u2, by go_num, rfl, by omega, HOK, by rw [← HF5.out]; exact HN, HW2⟩
            · have hn42 : ¬ x.toNat = 42 := fun h => h42 (UInt8.toNat_inj.1 h)
              have f1 : ((x.toNat : Int) != 42) = true := by simp; omega
              have f2 : ((x.toNat : Int) == 42) = false := by simp; omega
              by_cases h47 : x = 47
              · rw [if_neg (by rintro ⟨_, h⟩; exact h h47)] at hres
                have HN := Lib.hid hres
                have f3 : ((x.toNat : Int) == 47) = true := by rw [h47]; rfl
                have f4 : ((x.toNat : Int) != 47) = false := by rw [h47]; rfl
                have HF5 := Lib.hid (show (x == 47) = true by rw [h47]; rfl)
                clear h42 h47 hres hn42
                go_wp2_with fail
                go_roundg g'
                case measure => omega
                case rel => exact ⟨en + 1, true, u2, by go_num, rfl, by omega, HOK, by rw [← HF5.out]; exact HN, HW2⟩
              · rw [if_pos ⟨h42, h47⟩] at hres
                injection hres with hres
                subst hres
                have hn47 : ¬ x.toNat = 47 := fun h => h47 (UInt8.toNat_inj.1 h)
                have f3 : ((x.toNat : Int) == 47) = false := by simp; omega
                have f4 : ((x.toNat : Int) != 47) = true := by simp; omega
                clear h42 h47 hn42 hn47
                obtain ⟨y0, y1, y2, y3, y4, y5, y6⟩ := HW2.out.zy
                obtain ⟨z0, z1, z2, z3, z4, z5, z6⟩ := HW2.out.zz
                go_wp2_with fail
                refine bodyPost_ret (v := .tuple #[.agg (unC Zu), .int .i64 en, .int .i64 20]) ?_ rfl ?_
                · exact res10 (S7 wr b 0 0 0 0 0 0 0) b Zu rfl en 20 _ rfl rfl rfl (HW2.out.fail 0 0 rfl).1
                · exact ⟨rfl, (HW2.out.fail 0 0 rfl).2⟩
set_option maxHeartbeats 2000000 in
set_option maxRecDepth 100000 in
theorem read_long (s : ByteArray) (w : World) (hs : s.size > 64) : Calls Tryd.prog 10 #[.string s] w (RPost w (Zu, 0, 2)) := by
  have q0 : decide ((s.size : Int) > 64) = true := by simp; omega
  go_enter Tryd.func10, Tryd.ntmps10
  go_wp2
  refine bodyPost_ret (v := .tuple #[.agg (unC Zu), .int .i64 0, .int .i64 2]) ?_ rfl ?_
  · exact res10 _ w.heap.size Zu rfl 0 2 _ rfl rfl rfl (Blk.blk_new w _)
  · exact ⟨rfl, (Below.refl _ _).alloc (Nat.le_refl _) _⟩
/-! in printed form -/
def flat (t : Un × Nat × Int) : Int × Int × Int × Int × Int × Int × Int × Int × Int := ((t.1.num : Int), (t.1.den : Int), t.1.d.getD 0 0, t.1.d.getD 1 0, t.1.d.getD 2 0, t.1.d.getD 3 0, t.1.d.getD 4 0, (t.2.1 : Int), t.2.2)
def Read.f (k : Nat) (s : ByteArray) : Option (Int × Int × Int × Int × Int × Int × Int × Int × Int) := (readF k s).map flat
theorem rdE_mono (s : ByteArray) (a e : Nat) (g g' : Nat → Bool → Un → Option (Un × Nat × Int)) (h : ∀ x y z, LeO (g x y z) (g' x y z)) : ∀ o, LeO (rdE s a e g o) (rdE s a e g' o)
  | none => LeO.refl _
  | some u => by
    unfold rdE
    exact LeO.ite (LeO.refl _) (LeO.ite (LeO.refl _) (h _ _ _))
theorem rdL_mono (s : ByteArray) : ∀ k a d u, LeO (rdL s k a d u) (rdL s (k + 1) a d u)
  | 0, _, _, _ => LeO.none _
  | k + 1, a, d, u => by
    rw [rdL, rdL]
    unfold rdF
    exact LeO.ite (rdE_mono s a _ _ _ (fun x y z => rdL_mono s k x y z) _) (LeO.refl _)
theorem Read.mono (s : ByteArray) : ∀ k, LeO (Read.f k s) (Read.f (k + 1) s) := fun k => by
  unfold Read.f readF
  by_cases h : s.size > 64
  · rw [if_pos h, if_pos h]; exact LeO.refl _
  · rw [if_neg h, if_neg h]
    intro r hr
    obtain ⟨t, ht, rfl⟩ := Option.map_eq_some_iff.1 hr
    rw [rdL_mono s k 0 false U1 t ht]
    rfl
theorem rdL_len (s : ByteArray) : ∀ (k a : Nat) (d : Bool) (u : Un) (t : Un × Nat × Int), a ≤ s.size → OkU u → rdL s k a d u = some t → t.1.d.length = 5
  | 0, _, _, _, _, _, _, h => by cases h
  | k + 1, a, d, u, t, ha, hu, h => by
    rw [rdL] at h
    obtain ⟨⟨r, tm, en, ok⟩, hf⟩ : ∃ f, facF s a = f := ⟨_, rfl⟩
    obtain ⟨hen, hok, _⟩ := fac_ok s a ha r tm en ok hf
    rw [hf] at h
    unfold rdF at h
    split at h
    · next hk =>
      have hr := (hok hk).1
      have key : ∀ (n : Nat) (u u' : Un), OkU u → takes r d n u = some u' → OkU u' := by
        intro n
        induction n with
        | zero => intro u u' hu h; injection h with h; subst h; exact hu
        | succ n ih =>
          intro u u' hu h
          unfold takes at h
          split at h
          · next hs => exact ih _ _ (stepR_ok u r d hu hr hs) h
          · cases h
      cases ht : takes r d tm u with
      | none =>
        simp only [ht] at h
        injection h with h
        subst h
        rfl
      | some u' =>
        have hu' := key tm u u' hu ht
        simp only [ht] at h
        unfold rdE at h
        dsimp only at h
        split at h
        · injection h with h
          subst h
          exact hu'.2.2.2.2.1
        · split at h
          · injection h with h
            subst h
            rfl
          · exact rdL_len s k _ _ u' t (by omega) hu' h
    · injection h with h
      subst h
      rfl
theorem okU1 : OkU U1 := ⟨by decide, by decide, by decide, by decide, rfl, by simp [U1]⟩
theorem Read.calls (k : Nat) (s : ByteArray) (r1 r2 r3 r4 r5 r6 r7 r8 r9 : Int) (w : World) (h : Read.f k s = some (r1, r2, r3, r4, r5, r6, r7, r8, r9)) (hL_ : Laid w) :
    Calls Tryd.prog 10 #[.string s] w fun e w' => e = .returned (.tuple #[.agg #[.int .i64 r1, .int .i64 r2, .int .i64 r3, .int .i64 r4, .int .i64 r5, .int .i64 r6, .int .i64 r7], .int .i64 r8, .int .i64 r9]) ∧ Below w.heap.size w w' := by
  unfold Read.f at h
  obtain ⟨t, ht, he⟩ := Option.map_eq_some_iff.1 h
  have key : Calls Tryd.prog 10 #[.string s] w (RPost w t) ∧ t.1.d.length = 5 := by
    unfold readF at ht
    split at ht
    · next hs => injection ht with ht; subst ht; exact ⟨read_long s w hs, rfl⟩
    · next hs => exact ⟨read_any s w hs hL_ k t ht, rdL_len s k 0 false U1 t (by omega) okU1 ht⟩
  obtain ⟨hc, hl⟩ := key
  obtain ⟨⟨N, D, ds⟩, pl, er⟩ := t
  obtain ⟨a, b, c, d, e, rfl⟩ := len5 hl
  simp only [flat, Prod.mk.injEq] at he
  obtain ⟨rfl, rfl, rfl, rfl, rfl, rfl, rfl, rfl, rfl⟩ := he
  exact hc
end Go.Proofs.YtdplfphgomckfaaDoor.De
