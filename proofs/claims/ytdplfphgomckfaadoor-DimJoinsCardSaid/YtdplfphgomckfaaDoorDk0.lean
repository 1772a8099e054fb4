/- The reference's whole numbers as contracts of calls: Of, Plus, Minus, Held. Conditions: as each theorem states. -/
import Derived.Test.YtdplfphgomckfaaDoorDj
import Derived.Test.YtdplfphgomckfaaDoorBn
namespace Go.Proofs.YtdplfphgomckfaaDoor.Dk
set_option linter.unusedVariables false
set_option linter.unusedSimpArgs false
open Go.RowKit Go.Proofs.YtdplfphgomckfaaDoorW.PrintWords Go.Proofs.YtdplfphgomckfaaDoor.Dt Go.Proofs.YtdplfphgomckfaaDoor.Bn Go.Proofs.YtdplfphgomckfaaDoor.Bx Go.Proofs.YtdplfphgomckfaaDoor.Dj
/-- The digits l stand in a row of the call's own. -/
def BG (W : World) (A : Option Addr) (c : Nat) (l : List Int) : Prop := ∃ B, Kd.R (Kd.int .i64) 3 W B (fun _ => True) (.slice A l.length c) l
theorem BG.below {W W' : World} {A : Option Addr} {c : Nat} {l : List Int} (h : BG W A c l) (hb : Below W.heap.size W W') : BG W' A c l := let ⟨B, h⟩ := h; ⟨B, Kd.R_below h hb⟩
theorem BG.alloc {W : World} {A : Option Addr} {c : Nat} {l : List Int} (h : BG W A c l) (o : Obj) : BG (W.alloc o) A c l := let ⟨B, h⟩ := h; ⟨B, Kd.R_alloc h o⟩
theorem BG.drew {W : World} {A : Option Addr} {c : Nat} {l : List Int} (h : BG W A c l) : BG W.drew A c l := let ⟨B, h⟩ := h; ⟨B, Kd.R_drew h⟩
theorem BG.set {W : World} {A : Option Addr} {c : Nat} {l : List Int} (h : BG W A c l) {g : Nat} {cs : Array Value} (hg : W.heap[g]? = some (.cells cs 59 (0, 0))) (j : Nat) (v : Value) : BG (W.setCell ⟨g, j, none⟩ v) A c l := let ⟨B, h⟩ := h; ⟨B, Kd.R_set h hg (by
  intro q hq
  rcases List.mem_cons.1 hq with rfl | hq
  · decide
  · have hE : (Kd.int .i64).E = [] := rfl
    rw [hE] at hq; cases hq) j v⟩
theorem BG.reads {W : World} {A : Option Addr} {c : Nat} {l : List Int} (h : BG W A c l) : l.length ≤ c ∧ Kd.C (Kd.int .i64) W A l.length l := by
  obtain ⟨B, h⟩ := h
  have := Kd.R_reads' h
  exact ⟨this.2.1, this.2.2⟩
theorem BG.of {W : World} {B : Nat} {v : Value} {l : List Int} (h : Kd.R (Kd.int .i64) 3 W B (fun _ => True) v l) : ∃ A c, v = .slice A l.length c ∧ BG W A c l := by
  obtain ⟨A, c, rfl⟩ := Kd.R_slice h
  exact ⟨A, c, rfl, B, h⟩
/-- What a call that makes a number answers. -/
def BPost (W : World) (z : Bool) (l : List Int) (e : Ending) (w' : World) : Prop := ∃ A c, e = .returned (.agg #[.bool z, .slice A l.length c]) ∧ BG w' A c l ∧ Below W.heap.size W w'
theorem of_any (x : Int) (hx : I64 x) : ∃ l, BigIs (decide (x < 0)) l x ∧ l.length ≤ 4 ∧ ∀ W, Calls Tryd.prog 26 #[.int .i64 x] W (BPost W (decide (x < 0)) l) := by
  obtain ⟨l, ⟨K, hK⟩, hb, hl⟩ := of_is x hx.1 hx.2
  refine ⟨l, hb, hl, fun W => (OW.capstanref01_Of.calls K x _ _ W (hK K (Nat.le_refl _))).mono ?_⟩
  rintro e w' ⟨v, rfl, hR, hB⟩
  obtain ⟨A, c, rfl, hG⟩ := BG.of hR
  exact ⟨A, c, rfl, hG, hB⟩
theorem plus_any (x y : Bool) (a b : List Int) (u v : Int) (ha : BigIs x a u) (hb : BigIs y b v) (hla : a.length ≤ 100000) (hlb : b.length ≤ 100000) : ∃ z l, BigIs z l (u + v) ∧ l.length ≤ (if a.length < b.length then b.length else a.length) + 1 ∧
    ∀ W A c A' c', BG W A c a → BG W A' c' b → Calls Tryd.prog 25 #[.agg #[.bool x, .slice A a.length c], .agg #[.bool y, .slice A' b.length c']] W (BPost W z l) := by
  obtain ⟨z, l, ⟨K, hK⟩, hb', hl⟩ := plus_is x y a b u v ha hb hla hlb
  refine ⟨z, l, hb', hl, fun W A c A' c' h1 h2 => (OW.capstanref01_Plus.calls K x A c a y A' c' b _ _ W h1.reads.2 h1.reads.1 h2.reads.2 h2.reads.1 (hK K (Nat.le_refl _))).mono ?_⟩
  rintro e w' ⟨v, rfl, hR, hB⟩
  obtain ⟨A, c, rfl, hG⟩ := BG.of hR
  exact ⟨A, c, rfl, hG, hB⟩
theorem held_any (z : Bool) (l : List Int) (v : Int) (h : BigIs z l v) (hl : l.length ≤ 1000000) : ∀ W A c, BG W A c l → Calls Tryd.prog 28 #[.agg #[.bool z, .slice A l.length c]] W fun e w' => e = .returned (.int .i64 (hold v)) ∧ Below W.heap.size W w' := by
  obtain ⟨K, hK⟩ := held_is z l v h hl
  exact fun W A c h1 => OW.capstanref01_Held.calls K z A c l _ W h1.reads.2 h1.reads.1 (hK K (Nat.le_refl _))
theorem res27 (W : World) (b : Nat) (z : Bool) (v : Value) (tmps : Array Value) (h2 : tmps.getD 2 undef = .pointer (some ⟨b, 0, none⟩)) (hat : W.heap[b]? = some (.cells #[.bool z, v] 59 (0, 0))) : (results Tryd.f27 tmps).run Tryd.prog W = .ok (.agg #[.bool z, v]) W := by
  have c0 := Blk.blk_cell hat 0
  have c1 := Blk.blk_cell hat 1
  simp at c0 c1
  simp only [Array.getD_eq_getD_getElem?] at h2
  simp [results, Tryd.results27, h2, go_sem, c0, c1]
set_option maxHeartbeats 2000000 in
set_option maxRecDepth 100000 in
theorem minus_any (x : Bool) (A : Option Addr) (n c : Nat) (w : World) : Calls Tryd.prog 27 #[.agg #[.bool x, .slice A n c]] w fun e w' => e = .returned (.agg #[.bool (!x), .slice A n c]) ∧ Below w.heap.size w w' := by
  go_enter Tryd.func27, Tryd.ntmps27
  go_wp2
  refine bodyPost_ret (v := .agg #[.bool (!x), .slice A n c]) ?_ rfl ?_
  · exact res27 _ (w.heap.size + 1) _ _ _ rfl (Blk.blk_at _ _ _ (by simp))
  · exact ⟨rfl, ((Below.refl w.heap.size w).alloc (Nat.le_refl _) _).alloc (by simp) _⟩
end Go.Proofs.YtdplfphgomckfaaDoor.Dk
