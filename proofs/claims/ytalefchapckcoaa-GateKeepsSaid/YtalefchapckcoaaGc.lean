/- Contracts of gate.New, gate.Gate.Count, gate.Gate.Changed, gate.Gate.Bind at any gate, and of the law's own first fact. -/
import Derived.Test.YtalefchapckcoaaGb
import Derived.Test.YtalefchapckcoaaPGateReachesx1
namespace Go.Proofs.Ytalefchapckcoaa.Gc
open Go.RowKit Go.Proofs.Ytalefchapckcoaa.Blk Go.Proofs.Ytalefchapckcoaa.Ga

structure GR where
  mn : Int
  mx : Int
  st : Int
  up : Int
  dn : Int
structure GS where
  cnt : Int
  ct : Int
  cb : Bool
  kt : Int
  kb : Bool
def rightB (r : GR) : Bool := decide (0 ≤ r.mn ∧ r.mn ≤ r.mx ∧ 1 ≤ r.mx ∧ r.mx ≤ 1000000 ∧ 1 ≤ r.st ∧ r.st ≤ 1000000 ∧ 0 ≤ r.up ∧ r.up ≤ 604800 ∧ 0 ≤ r.dn ∧ r.dn ≤ 604800)
theorem right_core (r : GR) : PGateReaches.core_Right.f r.mn r.mx r.st r.up r.dn = some (rightB r) := by
  have hd : ∀ (p q : Prop) [Decidable p] [Decidable q], (p ↔ q) → some (decide p) = some (decide q) := fun p q _ _ h => by rw [decide_eq_decide.2 h]
  have hf : ∀ (q : Prop) [Decidable q], ¬ q → some false = some (decide q) := fun q _ h => by rw [decide_eq_false h]
  unfold PGateReaches.core_Right.f rightB
  repeat' split
  all_goals first | (refine hd _ _ ?_; omega) | (refine hf _ ?_; omega)
/-- A block that holds a gate of these rules in this state. -/
def IsGate (w : World) (g : Nat) (r : GR) (s : GS) : Prop := IsG w g r.mn r.mx r.st r.up r.dn s.cnt s.ct s.cb s.kt s.kb
def RtS (r : GR) (s : GS) : Prop := Rt r.mn r.mx r.st s.cnt
def rv (r : GR) : Value := .agg #[.int .i64 r.mn, .int .i64 r.mx, .int .i64 r.st, .int .i64 r.up, .int .i64 r.dn]
/-- Is the answer of Bind the error that a moment is stale? -/
def staleB (s : GS) (t : Int) : Bool := s.kb && decide (t < s.kt)
def ansF (r : GR) (s : GS) (h : Bool) (why want t : Int) : Bool × Int × Int := if staleB s t then (false, 0, 0) else if h then (true, why, s.cnt) else (Ga.stepG r.mn r.mx r.st r.up r.dn s.cnt s.ct s.cb want t).1
def errF (s : GS) (t : Int) : Int := if staleB s t then 32 else 0
def nextF (r : GR) (s : GS) (h : Bool) (want t : Int) : GS := if staleB s t then s else if h then { s with kt := t, kb := true } else
  { cnt := (Ga.stepG r.mn r.mx r.st r.up r.dn s.cnt s.ct s.cb want t).2.1, ct := (Ga.stepG r.mn r.mx r.st r.up r.dn s.cnt s.ct s.cb want t).2.2.1, cb := (Ga.stepG r.mn r.mx r.st r.up r.dn s.cnt s.ct s.cb want t).2.2.2, kt := t, kb := true }
def dv (d : Bool × Int × Int) : Value := .agg #[.bool d.1, .int .i64 d.2.1, .int .i64 d.2.2]
def BindPost (g : Nat) (r : GR) (s : GS) (h : Bool) (why want t : Int) (w : World) (e : Ending) (w' : World) : Prop :=
  e = .returned (.tuple #[dv (ansF r s h why want t), .int .i64 (errF s t)]) ∧ IsGate w' g r (nextF r s h want t) ∧ w.grownBy w' (some g)

theorem bind_any (g : Nat) (r : GR) (s : GS) (h : Bool) (why want t : Int) (w : World) (hg : IsGate w g r s) (hr : RtS r s) :
    Calls Try.prog 12 #[.pointer (some ⟨g, 0, none⟩), .agg #[.bool h, .int .i64 why, .int .i64 want], .int .i64 t] w (BindPost g r s h why want t w) := by
  obtain ⟨mn, mx, st, up, dn⟩ := r
  obtain ⟨cnt, ct, cb, kt, kb⟩ := s
  cases hs : staleB ⟨cnt, ct, cb, kt, kb⟩ t with
  | true =>
    simp [staleB] at hs
    obtain ⟨rfl, hlt⟩ := hs
    refine (bind_stale g mn mx st up dn cnt ct cb kt h why want t w hg hr.2.2.1 hlt).mono ?_
    rintro e w' ⟨rfl, h1, h2⟩
    have hs : staleB ⟨cnt, ct, cb, kt, true⟩ t = true := by simp [staleB, hlt]
    exact ⟨by simp [ansF, errF, hs, dv], by simp [nextF, hs, IsGate]; exact h1, h2⟩
  | false =>
    have ht : kb = false ∨ kb = true ∧ ¬ t < kt := by
      cases kb
      · exact .inl rfl
      · refine .inr ⟨rfl, ?_⟩
        simp [staleB] at hs; omega
    cases h with
    | true =>
      refine (bind_hold g mn mx st up dn cnt ct cb kt kb why want t w hg hr ht).mono ?_
      rintro e w' ⟨rfl, h1, h2⟩
      exact ⟨by simp [ansF, errF, hs, dv], by simp [nextF, hs, IsGate]; exact h1, h2⟩
    | false =>
      refine (bind_go g mn mx st up dn cnt ct cb kt kb why want t w hg hr ht).mono ?_
      rintro e w' ⟨rfl, h1, h2⟩
      exact ⟨by simp [ansF, errF, hs, dv], by simp [nextF, hs, IsGate]; exact h1, h2⟩

theorem cl_range {mn mx st cnt : Int} (want : Int) (h : Rt mn mx st cnt) : mn ≤ cl mn mx st cnt want ∧ cl mn mx st cnt want ≤ mx := by
  obtain ⟨h1, h2, h3, h4, h5, h6, h7, h8⟩ := h
  unfold cl
  simp only [mxv_eq, mnv_eq]; omega
theorem next_right {r : GR} {s : GS} (h : Bool) (want t : Int) (hr : RtS r s) : RtS r (nextF r s h want t) := by
  have hc := cl_range want hr
  obtain ⟨h1, h2, h3, h4, h5, h6, h7, h8⟩ := hr
  unfold nextF Ga.stepG RtS Rt
  repeat' split
  all_goals (refine ⟨h1, h2, h3, h4, h5, h6, ?_, ?_⟩ <;> (try dsimp only) <;> omega)

theorem count_gate (g : Nat) (r : GR) (s : GS) (w : World) (hg : IsGate w g r s) (hr : RtS r s) :
    Calls Try.prog 11 #[.pointer (some ⟨g, 0, none⟩)] w fun e w' => e = .returned (.int .i64 s.cnt) ∧ w = w' := by
  have c1 := blk_cell hg 1
  have c5 := blk_cell hg 5
  simp [gcells] at c1 c5
  have hm' : (r.mx == 0) = false := by have := hr.2.2.1; simp; omega
  clear hg hr
  go_enter Try.func11, Try.ntmps11
  go_wp2
  go_ret
  exact ⟨rfl, rfl⟩

theorem changed_gate (g : Nat) (r : GR) (s : GS) (w : World) (hg : IsGate w g r s) (hr : RtS r s) :
    Calls Try.prog 16 #[.pointer (some ⟨g, 0, none⟩)] w fun e w' => e = .returned (.tuple #[.int .i64 s.ct, .bool s.cb]) ∧ ∃ n, w' = w.drewN n := by
  have c1 := blk_cell hg 1
  have c6 := blk_cell hg 6
  have c7 := blk_cell hg 7
  simp [gcells] at c1 c6 c7
  have hm' : (r.mx == 0) = false := by have := hr.2.2.1; simp; omega
  clear hg hr
  go_enter Try.func16, Try.ntmps16
  go_wp2
  go_quiet (fail)
  go_wp2
  go_ret2
  exact ⟨rfl, _, rfl⟩

/-- What New answers. -/
def NewPost (r : GR) (start : Int) (w : World) (e : Ending) (w' : World) : Prop :=
  if rightB r = true then (if start < r.mn ∨ r.mx < start then e = .returned (.tuple #[.pointer none, .int .i64 30]) ∧ Below w.heap.size w w'
    else ∃ g, e = .returned (.tuple #[.pointer (some ⟨g, 0, none⟩), .int .i64 0]) ∧ Below w.heap.size w w' ∧ w.heap.size ≤ g ∧ IsGate w' g r ⟨start, 0, false, 0, false⟩)
  else e = .returned (.tuple #[.pointer none, .int .i64 3]) ∧ Below w.heap.size w w'
set_option maxHeartbeats 1000000 in
theorem new_any (r : GR) (start : Int) (w : World) : Calls Try.prog 9 #[rv r, .int .i64 start] w (NewPost r start w) := by
  have hR := right_core r
  obtain ⟨mn, mx, st, up, dn⟩ := r
  have HR := Lib.hid hR; clear hR
  unfold rv
  cases hr : rightB ⟨mn, mx, st, up, dn⟩ with
  | false =>
    have HF : Hid (rightB ⟨mn, mx, st, up, dn⟩ = false) := hr
    clear hr
    go_enter Try.func9, Try.ntmps9
    go_wp2_with fail
    refine (PGateReaches.core_Right.calls mn mx st up dn false _ (by rw [HR.out, HF.out])).mono ?_
    rintro e w1 ⟨rfl, hb⟩
    go_wp2
    go_ret2
    unfold NewPost; rw [if_neg (by rw [HF.out]; decide)]
    exact ⟨rfl, below_then ((Below.refl _ _).alloc (Nat.le_refl _) _) hb (by simp)⟩
  | true =>
    have HF : Hid (rightB ⟨mn, mx, st, up, dn⟩ = true) := hr
    clear hr
    have post2 : ∀ (e : Ending) (w' : World), (start < mn ∨ mx < start) → e = .returned (.tuple #[.pointer none, .int .i64 30]) → Below w.heap.size w w' → NewPost ⟨mn, mx, st, up, dn⟩ start w e w' := by
      intro e w' h1 h2 h3; unfold NewPost; rw [if_pos HF.out, if_pos h1]; exact ⟨h2, h3⟩
    have post3 : ∀ (e : Ending) (w' : World) (g : Nat), ¬ (start < mn ∨ mx < start) → e = .returned (.tuple #[.pointer (some ⟨g, 0, none⟩), .int .i64 0]) → Below w.heap.size w w' → w.heap.size ≤ g → IsGate w' g ⟨mn, mx, st, up, dn⟩ ⟨start, 0, false, 0, false⟩ → NewPost ⟨mn, mx, st, up, dn⟩ start w e w' := by
      intro e w' g h1 h2 h3 h4 h5; unfold NewPost; rw [if_pos HF.out, if_neg h1]; exact ⟨g, h2, h3, h4, h5⟩
    have P2 := Lib.hid post2; have P3 := Lib.hid post3; clear post2 post3
    go_enter Try.func9, Try.ntmps9
    go_wp2_with fail
    refine (PGateReaches.core_Right.calls mn mx st up dn true _ (by rw [HR.out, HF.out])).mono ?_
    rintro e w1 ⟨rfl, hb⟩
    have hz : w.heap.size < w1.heap.size := by have := hb.size; simp at this; omega
    have hb0 : Below w.heap.size w w1 := below_then ((Below.refl _ _).alloc (Nat.le_refl _) _) hb (by simp)
    have hc := blk_below (blk_new w (.cells #[.int .i64 mn, .int .i64 mx, .int .i64 st, .int .i64 up, .int .i64 dn] 23)) hb (by simp)
    have e0 := blk_cell hc 0
    have e1 := blk_cell hc 1
    have e2 := blk_cell hc 2
    have e3 := blk_cell hc 3
    have e4 := blk_cell hc 4
    simp at e0 e1 e2 e3 e4
    have HB := Lib.hid hb0; clear hb hb0 hc
    by_cases h1 : start < mn
    · go_wp2
      go_ret2
      exact P2.out _ _ (.inl h1) rfl HB.out
    · by_cases h2 : mx < start
      · go_wp2
        go_ret2
        exact P2.out _ _ (.inr h2) rfl HB.out
      · go_wp2
        go_ret2
        exact P3.out _ _ _ (by omega) rfl (HB.out.alloc HB.out.size _) HB.out.size (blk_new _ _)

end Go.Proofs.Ytalefchapckcoaa.Gc
