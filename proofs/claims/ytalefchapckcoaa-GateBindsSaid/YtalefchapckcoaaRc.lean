/- The reference's New and Bind at any gate: they answer as the gate's own. -/
import Derived.Test.YtalefchapckcoaaRb1
import Derived.Test.YtalefchapckcoaaRb2
import Derived.Test.YtalefchapckcoaaRb3
namespace Go.Proofs.Ytalefchapckcoaa.Rc
set_option linter.unusedVariables false
open Go.RowKit Go.Proofs.Ytalefchapckcoaa.Blk Go.Proofs.Ytalefchapckcoaa.Blk2 Go.Proofs.Ytalefchapckcoaa.Ga Go.Proofs.Ytalefchapckcoaa.Gc Go.Proofs.Ytalefchapckcoaa.Ra Go.Proofs.Ytalefchapckcoaa.Rb

def I64 (a : Int) : Prop := -9223372036854775808 ≤ a ∧ a ≤ 9223372036854775807
/-- What is known of a gate's state: the latest change is no later than the clock. -/
def Ord (s : GS) : Prop := I64 s.ct ∧ I64 s.kt ∧ (s.cb = true → s.kb = true ∧ s.ct ≤ s.kt)
def Cool (r : GR) : Prop := 0 ≤ r.up ∧ r.up ≤ 604800 ∧ 0 ≤ r.dn ∧ r.dn ≤ 604800
theorem since_less (s : GS) (t n : Int) (hn : 0 ≤ n ∧ n ≤ 604800) (ht : I64 t) (hc : I64 s.ct) (h : s.cb = true → s.ct ≤ t) : sinceB s.ct s.cb t n = lessB s t n := by
  unfold sinceB lessB I64 at *
  cases hb : s.cb
  · simp
  · have := h hb
    have e1 : IntKind.u64.wrap (IntKind.u64.wrap t - IntKind.u64.wrap s.ct) = t - s.ct := by
      simp only [IntKind.wrap_u64]; omega
    have e2 : IntKind.u64.wrap n = n := by simp only [IntKind.wrap_u64]; omega
    rw [e1, e2]
    simp only [Bool.true_and, decide_eq_decide]
    unfold Go.Proofs.Ytalefchapckcoaa.BnGateBinds.hold
    split
    · omega
    · split <;> omega
theorem stepR_eq (r : GR) (s : GS) (want t : Int) (hr : Cool r) (ht : I64 t) (hc : I64 s.ct) (h : s.cb = true → s.ct ≤ t) : stepR r s want t = Ga.stepG r.mn r.mx r.st r.up r.dn s.cnt s.ct s.cb want t := by
  unfold stepR Ga.stepG
  rw [since_less s t r.up ⟨hr.1, hr.2.1⟩ ht hc h, since_less s t r.dn ⟨hr.2.2.1, hr.2.2.2⟩ ht hc h]
  by_cases h1 : s.cnt < cl r.mn r.mx r.st s.cnt want
  · rw [if_pos h1, if_pos h1]
  · rw [if_neg h1, if_neg h1]
    by_cases h2 : cl r.mn r.mx r.st s.cnt want < s.cnt
    · rw [if_pos h2, if_pos h2]
    · rw [if_neg h2, if_neg h2]
      have e : cl r.mn r.mx r.st s.cnt want = s.cnt := by omega
      rw [e]
def RBindPost (g : Nat) (r : GR) (s : GS) (h : Bool) (why want t : Int) (w : World) (e : Ending) (w' : World) : Prop :=
  e = .returned (.tuple #[dv (ansF r s h why want t), .int .i64 (errF s t)]) ∧ IsR w' g r (nextF r s h want t) ∧ w.grownBy w' (some g)
theorem rbind_any (g : Nat) (r : GR) (s : GS) (h : Bool) (why want t : Int) (w : World) (hg : IsR w g r s) (hr : RtS r s) (hcl : Cool r) (ho : Ord s) (ht : I64 t) :
    Calls Try.prog 15 #[.pointer (some ⟨g, 0, none⟩), .agg #[.bool h, .int .i64 why, .int .i64 want], .int .i64 t] w (RBindPost g r s h why want t w) := by
  cases hs : staleB s t with
  | true =>
    have hs' := hs
    simp [staleB] at hs'
    refine (rbind_stale g r s h why want t w hg hs'.1 hs'.2).mono ?_
    rintro e w' ⟨rfl, h1, h2⟩
    exact ⟨by simp [ansF, errF, hs, dv], by simp [nextF, hs]; exact h1, h2⟩
  | false =>
    have ht2 : s.kb = false ∨ s.kb = true ∧ ¬ t < s.kt := by
      cases hk : s.kb
      · exact .inl rfl
      · refine .inr ⟨rfl, ?_⟩
        simp [staleB, hk] at hs; omega
    have hord : s.cb = true → s.ct ≤ t := fun hb => by
      have h1 := ho.2.2 hb
      rcases ht2 with h2 | ⟨_, h2⟩
      · rw [h1.1] at h2; cases h2
      · omega
    cases h with
    | true =>
      refine (rbind_hold g r s why want t w hg ht2).mono ?_
      rintro e w' ⟨rfl, h1, h2⟩
      exact ⟨by simp [ansF, errF, hs, dv], by simp [nextF, hs]; exact h1, h2⟩
    | false =>
      have hgo : Calls Try.prog 15 #[.pointer (some ⟨g, 0, none⟩), .agg #[.bool false, .int .i64 why, .int .i64 want], .int .i64 t] w (RPost g r s w t (stepR r s want t)) := by
        rcases Int.lt_trichotomy s.cnt (cl r.mn r.mx r.st s.cnt want) with hc | hc | hc
        · exact rbind_up g r s why want t w hg hr ht2 hc ht ho.1
        · exact rbind_same g r s why want t w hg hr ht2 hc.symm ht ho.1
        · exact rbind_dn g r s why want t w hg hr ht2 hc ht ho.1
      rw [stepR_eq r s want t hcl ht ho.1 hord] at hgo
      refine hgo.mono ?_
      rintro e w' ⟨rfl, h1, h2⟩
      exact ⟨by simp [ansF, errF, hs, dv], by simp [nextF, hs]; exact h1, h2⟩
theorem next_ord {r : GR} {s : GS} (h : Bool) (want t : Int) (ho : Ord s) (ht : I64 t) : Ord (nextF r s h want t) := by
  obtain ⟨h1, h2, h3⟩ := ho
  unfold nextF
  by_cases hs : staleB s t = true
  · rw [if_pos hs]; exact ⟨h1, h2, h3⟩
  · rw [if_neg hs]
    have hk : s.cb = true → s.ct ≤ t := fun hb => by
      have := h3 hb
      simp [staleB, this.1] at hs
      omega
    split
    · exact ⟨h1, ht, fun hb => ⟨rfl, hk hb⟩⟩
    · unfold Ga.stepG
      repeat' split
      all_goals first | exact ⟨h1, ht, fun hb => ⟨rfl, hk hb⟩⟩ | exact ⟨ht, ht, fun _ => ⟨rfl, Int.le_refl _⟩⟩
/-- What the reference's New answers. -/
def RNewPost (r : GR) (start : Int) (w : World) (e : Ending) (w' : World) : Prop :=
  if rightB r = true then (if start < r.mn ∨ r.mx < start then e = .returned (.tuple #[.pointer none, .int .i64 30]) ∧ Below w.heap.size w w'
    else ∃ g, e = .returned (.tuple #[.pointer (some ⟨g, 0, none⟩), .int .i64 0]) ∧ Below w.heap.size w w' ∧ w.heap.size ≤ g ∧ IsR w' g r ⟨start, 0, false, 0, false⟩)
  else e = .returned (.tuple #[.pointer none, .int .i64 3]) ∧ Below w.heap.size w w'
set_option maxHeartbeats 1000000 in
theorem rnew_any (r : GR) (start : Int) (w : World) : Calls Try.prog 14 #[rv r, .int .i64 start] w (RNewPost r start w) := by
  have hR := right_ref r
  obtain ⟨mn, mx, st, up, dn⟩ := r
  have HR := Lib.hid hR; clear hR
  unfold rv
  cases hr : rightB ⟨mn, mx, st, up, dn⟩ with
  | false =>
    have HF : Hid (rightB ⟨mn, mx, st, up, dn⟩ = false) := hr
    clear hr
    go_enter Try.func14, Try.ntmps14
    go_wp2_with fail
    refine (PGateBinds.capstanref15_Right.calls mn mx st up dn false _ (by rw [HR.out, HF.out])).mono ?_
    rintro e w1 ⟨rfl, hb⟩
    go_wp2
    go_ret2
    unfold RNewPost; rw [if_neg (by rw [HF.out]; decide)]
    exact ⟨rfl, below_then ((Below.refl _ _).alloc (Nat.le_refl _) _) hb (by simp)⟩
  | true =>
    have HF : Hid (rightB ⟨mn, mx, st, up, dn⟩ = true) := hr
    clear hr
    have post2 : ∀ (e : Ending) (w' : World), (start < mn ∨ mx < start) → e = .returned (.tuple #[.pointer none, .int .i64 30]) → Below w.heap.size w w' → RNewPost ⟨mn, mx, st, up, dn⟩ start w e w' := by
      intro e w' h1 h2 h3; unfold RNewPost; rw [if_pos HF.out, if_pos h1]; exact ⟨h2, h3⟩
    have post3 : ∀ (e : Ending) (w' : World) (g : Nat), ¬ (start < mn ∨ mx < start) → e = .returned (.tuple #[.pointer (some ⟨g, 0, none⟩), .int .i64 0]) → Below w.heap.size w w' → w.heap.size ≤ g → IsR w' g ⟨mn, mx, st, up, dn⟩ ⟨start, 0, false, 0, false⟩ → RNewPost ⟨mn, mx, st, up, dn⟩ start w e w' := by
      intro e w' g h1 h2 h3 h4 h5; unfold RNewPost; rw [if_pos HF.out, if_neg h1]; exact ⟨g, h2, h3, h4, h5⟩
    have P2 := Lib.hid post2; have P3 := Lib.hid post3; clear post2 post3
    go_enter Try.func14, Try.ntmps14
    go_wp2_with fail
    refine (PGateBinds.capstanref15_Right.calls mn mx st up dn true _ (by rw [HR.out, HF.out])).mono ?_
    rintro e w1 ⟨rfl, hb⟩
    have hz : w.heap.size < w1.heap.size := by have := hb.size; simp at this; omega
    have hb0 : Below w.heap.size w w1 := below_then ((Below.refl _ _).alloc (Nat.le_refl _) _) hb (by simp)
    have hc := blk_below (blk_new w (.cells #[.int .i64 mn, .int .i64 mx, .int .i64 st, .int .i64 up, .int .i64 dn] 23)) hb (by simp)
    have e0 := blk_cell hc 0
    have e1 := blk_cell hc 1
    have e2 := blk_cell hc 2
    have e3 := blk_cell hc 3
    have e4 := blk_cell hc 4
    simp at e0 e1 e2 e3 e4
    have HB := Lib.hid hb0; clear hb hb0 hc
    by_cases h1 : start < mn
    · go_wp2
      go_ret2
      exact P2.out _ _ (.inl h1) rfl HB.out
    · by_cases h2 : mx < start
      · go_wp2
        go_ret2
        exact P2.out _ _ (.inr h2) rfl HB.out
      · go_wp2
        go_ret2
        exact P3.out _ _ _ (by omega) rfl (HB.out.alloc HB.out.size _) HB.out.size (blk_new _ _)
theorem cool_right {r : GR} (h : rightB r = true) : Cool r := by
  unfold rightB at h
  simp at h
  exact ⟨h.2.2.2.2.2.2.1, h.2.2.2.2.2.2.2.1, h.2.2.2.2.2.2.2.2.1, h.2.2.2.2.2.2.2.2.2⟩
end Go.Proofs.Ytalefchapckcoaa.Rc
