/- What the gate's Bind decides keeps to the rules, in plain Lean. -/
import Derived.Test.YtalefchapckcoaaKb
import Derived.Test.YtalefchapckcoaaGd
namespace Go.Proofs.Ytalefchapckcoaa.Kc
set_option linter.unusedVariables false
set_option linter.unusedSimpArgs false
open Go.RowKit Go.Proofs.Ytalefchapckcoaa.Ga Go.Proofs.Ytalefchapckcoaa.Gc Go.Proofs.Ytalefchapckcoaa.OK Go.Proofs.Ytalefchapckcoaa.Kb
/-- What is known of a gate's state: the latest change is no later than the clock. -/
def Ord (s : GS) : Prop := J64 s.ct ∧ J64 s.kt ∧ (s.cb = true → s.kb = true ∧ s.ct ≤ s.kt)
def Cool (r : GR) : Prop := 0 ≤ r.up ∧ r.up ≤ 604800 ∧ 0 ≤ r.dn ∧ r.dn ≤ 604800
theorem cool_right {r : GR} (h : rightB r = true) : Cool r := by
  simp only [rightB, decide_eq_true_eq] at h
  unfold Cool; omega
theorem ord_start (start : Int) : Ord ⟨start, 0, false, 0, false⟩ := ⟨by unfold J64; simp, by unfold J64; simp, by simp⟩
theorem since_less (ct : Int) (cb : Bool) (t n : Int) (hn : 0 ≤ n ∧ n ≤ 604800) (ht : J64 t) (hc : J64 ct) (h : cb = true → ct ≤ t) : cb = true → sinceB ct cb t n = false → Kl.Less.f t ct n = some false := by
  intro hb hs
  subst hb
  have hle := h rfl
  unfold J64 at *
  unfold Kl.Less.f
  rw [if_pos ⟨ht, hc⟩]
  congr 1
  unfold sinceB at hs
  have e1 : IntKind.u64.wrap (IntKind.u64.wrap t - IntKind.u64.wrap ct) = t - ct := by
    simp only [IntKind.wrap_u64]; omega
  have e2 : IntKind.u64.wrap n = n := by simp only [IntKind.wrap_u64]; omega
  rw [e1, e2] at hs
  simp only [Bool.true_and, decide_eq_false_iff_not] at hs
  simp only [decide_eq_false_iff_not]
  unfold Go.Proofs.Ytalefchapckcoaa.BnGateBinds.hold
  split
  · omega
  · split <;> omega
/-- The reason that is handed on: one that asks to hold for no reason asks for 'asked'. -/
def why2 (h : Bool) (why : Int) : Int := if h = true ∧ why = 0 then 4 else why
def tellT (r : GR) (s : GS) (h : Bool) (why want t : Int) : S43 := ⟨⟨(ansF r s h why want t).1, (ansF r s h why want t).2.1, (ansF r s h why want t).2.2⟩, t⟩
def ks (s : GS) : KS := ⟨s.cnt, s.ct, s.cb⟩
theorem w64 {a : Int} (h0 : -9223372036854775808 ≤ a) (h1 : a ≤ 9223372036854775807) : wrap64 a = a := by unfold wrap64; omega
theorem cl_step {mn mx st cnt : Int} (want : Int) (h : Rt mn mx st cnt) : cnt - st ≤ cl mn mx st cnt want ∧ cl mn mx st cnt want ≤ cnt + st := by
  obtain ⟨h1, h2, h3, h4, h5, h6, h7, h8⟩ := h
  unfold cl
  simp only [Blk.mxv_eq, Blk.mnv_eq]; omega
theorem tell_ok (r : GR) (s : GS) (h : Bool) (why want t : Int) (hr : RtS r s) (hc : Cool r) (ho : Ord s) (ht : J64 t) (hs : staleB s t = false) (hw : h = true → why ≠ 0) :
    OkT r (ks s) (tellT r s h why want t) ∧ nextT (ks s) (tellT r s h why want t) = ks (nextF r s h want t) := by
  obtain ⟨o1, o2, o3⟩ := ho
  have hr2 := hr
  obtain ⟨h1, h2, h3, h4, h5, h6, h7, h8⟩ := hr2
  have hk : s.cb = true → s.ct ≤ t := fun hb => by
    have := o3 hb
    simp [staleB, this.1] at hs
    omega
  have hcl := cl_range want hr
  have hcs := cl_step want hr
  have hst : wrap64 (s.cnt - s.cnt) ≤ r.st := by rw [Int.sub_self]; unfold wrap64; omega
  unfold tellT ansF nextF
  simp only [hs]
  cases h with
  | true =>
    refine ⟨⟨?_, ?_, ?_, ?_, ?_, ?_, ?_, ?_⟩, ?_⟩
    · show ¬ s.cnt < r.mn; omega
    · show ¬ s.cnt > r.mx; omega
    · show ¬ wrap64 (s.cnt - s.cnt) > r.st; omega
    · show ¬ wrap64 (s.cnt - s.cnt) > r.st; omega
    · intro _; rfl
    · show (true != (why != 0)) = false
      simp [hw rfl]
    · intro h; exact absurd h (Int.lt_irrefl _)
    · intro h; exact absurd h (Int.lt_irrefl _)
    · unfold nextT; rw [if_pos (by rfl)]; rfl
  | false =>
    have hup := since_less s.ct s.cb t r.up ⟨hc.1, hc.2.1⟩ ht o1 hk
    have hdn := since_less s.ct s.cb t r.dn ⟨hc.2.2.1, hc.2.2.2⟩ ht o1 hk
    unfold Ga.stepG
    simp only [Bool.false_eq_true, if_false]
    generalize cl r.mn r.mx r.st s.cnt want = C at hcl hcs ⊢
    have d1 : wrap64 (C - s.cnt) = C - s.cnt := w64 (by omega) (by omega)
    have d2 : wrap64 (s.cnt - C) = s.cnt - C := w64 (by omega) (by omega)
    by_cases g1 : s.cnt < C
    · simp only [if_pos g1]
      cases hb : sinceB s.ct s.cb t r.up with
      | true =>
        simp only [if_true]
        refine ⟨⟨?_, ?_, ?_, ?_, ?_, ?_, ?_, ?_⟩, ?_⟩
        · show ¬ s.cnt < r.mn; omega
        · show ¬ s.cnt > r.mx; omega
        · show ¬ wrap64 (s.cnt - s.cnt) > r.st; omega
        · show ¬ wrap64 (s.cnt - s.cnt) > r.st; omega
        · intro _; rfl
        · rfl
        · intro h; exact absurd h (Int.lt_irrefl _)
        · intro h; exact absurd h (Int.lt_irrefl _)
        · unfold nextT; rw [if_pos (by rfl)]; rfl
      | false =>
        simp only [Bool.false_eq_true, if_false]
        refine ⟨⟨?_, ?_, ?_, ?_, ?_, ?_, ?_, ?_⟩, ?_⟩
        · show ¬ C < r.mn; omega
        · show ¬ C > r.mx; omega
        · show ¬ wrap64 (C - s.cnt) > r.st; omega
        · show ¬ wrap64 (s.cnt - C) > r.st; omega
        · intro h; cases h
        · rfl
        · intro _ h3; exact hup h3 hb
        · intro h; exact absurd (show C < s.cnt from h) (by omega)
        · unfold nextT; rw [if_neg (by show ¬ C = s.cnt; omega)]; rfl
    · simp only [if_neg g1]
      by_cases g2 : C < s.cnt
      · simp only [if_pos g2]
        cases hb : sinceB s.ct s.cb t r.dn with
        | true =>
          simp only [if_true]
          refine ⟨⟨?_, ?_, ?_, ?_, ?_, ?_, ?_, ?_⟩, ?_⟩
          · show ¬ s.cnt < r.mn; omega
          · show ¬ s.cnt > r.mx; omega
          · show ¬ wrap64 (s.cnt - s.cnt) > r.st; omega
          · show ¬ wrap64 (s.cnt - s.cnt) > r.st; omega
          · intro _; rfl
          · rfl
          · intro h; exact absurd h (Int.lt_irrefl _)
          · intro h; exact absurd h (Int.lt_irrefl _)
          · unfold nextT; rw [if_pos (by rfl)]; rfl
        | false =>
          simp only [Bool.false_eq_true, if_false]
          refine ⟨⟨?_, ?_, ?_, ?_, ?_, ?_, ?_, ?_⟩, ?_⟩
          · show ¬ C < r.mn; omega
          · show ¬ C > r.mx; omega
          · show ¬ wrap64 (C - s.cnt) > r.st; omega
          · show ¬ wrap64 (s.cnt - C) > r.st; omega
          · intro h; cases h
          · rfl
          · intro h; exact absurd (show C > s.cnt from h) (by omega)
          · intro _ h3; exact hdn h3 hb
          · unfold nextT; rw [if_neg (by show ¬ C = s.cnt; omega)]; rfl
      · simp only [if_neg g2]
        obtain rfl : C = s.cnt := by omega
        refine ⟨⟨?_, ?_, ?_, ?_, ?_, ?_, ?_, ?_⟩, ?_⟩
        · show ¬ s.cnt < r.mn; omega
        · show ¬ s.cnt > r.mx; omega
        · show ¬ wrap64 (s.cnt - s.cnt) > r.st; omega
        · show ¬ wrap64 (s.cnt - s.cnt) > r.st; omega
        · intro _; rfl
        · rfl
        · intro h; exact absurd h (Int.lt_irrefl _)
        · intro h; exact absurd h (Int.lt_irrefl _)
        · unfold nextT; rw [if_pos (by rfl)]; rfl
theorem next_ord {r : GR} {s : GS} (h : Bool) (want t : Int) (ho : Ord s) (ht : J64 t) : Ord (nextF r s h want t) := by
  obtain ⟨h1, h2, h3⟩ := ho
  unfold nextF
  by_cases hs : staleB s t = true
  · rw [if_pos hs]; exact ⟨h1, h2, h3⟩
  · rw [if_neg hs]
    have hk : s.cb = true → s.ct ≤ t := fun hb => by
      have := h3 hb
      simp [staleB, this.1] at hs
      omega
    split
    · exact ⟨h1, ht, fun hb => ⟨rfl, hk hb⟩⟩
    · unfold Ga.stepG
      repeat' split
      all_goals first | exact ⟨h1, ht, fun hb => ⟨rfl, hk hb⟩⟩ | exact ⟨ht, ht, fun _ => ⟨rfl, Int.le_refl _⟩⟩
end Go.Proofs.Ytalefchapckcoaa.Kc
