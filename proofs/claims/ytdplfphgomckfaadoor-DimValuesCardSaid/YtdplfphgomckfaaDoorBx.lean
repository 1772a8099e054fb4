/- fix's Add, Sub and Scale, as numbers. Conditions: as each theorem states. -/
import Derived.Test.YtdplfphgomckfaaDoorBw
namespace Go.Proofs.YtdplfphgomckfaaDoor.Bx
set_option linter.unusedVariables false
set_option linter.unusedSimpArgs false
open Go.RowKit Go.Proofs.YtdplfphgomckfaaDoorW.PrintWords Go.Proofs.YtdplfphgomckfaaDoorW.PrintMore Go.Proofs.YtdplfphgomckfaaDoor.OW Go.Proofs.YtdplfphgomckfaaDoor.Bn Go.Proofs.YtdplfphgomckfaaDoor.Bv Go.Proofs.YtdplfphgomckfaaDoor.Bw
def U (x : Int) : Prop := 0 ≤ x ∧ x < 18446744073709551616
/-- Two words and the number that they mean, of 128 bits, below zero by the complement. -/
def Ws (lo hi x : Int) : Prop := U lo ∧ U hi ∧ lo + 18446744073709551616 * hi = x % 340282366920938463463374607431768211456
def I64 (x : Int) : Prop := -9223372036854775808 ≤ x ∧ x ≤ 9223372036854775807
def Sm (x : Int) : Prop := -85070591730234615865843651857942052864 ≤ x ∧ x ≤ 85070591730234615865843651857942052864
theorem add_ok (a b c : Int) (h : 0 ≤ a ∧ 0 ≤ b ∧ 0 ≤ c ∧ c ≤ 1) : Dn.Add.f a b c = some ((a + b + c) % 18446744073709551616, (a + b + c) / 18446744073709551616) := if_pos h
theorem sub_ok (a b c : Int) (h : 0 ≤ a ∧ 0 ≤ b ∧ b < 18446744073709551616 ∧ 0 ≤ c ∧ c ≤ 1) : Dn.Sub.f a b c = some ((a - b - c) % 18446744073709551616, if a < b + c then 1 else 0) := if_pos h
theorem plus_w {a b c d x y : Int} (h : Ws a b x) (h' : Ws c d y) : ∃ lo hi, fix_words_plus.f a b c d = some (lo, hi) ∧ Ws lo hi (x + y) := by
  obtain ⟨⟨a0, a1⟩, ⟨b0, b1⟩, e⟩ := h
  obtain ⟨⟨c0, c1⟩, ⟨d0, d1⟩, e'⟩ := h'
  refine ⟨(a + c + 0) % 18446744073709551616, (b + d + (a + c + 0) / 18446744073709551616) % 18446744073709551616, ?_, ⟨by omega, by omega⟩, ⟨by omega, by omega⟩, by omega⟩
  unfold fix_words_plus.f
  rw [add_ok a c 0 ⟨a0, c0, by omega, by omega⟩, Option.bind_some]
  dsimp only
  rw [add_ok b d _ ⟨b0, d0, by omega, by omega⟩, Option.bind_some]
theorem minus_w {a b x : Int} (h : Ws a b x) : ∃ lo hi, fix_words_minus.f a b = some (lo, hi) ∧ Ws lo hi (-x) := by
  obtain ⟨⟨a0, a1⟩, ⟨b0, b1⟩, e⟩ := h
  have hs1 := sub_ok 0 a 0 ⟨by omega, a0, a1, by omega, by omega⟩
  obtain ⟨c, hc⟩ : ∃ c : Int, (if (0 : Int) < a + 0 then (1 : Int) else 0) = c := ⟨_, rfl⟩
  rw [hc] at hs1
  have hc2 : (a = 0 ∧ c = 0) ∨ (0 < a ∧ c = 1) := by split at hc <;> omega
  have hs2 := sub_ok 0 b c ⟨by omega, b0, b1, by omega, by omega⟩
  refine ⟨(0 - a - 0) % 18446744073709551616, (0 - b - c) % 18446744073709551616, ?_, ⟨by omega, by omega⟩, ⟨by omega, by omega⟩, by omega⟩
  unfold fix_words_minus.f
  rw [hs1, Option.bind_some]
  dsimp only
  rw [hs2, Option.bind_some]
theorem of_w (a : Int) (h : I64 a) : ∃ lo hi, fix_of.f a = some (lo, hi) ∧ Ws lo hi a := by
  obtain ⟨h0, h1⟩ := h
  refine ⟨_, _, rfl, ?_⟩
  rw [u64_eq, u64_eq]
  exact ⟨⟨by omega, by omega⟩, ⟨by omega, by omega⟩, by omega⟩
theorem below_w {a b x : Int} (h : Ws a b x) (hx : Sm x) : fix_words_below.f a b = some (decide (x < 0)) := by
  obtain ⟨⟨a0, a1⟩, ⟨b0, b1⟩, e⟩ := h
  obtain ⟨x0, x1⟩ := hx
  unfold fix_words_below.f
  have : wrap64 b < 0 ↔ x < 0 := by unfold wrap64; omega
  simp only [this]
theorem held_w {a b x : Int} (h : Ws a b x) (hx : Sm x) : fix_words_held.f a b = some (hold x) := by
  have hb := below_w h hx
  obtain ⟨⟨a0, a1⟩, ⟨b0, b1⟩, e⟩ := h
  obtain ⟨x0, x1⟩ := hx
  unfold fix_words_held.f fix_words_fit.f
  rw [Option.bind_some]
  dsimp only
  have hfit : (b == IntKind.u64.wrap (wrap64 a / 9223372036854775808)) = decide (-9223372036854775808 ≤ x ∧ x ≤ 9223372036854775807) := by
    rw [u64_eq]
    have hv : (a < 9223372036854775808 ∧ wrap64 a / 9223372036854775808 % 18446744073709551616 = 0) ∨ (9223372036854775808 ≤ a ∧ wrap64 a / 9223372036854775808 % 18446744073709551616 = 18446744073709551615) := by
      clear e hb
      unfold wrap64; omega
    have : b = wrap64 a / 9223372036854775808 % 18446744073709551616 ↔ (-9223372036854775808 ≤ x ∧ x ≤ 9223372036854775807) := by
      generalize wrap64 a / 9223372036854775808 % 18446744073709551616 = V at *
      omega
    rw [Bool.eq_iff_iff, beq_iff_eq, decide_eq_true_eq]
    exact this
  rw [hfit, hb, Option.bind_some]
  unfold hold
  by_cases h1 : -9223372036854775808 ≤ x ∧ x ≤ 9223372036854775807
  · rw [decide_eq_true h1, if_pos rfl, if_neg (by omega), if_neg (by omega)]
    congr 1; unfold wrap64; omega
  · rw [decide_eq_false h1, if_neg (by decide)]
    by_cases h2 : x < 0
    · rw [decide_eq_true h2, if_pos rfl, if_pos (by omega)]
    · rw [decide_eq_false h2, if_neg (by decide), if_neg (by omega), if_pos (by omega)]
theorem add_is (a b : Int) (ha : I64 a) (hb : I64 b) : fix_Add.f a b = some (hold (a + b)) := by
  obtain ⟨l1, h1, e1, w1⟩ := of_w a ha
  obtain ⟨l2, h2, e2, w2⟩ := of_w b hb
  obtain ⟨l3, h3, e3, w3⟩ := plus_w w1 w2
  have e4 := held_w w3 (by unfold Sm I64 at *; omega)
  unfold fix_Add.f
  rw [e1, Option.bind_some, e2, Option.bind_some]
  dsimp only
  rw [e3, Option.bind_some]
  dsimp only
  rw [e4, Option.bind_some]
theorem sub_is (a b : Int) (ha : I64 a) (hb : I64 b) : fix_Sub.f a b = some (hold (a - b)) := by
  obtain ⟨l1, h1, e1, w1⟩ := of_w a ha
  obtain ⟨l2, h2, e2, w2⟩ := of_w b hb
  obtain ⟨l4, h4, e4, w4⟩ := minus_w w2
  obtain ⟨l3, h3, e3, w3⟩ := plus_w w1 w4
  have e5 := held_w w3 (by unfold Sm I64 at *; omega)
  unfold fix_Sub.f
  rw [e1, Option.bind_some, e2, Option.bind_some]
  dsimp only
  rw [e4, Option.bind_some]
  dsimp only
  rw [e3, Option.bind_some]
  dsimp only
  rw [e5, Option.bind_some, Int.sub_eq_add_neg]
theorem size_is (a : Int) (h : I64 a) : ∃ u, fix_size.f a = some u ∧ 0 ≤ u ∧ u ≤ 9223372036854775808 ∧ u = (if a < 0 then -a else a) := by
  obtain ⟨h0, h1⟩ := h
  unfold fix_size.f
  by_cases c : a < 0
  · refine ⟨-a, ?_, by omega, by omega, by rw [if_pos c]⟩
    rw [if_pos c, u64_eq, u64_eq]; congr 1; omega
  · refine ⟨a, ?_, by omega, by omega, by rw [if_neg c]⟩
    rw [if_neg c, u64_eq]; congr 1; omega
theorem times_w (a n : Int) (ha : I64 a) (hn : I64 n) : (∃ lo hi, fix_times.f a n = some (lo, hi) ∧ Ws lo hi (a * n)) ∧ Sm (a * n) := by
  obtain ⟨u, eu, u0, u1, hu⟩ := size_is a ha
  obtain ⟨v, ev, v0, v1, hv⟩ := size_is n hn
  have m0 := Int.mul_nonneg u0 v0
  have m1 : u * v ≤ 9223372036854775808 * 9223372036854775808 := Int.mul_le_mul u1 v1 v0 (by omega)
  have em : Dn.Mul.f u v = some (u * v / 18446744073709551616, u * v % 18446744073709551616) := if_pos ⟨u0, by omega, v0, by omega⟩
  obtain ⟨P, hP⟩ : ∃ P, u * v = P := ⟨_, rfl⟩
  rw [hP] at m0 m1 em
  have hw : Ws (P % 18446744073709551616) (P / 18446744073709551616) P := ⟨⟨by omega, by omega⟩, ⟨by omega, by omega⟩, by omega⟩
  have hsgn : a * n = if ((decide (a < 0)) != (decide (n < 0))) = true then -P else P := by
    rw [← hP, hu, hv]
    by_cases c1 : a < 0 <;> by_cases c2 : n < 0
    · rw [if_pos c1, if_pos c2, decide_eq_true c1, decide_eq_true c2]; simp; grind
    · rw [if_pos c1, if_neg c2, decide_eq_true c1, decide_eq_false c2]; simp; grind
    · rw [if_neg c1, if_pos c2, decide_eq_false c1, decide_eq_true c2]; simp; grind
    · rw [if_neg c1, if_neg c2, decide_eq_false c1, decide_eq_false c2]; simp
  have hS : Sm (a * n) := by rw [hsgn]; unfold Sm; split <;> omega
  refine ⟨?_, hS⟩
  by_cases c : ((decide (a < 0)) != (decide (n < 0))) = true
  · rw [if_pos c] at hsgn
    obtain ⟨lo, hi, e, w⟩ := minus_w hw
    refine ⟨lo, hi, ?_, by rw [hsgn]; exact w⟩
    unfold fix_times.f
    rw [eu, Option.bind_some, ev, Option.bind_some, em, Option.bind_some, if_pos c]
    dsimp only
    rw [e, Option.bind_some]
  · rw [if_neg c] at hsgn
    refine ⟨_, _, ?_, by rw [hsgn]; exact hw⟩
    unfold fix_times.f
    rw [eu, Option.bind_some, ev, Option.bind_some, em, Option.bind_some, if_neg c]
theorem div_sm {x den : Int} (hx : Sm x) (hd : 1 ≤ den) : Sm (x / den) := by
  obtain ⟨h0, h1⟩ := hx
  by_cases c : 0 ≤ x
  · have a := Int.ediv_nonneg c (show 0 ≤ den by omega)
    have b := Int.ediv_le_self den c
    unfold Sm; omega
  · have a : x / den < 0 := Int.ediv_neg_of_neg_of_pos (by omega) (by omega)
    have b : x ≤ x / den := Int.le_ediv_of_mul_le (by omega) (by
      have h2 := Int.mul_nonneg (show 0 ≤ -x by omega) (show 0 ≤ den - 1 by omega)
      have h3 : -x * (den - 1) = -(x * den) + x := by grind
      omega)
    unfold Sm; omega
/-- The two steps of long division, of a number that is not below zero. -/
theorem long_w {a b m : Int} (h : Ws a b m) (hm : 0 ≤ m) (hx : Sm m) (den : Int) (hd : 1 ≤ den) (hd1 : den ≤ 9223372036854775807) : ∃ lo, Ev (fun k => bits_Div64.f k (Int.tmod b den) a den) (lo, m % den) ∧ Ws lo (IntKind.u64.wrap (Int.tdiv b den)) (m / den) := by
  obtain ⟨⟨a0, a1⟩, ⟨b0, b1⟩, e⟩ := h
  obtain ⟨x0, x1⟩ := hx
  have e' : m = b * 18446744073709551616 + a := by omega
  have r0 := Int.emod_nonneg b (show den ≠ 0 by omega)
  have r1 := Int.emod_lt_of_pos b (show 0 < den by omega)
  have rq := Int.emod_add_mul_ediv b den
  have q0 := Int.ediv_nonneg b0 (show 0 ≤ den by omega)
  have q1 := Int.ediv_le_self den b0
  have hdv := div_is (b % den) a den r0 r1 (by omega) a0 a1
  rw [Int.tmod_eq_emod_of_nonneg b0, Int.tdiv_eq_ediv_of_nonneg b0, u64_in q0 (by omega)]
  obtain ⟨R, hR⟩ : ∃ R, b % den = R := ⟨_, rfl⟩
  obtain ⟨Q, hQ⟩ : ∃ Q, b / den = Q := ⟨_, rfl⟩
  rw [hR, hQ] at rq
  rw [hR] at r0 r1 hdv ⊢
  rw [hQ] at q0 q1 ⊢
  have s1 := Int.emod_add_mul_ediv (R * 18446744073709551616 + a) den
  have s2 := Int.emod_nonneg (R * 18446744073709551616 + a) (show den ≠ 0 by omega)
  have s3 := Int.emod_lt_of_pos (R * 18446744073709551616 + a) (show 0 < den by omega)
  have s4 := Int.ediv_nonneg (show 0 ≤ R * 18446744073709551616 + a by omega) (show 0 ≤ den by omega)
  have s5 : (R * 18446744073709551616 + a) / den < 18446744073709551616 := Int.ediv_lt_of_lt_mul (by omega) (by omega)
  generalize (R * 18446744073709551616 + a) / den = q at *
  generalize (R * 18446744073709551616 + a) % den = r at *
  have huniq := (Int.ediv_emod_unique (a := m) (b := den) (r := r) (q := Q * 18446744073709551616 + q) (by omega)).2 ⟨by rw [e', ← rq]; grind, s2, s3⟩
  have hb2 : b ≤ 4611686018427387904 := by omega
  refine ⟨q, by rw [huniq.2]; exact hdv, ⟨s4, s5⟩, ⟨q0, by omega⟩, ?_⟩
  rw [huniq.1, Int.emod_eq_of_lt (by omega) (by omega)]
  omega
theorem over_w {a b x : Int} (h : Ws a b x) (hx : Sm x) (den : Int) (hd : 1 ≤ den) (hd1 : den ≤ 9223372036854775807) : ∃ lo hi, Ev (fun k => fix_words_over.f k a b den) (lo, hi) ∧ Ws lo hi (x / den) := by
  have hb := below_w h hx
  by_cases c : x < 0
  · obtain ⟨l1, h1, e1, w1⟩ := minus_w h
    obtain ⟨lo, hdv, w2⟩ := long_w w1 (by omega) (by unfold Sm at *; omega) den hd hd1
    obtain ⟨q2, hq2⟩ : ∃ q, IntKind.u64.wrap (Int.tdiv h1 den) = q := ⟨_, rfl⟩
    rw [hq2] at w2
    have hneg : x / den = -(-x / den + if -x % den > 0 then 1 else 0) := by
      have := neg_div (-x) den hd
      rw [Int.neg_neg] at this
      have hr := Int.emod_nonneg (-x) (show den ≠ 0 by omega)
      rw [this]
      by_cases hz : -x % den > 0
      · rw [if_pos hz, if_pos (by omega)]
      · rw [if_neg hz, if_neg (by omega)]; omega
    have hstart : ∀ k, fix_words_over.f k a b den = fix_words_over.j0 k den true l1 h1 := fun k => by
      unfold fix_words_over.f
      rw [hb, Option.bind_some, decide_eq_true c, if_pos rfl, e1, Option.bind_some]
    have hstep : ∀ k, fix_words_over.j0 (k + 1) den true l1 h1 = (bits_Div64.f k (Int.tmod h1 den) l1 den).bind fun bt152 => (if bt152.2 > 0 then ((fix_words_plus.f bt152.1 q2 1 0).bind fun bt155 => ((fix_words_minus.f bt155.1 bt155.2).bind fun bt157 => (some (bt157.1, bt157.2)))) else ((fix_words_minus.f bt152.1 q2).bind fun bt159 => (some (bt159.1, bt159.2)))) := fun k => by
      simp only [fix_words_over.j0]
      rw [if_neg (by omega), hq2]
      rfl
    by_cases hz : -x % den > 0
    · rw [if_pos hz] at hneg
      obtain ⟨l3, h3, e3, w3⟩ := plus_w w2 (show Ws 1 0 1 from ⟨⟨by decide, by decide⟩, ⟨by decide, by decide⟩, by decide⟩)
      obtain ⟨l4, h4, e4, w4⟩ := minus_w w3
      refine ⟨l4, h4, Ev.congr hstart (Ev.step hstep (Ev.bind hdv (f := fun _ bt152 => (if bt152.2 > 0 then ((fix_words_plus.f bt152.1 q2 1 0).bind fun bt155 => ((fix_words_minus.f bt155.1 bt155.2).bind fun bt157 => (some (bt157.1, bt157.2)))) else ((fix_words_minus.f bt152.1 q2).bind fun bt159 => (some (bt159.1, bt159.2))))) (Ev.congr (f := fun _ => some _) (fun k => ?_) (Ev.now _)))), by rw [hneg]; exact w4⟩
      dsimp only
      rw [if_pos hz, e3, Option.bind_some]
      dsimp only
      rw [e4, Option.bind_some]
    · rw [if_neg hz, Int.add_zero] at hneg
      obtain ⟨l4, h4, e4, w4⟩ := minus_w w2
      refine ⟨l4, h4, Ev.congr hstart (Ev.step hstep (Ev.bind hdv (f := fun _ bt152 => (if bt152.2 > 0 then ((fix_words_plus.f bt152.1 q2 1 0).bind fun bt155 => ((fix_words_minus.f bt155.1 bt155.2).bind fun bt157 => (some (bt157.1, bt157.2)))) else ((fix_words_minus.f bt152.1 q2).bind fun bt159 => (some (bt159.1, bt159.2))))) (Ev.congr (f := fun _ => some _) (fun k => ?_) (Ev.now _)))), by rw [hneg]; exact w4⟩
      dsimp only
      rw [if_neg hz, e4, Option.bind_some]
  · obtain ⟨lo, hdv, w2⟩ := long_w h (by omega) hx den hd hd1
    obtain ⟨q2, hq2⟩ : ∃ q, IntKind.u64.wrap (Int.tdiv b den) = q := ⟨_, rfl⟩
    rw [hq2] at w2
    refine ⟨lo, q2, Ev.congr (f := fun k => fix_words_over.j0 k den false a b) (fun k => ?_) (Ev.step (f := fun k => (bits_Div64.f k (Int.tmod b den) a den).bind fun bt152 => some (bt152.1, q2)) (fun k => ?_) (Ev.bind hdv (f := fun _ bt152 => some (bt152.1, q2)) (Ev.now _))), w2⟩
    · unfold fix_words_over.f
      rw [hb, Option.bind_some, decide_eq_false c, if_neg (by decide)]
    · simp only [fix_words_over.j0]
      rw [if_neg (by omega), hq2]
      rfl
theorem scale_is (a n d : Int) (ha : I64 a) (hn : I64 n) (hd : I64 d) : Ev (fun k => fix_Scale.f k a n d) (scl a n d) := by
  by_cases h : n < 0 ∨ d < 1
  · refine Ev.step (f := fun _ => some (scl a n d)) (fun k => ?_) (Ev.now _)
    unfold fix_Scale.f scl
    rw [if_pos h]
    by_cases h1 : n < 0
    · rw [if_pos h1]; rfl
    · rw [if_neg h1, decide_eq_true (by omega)]; rfl
  · obtain ⟨⟨lo, hi, e1, w1⟩, hS⟩ := times_w a n ha hn
    obtain ⟨l2, h2, e2, w2⟩ := over_w w1 hS d (by omega) hd.2
    have e3 := held_w w2 (div_sm hS (by omega))
    refine Ev.step (f := fun k => (fix_words_over.f k lo hi d).bind fun bt163 => ((fix_words_held.f bt163.1 bt163.2).bind fun t165 => (some t165))) (fun k => ?_) (Ev.bind e2 (f := fun _ bt163 => ((fix_words_held.f bt163.1 bt163.2).bind fun t165 => (some t165))) (Ev.congr (f := fun _ => some _) (fun k => ?_) (Ev.now _)))
    · unfold fix_Scale.f
      rw [if_neg (by omega), decide_eq_false (by omega)]
      simp only [fix_Scale.j0]
      rw [if_neg (by decide), e1, Option.bind_some, u64_in (a := d) (by omega) (by unfold I64 at hd; omega)]
    · dsimp only
      rw [e3, Option.bind_some]
      unfold scl
      rw [if_neg h]
end Go.Proofs.YtdplfphgomckfaaDoor.Bx
