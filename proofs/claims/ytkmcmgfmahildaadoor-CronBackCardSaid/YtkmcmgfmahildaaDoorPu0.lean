/- What Text tells, of Go and of the reference. -/
import Derived.Test.YtkmcmgfmahildaaDoorPt
import Derived.Test.YtkmcmgfmahildaaDoorPf
import Derived.Test.YtkmcmgfmahildaaDoorCx
namespace Go.Proofs.YtkmcmgfmahildaaDoor.Pu0
set_option linter.unusedVariables false
open Go.RowKit Go.Proofs.YtkmcmgfmahildaaDoorW.PrintWords Go.Proofs.YtkmcmgfmahildaaDoor.OA Go.Proofs.YtkmcmgfmahildaaDoor.Bt Go.Proofs.YtkmcmgfmahildaaDoor.Laid Go.Proofs.YtkmcmgfmahildaaDoor.Pt Go.Proofs.YtkmcmgfmahildaaDoor.Ct Go.Proofs.YtkmcmgfmahildaaDoor.Cx

theorem ref_l1 (S : Nat) (hS : S < 18446744073709551616) (i : Int) (o : ByteArray) (b : Bool) (m k kk : Nat) (h : Run S m k) (hz : o.size ≤ 10000) : ∀ (n j : Nat), j + n = k → m ≤ j →
    capstanref04_told.l1 (n + 1 + kk) S i o b m j = if o.toList = ([] : List UInt8) then capstanref04_told.j4 kk S i o b m k else capstanref04_told.j4 kk S i (o ++ (⟨#[44]⟩ : ByteArray)) b m k := by
  intro n
  have hk := run_lt hS h
  induction n with
  | zero =>
    intro j hj hm
    obtain rfl : j = k := by omega
    rw [show 0 + 1 + kk = kk + 1 from by omega]
    unfold capstanref04_told.l1
    rw [w64 (by omega) (by omega), show (j : Int) + 1 = ((j + 1 : Nat) : Int) from by omega, has_is S hS, h.2.2]
    simp only [Option.bind_some, Bool.false_eq_true, if_false]
    rw [if_pos (show o.size + 1 ≤ 9223372036854775807 from by omega)]
  | succ n ih =>
    intro j hj hm
    rw [show n + 1 + 1 + kk = (n + 1 + kk) + 1 from by omega]
    unfold capstanref04_told.l1
    rw [w64 (by omega) (by omega), show (j : Int) + 1 = ((j + 1 : Nat) : Int) from by omega, has_is S hS, h.2.1 (j + 1) (by omega) (by omega)]
    simp only [Option.bind_some, if_true]
    exact ih (j + 1) (by omega) (by omega)
theorem ref_j4 (S : Nat) (i : Int) (o : ByteArray) (b : Bool) (m k kk : Nat) (hmk : m ≤ k) (hk : k < 64) (hz : o.size ≤ 10001) :
    capstanref04_told.j4 (kk + 1) S i o b m k = capstanref04_told.l0 kk S i (pcs o m k) b (m + 1 : Nat) := by
  have d1 := dg_size m (by omega)
  have d2 := dg_size k (by omega)
  unfold capstanref04_told.j4 pcs
  rw [itoa_is m (by omega)]
  simp only [Option.bind_some]
  rw [if_pos (by omega), w64 (a := (m : Int) + 1) (by omega) (by omega), itoa_is k (by omega)]
  simp only [Option.bind_some]
  rw [if_pos (show 1 + (dg k).size ≤ 9223372036854775807 from by omega)]
  by_cases c1 : k = m
  · rw [if_neg (by omega), if_neg (by omega), if_pos c1, show (m : Int) + 1 = ((m + 1 : Nat) : Int) from by omega]
  · by_cases c2 : k = m + 1
    · rw [if_pos (by omega), if_pos (by simp only [ByteArray.size_append, size1]; omega), if_neg (by omega), if_neg c1, if_pos c2, show (m : Int) + 1 = ((m + 1 : Nat) : Int) from by omega]
    · have hz2 : (o ++ dg m).size + ((⟨#[45]⟩ : ByteArray) ++ dg k).size ≤ 9223372036854775807 := by simp only [ByteArray.size_append, size1]; omega
      rw [if_neg (by omega), if_pos (by omega), if_pos (show 1 + (dg k).size ≤ 9223372036854775807 from by omega), if_pos hz2, if_neg c1, if_neg c2, show (m : Int) + 1 = ((m + 1 : Nat) : Int) from by omega]
def star : ByteArray := ⟨#[42]⟩
theorem ref_l0 (S : Nat) (hS : S < 18446744073709551616) (i hi : Nat) (hi5 : i < 5) (hhi : Ca.high.f i = some (hi : Int)) (h60 : hi < 60) : ∀ (n m kk : Nat) (out : ByteArray) (b : Bool), m + n = hi + 1 → out.size ≤ 8 * m → 80 * n + 1 ≤ kk →
    ∃ r, capstanref04_told.l0 kk S i out b m = some r ∧ ((b = true ∧ ∀ j, m ≤ j → j ≤ hi → S.testBit j = true) → r = star) ∧ (¬ (b = true ∧ ∀ j, m ≤ j → j ≤ hi → S.testBit j = true) → r = tl S n m out) := by
  intro n
  induction n with
  | zero =>
    intro m kk out b hm hz hk
    obtain ⟨kk, rfl⟩ : ∃ j, kk = j + 1 := ⟨kk - 1, by omega⟩
    unfold capstanref04_told.l0
    rw [hhi]
    simp only [Option.bind_some]
    rw [if_neg (by omega)]
    cases b
    · exact ⟨out, rfl, fun h => (by cases h.1), fun _ => rfl⟩
    · exact ⟨star, rfl, fun _ => rfl, fun h => absurd ⟨rfl, fun j j1 j2 => by omega⟩ h⟩
  | succ n ih =>
    intro m kk out b hm hz hk
    obtain ⟨kk, rfl⟩ : ∃ j, kk = j + 1 + 1 + 1 + (n + 68) := ⟨kk - (n + 71), by omega⟩
    rw [show kk + 1 + 1 + 1 + (n + 68) = kk + (n + 68) + 1 + 1 + 1 from by omega]
    unfold capstanref04_told.l0
    rw [hhi]
    simp only [Option.bind_some]
    rw [if_pos (by omega), has_is S hS]
    simp only [Option.bind_some]
    have key : ∀ b' : Bool, (b' = (b && S.testBit m)) → ∃ r, capstanref04_told.j1 (kk + (n + 68) + 1 + 1) S i out b' m = some r ∧ ((b = true ∧ ∀ j, m ≤ j → j ≤ hi → S.testBit j = true) → r = star) ∧ (¬ (b = true ∧ ∀ j, m ≤ j → j ≤ hi → S.testBit j = true) → r = tl S (n + 1) m out) := by
      intro b' hb'
      unfold capstanref04_told.j1
      rw [has_is S hS]
      simp only [Option.bind_some]
      have hall : (b = true ∧ ∀ j, m ≤ j → j ≤ hi → S.testBit j = true) ↔ (b' = true ∧ ∀ j, m + 1 ≤ j → j ≤ hi → S.testBit j = true) := by
        rw [hb', Bool.and_eq_true]
        constructor
        · rintro ⟨h1, h2⟩
          exact ⟨⟨h1, h2 m (Nat.le_refl _) (by omega)⟩, fun j j1 j2 => h2 j (by omega) j2⟩
        · rintro ⟨⟨h1, h2⟩, h3⟩
          refine ⟨h1, fun j j1 j2 => ?_⟩
          by_cases e : j = m
          · rw [e]; exact h2
          · exact h3 j (by omega) j2
      have hskip : (¬ (S.testBit m = true ∧ (m = 0 ∨ S.testBit (m - 1) = false))) → ∃ r, capstanref04_told.j2 (kk + (n + 68) + 1) S i out b' m true = some r ∧ ((b = true ∧ ∀ j, m ≤ j → j ≤ hi → S.testBit j = true) → r = star) ∧ (¬ (b = true ∧ ∀ j, m ≤ j → j ≤ hi → S.testBit j = true) → r = tl S (n + 1) m out) := by
        intro hno
        unfold capstanref04_told.j2
        rw [if_pos rfl, w64 (by omega) (by omega), show (m : Int) + 1 = ((m + 1 : Nat) : Int) from by omega]
        obtain ⟨r, hr, h1, h2⟩ := ih (m + 1) (kk + (n + 68)) out b' (by omega) (by omega) (by omega)
        refine ⟨r, hr, fun h => h1 (hall.1 h), fun h => ?_⟩
        rw [h2 (fun hh => h (hall.2 hh)), show tl S (n + 1) m out = if S.testBit m = true ∧ (m = 0 ∨ S.testBit (m - 1) = false) then tl S n (m + 1) (pc out m (rend S 64 m)) else tl S n (m + 1) out from rfl, if_neg hno]
      by_cases hb : S.testBit m = true
      · rw [if_pos hb]
        have hprev : ∃ p : Bool, capstanref04_Has.f (S : Int) (wrap64 ((m : Int) - 1)) = some p ∧ (p = false ↔ (m = 0 ∨ S.testBit (m - 1) = false)) := by
          rw [w64 (by omega) (by omega)]
          by_cases h0 : m = 0
          · subst h0
            exact ⟨false, has_neg _, ⟨fun _ => .inl rfl, fun _ => rfl⟩⟩
          · rw [show (m : Int) - 1 = ((m - 1 : Nat) : Int) from by omega, has_is S hS]
            exact ⟨_, rfl, ⟨fun h => .inr h, fun h => by rcases h with h | h; exact absurd h h0; exact h⟩⟩
        obtain ⟨p, hp, hpi⟩ := hprev
        rw [hp]
        simp only [Option.bind_some]
        cases p
        · have hgo : S.testBit m = true ∧ (m = 0 ∨ S.testBit (m - 1) = false) := ⟨hb, hpi.1 rfl⟩
          have hrun := rend_run S hS 64 m (by omega) hb
          obtain ⟨k, hke⟩ : ∃ k, rend S 64 m = k := ⟨_, rfl⟩
          rw [hke] at hrun
          have hk64 := run_lt hS hrun
          have hmk := hrun.1
          unfold capstanref04_told.j2
          simp only [Bool.false_eq_true, if_false]
          rw [show kk + (n + 68) = (k - m) + 1 + ((kk + (n + 68) - (k - m) - 2) + 1) from by omega, ref_l1 S hS i out b' m k _ hrun (by omega) (k - m) m (by omega) (Nat.le_refl _)]
          have hpc : (if out.toList = ([] : List UInt8) then capstanref04_told.j4 ((kk + (n + 68) - (k - m) - 2) + 1) S i out b' m k else capstanref04_told.j4 ((kk + (n + 68) - (k - m) - 2) + 1) S i (out ++ (⟨#[44]⟩ : ByteArray)) b' m k) = capstanref04_told.l0 (kk + (n + 68) - (k - m) - 2) S i (pc out m k) b' (m + 1 : Nat) := by
            unfold pc
            by_cases he : out.toList = ([] : List UInt8)
            · rw [if_pos he, if_pos he, ref_j4 S i out b' m k _ hmk hk64 (by omega)]
            · rw [if_neg he, if_neg he, ref_j4 S i _ b' m k _ hmk hk64 (by rw [ByteArray.size_append, size1]; omega)]
          rw [hpc]
          have hps := pc_size out m k (by omega) (by omega)
          obtain ⟨r, hr, h1, h2⟩ := ih (m + 1) (kk + (n + 68) - (k - m) - 2) (pc out m k) b' (by omega) (by omega) (by omega)
          refine ⟨r, hr, fun h => h1 (hall.1 h), fun h => ?_⟩
          rw [h2 (fun hh => h (hall.2 hh)), show tl S (n + 1) m out = if S.testBit m = true ∧ (m = 0 ∨ S.testBit (m - 1) = false) then tl S n (m + 1) (pc out m (rend S 64 m)) else tl S n (m + 1) out from rfl, if_pos hgo, hke]
        · exact hskip (fun h => by have := hpi.2 h.2; cases this)
      · rw [if_neg hb]
        exact hskip (fun h => hb h.1)
    cases b
    · exact key false rfl
    · exact key (S.testBit m) (by simp)
theorem tl_none (S : Nat) : ∀ (d m : Nat) (out : ByteArray), (∀ j, m ≤ j → S.testBit j = false) → tl S d m out = out
  | 0, _, _, _ => rfl
  | d + 1, m, out, h => by
    rw [show tl S (d + 1) m out = if S.testBit m = true ∧ (m = 0 ∨ S.testBit (m - 1) = false) then tl S d (m + 1) (pc out m (rend S 64 m)) else tl S d (m + 1) out from rfl, if_neg (by rw [h m (Nat.le_refl _)]; simp)]
    exact tl_none S d (m + 1) out (fun j hj => h j (by omega))
theorem tl_more (S d : Nat) : ∀ (n m : Nat) (out : ByteArray), (∀ j, m + n ≤ j → S.testBit j = false) → tl S (n + d) m out = tl S n m out
  | 0, m, out, h => by rw [Nat.zero_add]; exact tl_none S d m out (fun j hj => h j (by omega))
  | n + 1, m, out, h => by
    rw [show n + 1 + d = (n + d) + 1 from by omega]
    have e1 : tl S (n + d + 1) m out = if S.testBit m = true ∧ (m = 0 ∨ S.testBit (m - 1) = false) then tl S (n + d) (m + 1) (pc out m (rend S 64 m)) else tl S (n + d) (m + 1) out := rfl
    have e2 : tl S (n + 1) m out = if S.testBit m = true ∧ (m = 0 ∨ S.testBit (m - 1) = false) then tl S n (m + 1) (pc out m (rend S 64 m)) else tl S n (m + 1) out := rfl
    rw [e1, e2, tl_more S d n (m + 1) _ (fun j hj => h j (by omega)), tl_more S d n (m + 1) _ (fun j hj => h j (by omega))]
theorem tl_size (S : Nat) (hS : S < 18446744073709551616) : ∀ (n m : Nat) (out : ByteArray), m + n ≤ 64 → (tl S n m out).size ≤ out.size + 6 * n
  | 0, m, out, _ => by show out.size ≤ _; omega
  | n + 1, m, out, h => by
    rw [show tl S (n + 1) m out = if S.testBit m = true ∧ (m = 0 ∨ S.testBit (m - 1) = false) then tl S n (m + 1) (pc out m (rend S 64 m)) else tl S n (m + 1) out from rfl]
    split
    · rename_i hc
      have hk := run_lt hS (rend_run S hS 64 m (by omega) hc.1)
      have h1 := tl_size S hS n (m + 1) (pc out m (rend S 64 m)) (by omega)
      have h2 := pc_size out m (rend S 64 m) (by omega) (by omega)
      omega
    · have h1 := tl_size S hS n (m + 1) out (by omega)
      omega
theorem all_f (i : Nat) (hi : i < 5) : cron_field_all.f (low i) (high i) = some (Ca.allv i) := by
  have : i = 0 ∨ i = 1 ∨ i = 2 ∨ i = 3 ∨ i = 4 := by omega
  rcases this with rfl | rfl | rfl | rfl | rfl <;> decide +kernel
theorem lohi (i : Nat) (hi : i < 5) : ∃ lo h : Nat, low i = (lo : Int) ∧ high i = (h : Int) ∧ lo ≤ 1 ∧ lo ≤ h ∧ h < 60 ∧ Ca.low.f i = some (lo : Int) ∧ Ca.high.f i = some (h : Int) := by
  have : i = 0 ∨ i = 1 ∨ i = 2 ∨ i = 3 ∨ i = 4 := by omega
  rcases this with rfl | rfl | rfl | rfl | rfl
  · exact ⟨0, 59, rfl, rfl, by omega, by omega, by omega, rfl, rfl⟩
  · exact ⟨0, 23, rfl, rfl, by omega, by omega, by omega, rfl, rfl⟩
  · exact ⟨1, 31, rfl, rfl, by omega, by omega, by omega, rfl, rfl⟩
  · exact ⟨1, 12, rfl, rfl, by omega, by omega, by omega, rfl, rfl⟩
  · exact ⟨0, 6, rfl, rfl, by omega, by omega, by omega, rfl, rfl⟩
/-- What is told of a field. -/
def tt (S i : Nat) : ByteArray := if (S : Int) = Ca.allv i then star else T S 0 ⟨#[]⟩
theorem tt_size (S i : Nat) (hS : S < 18446744073709551616) : (tt S i).size ≤ 1000 := by
  unfold tt
  split
  · decide
  · have := tl_size S hS 64 0 ⟨#[]⟩ (by omega)
    have e : (⟨#[]⟩ : ByteArray).size = 0 := rfl
    unfold T
    rw [show 64 - 0 = 64 from rfl]
    omega
theorem go_told (S i : Nat) (hS : S < 18446744073709551616) (hi : i < 5) (hin : ∀ j : Nat, S.testBit j = true → low i ≤ (j : Int) ∧ (j : Int) ≤ high i) (K : Nat) (hK : 300 ≤ K) : cron_told.f K S (low i) (high i) = some (tt S i) := by
  obtain ⟨lo, h, e1, e2, h1, h2, h3, _, _⟩ := lohi i hi
  unfold cron_told.f tt
  rw [all_f i hi]
  simp only [Option.bind_some]
  by_cases he : (S : Int) = Ca.allv i
  · rw [if_pos he, if_pos he]; rfl
  · rw [if_neg he, if_neg he]
    have := go_l0 S hS (fun j hj => by
      cases hb : S.testBit j
      · rfl
      · have := hin j hb; rw [e2] at this; omega) 64 0 K ⟨#[]⟩ (by omega) (by omega) (.inl rfl) (by show 0 ≤ _; omega) (by omega)
    rw [fromB_zero] at this
    exact this
theorem ref_told (S i : Nat) (hS : S < 18446744073709551616) (hi : i < 5) (hin : ∀ j : Nat, S.testBit j = true → low i ≤ (j : Int) ∧ (j : Int) ≤ high i) (K : Nat) (hK : 6000 ≤ K) : capstanref04_told.f K S i = some (tt S i) := by
  obtain ⟨lo, h, e1, e2, h1, h2, h3, h4, h5⟩ := lohi i hi
  obtain ⟨A, hA, hA2, hb⟩ := Pf.allv_bit i hi
  unfold capstanref04_told.f tt
  rw [h4]
  simp only [Option.bind_some]
  obtain ⟨r, hr, hs1, hs2⟩ := ref_l0 S hS i h hi h5 h3 (h + 1 - lo) lo K ⟨#[]⟩ true (by omega) (by show 0 ≤ _; omega) (by omega)
  rw [hr]
  congr 1
  by_cases hall : ∀ j, lo ≤ j → j ≤ h → S.testBit j = true
  · have hSA : S = A := by
      apply Nat.eq_of_testBit_eq
      intro j
      by_cases hj : j < 64
      · rw [hb j hj]
        by_cases hj2 : lo ≤ j ∧ j ≤ h
        · rw [hall j hj2.1 hj2.2, decide_eq_true (by rw [e1, e2]; omega)]
        · rw [decide_eq_false (by rw [e1, e2]; omega)]
          cases hbj : S.testBit j
          · rfl
          · have := hin j hbj; rw [e1, e2] at this; omega
      · rw [lt_iff_bits.1 (show S < 2 ^ 64 from hS) j (by omega), lt_iff_bits.1 (show A < 2 ^ 64 from hA2) j (by omega)]
    rw [if_pos (by rw [hA, hSA]), hs1 ⟨rfl, hall⟩]
  · have hne : ¬ (S : Int) = Ca.allv i := by
      intro he
      rw [hA] at he
      have hSA : S = A := by omega
      refine hall fun j j1 j2 => ?_
      rw [hSA, hb j (by omega)]
      exact decide_eq_true (by rw [e1, e2]; omega)
    rw [if_neg hne, hs2 (fun hh => hall hh.2)]
    have hno : ∀ j, h + 1 ≤ j → S.testBit j = false := by
      intro j hj
      cases hbj : S.testBit j
      · rfl
      · have := hin j hbj; rw [e1, e2] at this; omega
    have e3 : T S lo ⟨#[]⟩ = tl S (h + 1 - lo) lo ⟨#[]⟩ := by
      unfold T
      rw [show 64 - lo = (h + 1 - lo) + (63 - h) from by omega]
      exact tl_more S _ _ _ _ (fun j hj => hno j (by omega))
    rw [← e3]
    rcases Nat.lt_or_ge 0 lo with h0 | h0
    · obtain rfl : lo = 1 := by omega
      have hb0 : S.testBit 0 = false := by
        cases hbj : S.testBit 0
        · rfl
        · have := hin 0 hbj; rw [e1] at this; omega
      exact (T_skip S 0 _ hb0).symm
    · obtain rfl : lo = 0 := by omega
      rfl
theorem formed_in (a b c d e : Int) (hf : Cf.formedB a b c d e = true) (ha : 0 ≤ a ∧ a ≤ 18446744073709551615) (hb : 0 ≤ b ∧ b ≤ 18446744073709551615) (hc : 0 ≤ c ∧ c ≤ 18446744073709551615) (hd : 0 ≤ d ∧ d ≤ 18446744073709551615) (he : 0 ≤ e ∧ e ≤ 18446744073709551615) :
    ∀ i, i < 5 → ∃ S : Nat, Cf.fld a b c d e i = (S : Int) ∧ S < 18446744073709551616 ∧ S ≠ 0 ∧ ∀ j : Nat, S.testBit j = true → low i ≤ (j : Int) ∧ (j : Int) ≤ high i := by
  have hok : ∀ i, i < 5 → Cf.okf (Cf.fld a b c d e i) (Ca.allv i) = true := by
    unfold Cf.formedB Cf.okU Cf.okU Cf.okU Cf.okU Cf.okU at hf
    simp only [Bool.and_eq_true] at hf
    intro i hi
    have : i = 0 ∨ i = 1 ∨ i = 2 ∨ i = 3 ∨ i = 4 := by omega
    rcases this with rfl | rfl | rfl | rfl | rfl
    · exact hf.1
    · exact hf.2.1
    · exact hf.2.2.1
    · exact hf.2.2.2.1
    · exact hf.2.2.2.2.1
  intro i hi
  have hfl : 0 ≤ Cf.fld a b c d e i ∧ Cf.fld a b c d e i ≤ 18446744073709551615 := by
    unfold Cf.fld
    repeat' split
    all_goals assumption
  obtain ⟨S, hS⟩ : ∃ S : Nat, Cf.fld a b c d e i = S := ⟨(Cf.fld a b c d e i).toNat, by omega⟩
  have h1 := hok i hi
  rw [Pf.okf_is _ hfl i hi, hS] at h1
  simp only [Bool.and_eq_true, Bool.not_eq_true', beq_eq_false_iff_ne] at h1
  rw [hS] at hfl
  refine ⟨S, hS, by omega, by omega, fun j hj => ?_⟩
  rcases Nat.lt_or_ge j 64 with hj64 | hj64
  · exact (Pf.rokI_iff _ _ _ 64 (Nat.le_refl _)).1 h1.2 j (by omega) hj64 (by rw [Pf.hasB_bit S j hj64]; exact hj)
  · rw [lt_iff_bits.1 (show S < 2 ^ 64 from by omega) j hj64] at hj; cases hj
theorem acc_is (F : Nat → ByteArray) : ∀ k, accT F (k + 1) = raccT F k
  | 0 => by
    show (⟨#[]⟩ : ByteArray) ++ F 0 = F 0
    exact ByteArray.empty_append
  | k + 1 => by
    rw [show accT F (k + 1 + 1) = (if 0 < k + 1 then accT F (k + 1) ++ sp else accT F (k + 1)) ++ F (k + 1) from rfl, if_pos (by omega), acc_is F k, show raccT F (k + 1) = raccT F k ++ (sp ++ F (k + 1)) from rfl, ByteArray.append_assoc]
/-- What both answer. -/
theorem texts (a b c d e : Int) (ha : 0 ≤ a ∧ a ≤ 18446744073709551615) (hb : 0 ≤ b ∧ b ≤ 18446744073709551615) (hc : 0 ≤ c ∧ c ≤ 18446744073709551615) (hd : 0 ≤ d ∧ d ≤ 18446744073709551615) (he : 0 ≤ e ∧ e ≤ 18446744073709551615) (hf : Cf.formedB a b c d e = true) (K : Nat) (hK : 6000 ≤ K) :
    Text.f K a b c d e = some (accT (pick5 (tt a.toNat 0) (tt b.toNat 1) (tt c.toNat 2) (tt d.toNat 3) (tt e.toNat 4)) 5, 0) ∧
    RText.f K a b c d e = some (raccT (pick5 (tt a.toNat 0) (tt b.toNat 1) (tt c.toNat 2) (tt d.toNat 3) (tt e.toNat 4)) 4, 0) := by
  have hin := formed_in a b c d e hf ha hb hc hd he
  have h5 : ∀ i, i < 5 → cron_told.f K (Cf.fld a b c d e i) (low i) (high i) = some (tt (Cf.fld a b c d e i).toNat i) ∧ capstanref04_told.f K (Cf.fld a b c d e i) i = some (tt (Cf.fld a b c d e i).toNat i) ∧ (tt (Cf.fld a b c d e i).toNat i).size ≤ 1000 := by
    intro i hi
    obtain ⟨S, e1, e2, _, e3⟩ := hin i hi
    rw [e1, Int.toNat_natCast]
    exact ⟨go_told S i e2 hi e3 K (by omega), ref_told S i e2 hi e3 K hK, tt_size S i e2⟩
  obtain ⟨g0, r0, z0⟩ := h5 0 (by omega)
  obtain ⟨g1, r1, z1⟩ := h5 1 (by omega)
  obtain ⟨g2, r2, z2⟩ := h5 2 (by omega)
  obtain ⟨g3, r3, z3⟩ := h5 3 (by omega)
  obtain ⟨g4, r4, z4⟩ := h5 4 (by omega)
  have f0 : Cf.fld a b c d e 0 = a := rfl
  have f1 : Cf.fld a b c d e 1 = b := rfl
  have f2 : Cf.fld a b c d e 2 = c := rfl
  have f3 : Cf.fld a b c d e 3 = d := rfl
  have f4 : Cf.fld a b c d e 4 = e := rfl
  rw [f0] at g0 r0 z0
  rw [f1] at g1 r1 z1
  rw [f2] at g2 r2 z2
  rw [f3] at g3 r3 z3
  rw [f4] at g4 r4 z4
  have hr := (Pf.formed_eq a b c d e ha hb hc hd he).symm.trans hf
  constructor
  · unfold Text.f
    rw [if_pos hf, show cron_told.f K a 0 59 = _ from g0, show cron_told.f K b 0 23 = _ from g1, show cron_told.f K c 1 31 = _ from g2, show cron_told.f K d 1 12 = _ from g3, show cron_told.f K e 0 6 = _ from g4]
    simp only [Option.bind_some]
    rw [if_pos ⟨z0, z1, z2, z3, z4⟩]
  · unfold RText.f
    rw [if_pos hr, show capstanref04_told.f K a 0 = _ from r0, show capstanref04_told.f K b 1 = _ from r1, show capstanref04_told.f K c 2 = _ from r2, show capstanref04_told.f K d 3 = _ from r3, show capstanref04_told.f K e 4 = _ from r4]
    simp only [Option.bind_some]
    rw [if_pos ⟨z0, z1, z2, z3, z4⟩]
theorem texts_no (a b c d e : Int) (hf : Cf.formedB a b c d e = false) (hr : Cv.rformedB a b c d e = false) (K : Nat) : Text.f K a b c d e = some (⟨#[]⟩, 1) ∧ RText.f K a b c d e = some (⟨#[]⟩, 1) := by
  unfold Text.f RText.f
  rw [hf, hr]
  simp
end Go.Proofs.YtkmcmgfmahildaaDoor.Pu0
