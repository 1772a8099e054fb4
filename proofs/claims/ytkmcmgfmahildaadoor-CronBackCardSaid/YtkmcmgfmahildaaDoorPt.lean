/- What told answers, of Go and of the reference: the runs of a field's numbers, one behind the other. -/
import Derived.Test.YtkmcmgfmahildaaDoorOAx1
import Derived.Test.YtkmcmgfmahildaaDoorOAx12
import Derived.Test.YtkmcmgfmahildaaDoorBt
namespace Go.Proofs.YtkmcmgfmahildaaDoor.Pt
set_option linter.unusedVariables false
open Go.RowKit Go.Proofs.YtkmcmgfmahildaaDoorW.PrintWords Go.Proofs.YtkmcmgfmahildaaDoor.OA Go.Proofs.YtkmcmgfmahildaaDoor.Bt Go.Proofs.YtkmcmgfmahildaaDoor.Laid

theorem w64 {a : Int} (h1 : -9223372036854775808 ≤ a) (h2 : a ≤ 9223372036854775807) : wrap64 a = a := by unfold wrap64; omega
theorem has_is (S : Nat) (hS : S < 18446744073709551616) (n : Nat) : capstanref04_Has.f (S : Int) (n : Int) = some (S.testBit n) := by
  unfold capstanref04_Has.f
  rw [if_pos (by omega)]
  by_cases hn : (n : Int) < 64
  · rw [if_pos hn, wrap_nat n (by omega), if_pos (by omega), shr_is S n (by omega), Nat.testBit, Int.tmod_eq_emod_of_nonneg (Int.natCast_nonneg _)]
    congr 1
    rw [show (1 &&& S >>> n) = S >>> n % 2 from by rw [Nat.and_comm, Nat.and_one_is_mod]]
    rcases Nat.mod_two_eq_zero_or_one (S >>> n) with h | h
    · rw [h, show ((S >>> n : Nat) : Int) % 2 = 0 from by omega]; rfl
    · rw [h, show ((S >>> n : Nat) : Int) % 2 = 1 from by omega]; rfl
  · rw [if_neg hn, lt_iff_bits.1 (show S < 2 ^ 64 from hS) n (by omega)]
theorem has_neg (S : Int) : capstanref04_Has.f S (-1) = some false := by
  unfold capstanref04_Has.f
  rw [if_neg (by omega)]
/-- From m to k all numbers are there, and the next is not. -/
def Run (S m k : Nat) : Prop := m ≤ k ∧ (∀ i, m ≤ i → i ≤ k → S.testBit i = true) ∧ S.testBit (k + 1) = false
def rend (S : Nat) : Nat → Nat → Nat
  | 0, k => k
  | g + 1, k => if S.testBit (k + 1) = true then rend S g (k + 1) else k
theorem rend_run (S : Nat) (hS : S < 18446744073709551616) : ∀ g m, 64 ≤ m + g → S.testBit m = true → Run S m (rend S g m)
  | 0, m, h, hb => by have := lt_iff_bits.1 (show S < 2 ^ 64 from hS) m (by omega); rw [this] at hb; cases hb
  | g + 1, m, h, hb => by
    unfold rend
    by_cases h1 : S.testBit (m + 1) = true
    · rw [if_pos h1]
      obtain ⟨a, b, c⟩ := rend_run S hS g (m + 1) (by omega) h1
      refine ⟨by omega, fun i i1 i2 => ?_, c⟩
      by_cases e : i = m
      · rw [e]; exact hb
      · exact b i (by omega) i2
    · rw [if_neg h1]
      exact ⟨Nat.le_refl _, fun i i1 i2 => by rw [show i = m from by omega]; exact hb, by simpa using h1⟩
theorem run_lt {S m k : Nat} (hS : S < 18446744073709551616) (h : Run S m k) : k < 64 := by
  rcases Nat.lt_or_ge k 64 with h1 | h1
  · exact h1
  · have := lt_iff_bits.1 (show S < 2 ^ 64 from hS) k h1; rw [h.2.1 k h.1 (Nat.le_refl _)] at this; cases this
theorem run_uniq {S m k k' : Nat} (h : Run S m k) (h' : Run S m k') : k = k' := by
  rcases Nat.lt_trichotomy k k' with c | c | c
  · have a := h.1; have := h'.2.1 (k + 1) (by omega) (by omega); rw [h.2.2] at this; cases this
  · exact c
  · have a := h'.1; have := h.2.1 (k' + 1) (by omega) (by omega); rw [h'.2.2] at this; cases this
def dg (n : Nat) : ByteArray := ⟨(Lib.decDigits n).toArray⟩
theorem dg_size (n : Nat) (h : n < 100) : (dg n).size ≤ 2 := by
  show (Lib.decDigits n).toArray.size ≤ 2
  rw [List.size_toArray, Lib.decDigits]
  split
  · simp
  · rw [Lib.decDigits, dif_pos (by omega)]; simp
theorem itoa_is (n : Nat) (h : n < 100) : Ca.itoa.f (n : Int) = some (dg n) := by
  unfold Ca.itoa.f
  rw [if_pos (by omega)]; rfl
/-- A text with a run more. -/
def pcs (o : ByteArray) (m k : Nat) : ByteArray :=
  if k = m then o ++ dg m else if k = m + 1 then o ++ dg m ++ ((⟨#[44]⟩ : ByteArray) ++ dg k) else o ++ dg m ++ ((⟨#[45]⟩ : ByteArray) ++ dg k)
def pc (out : ByteArray) (m k : Nat) : ByteArray := pcs (if out.toList = ([] : List UInt8) then out else out ++ (⟨#[44]⟩ : ByteArray)) m k
theorem size1 (b : UInt8) : (⟨#[b]⟩ : ByteArray).size = 1 := rfl
theorem pc_size (out : ByteArray) (m k : Nat) (hm : m < 100) (hk : k < 100) : (pc out m k).size ≤ out.size + 6 := by
  have h1 := dg_size m hm
  have h2 := dg_size k hk
  unfold pc pcs
  repeat' split
  all_goals simp only [ByteArray.size_append, size1]; omega
def tl (S : Nat) : Nat → Nat → ByteArray → ByteArray
  | 0, _, out => out
  | g + 1, m, out => if S.testBit m = true ∧ (m = 0 ∨ S.testBit (m - 1) = false) then tl S g (m + 1) (pc out m (rend S 64 m)) else tl S g (m + 1) out
/-- The text from the number m on. -/
def T (S m : Nat) (out : ByteArray) : ByteArray := tl S (64 - m) m out
theorem T_step (S m : Nat) (out : ByteArray) (h : m < 64) : T S m out = if S.testBit m = true ∧ (m = 0 ∨ S.testBit (m - 1) = false) then T S (m + 1) (pc out m (rend S 64 m)) else T S (m + 1) out := by
  unfold T
  rw [show 64 - m = (64 - (m + 1)) + 1 from by omega]
  rfl
theorem T_end (S m : Nat) (out : ByteArray) (h : 64 ≤ m) : T S m out = out := by
  unfold T
  rw [show 64 - m = 0 from by omega]
  rfl
theorem T_none (S : Nat) : ∀ (n m : Nat) (out : ByteArray), 64 ≤ m + n → (∀ i, m ≤ i → S.testBit i = false) → T S m out = out
  | 0, m, out, h, _ => T_end S m out (by omega)
  | n + 1, m, out, h, hb => by
    by_cases hm : m < 64
    · rw [T_step S m out hm, if_neg (by rw [hb m (Nat.le_refl _)]; simp)]
      exact T_none S n (m + 1) out (by omega) (fun i hi => hb i (by omega))
    · exact T_end S m out (by omega)
theorem T_skip (S : Nat) (m : Nat) (out : ByteArray) (h : S.testBit m = false) : T S m out = T S (m + 1) out := by
  by_cases hm : m < 64
  · rw [T_step S m out hm, if_neg (by rw [h]; simp)]
  · rw [T_end S m out (by omega), T_end S (m + 1) out (by omega)]
theorem T_within (S : Nat) (k : Nat) (out : ByteArray) (hk : k < 64) : ∀ (n i : Nat), i + n = k + 1 → 0 < i → (∀ j, i - 1 ≤ j → j ≤ k → S.testBit j = true) → T S i out = T S (k + 1) out
  | 0, i, h, _, _ => by rw [show i = k + 1 from by omega]
  | n + 1, i, h, h0, hb => by
    rw [T_step S i out (by omega), if_neg (by rw [hb (i - 1) (Nat.le_refl _) (by omega)]; simp; omega)]
    exact T_within S k out hk n (i + 1) (by omega) (by omega) (fun j j1 j2 => hb j (by omega) j2)
theorem T_run (S : Nat) (hS : S < 18446744073709551616) (m k : Nat) (out : ByteArray) (h : Run S m k) (h0 : m = 0 ∨ S.testBit (m - 1) = false) : T S m out = T S (k + 2) (pc out m k) := by
  have hk := run_lt hS h
  have hb : S.testBit m = true := h.2.1 m (Nat.le_refl _) h.1
  have e : rend S 64 m = k := run_uniq (rend_run S hS 64 m (by omega) hb) h
  rw [T_step S m out (by have := h.1; omega), if_pos ⟨hb, h0⟩, e, T_within S k _ hk (k - m) (m + 1) (by have := h.1; omega) (by omega) (fun j j1 j2 => h.2.1 j (by omega) j2), T_skip S (k + 1) _ h.2.2]
/-- What Go puts behind a number. -/
theorem go_j1 (S : Nat) (hS : S < 18446744073709551616) (m k kk : Nat) (o : ByteArray) (h : Run S m k) (hk : k < 62) (hz : o.size ≤ 10000) :
    cron_told.j1 (kk + 1) (fromB S m : Nat) o m ((k + 1 - m : Nat) : Int) = cron_told.l0 kk (fromB S (k + 2) : Nat) (pcs o m k) := by
  have hmk := h.1
  have d1 := dg_size m (by omega)
  have d2 := dg_size k (by omega)
  have hset : bits .andNot .u64 ((fromB S m : Nat) : Int) (shl .u64 (IntKind.u64.wrap (shl .u64 1 (IntKind.u64.wrap ((k + 1 - m : Nat) : Int)) - 1)) (IntKind.u64.wrap (m : Int))) = ((fromB S (k + 2) : Nat) : Int) := by
    rw [wrap_nat (k + 1 - m) (by omega), wrap_nat m (by omega)]
    have e1 : shl .u64 1 ((k + 1 - m : Nat) : Int) = ((2 ^ (k + 1 - m) : Nat) : Int) := by
      have := shl_is 1 (k + 1 - m) (by omega)
      rw [show ((1 : Nat) : Int) = 1 from rfl] at this
      rw [this, Nat.one_mul, Nat.mod_eq_of_lt (Nat.pow_lt_pow_right (by omega) (by omega : k + 1 - m < 64))]
    have hp : 1 ≤ 2 ^ (k + 1 - m) := Nat.one_le_two_pow
    have hp2 : 2 ^ (k + 1 - m) < 2 ^ 64 := Nat.pow_lt_pow_right (by omega) (by omega : k + 1 - m < 64)
    rw [e1, show ((2 ^ (k + 1 - m) : Nat) : Int) - 1 = ((2 ^ (k + 1 - m) - 1 : Nat) : Int) from by omega, wrap_nat _ (by omega), shl_is _ m (by omega)]
    have hlt : (2 ^ (k + 1 - m) - 1) * 2 ^ m < 18446744073709551616 := by
      have : (2 ^ (k + 1 - m) - 1) * 2 ^ m < 2 ^ (k + 1 - m) * 2 ^ m := Nat.mul_lt_mul_of_pos_right (by omega) (Nat.two_pow_pos m)
      rw [← Nat.pow_add, show k + 1 - m + m = k + 1 from by omega] at this
      have h2 : 2 ^ (k + 1) < 2 ^ 64 := Nat.pow_lt_pow_right (by omega) (by omega)
      omega
    rw [Nat.mod_eq_of_lt hlt]
    obtain ⟨V, hV, hV2, hb⟩ := andNot_is (fromB S m) _ (Nat.lt_of_le_of_lt (fromB_le S m) hS) hlt
    rw [hV]
    congr 1
    apply Nat.eq_of_testBit_eq
    intro i
    rw [hb i, fromB_bit, fromB_bit, Nat.testBit_mul_two_pow, Nat.testBit_two_pow_sub_one]
    by_cases i1 : m ≤ i
    · by_cases i2 : i ≤ k
      · simp [i1, show i - m < k + 1 - m from by omega, show ¬ k + 2 ≤ i from by omega]
      · by_cases i3 : i = k + 1
        · subst i3; simp [h.2.2]
        · simp [i1, show ¬ i - m < k + 1 - m from by omega, show k + 2 ≤ i from by omega]
    · simp [i1, show ¬ k + 2 ≤ i from by omega]
  unfold cron_told.j1 pcs
  rw [itoa_is m (by omega)]
  simp only [Option.bind_some]
  rw [if_pos (by omega), wrap_nat (k + 1 - m) (by omega), wrap_nat m (by omega)]
  rw [wrap_nat (k + 1 - m) (by omega), wrap_nat m (by omega)] at hset
  by_cases c1 : k = m
  · rw [if_neg (by omega), if_neg (by omega), if_pos (by omega), if_pos (by omega), if_pos c1, hset]
  · by_cases c2 : k = m + 1
    · rw [if_pos (by omega), w64 (by omega) (by omega), show (m : Int) + 1 = ((m + 1 : Nat) : Int) from by omega, ← c2, itoa_is k (by omega)]
      simp only [Option.bind_some]
      rw [if_pos (by omega), if_pos (by simp only [ByteArray.size_append, size1]; omega), if_pos (by omega), if_pos (by omega), hset, if_neg c1]
      simp
    · rw [if_neg (by omega), if_pos (by omega), w64 (a := (m : Int) + _) (by omega) (by omega), w64 (by omega) (by omega), show (m : Int) + ((k + 1 - m : Nat) : Int) - 1 = (k : Int) from by omega, itoa_is k (by omega)]
      simp only [Option.bind_some]
      rw [if_pos (by omega), if_pos (by simp only [ByteArray.size_append, size1]; omega), if_pos (by omega), if_pos (by omega), hset, if_neg c1, if_neg c2]
theorem from_none (S m : Nat) (hzero : ∀ i, m ≤ i → S.testBit i = false) : fromB S m = 0 := by
  apply Nat.eq_of_testBit_eq
  intro i
  rw [fromB_bit]
  by_cases hi : m ≤ i
  · simp [hzero i hi]
  · simp [hi]
theorem tz1 (S : Nat) (hS : S < 18446744073709551616) (m : Nat) (hb : S.testBit m = true) : ((fromB S m : Nat) : Int) ≠ 0 ∧ Ca.tz.f ((fromB S m : Nat) : Int) = some (m : Int) := by
  have hlt : fromB S m < 18446744073709551616 := Nat.lt_of_le_of_lt (fromB_le S m) hS
  constructor
  · intro h
    have h2 : fromB S m = 0 := by omega
    have := fromB_bit S m m
    rw [h2, hb] at this
    simp at this
  · unfold Ca.tz.f
    rw [if_pos (by omega), Int.toNat_natCast, ctz_is _ m hlt (by rw [fromB_bit, hb]; simp) (fun i hi => by rw [fromB_bit]; simp; omega)]
theorem tz2 (S : Nat) (hS : S < 18446744073709551616) (m k : Nat) (hm64 : m < 64) (hk : k < 60) (hr : Run S m k) : Ca.tz.f (bits .xor .u64 18446744073709551615 (shr .u64 ((fromB S m : Nat) : Int) (IntKind.u64.wrap (m : Int)))) = some ((k + 1 - m : Nat) : Int) := by
  have hlt : fromB S m < 18446744073709551616 := Nat.lt_of_le_of_lt (fromB_le S m) hS
  have hmk := hr.1
  rw [wrap_nat m (by omega), shr_is _ m hm64]
  obtain ⟨V, hV, hV2, hvb⟩ := not_is (fromB S m >>> m) (Nat.lt_of_le_of_lt (Nat.shiftRight_le _ _) hlt)
  rw [hV]
  unfold Ca.tz.f
  rw [if_pos (by omega), Int.toNat_natCast, ctz_is V (k + 1 - m) hV2]
  · rw [hvb, Nat.testBit_shiftRight, fromB_bit, show m + (k + 1 - m) = k + 1 from by omega, hr.2.2]; simp; omega
  · intro i hi
    rw [hvb, Nat.testBit_shiftRight, fromB_bit, hr.2.1 (m + i) (by omega) (by omega)]; simp
theorem go_l0 (S : Nat) (hS : S < 18446744073709551616) (htop : ∀ i, 60 ≤ i → S.testBit i = false) : ∀ (n m kk : Nat) (out : ByteArray), 64 ≤ m + n → m ≤ 66 → (m = 0 ∨ S.testBit (m - 1) = false) → out.size ≤ 8 * m → 3 * n + 3 ≤ kk →
    cron_told.l0 kk (fromB S m : Nat) out = some (T S m out) := by
  intro n
  induction n using Nat.strongRecOn with
  | ind n ih =>
    intro m kk out hn hm h0 hz hk
    obtain ⟨kk, rfl⟩ : ∃ j, kk = j + 2 := ⟨kk - 2, by omega⟩
    by_cases hzero : ∀ i, m ≤ i → S.testBit i = false
    · have e := from_none S m hzero
      rw [e, T_none S n m out hn hzero]
      unfold cron_told.l0
      rw [if_pos (Int.natCast_zero)]
    · have hm64 : m < 64 := by
        rcases Nat.lt_or_ge m 64 with h | h
        · exact h
        · exact absurd (fun i hi => lt_iff_bits.1 (show S < 2 ^ 64 from hS) i (by omega)) hzero
      cases hb : S.testBit m
      · rw [fromB_skip S m hb, T_skip S m out hb]
        exact ih (n - 1) (by omega) (m + 1) _ out (by omega) (by omega) (.inr hb) (by omega) (by omega)
      · have hr := rend_run S hS 64 m (by omega) hb
        obtain ⟨k, hke⟩ : ∃ k, rend S 64 m = k := ⟨_, rfl⟩
        rw [hke] at hr
        have hmk := hr.1
        have hk60 : k < 60 := by
          rcases Nat.lt_or_ge k 60 with h | h
          · exact h
          · have := htop k h; rw [hr.2.1 k hmk (Nat.le_refl _)] at this; cases this
        obtain ⟨hne, t1⟩ := tz1 S hS m hb
        have t2 := tz2 S hS m k hm64 hk60 hr
        have hgoal := ih (n - (k + 2 - m)) (by omega) (k + 2) kk (pc out m k) (by omega) (by omega) (.inr hr.2.2) (by have := pc_size out m k (by omega) (by omega); omega) (by omega)
        rw [T_run S hS m k out hr h0]
        rw [show kk + 2 = (kk + 1) + 1 from rfl]
        unfold cron_told.l0
        rw [if_neg hne, t1, Option.bind_some, if_pos (by rw [wrap_nat m (by omega)]; omega), t2, Option.bind_some]
        by_cases he : out.toList = ([] : List UInt8)
        · rw [if_pos he, go_j1 S hS m k kk out hr (by omega) (by omega)]
          unfold pc at hgoal ⊢
          rw [if_pos he] at hgoal ⊢
          exact hgoal
        · rw [if_neg he, if_pos (by omega), go_j1 S hS m k kk _ hr (by omega) (by rw [ByteArray.size_append, size1]; omega)]
          unfold pc at hgoal ⊢
          rw [if_neg he] at hgoal ⊢
          exact hgoal
end Go.Proofs.YtkmcmgfmahildaaDoor.Pt
