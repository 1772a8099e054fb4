/- The bits of a number of 64 bits, in Go's operations. -/
import Derived.Test.YtkmcmgfmahildaaDoorWMore
import Derived.Lib.TrailingZeros
namespace Go.Proofs.YtkmcmgfmahildaaDoor.Bt
set_option linter.unusedVariables false
open Go.RowKit Go.Proofs.YtkmcmgfmahildaaDoorW.PrintWords

theorem wrap_nat (n : Nat) (h : n < 18446744073709551616) : IntKind.u64.wrap (n : Int) = n := by rw [IntKind.wrap_u64]; omega
theorem lt_iff_bits {S : Nat} {m : Nat} : S < 2 ^ m ↔ ∀ i, m ≤ i → S.testBit i = false :=
  ⟨fun h i hi => Nat.testBit_lt_two_pow (Nat.lt_of_lt_of_le h (Nat.pow_le_pow_right (by omega) hi)), fun h => Nat.lt_pow_two_of_testBit S (fun i hi => h i hi)⟩
theorem or_is (S A : Nat) (hS : S < 18446744073709551616) (hA : A < 18446744073709551616) : bits .or .u64 (S : Int) (A : Int) = ((S ||| A : Nat) : Int) := by
  have e : bits .or .u64 (S : Int) (A : Int) = IntKind.u64.wrap ((BitVec.ofInt 64 (S : Int) ||| BitVec.ofInt 64 (A : Int)).toNat : Int) := rfl
  have h64 : S ||| A < 2 ^ 64 := Nat.or_lt_two_pow hS hA
  rw [e, BitVec.ofInt_natCast, BitVec.ofInt_natCast, BitVec.toNat_or, BitVec.toNat_ofNat, BitVec.toNat_ofNat, Nat.mod_eq_of_lt hS, Nat.mod_eq_of_lt hA, wrap_nat _ h64]
theorem and_is (S A : Nat) (hS : S < 18446744073709551616) (hA : A < 18446744073709551616) : bits .and .u64 (S : Int) (A : Int) = ((S &&& A : Nat) : Int) := by
  have e : bits .and .u64 (S : Int) (A : Int) = IntKind.u64.wrap ((BitVec.ofInt 64 (S : Int) &&& BitVec.ofInt 64 (A : Int)).toNat : Int) := rfl
  have h64 : S &&& A < 2 ^ 64 := Nat.and_lt_two_pow _ hA
  rw [e, BitVec.ofInt_natCast, BitVec.ofInt_natCast, BitVec.toNat_and, BitVec.toNat_ofNat, BitVec.toNat_ofNat, Nat.mod_eq_of_lt hS, Nat.mod_eq_of_lt hA, wrap_nat _ h64]
theorem andNot_is (S A : Nat) (hS : S < 18446744073709551616) (hA : A < 18446744073709551616) : ∃ V : Nat, bits .andNot .u64 (S : Int) (A : Int) = (V : Int) ∧ V < 18446744073709551616 ∧ ∀ i, V.testBit i = (S.testBit i && !A.testBit i) := by
  obtain ⟨V, hV⟩ : ∃ V : BitVec 64, V = BitVec.ofNat 64 S &&& ~~~BitVec.ofNat 64 A := ⟨_, rfl⟩
  refine ⟨V.toNat, ?_, V.isLt, fun i => ?_⟩
  · show IntKind.u64.wrap ((BitVec.ofInt 64 (S : Int) &&& ~~~BitVec.ofInt 64 (A : Int)).toNat : Int) = _
    rw [BitVec.ofInt_natCast, BitVec.ofInt_natCast, ← hV, wrap_nat _ V.isLt]
  · rw [BitVec.testBit_toNat, hV, BitVec.getLsbD_and, BitVec.getLsbD_not, BitVec.getLsbD_ofNat, BitVec.getLsbD_ofNat]
    by_cases hi : i < 64
    · simp [hi]
    · have := lt_iff_bits.1 (show S < 2 ^ 64 from hS) i (by omega)
      simp [hi, this]
theorem not_is (S : Nat) (hS : S < 18446744073709551616) : ∃ V : Nat, bits .xor .u64 18446744073709551615 (S : Int) = (V : Int) ∧ V < 18446744073709551616 ∧ ∀ i, V.testBit i = (decide (i < 64) && !S.testBit i) := by
  obtain ⟨V, hV⟩ : ∃ V : BitVec 64, V = BitVec.ofNat 64 18446744073709551615 ^^^ BitVec.ofNat 64 S := ⟨_, rfl⟩
  refine ⟨V.toNat, ?_, V.isLt, fun i => ?_⟩
  · show IntKind.u64.wrap ((BitVec.ofInt 64 ((18446744073709551615 : Nat) : Int) ^^^ BitVec.ofInt 64 (S : Int)).toNat : Int) = _
    rw [BitVec.ofInt_natCast, BitVec.ofInt_natCast, ← hV, wrap_nat _ V.isLt]
  · rw [BitVec.testBit_toNat, hV, BitVec.getLsbD_xor, BitVec.getLsbD_ofNat, BitVec.getLsbD_ofNat]
    by_cases hi : i < 64
    · have : Nat.testBit 18446744073709551615 i = true := by
        rw [show (18446744073709551615 : Nat) = 2 ^ 64 - 1 from rfl, Nat.testBit_two_pow_sub_one]; simpa using hi
      simp [hi, this]
    · simp [hi]
theorem shr_is (S m : Nat) (hm : m < 64) : shr .u64 (S : Int) (m : Int) = ((S >>> m : Nat) : Int) := by
  unfold shr
  have : IntKind.u64.bits = 64 := rfl
  rw [this, Int.toNat_natCast, Nat.min_eq_left (by omega), Nat.shiftRight_eq_div_pow, Int.natCast_ediv]; simp
theorem shl_is (S m : Nat) (hm : m < 64) : shl .u64 (S : Int) (m : Int) = ((S * 2 ^ m % 18446744073709551616 : Nat) : Int) := by
  unfold shl
  have : IntKind.u64.bits = 64 := rfl
  rw [this, Int.toNat_natCast, Nat.min_eq_left (by omega), IntKind.wrap_u64, Int.natCast_emod, Int.natCast_mul, Int.natCast_pow]; rfl
/-- The bits from m on. -/
def fromB (S m : Nat) : Nat := S / 2 ^ m * 2 ^ m
theorem fromB_bit (S m i : Nat) : (fromB S m).testBit i = (decide (m ≤ i) && S.testBit i) := by
  unfold fromB
  rw [Nat.testBit_mul_two_pow, Nat.testBit_div_two_pow]
  by_cases h : m ≤ i
  · simp [h]
  · simp [h]
theorem fromB_le (S m : Nat) : fromB S m ≤ S := Nat.div_mul_le_self _ _
theorem fromB_zero (S : Nat) : fromB S 0 = S := by simp [fromB]
theorem fromB_skip (S m : Nat) (h : S.testBit m = false) : fromB S m = fromB S (m + 1) := by
  apply Nat.eq_of_testBit_eq
  intro i
  rw [fromB_bit, fromB_bit]
  by_cases e : i = m
  · subst e; simp [h]
  · by_cases h1 : m ≤ i
    · simp [h1, show m + 1 ≤ i from by omega]
    · simp [h1, show ¬ m + 1 ≤ i from by omega]
theorem ctz_is (x k : Nat) (h : x < 18446744073709551616) (hk : x.testBit k = true) (hlow : ∀ i, i < k → x.testBit i = false) : Lib.ctz 64 x = k := by
  have h0 : x ≠ 0 := by rintro rfl; simp at hk
  unfold Lib.ctz
  rw [if_neg h0]
  obtain ⟨m, hm, hlt⟩ := Lib.ctzFrom_spec 64 x (by omega) h
  obtain ⟨c, hc⟩ : ∃ c, Lib.ctzFrom 64 x = c := ⟨_, rfl⟩
  rw [hc] at hm ⊢
  have hb : ∀ i, x.testBit i = (decide (c ≤ i) && (2 * m + 1).testBit (i - c)) := by
    intro i
    rw [hm, Nat.mul_comm, Nat.testBit_mul_two_pow]
  have hcc : x.testBit c = true := by rw [hb c]; simp [Nat.testBit_zero]
  have h1 : ¬ c < k := fun hh => by rw [hlow c hh] at hcc; simp at hcc
  have h2 : ¬ k < c := fun hh => by rw [hb k] at hk; simp [show ¬ c ≤ k from by omega] at hk
  omega
end Go.Proofs.YtkmcmgfmahildaaDoor.Bt
