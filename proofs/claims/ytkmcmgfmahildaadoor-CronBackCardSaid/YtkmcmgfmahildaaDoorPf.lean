/- Formed and the reference's Formed are one. -/
import Derived.Test.YtkmcmgfmahildaaDoorCw
namespace Go.Proofs.YtkmcmgfmahildaaDoor.Pf
set_option linter.unusedVariables false
open Go.RowKit Go.Proofs.YtkmcmgfmahildaaDoorW.PrintWords Go.Proofs.YtkmcmgfmahildaaDoor.Laid Go.Proofs.YtkmcmgfmahildaaDoor.Ca Go.Proofs.YtkmcmgfmahildaaDoor.Cf Go.Proofs.YtkmcmgfmahildaaDoor.Cv

theorem wrap_nonneg (n : Int) : 0 ≤ IntKind.u64.wrap n := by simp only [IntKind.wrap_u64]; omega
theorem andnot0 (S A : Nat) (hS : S < 18446744073709551616) (hA : A < 18446744073709551616) : bits .andNot .u64 (S : Int) (A : Int) = 0 ↔ ∀ n, n < 64 → S.testBit n = true → A.testBit n = true := by
  obtain ⟨V, hV⟩ : ∃ V : BitVec 64, V = BitVec.ofNat 64 S &&& ~~~BitVec.ofNat 64 A := ⟨_, rfl⟩
  have e : bits .andNot .u64 (S : Int) (A : Int) = ((V.toNat : Nat) : Int) := by
    show IntKind.u64.wrap ((BitVec.ofInt 64 (S : Int) &&& ~~~BitVec.ofInt 64 (A : Int)).toNat : Int) = _
    rw [BitVec.ofInt_natCast, BitVec.ofInt_natCast, ← hV, IntKind.wrap_u64]
    have := V.isLt
    omega
  rw [e]
  have hb : ∀ n, V.toNat.testBit n = (decide (n < 64) && S.testBit n && !(A.testBit n)) := by
    intro n
    rw [BitVec.testBit_toNat, hV, BitVec.getLsbD_and, BitVec.getLsbD_not, BitVec.getLsbD_ofNat, BitVec.getLsbD_ofNat]
    by_cases hn : n < 64
    · simp [hn]
    · simp [hn]
  constructor
  · intro h n hn hs
    have h0 : V.toNat = 0 := by omega
    have := hb n
    rw [h0] at this
    simp [hn, hs] at this
    exact this
  · intro h
    have h0 : V.toNat = 0 := by
      apply Nat.eq_of_testBit_eq
      intro n
      rw [hb n]
      by_cases hn : n < 64
      · cases hs : S.testBit n
        · simp
        · simp [h n hn hs]
      · simp [hn]
    omega
theorem hasB_bit (S : Nat) (n : Nat) (hn : n < 64) : hasB (S : Int) (n : Int) = S.testBit n := by
  unfold hasB OA.capstanref04_Has.f
  rw [if_pos (by omega), if_pos (by omega), if_pos (wrap_nonneg _)]
  have hw : IntKind.u64.wrap (n : Int) = n := by rw [IntKind.wrap_u64]; omega
  have hm : min (n : Int).toNat IntKind.u64.bits = n := by
    have : IntKind.u64.bits = 64 := rfl
    rw [this, Int.toNat_natCast]; omega
  rw [hw]
  unfold shr
  rw [hm]
  have e : (S : Int) / 2 ^ n = ((S / 2 ^ n : Nat) : Int) := by rw [Int.natCast_ediv]; simp
  rw [e, Int.tmod_eq_emod_of_nonneg (Int.natCast_nonneg _), Nat.testBit_eq_decide_div_mod_eq]
  simp only [Option.getD_some]
  by_cases h : S / 2 ^ n % 2 = 1
  · rw [decide_eq_true h]; simp; omega
  · rw [decide_eq_false h]; simp; omega
theorem allv_bit (i : Nat) (hi : i < 5) : ∃ A : Nat, allv i = (A : Int) ∧ A < 18446744073709551616 ∧ ∀ n : Nat, n < 64 → A.testBit n = decide (low i ≤ (n : Int) ∧ (n : Int) ≤ high i) := by
  have : i = 0 ∨ i = 1 ∨ i = 2 ∨ i = 3 ∨ i = 4 := by omega
  rcases this with rfl | rfl | rfl | rfl | rfl
  · exact ⟨(allv 0).toNat, by decide +kernel, by decide +kernel, by decide +kernel⟩
  · exact ⟨(allv 1).toNat, by decide +kernel, by decide +kernel, by decide +kernel⟩
  · exact ⟨(allv 2).toNat, by decide +kernel, by decide +kernel, by decide +kernel⟩
  · exact ⟨(allv 3).toNat, by decide +kernel, by decide +kernel, by decide +kernel⟩
  · exact ⟨(allv 4).toNat, by decide +kernel, by decide +kernel, by decide +kernel⟩
theorem rokI_iff (s lo hi : Int) : ∀ g, g ≤ 64 → (rokI s lo hi g = true ↔ ∀ n : Nat, 64 - g ≤ n → n < 64 → hasB s n = true → lo ≤ (n : Int) ∧ (n : Int) ≤ hi)
  | 0, _ => ⟨fun _ n h1 h2 => by omega, fun _ => rfl⟩
  | g + 1, hg => by
    unfold rokI
    have ih := rokI_iff s lo hi g (by omega)
    by_cases hc : hasB s (63 - g : Nat) = true ∧ (((63 - g : Nat) : Int) < lo ∨ hi < ((63 - g : Nat) : Int))
    · rw [if_pos hc]
      refine ⟨fun h => by simp at h, fun h => ?_⟩
      have := h (63 - g) (by omega) (by omega) hc.1
      omega
    · rw [if_neg hc, ih]
      refine ⟨fun h n h1 h2 h3 => ?_, fun h n h1 h2 h3 => h n (by omega) h2 h3⟩
      by_cases he : n = 63 - g
      · subst he
        refine Classical.byContradiction fun hno => hc ⟨h3, by omega⟩
      · exact h n (by omega) h2 h3
theorem okf_is (s : Int) (hs : 0 ≤ s ∧ s ≤ 18446744073709551615) (i : Nat) (hi : i < 5) : okf s (allv i) = (!(s == 0) && rokI s (low i) (high i) 64) := by
  obtain ⟨S, rfl⟩ : ∃ S : Nat, s = S := ⟨s.toNat, by omega⟩
  obtain ⟨A, hA, hA2, hb⟩ := allv_bit i hi
  unfold okf
  rw [hA]
  congr 1
  rw [Bool.eq_iff_iff, beq_iff_eq, andnot0 S A (by omega) hA2, rokI_iff _ _ _ 64 (Nat.le_refl _)]
  constructor
  · intro h n _ hn hh
    rw [hasB_bit S n hn] at hh
    have := h n hn hh
    rw [hb n hn] at this
    exact of_decide_eq_true this
  · intro h n hn hh
    rw [hb n hn]
    exact decide_eq_true (h n (by omega) hn (by rw [hasB_bit S n hn]; exact hh))
theorem formed_eq (a b c d e : Int) (ha : 0 ≤ a ∧ a ≤ 18446744073709551615) (hb : 0 ≤ b ∧ b ≤ 18446744073709551615) (hc : 0 ≤ c ∧ c ≤ 18446744073709551615) (hd : 0 ≤ d ∧ d ≤ 18446744073709551615) (he : 0 ≤ e ∧ e ≤ 18446744073709551615) :
    formedB a b c d e = rformedB a b c d e := by
  have key : ∀ g, g ≤ 5 → okU a b c d e g = rokU a b c d e g := by
    intro g
    induction g with
    | zero => intro _; rfl
    | succ g ih =>
      intro hg
      unfold okU rokU
      have hf : 0 ≤ fld a b c d e (4 - g) ∧ fld a b c d e (4 - g) ≤ 18446744073709551615 := by
        unfold fld
        repeat' split
        all_goals assumption
      rw [okf_is _ hf (4 - g) (by omega), ih (by omega)]
      by_cases h0 : fld a b c d e (4 - g) = 0
      · rw [if_pos h0, h0]; rfl
      · rw [if_neg h0]
        cases hr : rokI (fld a b c d e (4 - g)) (low (4 - g)) (high (4 - g)) 64 <;> simp [h0]
  exact key 5 (Nat.le_refl _)
end Go.Proofs.YtkmcmgfmahildaaDoor.Pf
