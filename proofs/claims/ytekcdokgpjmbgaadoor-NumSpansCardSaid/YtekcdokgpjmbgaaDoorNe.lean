/- What the library's ParseUint and ParseInt answer to digits. -/
import Derived.Test.YtekcdokgpjmbgaaDoorNd
import Derived.Lib.ParseIntBCases
namespace Go.Proofs.YtekcdokgpjmbgaaDoor.Ne
set_option linter.unusedVariables false
open Go.Proofs.YtekcdokgpjmbgaaDoor.Nd
theorem val_le (a : Nat) (d : List UInt8) : a ≤ val a d := by
  have h := val_ge a d
  have hpos : 0 < 10 ^ d.length := Nat.pos_of_ne_zero (by simp)
  exact Nat.le_trans (Nat.le_mul_of_pos_right a hpos) h
theorem pum (l : List UInt8) : ∀ (acc : Nat), acc ≤ 18446744073709551615 → l.all isD = true → Lib.parseUintM 18446744073709551615 acc l = if val acc l ≤ 18446744073709551615 then .ok (val acc l) else .range := by
  induction l with
  | nil => intro acc ha _; rw [if_pos (by simpa [val] using ha)]; rfl
  | cons c r ih =>
    intro acc ha h
    rw [List.all_cons, Bool.and_eq_true] at h
    have hc := (isD_iff c).1 h.1
    have hge := val_le (10 * acc + (c.toNat - 48)) r
    have hih := ih (10 * acc + (c.toNat - 48))
    rw [Lib.parseUintM, if_pos (by omega), val_cons, show acc * 10 + (c.toNat - 48) = 10 * acc + (c.toNat - 48) by omega]
    by_cases h1 : 1844674407370955162 ≤ acc
    · rw [if_pos h1, if_neg (by omega)]
    · rw [if_neg h1]
      by_cases h2 : 18446744073709551615 < 10 * acc + (c.toNat - 48)
      · rw [if_pos h2, if_neg (by omega)]
      · rw [if_neg h2]
        exact hih (by omega) h.2
theorem pub (l : List UInt8) (h : l.all isD = true) (hne : l ≠ []) : Lib.parseUintB 64 l = if val 0 l ≤ 18446744073709551615 then .ok (val 0 l) else .range := by
  unfold Lib.parseUintB
  rw [if_neg hne]
  exact pum l 0 (by omega) h
theorem pib (l : List UInt8) (h : l.all isD = true) (hne : l ≠ []) (hl : l.length ≤ 18) : Lib.parseIntB 64 l = .ok (val 0 l : Int) := by
  have hv := val_lt 0 l h
  have hv2 : val 0 l < 1000000000000000000 := by
    refine Nat.lt_of_lt_of_le hv ?_
    rw [Nat.zero_add, Nat.one_mul]
    exact Nat.le_trans (Nat.pow_le_pow_right (by omega) hl) (by decide)
  cases l with
  | nil => exact absurd rfl hne
  | cons c r =>
    have h' := h
    rw [List.all_cons, Bool.and_eq_true] at h'
    have hc := (isD_iff c).1 h'.1
    unfold Lib.parseIntB
    simp only
    rw [if_neg (by omega), pub (c :: r) h hne, if_pos (by omega)]
    simp only
    rw [if_neg (by intro hh; have := hh.2; simp at this; omega), if_neg (by intro hh; have := hh.1; omega), if_neg (by omega)]
end Go.Proofs.YtekcdokgpjmbgaaDoor.Ne
