/- Decimal numerals: their digits, their worth. -/
import Derived.Test.YtekcdokgpjmbgaaDoorNe
import Derived.Lib.ItoaNum
import Derived.Lib.TrimByte
namespace Go.Proofs.YtekcdokgpjmbgaaDoor.Nf
set_option linter.unusedVariables false
set_option linter.unusedSimpArgs false
open Go.Proofs.YtekcdokgpjmbgaaDoor.Nd Go.Proofs.YtekcdokgpjmbgaaDoor.Ne
def dch (d : Nat) : UInt8 := UInt8.ofNat (48 + d)
theorem dch_nat (d : Nat) (h : d < 10) : (dch d).toNat = 48 + d := by
  unfold dch; rw [UInt8.toNat_ofNat']; omega
theorem dch_isD (d : Nat) (h : d < 10) : isD (dch d) = true := by
  rw [isD_iff, dch_nat d h]; omega
theorem isD_dch (c : UInt8) (h : isD c = true) : c = dch (c.toNat - 48) ∧ c.toNat - 48 < 10 := by
  have hc := (isD_iff c).1 h
  refine ⟨?_, by omega⟩
  apply UInt8.toNat_inj.1
  rw [dch_nat _ (by omega)]
  omega
/-- The last k digits of u. -/
def dg : Nat → Nat → List UInt8
  | 0, _ => []
  | k + 1, u => dg k (u / 10) ++ [dch (u % 10)]
theorem dg_len : ∀ (k u : Nat), (dg k u).length = k
  | 0, _ => rfl
  | k + 1, u => by unfold dg; rw [List.length_append, dg_len k (u / 10)]; rfl
theorem dg_isD : ∀ (k u : Nat), (dg k u).all isD = true
  | 0, _ => rfl
  | k + 1, u => by unfold dg; rw [List.all_append, dg_isD k (u / 10)]; simp [dch_isD (u % 10) (by omega)]
theorem val_one (a : Nat) (c : UInt8) : val a [c] = 10 * a + (c.toNat - 48) := by rw [val_cons]; rfl
theorem dg_val : ∀ (k a u : Nat), val a (dg k u) = a * 10 ^ k + u % 10 ^ k
  | 0, a, u => by simp [dg, val, Nat.mod_one]
  | k + 1, a, u => by
    unfold dg
    rw [val_app, dg_val k a (u / 10), val_one, dch_nat _ (by omega), Nat.pow_succ, Nat.mul_comm (10 ^ k) 10, Nat.mod_mul]
    rw [Nat.mul_add, ← Nat.mul_assoc, ← Nat.mul_assoc, Nat.mul_comm 10 a]
    omega
theorem dg_mod : ∀ (k u : Nat), dg k (u % 10 ^ k) = dg k u
  | 0, u => rfl
  | k + 1, u => by
    unfold dg
    have e1 : u % 10 ^ (k + 1) / 10 = u / 10 % 10 ^ k := by
      rw [Nat.pow_succ, Nat.mul_comm (10 ^ k) 10, Nat.mod_mul_right_div_self]
    have e2 : u % 10 ^ (k + 1) % 10 = u % 10 := Nat.mod_mod_of_dvd _ ⟨10 ^ k, by rw [Nat.pow_succ, Nat.mul_comm]⟩
    rw [e1, e2, dg_mod k (u / 10)]
theorem dec_step (u : Nat) (h : 10 ≤ u) : Lib.decDigits u = Lib.decDigits (u / 10) ++ [dch (u % 10)] := by
  rw [Lib.decDigits, dif_neg (by omega)]; rfl
theorem dec_one (u : Nat) (h : u < 10) : Lib.decDigits u = [dch u] := by
  rw [Lib.decDigits, dif_pos h]; rfl
theorem dec_app : ∀ (k u : Nat), 10 ^ k ≤ u → Lib.decDigits u = Lib.decDigits (u / 10 ^ k) ++ dg k u
  | 0, u, _ => by simp [dg]
  | k + 1, u, h => by
    have h10 : 10 ≤ u := by
      have : 10 ^ 1 ≤ 10 ^ (k + 1) := Nat.pow_le_pow_right (by omega) (by omega)
      omega
    have hk : 10 ^ k ≤ u / 10 := by
      rw [Nat.le_div_iff_mul_le (by omega)]
      rw [Nat.pow_succ] at h; exact h
    rw [dec_step u h10, dec_app k (u / 10) hk, Nat.div_div_eq_div_mul, List.append_assoc, Nat.pow_succ, Nat.mul_comm 10 (10 ^ k)]
    rfl
theorem dec_all (u : Nat) : (Lib.decDigits u).all isD = true := by
  induction u using Nat.strongRecOn with
  | ind u ih =>
    by_cases h : u < 10
    · rw [dec_one u h]; simp [dch_isD u h]
    · rw [dec_step u (by omega), List.all_append, ih (u / 10) (by omega)]; simp [dch_isD (u % 10) (by omega)]
theorem dec_ne (u : Nat) : Lib.decDigits u ≠ [] := by
  by_cases h : u < 10
  · rw [dec_one u h]; simp
  · rw [dec_step u (by omega)]; simp
theorem dec_val (u : Nat) : val 0 (Lib.decDigits u) = u := by
  induction u using Nat.strongRecOn with
  | ind u ih =>
    by_cases h : u < 10
    · rw [dec_one u h, val_one, dch_nat u h]; omega
    · rw [dec_step u (by omega), val_app, ih (u / 10) (by omega), val_one, dch_nat _ (by omega)]; omega
theorem dec_head (u : Nat) (h : 0 < u) : (Lib.decDigits u).head? ≠ some 48 := by
  induction u using Nat.strongRecOn with
  | ind u ih =>
    by_cases h10 : u < 10
    · rw [dec_one u h10]
      intro e
      have e2 : dch u = 48 := by simpa using e
      have := dch_nat u h10
      rw [e2] at this
      have e3 : (48 : UInt8).toNat = 48 := rfl
      omega
    · rw [dec_step u (by omega)]
      have := ih (u / 10) (by omega) (by omega)
      cases hd : Lib.decDigits (u / 10) with
      | nil => exact absurd hd (dec_ne _)
      | cons c r => rw [hd] at this; simpa using this
theorem dec_len (u : Nat) (h : 10 ≤ u) : 1 < (Lib.decDigits u).length := by
  rw [dec_step u h, List.length_append]
  have := List.length_pos_iff.2 (dec_ne (u / 10))
  simp; omega
/-- A numeral without a nought ahead is the numeral of its worth. -/
theorem dec_uniq : ∀ (n : Nat) (l : List UInt8), l.length = n → l.all isD = true → l ≠ [] → (1 < l.length → l.head? ≠ some 48) → Lib.decDigits (val 0 l) = l := by
  intro n
  induction n with
  | zero => intro l hl _ hne; exact absurd (List.eq_nil_of_length_eq_zero hl) hne
  | succ n ih =>
    intro l hl hall hne hhead
    obtain ⟨p, c, rfl⟩ : ∃ p c, l = p ++ [c] := ⟨l.dropLast, l.getLast hne, (List.dropLast_concat_getLast hne).symm⟩
    rw [List.all_append, Bool.and_eq_true] at hall
    have hc := isD_dch c (by simpa using hall.2)
    by_cases hp : p = []
    · subst hp
      rw [List.nil_append, val_one, Nat.mul_zero, Nat.zero_add, dec_one _ hc.2, ← hc.1]
    · have hlen : 1 < (p ++ [c]).length := by
        rw [List.length_append]; have := List.length_pos_iff.2 hp; simp; omega
      have hh := hhead hlen
      cases p with
      | nil => exact absurd rfl hp
      | cons d r =>
        have hd48 : d ≠ 48 := by simpa using hh
        rw [List.all_cons, Bool.and_eq_true] at hall
        have hd := isD_dch d hall.1.1
        have hdpos : 1 ≤ d.toNat - 48 := by
          rcases Nat.eq_zero_or_pos (d.toNat - 48) with h0 | h0
          · rw [h0] at hd; exact absurd hd.1 hd48
          · exact h0
        have hv : 1 ≤ val 0 (d :: r) := by
          rw [val_cons]; exact Nat.le_trans (by omega) (val_le _ r)
        have hih := ih (d :: r) (by simpa using hl) (by rw [List.all_cons, Bool.and_eq_true]; exact hall.1) (by simp) (fun _ => by simpa using hd48)
        rw [val_app, val_one, dec_step _ (by omega), show (10 * val 0 (d :: r) + (c.toNat - 48)) / 10 = val 0 (d :: r) by omega, show (10 * val 0 (d :: r) + (c.toNat - 48)) % 10 = c.toNat - 48 by omega, hih, ← hc.1]
theorem val_add (a : Nat) (d : List UInt8) : val a d = a * 10 ^ d.length + val 0 d := by
  induction d generalizing a with
  | nil => simp [val]
  | cons c r ih =>
    rw [val_cons, ih, val_cons, ih (10 * 0 + _), List.length_cons, Nat.pow_succ, Nat.mul_comm (10 ^ r.length) 10, ← Nat.mul_assoc, Nat.mul_comm a 10, Nat.add_mul, Nat.mul_zero, Nat.zero_add, Nat.add_assoc]
/-- The noughts behind a numeral count nothing. -/
def padN (k : Nat) : List UInt8 := List.replicate k 48
theorem val_pad (k a : Nat) : val a (padN k) = a * 10 ^ k := by
  induction k generalizing a with
  | zero => simp [padN, val]
  | succ k ih =>
    unfold padN at *
    rw [List.replicate_succ, val_cons, ih, Nat.pow_succ, Nat.mul_comm (10 ^ k) 10, ← Nat.mul_assoc, Nat.mul_comm a 10]
    congr 1
theorem dg_pad : ∀ (k u : Nat), u < 10 ^ (k + 1) → ∃ z, dg (k + 1) u = padN z ++ Lib.decDigits u ∧ z + (Lib.decDigits u).length = k + 1
  | 0, u, h => ⟨0, by
      have h' : u < 10 := by simpa using h
      rw [dec_one u h']; simp [dg, padN, Nat.mod_eq_of_lt h'], by
      have h' : u < 10 := by simpa using h
      rw [dec_one u h']; rfl⟩
  | k + 1, u, h => by
    by_cases h10 : u < 10
    · refine ⟨k + 1, ?_, by rw [dec_one u h10]; rfl⟩
      obtain ⟨z, e1, e2⟩ := dg_pad k 0 (Nat.pos_of_ne_zero (by simp))
      rw [dec_one 0 (by omega)] at e1 e2
      have hz : z = k := by simpa using e2
      subst hz
      show dg (z + 1) (u / 10) ++ [dch (u % 10)] = _
      rw [Nat.div_eq_of_lt h10, Nat.mod_eq_of_lt h10, e1, dec_one u h10]
      unfold padN
      rw [List.replicate_succ', show dch 0 = 48 from rfl]
    · have hq : u / 10 < 10 ^ (k + 1) := by
        rw [Nat.div_lt_iff_lt_mul (by omega)]; rw [Nat.pow_succ] at h; exact h
      obtain ⟨z, e1, e2⟩ := dg_pad k (u / 10) hq
      refine ⟨z, ?_, by rw [dec_step u (by omega), List.length_append]; simp; omega⟩
      show dg (k + 1) (u / 10) ++ [dch (u % 10)] = _
      rw [e1, dec_step u (by omega), List.append_assoc]
end Go.Proofs.YtekcdokgpjmbgaaDoor.Nf
