/- Digits, in plain words; what num.digits and the reference's run answer. -/
import Derived.Test.YtekcdokgpjmbgaaDoorOAx2
import Derived.Test.YtekcdokgpjmbgaaDoorOAx7
import Derived.Lib.Strings
namespace Go.Proofs.YtekcdokgpjmbgaaDoor.Nd
set_option linter.unusedVariables false
open Go.RowKit Go.Proofs.YtekcdokgpjmbgaaDoorW.PrintWords Go.Proofs.YtekcdokgpjmbgaaDoor.OA
theorem w64 {a : Int} (h1 : -9223372036854775808 ≤ a) (h2 : a ≤ 9223372036854775807) : wrap64 a = a := by unfold wrap64; omega
def isD (c : UInt8) : Bool := 48 ≤ c.toNat && c.toNat ≤ 57
/-- The bytes from p on. -/
def L (s : ByteArray) (p : Nat) : List UInt8 := s.data.toList.drop p
def D (l : List UInt8) : List UInt8 := l.takeWhile isD
def val (a : Nat) (d : List UInt8) : Nat := d.foldl (fun a c => 10 * a + (c.toNat - 48)) a
theorem L_cons (s : ByteArray) (p : Nat) (h : p < s.size) : L s p = s[p] :: L s (p + 1) := by
  unfold L
  have h2 : p < s.data.toList.length := by simpa using h
  rw [List.drop_eq_getElem_cons h2]
  rfl
theorem L_nil (s : ByteArray) (p : Nat) (h : s.size ≤ p) : L s p = [] := List.drop_eq_nil_of_le (by simpa using h)
theorem L_len (s : ByteArray) (p : Nat) : (L s p).length = s.size - p := by unfold L; rw [List.length_drop]; rfl
theorem bt_nat (s : ByteArray) (n : Nat) (h : n < s.size) : bt s (n : Int) = (s[n].toNat : Int) := by
  unfold bt
  rw [dif_pos (by simpa using h)]
  simp
theorem D_step (s : ByteArray) (p : Nat) (h : p < s.size) (hd : isD s[p] = true) : D (L s p) = s[p] :: D (L s (p + 1)) := by
  rw [L_cons s p h]; unfold D; rw [List.takeWhile_cons, if_pos hd]
theorem D_stop (s : ByteArray) (p : Nat) (h : p < s.size) (hd : isD s[p] = false) : D (L s p) = [] := by
  rw [L_cons s p h]; unfold D; rw [List.takeWhile_cons, if_neg (by rw [hd]; simp)]
theorem D_end (s : ByteArray) (p : Nat) (h : s.size ≤ p) : D (L s p) = [] := by rw [L_nil s p h]; rfl
theorem D_len (s : ByteArray) (p : Nat) : p + (D (L s p)).length ≤ max p s.size := by
  have h1 : (D (L s p)).length ≤ (L s p).length := (List.takeWhile_prefix isD).length_le
  rw [L_len] at h1
  omega
theorem isD_iff (c : UInt8) : isD c = true ↔ (48 : Int) ≤ (c.toNat : Int) ∧ (c.toNat : Int) ≤ 57 := by
  unfold isD; rw [Bool.and_eq_true, decide_eq_true_eq, decide_eq_true_eq]; omega
theorem digits_l0 (s : ByteArray) (hs : s.size ≤ 9223372036854775807) : ∀ (m i K : Nat), i + m = s.size → m < K → num_digits.l0 K s (s.size : Int) (i : Int) = some ((L s i).all isD && (s.toList != [])) := by
  intro m
  induction m with
  | zero =>
    intro i K hi hK
    obtain ⟨K, rfl⟩ : ∃ k, K = k + 1 := ⟨K - 1, by omega⟩
    rw [num_digits.l0, if_neg (by omega), L_nil s i (by omega)]
    rfl
  | succ m ih =>
    intro i K hi hK
    obtain ⟨K, rfl⟩ : ∃ k, K = k + 1 := ⟨K - 1, by omega⟩
    have h : i < s.size := by omega
    rw [num_digits.l0, if_pos (by omega), if_pos (by omega), if_pos (by omega), bt_nat s i h, L_cons s i h, List.all_cons]
    by_cases h1 : (s[i].toNat : Int) < 48
    · have hd : isD s[i] = false := by
        cases hh : isD s[i]
        · rfl
        · have := (isD_iff _).1 hh; omega
      rw [if_pos h1, hd]; rfl
    · rw [if_neg h1]
      by_cases h2 : (s[i].toNat : Int) > 57
      · have hd : isD s[i] = false := by
          cases hh : isD s[i]
          · rfl
          · have := (isD_iff _).1 hh; omega
        rw [if_pos h2, hd]; rfl
      · have hd : isD s[i] = true := (isD_iff _).2 (by omega)
        have hw : wrap64 ((i : Int) + 1) = ((i + 1 : Nat) : Int) := by rw [w64 (by omega) (by omega)]; omega
        rw [if_neg h2, hw, ih (i + 1) K (by omega) (by omega), hd, Bool.true_and]
def digB (s : ByteArray) : Bool := s.data.toList.all isD && (s.toList != [])
theorem digits_f (s : ByteArray) (hs : s.size ≤ 9223372036854775807) (K : Nat) (hK : s.size < K) : num_digits.f K s = some (digB s) := by
  unfold num_digits.f
  have := digits_l0 s hs s.size 0 K (by omega) hK
  exact this
theorem run_l0 (s : ByteArray) (hs : s.size ≤ 4611686018427387904) (p : Nat) : ∀ (m n K : Nat), p + n + m = s.size → m < K → capstanref10_run.l0 K s (p : Int) (n : Int) = some ((n + (D (L s (p + n))).length : Nat) : Int) := by
  intro m
  induction m with
  | zero =>
    intro n K hi hK
    obtain ⟨K, rfl⟩ : ∃ k, K = k + 1 := ⟨K - 1, by omega⟩
    rw [capstanref10_run.l0, w64 (by omega) (by omega), if_neg (by omega), D_end s (p + n) (by omega)]
    rfl
  | succ m ih =>
    intro n K hi hK
    obtain ⟨K, rfl⟩ : ∃ k, K = k + 1 := ⟨K - 1, by omega⟩
    have h : p + n < s.size := by omega
    have hw : wrap64 ((p : Int) + n) = ((p + n : Nat) : Int) := by rw [w64 (by omega) (by omega)]; omega
    rw [capstanref10_run.l0, hw, if_pos (by omega), if_pos (by omega), bt_nat s (p + n) h]
    by_cases h1 : (s[p + n].toNat : Int) ≥ 48
    · rw [if_pos h1]
      by_cases h2 : (s[p + n].toNat : Int) ≤ 57
      · have hd : isD s[p + n] = true := (isD_iff _).2 (by omega)
        have hw2 : wrap64 ((n : Int) + 1) = ((n + 1 : Nat) : Int) := by rw [w64 (by omega) (by omega)]; omega
        rw [if_pos h2, hw2, ih (n + 1) K (by omega) (by omega), D_step s (p + n) h hd, List.length_cons, show p + (n + 1) = p + n + 1 from rfl]
        generalize (D (L s (p + n + 1))).length = q
        have e : n + 1 + q = n + (q + 1) := by omega
        rw [e]
      · have hd : isD s[p + n] = false := by
          cases hh : isD s[p + n]
          · rfl
          · have := (isD_iff _).1 hh; omega
        rw [if_neg h2, D_stop s (p + n) h hd]; rfl
    · have hd : isD s[p + n] = false := by
        cases hh : isD s[p + n]
        · rfl
        · have := (isD_iff _).1 hh; omega
      rw [if_neg h1, D_stop s (p + n) h hd]; rfl
theorem run_f (s : ByteArray) (hs : s.size ≤ 4611686018427387904) (p : Nat) (hp : p ≤ s.size) (K : Nat) (hK : s.size < K) : capstanref10_run.f K s (p : Int) = some ((D (L s p)).length : Int) := by
  unfold capstanref10_run.f
  have h := run_l0 s hs p (s.size - p) 0 K (by omega) (by omega)
  rw [Nat.add_zero, Nat.zero_add, show ((0 : Nat) : Int) = 0 from rfl] at h
  exact h
/-- A numeral, as the library reads it. -/
theorem val_app (a : Nat) (x y : List UInt8) : val a (x ++ y) = val (val a x) y := List.foldl_append
theorem val_cons (a : Nat) (c : UInt8) (y : List UInt8) : val a (c :: y) = val (10 * a + (c.toNat - 48)) y := by
  unfold val
  rw [List.foldl_cons]
theorem val_ge (a : Nat) (d : List UInt8) : a * 10 ^ d.length ≤ val a d := by
  induction d generalizing a with
  | nil => simp [val]
  | cons c r ih =>
    rw [val_cons, List.length_cons, Nat.pow_succ]
    refine Nat.le_trans ?_ (ih _)
    rw [Nat.mul_comm (10 ^ r.length) 10, ← Nat.mul_assoc]
    exact Nat.mul_le_mul_right _ (by omega)
theorem val_lt (a : Nat) (d : List UInt8) (h : d.all isD = true) : val a d < (a + 1) * 10 ^ d.length := by
  induction d generalizing a with
  | nil => simp [val]
  | cons c r ih =>
    rw [List.all_cons, Bool.and_eq_true] at h
    have hc := (isD_iff c).1 h.1
    rw [val_cons, List.length_cons, Nat.pow_succ]
    refine Nat.lt_of_lt_of_le (ih _ h.2) ?_
    rw [Nat.mul_comm (10 ^ r.length) 10, ← Nat.mul_assoc]
    exact Nat.mul_le_mul_right _ (by omega)
end Go.Proofs.YtekcdokgpjmbgaaDoor.Nd
