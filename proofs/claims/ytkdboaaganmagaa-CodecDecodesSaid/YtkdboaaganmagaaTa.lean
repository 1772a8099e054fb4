/- Which programs can be told: both readings of it are the same test. -/
import Derived.Test.YtkdboaaganmagaaOPx1
import Derived.Test.YtkdboaaganmagaaOPx5
namespace Go.Proofs.Ytkdboaaganmagaa.Ta
set_option linter.unusedVariables false
set_option linter.unusedSimpArgs false
open Go.RowKit Go.Proofs.YtkdboaaganmagaaW.PrintWords Go.Proofs.Ytkdboaaganmagaa.OP
def okW (x : S51) : Bool := decide (0 ≤ x.f0 ∧ x.f0 ≤ 2147483647 ∧ 0 ≤ x.f1 ∧ x.f1 ≤ 2147483647)
def okI (x : S45) : Bool := decide (0 ≤ x.f0 ∧ x.f0 ≤ 255)
def okF (n : Int) : Bool := decide (0 ≤ n ∧ n ≤ 2147483647)
def toldB (a0 : Int) (l6 : List Int) (l7 : List S51) (l8 : List S54) (a9 a10 : Int) (l11 : List S45) : Bool :=
  okF a0 && okF a9 && okF a10 && decide (l6.length ≤ 16384 ∧ l7.length ≤ 256 ∧ l8.length ≤ 256 ∧ l11.length ≤ 16384) && l7.all okW && l11.all okI
theorem cfits (n : Int) : codec_fits.f n = some (okF n) := by
  unfold codec_fits.f okF
  by_cases h : n ≥ 0
  · rw [if_pos h]; congr 1; simp; intro; omega
  · rw [if_neg h]; congr 1; simp; intro; omega
theorem rfits (n : Int) : capstanref22_fits.f n = some (okF n) := cfits n
theorem w1 (i : Nat) (h : i < 9223372036854775807) : wrap64 ((i : Int) + 1) = ((i + 1 : Nat) : Int) := by unfold wrap64; omega
theorem drop_cons {α : Type} (xs : List α) (i : Nat) (z : α) (h : i < xs.length) : xs.drop i = xs.getD i z :: xs.drop (i + 1) := by
  rw [List.drop_eq_getElem_cons h]; congr 1; simp [List.getD, List.getElem?_eq_getElem h]
theorem c_l1 (xs : List S45) (hl : xs.length ≤ 9223372036854775807) : ∀ (n i k : Nat) (b : Bool), i + n = xs.length → n < k → codec_told.l1 k b xs xs.length i = some (b && (xs.drop i).all okI) := by
  intro n
  induction n with
  | zero =>
    intro i k b hi hk
    obtain ⟨k, rfl⟩ : ∃ m, k = m + 1 := ⟨k - 1, by omega⟩
    rw [codec_told.l1, if_neg (by omega), List.drop_eq_nil_of_le (by omega)]
    simp
  | succ n ih =>
    intro i k b hi hk
    obtain ⟨k, rfl⟩ : ∃ m, k = m + 1 := ⟨k - 1, by omega⟩
    rw [codec_told.l1, if_pos (by omega), if_pos (by omega), if_pos (by omega), drop_cons xs i z45 (by omega), List.all_cons, w1 i (by omega)]
    have er : rd_T45 xs (i : Int) = xs.getD i z45 := by unfold rd_T45; rw [Int.toNat_natCast]
    rw [er]
    generalize xs.getD i z45 = x
    cases b with
    | false => rw [if_neg (by decide), ih (i + 1) k false (by omega) (by omega)]; simp
    | true =>
      rw [if_pos rfl]
      by_cases h0 : x.f0 ≥ 0
      · rw [if_pos h0, ih (i + 1) k _ (by omega) (by omega)]
        congr 1
        unfold okI
        by_cases h1 : x.f0 ≤ 255 <;> simp [h1, h0]
      · rw [if_neg h0, ih (i + 1) k _ (by omega) (by omega)]
        unfold okI
        simp [show ¬ 0 ≤ x.f0 from h0]
section
variable (a0 a1 a2 a3 a4 a5 : Int) (l6 : List Int) (l7 : List S51) (l8 : List S54) (a9 a10 : Int) (l11 : List S45)
theorem c_l0 (h7 : l7.length ≤ 9223372036854775807) (h11 : l11.length ≤ 9223372036854775807) : ∀ (n i k : Nat) (b : Bool), i + n = l7.length → n + l11.length + 1 < k → codec_told.l0 k b l7 l7.length i a0 a1 a2 a3 a4 a5 l6 l7 l8 a9 a10 l11 = some (b && (l7.drop i).all okW && l11.all okI) := by
  intro n
  induction n with
  | zero =>
    intro i k b hi hk
    obtain ⟨k, rfl⟩ : ∃ m, k = m + 1 := ⟨k - 1, by omega⟩
    rw [codec_told.l0, if_neg (by omega), List.drop_eq_nil_of_le (by omega)]
    have := c_l1 l11 h11 l11.length 0 k b (by omega) (by omega)
    simp only [List.drop_zero, Int.natCast_zero, Int.ofNat_zero] at this
    simpa using this
  | succ n ih =>
    intro i k b hi hk
    obtain ⟨k, rfl⟩ : ∃ m, k = m + 1 := ⟨k - 1, by omega⟩
    rw [codec_told.l0, if_pos (by omega), if_pos (by omega), if_pos (by omega), drop_cons l7 i z51 (by omega), List.all_cons, w1 i (by omega)]
    have er : rd_T51 l7 (i : Int) = l7.getD i z51 := by unfold rd_T51; rw [Int.toNat_natCast]
    rw [er]
    generalize l7.getD i z51 = x
    rw [cfits, cfits]
    have eo : okW x = (okF x.f0 && okF x.f1) := by unfold okW okF; by_cases h1 : 0 ≤ x.f0 <;> by_cases h2 : x.f0 ≤ 2147483647 <;> simp [h1, h2]
    cases b with
    | false => rw [if_neg (by decide), ih (i + 1) k false (by omega) (by omega)]; simp
    | true =>
      rw [if_pos rfl, Option.bind_some, eo]
      cases hx : okF x.f0 with
      | false => rw [if_neg (by decide), ih (i + 1) k false (by omega) (by omega)]; simp
      | true => rw [if_pos rfl, Option.bind_some, ih (i + 1) k _ (by omega) (by omega)]; simp
theorem c_j0 (h7 : l7.length ≤ 9223372036854775807) (h11 : l11.length ≤ 9223372036854775807) (k : Nat) (b : Bool) (hk : l7.length + l11.length + 2 < k) : codec_told.j0 k b a0 a1 a2 a3 a4 a5 l6 l7 l8 a9 a10 l11 = some (b && l7.all okW && l11.all okI) := by
  obtain ⟨k, rfl⟩ : ∃ m, k = m + 1 := ⟨k - 1, by omega⟩
  rw [codec_told.j0]
  have := c_l0 a0 a1 a2 a3 a4 a5 l6 l7 l8 a9 a10 l11 h7 h11 l7.length 0 k b (by omega) (by omega)
  simpa using this
theorem c_f (h7 : l7.length ≤ 9223372036854775807) (h11 : l11.length ≤ 9223372036854775807) (k : Nat) (hk : l7.length + l11.length + 2 < k) : codec_told.f k a0 a1 a2 a3 a4 a5 l6 l7 l8 a9 a10 l11 = some (toldB a0 l6 l7 l8 a9 a10 l11) := by
  unfold codec_told.f toldB
  simp only [cfits, Option.bind_some, c_j0 a0 a1 a2 a3 a4 a5 l6 l7 l8 a9 a10 l11 h7 h11 k _ hk]
  have e6 : ((l6.length : Int) ≤ 16384) ↔ l6.length ≤ 16384 := by omega
  have e7 : ((l7.length : Int) ≤ 256) ↔ l7.length ≤ 256 := by omega
  have e8 : ((l8.length : Int) ≤ 256) ↔ l8.length ≤ 256 := by omega
  have e11 : ((l11.length : Int) ≤ 16384) ↔ l11.length ≤ 16384 := by omega
  simp only [e6, e7, e8, e11]
  cases okF a0 <;> cases okF a9 <;> cases okF a10 <;> by_cases g6 : l6.length ≤ 16384 <;> by_cases g7 : l7.length ≤ 256 <;> by_cases g8 : l8.length ≤ 256 <;> by_cases g11 : l11.length ≤ 16384 <;> simp [g6, g7, g8, g11]
theorem r_l1 (h11 : l11.length ≤ 9223372036854775807) : ∀ (n i k : Nat), i + n = l11.length → n < k → capstanref22_Told.l1 k i a0 a1 a2 a3 a4 a5 l6 l7 l8 a9 a10 l11 = some ((l11.drop i).all okI) := by
  intro n
  induction n with
  | zero =>
    intro i k hi hk
    obtain ⟨k, rfl⟩ : ∃ m, k = m + 1 := ⟨k - 1, by omega⟩
    rw [capstanref22_Told.l1, if_neg (by omega), List.drop_eq_nil_of_le (by omega)]
    simp
  | succ n ih =>
    intro i k hi hk
    obtain ⟨k, rfl⟩ : ∃ m, k = m + 1 := ⟨k - 1, by omega⟩
    rw [capstanref22_Told.l1, if_pos (by omega), if_pos (by omega), drop_cons l11 i z45 (by omega), List.all_cons, w1 i (by omega)]
    have er : rd_T45 l11 (i : Int) = l11.getD i z45 := by unfold rd_T45; rw [Int.toNat_natCast]
    rw [er]
    generalize l11.getD i z45 = x
    by_cases h0 : x.f0 < 0
    · have ho : okI x = false := by unfold okI; simp; omega
      rw [if_pos h0, ho]; simp
    · rw [if_neg h0]
      by_cases h1 : x.f0 > 255
      · have ho : okI x = false := by unfold okI; simp; omega
        rw [if_pos h1, ho]; simp
      · have ho : okI x = true := by unfold okI; simp; omega
        rw [if_neg h1, ih (i + 1) k (by omega) (by omega), ho]; simp
theorem r_l0 (h7 : l7.length ≤ 9223372036854775807) (h11 : l11.length ≤ 9223372036854775807) : ∀ (n i k : Nat), i + n = l7.length → n + l11.length + 1 < k → capstanref22_Told.l0 k i a0 a1 a2 a3 a4 a5 l6 l7 l8 a9 a10 l11 = some ((l7.drop i).all okW && l11.all okI) := by
  intro n
  induction n with
  | zero =>
    intro i k hi hk
    obtain ⟨k, rfl⟩ : ∃ m, k = m + 1 := ⟨k - 1, by omega⟩
    rw [capstanref22_Told.l0, if_neg (by omega), List.drop_eq_nil_of_le (by omega)]
    have := r_l1 a0 a1 a2 a3 a4 a5 l6 l7 l8 a9 a10 l11 h11 l11.length 0 k (by omega) (by omega)
    simpa using this
  | succ n ih =>
    intro i k hi hk
    obtain ⟨k, rfl⟩ : ∃ m, k = m + 1 := ⟨k - 1, by omega⟩
    rw [capstanref22_Told.l0, if_pos (by omega), if_pos (by omega), drop_cons l7 i z51 (by omega), List.all_cons, w1 i (by omega)]
    have er : rd_T51 l7 (i : Int) = l7.getD i z51 := by unfold rd_T51; rw [Int.toNat_natCast]
    rw [er]
    generalize l7.getD i z51 = x
    rw [rfits, rfits]
    have eo : okW x = (okF x.f0 && okF x.f1) := by unfold okW okF; by_cases h1 : 0 ≤ x.f0 <;> by_cases h2 : x.f0 ≤ 2147483647 <;> simp [h1, h2]
    rw [Option.bind_some, eo]
    cases hx : okF x.f0 with
    | false => rw [if_neg (by decide)]; simp
    | true =>
      rw [if_pos rfl, Option.bind_some]
      cases hy : okF x.f1 with
      | false => rw [if_neg (by decide)]; simp
      | true => rw [if_pos rfl, ih (i + 1) k (by omega) (by omega)]; simp
theorem r_j0 (h7 : l7.length ≤ 9223372036854775807) (h11 : l11.length ≤ 9223372036854775807) (k : Nat) (b : Bool) (hk : l7.length + l11.length + 2 < k) : capstanref22_Told.j0 k b a0 a1 a2 a3 a4 a5 l6 l7 l8 a9 a10 l11 = some (!b && l7.all okW && l11.all okI) := by
  obtain ⟨k, rfl⟩ : ∃ m, k = m + 1 := ⟨k - 1, by omega⟩
  rw [capstanref22_Told.j0]
  cases b with
  | true => rw [if_pos rfl]; simp
  | false =>
    rw [if_neg (by decide)]
    have := r_l0 a0 a1 a2 a3 a4 a5 l6 l7 l8 a9 a10 l11 h7 h11 l7.length 0 k (by omega) (by omega)
    simpa using this
theorem r_f (h7 : l7.length ≤ 9223372036854775807) (h11 : l11.length ≤ 9223372036854775807) (k : Nat) (hk : l7.length + l11.length + 2 < k) : capstanref22_Told.f k a0 a1 a2 a3 a4 a5 l6 l7 l8 a9 a10 l11 = some (toldB a0 l6 l7 l8 a9 a10 l11) := by
  unfold capstanref22_Told.f toldB
  simp only [rfits, Option.bind_some, r_j0 a0 a1 a2 a3 a4 a5 l6 l7 l8 a9 a10 l11 h7 h11 k _ hk]
  have e6 : ((l6.length : Int) > 16384) ↔ ¬ l6.length ≤ 16384 := by omega
  have e7 : ((l7.length : Int) > 256) ↔ ¬ l7.length ≤ 256 := by omega
  have e8 : ((l8.length : Int) > 256) ↔ ¬ l8.length ≤ 256 := by omega
  have e11 : ((l11.length : Int) > 16384) ↔ ¬ l11.length ≤ 16384 := by omega
  simp only [e6, e7, e8, e11]
  cases okF a0 <;> cases okF a9 <;> cases okF a10 <;> by_cases g6 : l6.length ≤ 16384 <;> by_cases g7 : l7.length ≤ 256 <;> by_cases g8 : l8.length ≤ 256 <;> by_cases g11 : l11.length ≤ 16384 <;> simp [g6, g7, g8, g11]
end
end Go.Proofs.Ytkdboaaganmagaa.Ta
