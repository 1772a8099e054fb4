/- capstanref21.Same: it tells whether two programs are the same. -/
import Derived.Test.YtkdboaaganmagaaTa
import Derived.Test.YtkdboaaganmagaaCe0
import Derived.Test.YtkdboaaganmagaaOPx12
namespace Go.Proofs.Ytkdboaaganmagaa.Td
set_option linter.unusedVariables false
set_option linter.unusedSimpArgs false
open Go.RowKit Go.Proofs.YtkdboaaganmagaaW.PrintWords Go.Proofs.Ytkdboaaganmagaa.OP Go.Proofs.Ytkdboaaganmagaa.Ta Go.Proofs.Ytkdboaaganmagaa.Ce
section
variable (a0 a1 a2 a3 a4 a5 : Int) (l6 : List Int) (l7 : List S51) (l8 : List S54) (a9 a10 : Int) (l11 : List S45) (b0 b1 b2 b3 b4 b5 : Int) (m6 : List Int) (m7 : List S51) (m8 : List S54) (b9 b10 : Int) (m11 : List S45)
theorem s_l3 (h : l11.length = m11.length) (hl : l11.length ≤ 9223372036854775807) : ∀ (n i k : Nat), i + n = l11.length → n < k → ∃ b : Bool, capstanref21_Same.l3 k i a0 a1 a2 a3 a4 a5 l6 l7 l8 a9 a10 l11 b0 b1 b2 b3 b4 b5 m6 m7 m8 b9 b10 m11 = some b ∧ (b = true ↔ l11.drop i = m11.drop i) := by
  intro n
  induction n with
  | zero =>
    intro i k hi hk
    obtain ⟨k, rfl⟩ : ∃ m, k = m + 1 := ⟨k - 1, by omega⟩
    rw [capstanref21_Same.l3, if_neg (by omega), List.drop_eq_nil_of_le (by omega), List.drop_eq_nil_of_le (by omega)]
    exact ⟨true, rfl, by simp⟩
  | succ n ih =>
    intro i k hi hk
    obtain ⟨k, rfl⟩ : ∃ m, k = m + 1 := ⟨k - 1, by omega⟩
    rw [capstanref21_Same.l3, if_pos (by omega), if_pos (by omega), if_pos (by omega), drop_cons l11 i z45 (by omega), drop_cons m11 i z45 (by omega), w1 i (by omega)]
    have er : ∀ xs : List S45, rd_T45 xs (i : Int) = xs.getD i z45 := fun xs => by unfold rd_T45; rw [Int.toNat_natCast]
    rw [er, er]
    generalize l11.getD i z45 = x
    generalize m11.getD i z45 = y
    obtain ⟨b, e1, e2⟩ := ih (i + 1) k (by omega) (by omega)
    by_cases e : x = y
    · subst e
      rw [if_neg (by simp), e1]
      exact ⟨b, rfl, by rw [e2]; simp⟩
    · rw [if_pos (by obtain ⟨x0, x1⟩ := x; obtain ⟨y0, y1⟩ := y; simp only [S45.mk.injEq] at e; simp; omega)]
      exact ⟨false, rfl, by simp [e]⟩
theorem s_l2 (h11 : l11.length = m11.length) (g11 : l11.length ≤ 9223372036854775807) (h : l8.length = m8.length) (hl : l8.length ≤ 9223372036854775807) : ∀ (n i k : Nat), i + n = l8.length → n + l11.length + 1 < k → ∃ b : Bool, capstanref21_Same.l2 k i a0 a1 a2 a3 a4 a5 l6 l7 l8 a9 a10 l11 b0 b1 b2 b3 b4 b5 m6 m7 m8 b9 b10 m11 = some b ∧ (b = true ↔ l8.drop i = m8.drop i ∧ l11 = m11) := by
  intro n
  induction n with
  | zero =>
    intro i k hi hk
    obtain ⟨k, rfl⟩ : ∃ m, k = m + 1 := ⟨k - 1, by omega⟩
    rw [capstanref21_Same.l2, if_neg (by omega), List.drop_eq_nil_of_le (by omega), List.drop_eq_nil_of_le (by omega)]
    have := s_l3 a0 a1 a2 a3 a4 a5 l6 l7 l8 a9 a10 l11 b0 b1 b2 b3 b4 b5 m6 m7 m8 b9 b10 m11 h11 g11 l11.length 0 k (by omega) (by omega)
    obtain ⟨b, e1, e2⟩ := this
    exact ⟨b, e1, by rw [e2]; simp⟩
  | succ n ih =>
    intro i k hi hk
    obtain ⟨k, rfl⟩ : ∃ m, k = m + 1 := ⟨k - 1, by omega⟩
    rw [capstanref21_Same.l2, if_pos (by omega), if_pos (by omega), if_pos (by omega), drop_cons l8 i z54 (by omega), drop_cons m8 i z54 (by omega), w1 i (by omega)]
    have er : ∀ xs : List S54, rd_T54 xs (i : Int) = xs.getD i z54 := fun xs => by unfold rd_T54; rw [Int.toNat_natCast]
    rw [er, er]
    generalize l8.getD i z54 = x
    generalize m8.getD i z54 = y
    obtain ⟨b, e1, e2⟩ := ih (i + 1) k (by omega) (by omega)
    by_cases e : x = y
    · subst e
      rw [if_neg (by simp), e1]
      exact ⟨b, rfl, by rw [e2]; simp⟩
    · rw [if_pos (by obtain ⟨x0, x1, x2, x3, x4⟩ := x; obtain ⟨y0, y1, y2, y3, y4⟩ := y; simp only [S54.mk.injEq] at e; simp; omega)]
      exact ⟨false, rfl, by simp [e]⟩
theorem s_l1 (h11 : l11.length = m11.length) (g11 : l11.length ≤ 9223372036854775807) (h8 : l8.length = m8.length) (g8 : l8.length ≤ 9223372036854775807) (h : l7.length = m7.length) (hl : l7.length ≤ 9223372036854775807) : ∀ (n i k : Nat), i + n = l7.length → n + l8.length + l11.length + 2 < k → ∃ b : Bool, capstanref21_Same.l1 k i a0 a1 a2 a3 a4 a5 l6 l7 l8 a9 a10 l11 b0 b1 b2 b3 b4 b5 m6 m7 m8 b9 b10 m11 = some b ∧ (b = true ↔ l7.drop i = m7.drop i ∧ l8 = m8 ∧ l11 = m11) := by
  intro n
  induction n with
  | zero =>
    intro i k hi hk
    obtain ⟨k, rfl⟩ : ∃ m, k = m + 1 := ⟨k - 1, by omega⟩
    rw [capstanref21_Same.l1, if_neg (by omega), List.drop_eq_nil_of_le (by omega), List.drop_eq_nil_of_le (by omega)]
    have := s_l2 a0 a1 a2 a3 a4 a5 l6 l7 l8 a9 a10 l11 b0 b1 b2 b3 b4 b5 m6 m7 m8 b9 b10 m11 h11 g11 h8 g8 l8.length 0 k (by omega) (by omega)
    obtain ⟨b, e1, e2⟩ := this
    exact ⟨b, e1, by rw [e2]; simp⟩
  | succ n ih =>
    intro i k hi hk
    obtain ⟨k, rfl⟩ : ∃ m, k = m + 1 := ⟨k - 1, by omega⟩
    rw [capstanref21_Same.l1, if_pos (by omega), if_pos (by omega), if_pos (by omega), drop_cons l7 i z51 (by omega), drop_cons m7 i z51 (by omega), w1 i (by omega)]
    have er : ∀ xs : List S51, rd_T51 xs (i : Int) = xs.getD i z51 := fun xs => by unfold rd_T51; rw [Int.toNat_natCast]
    rw [er, er]
    generalize l7.getD i z51 = x
    generalize m7.getD i z51 = y
    obtain ⟨b, e1, e2⟩ := ih (i + 1) k (by omega) (by omega)
    by_cases e : x = y
    · subst e
      rw [if_neg (by simp), e1]
      exact ⟨b, rfl, by rw [e2]; simp⟩
    · rw [if_pos (by obtain ⟨x0, x1, x2, x3⟩ := x; obtain ⟨y0, y1, y2, y3⟩ := y; simp only [S51.mk.injEq] at e; simp; omega)]
      exact ⟨false, rfl, by simp [e]⟩
theorem s_l0 (h11 : l11.length = m11.length) (g11 : l11.length ≤ 9223372036854775807) (h8 : l8.length = m8.length) (g8 : l8.length ≤ 9223372036854775807) (h7 : l7.length = m7.length) (g7 : l7.length ≤ 9223372036854775807) (h : l6.length = m6.length) (hl : l6.length ≤ 9223372036854775807) : ∀ (n i k : Nat), i + n = l6.length → n + l7.length + l8.length + l11.length + 3 < k → ∃ b : Bool, capstanref21_Same.l0 k i a0 a1 a2 a3 a4 a5 l6 l7 l8 a9 a10 l11 b0 b1 b2 b3 b4 b5 m6 m7 m8 b9 b10 m11 = some b ∧ (b = true ↔ l6.drop i = m6.drop i ∧ l7 = m7 ∧ l8 = m8 ∧ l11 = m11) := by
  intro n
  induction n with
  | zero =>
    intro i k hi hk
    obtain ⟨k, rfl⟩ : ∃ m, k = m + 1 := ⟨k - 1, by omega⟩
    rw [capstanref21_Same.l0, if_neg (by omega), List.drop_eq_nil_of_le (by omega), List.drop_eq_nil_of_le (by omega)]
    have := s_l1 a0 a1 a2 a3 a4 a5 l6 l7 l8 a9 a10 l11 b0 b1 b2 b3 b4 b5 m6 m7 m8 b9 b10 m11 h11 g11 h8 g8 h7 g7 l7.length 0 k (by omega) (by omega)
    obtain ⟨b, e1, e2⟩ := this
    exact ⟨b, e1, by rw [e2]; simp⟩
  | succ n ih =>
    intro i k hi hk
    obtain ⟨k, rfl⟩ : ∃ m, k = m + 1 := ⟨k - 1, by omega⟩
    rw [capstanref21_Same.l0, if_pos (by omega), if_pos (by omega), if_pos (by omega), drop_cons l6 i 0 (by omega), drop_cons m6 i 0 (by omega), w1 i (by omega)]
    have er : ∀ xs : List Int, rd xs (i : Int) = xs.getD i 0 := fun xs => by unfold rd; rw [Int.toNat_natCast]
    rw [er, er]
    generalize l6.getD i 0 = x
    generalize m6.getD i 0 = y
    obtain ⟨b, e1, e2⟩ := ih (i + 1) k (by omega) (by omega)
    by_cases e : x = y
    · subst e
      rw [if_pos rfl, e1]
      exact ⟨b, rfl, by rw [e2]; simp⟩
    · rw [if_neg e]
      exact ⟨false, rfl, by simp [e]⟩
theorem s_no (k : Nat) (hk : 0 < k) : capstanref21_Same.j0 k true a0 a1 a2 a3 a4 a5 l6 l7 l8 a9 a10 l11 b0 b1 b2 b3 b4 b5 m6 m7 m8 b9 b10 m11 = some false := by
  obtain ⟨k, rfl⟩ : ∃ m, k = m + 1 := ⟨k - 1, by omega⟩
  rw [capstanref21_Same.j0, if_pos rfl]
theorem s_f (g6 : l6.length ≤ 9223372036854775807) (g7 : l7.length ≤ 9223372036854775807) (g8 : l8.length ≤ 9223372036854775807) (g11 : l11.length ≤ 9223372036854775807) (k : Nat) (hk : l6.length + l7.length + l8.length + l11.length + 5 < k) :
    ∃ b : Bool, capstanref21_Same.f k a0 a1 a2 a3 a4 a5 l6 l7 l8 a9 a10 l11 b0 b1 b2 b3 b4 b5 m6 m7 m8 b9 b10 m11 = some b ∧ (b = true ↔ ((⟨a0, a1, a2, a3, a4, a5, l6, l7, l8, a9, a10, l11⟩ : Pg) = ⟨b0, b1, b2, b3, b4, b5, m6, m7, m8, b9, b10, m11⟩)) := by
  unfold capstanref21_Same.f
  simp only [Pg.mk.injEq]
  have no := s_no a0 a1 a2 a3 a4 a5 l6 l7 l8 a9 a10 l11 b0 b1 b2 b3 b4 b5 m6 m7 m8 b9 b10 m11 k (by omega)
  by_cases e0 : a0 = b0
  · rw [if_pos e0]
    by_cases er : a1 = b1 ∧ a2 = b2 ∧ a3 = b3 ∧ a4 = b4 ∧ a5 = b5
    · rw [if_neg (by obtain ⟨rfl, rfl, rfl, rfl, rfl⟩ := er; simp)]
      by_cases e9 : a9 = b9
      · rw [if_pos e9]
        by_cases e10 : a10 = b10
        · rw [if_pos e10]
          by_cases n6 : l6.length = m6.length
          · rw [if_pos (by omega)]
            by_cases n7 : l7.length = m7.length
            · rw [if_pos (by omega)]
              by_cases n8 : l8.length = m8.length
              · rw [if_pos (by omega)]
                by_cases n11 : l11.length = m11.length
                · obtain ⟨k, rfl⟩ : ∃ m, k = m + 1 := ⟨k - 1, by omega⟩
                  rw [capstanref21_Same.j0, if_neg (by simp [n11])]
                  obtain ⟨b, e1, e2⟩ := s_l0 a0 a1 a2 a3 a4 a5 l6 l7 l8 a9 a10 l11 b0 b1 b2 b3 b4 b5 m6 m7 m8 b9 b10 m11 n11 g11 n8 g8 n7 g7 n6 g6 l6.length 0 k (by omega) (by omega)
                  have e1' : capstanref21_Same.l0 k 0 a0 a1 a2 a3 a4 a5 l6 l7 l8 a9 a10 l11 b0 b1 b2 b3 b4 b5 m6 m7 m8 b9 b10 m11 = some b := e1
                  exact ⟨b, e1', by rw [e2]; simp only [List.drop_zero]; exact ⟨fun h => ⟨e0, er.1, er.2.1, er.2.2.1, er.2.2.2.1, er.2.2.2.2, h.1, h.2.1, h.2.2.1, e9, e10, h.2.2.2⟩, fun h => ⟨h.2.2.2.2.2.2.1, h.2.2.2.2.2.2.2.1, h.2.2.2.2.2.2.2.2.1, h.2.2.2.2.2.2.2.2.2.2.2⟩⟩⟩
                · rw [show ((l11.length : Int) != (m11.length : Int)) = true by simp; omega, no]
                  exact ⟨false, rfl, fun h => (nomatch h), fun h => absurd (congrArg List.length h.2.2.2.2.2.2.2.2.2.2.2) n11⟩
              · rw [if_neg (by omega), no]
                exact ⟨false, rfl, fun h => (nomatch h), fun h => absurd (congrArg List.length h.2.2.2.2.2.2.2.2.1) n8⟩
            · rw [if_neg (by omega), no]
              exact ⟨false, rfl, fun h => (nomatch h), fun h => absurd (congrArg List.length h.2.2.2.2.2.2.2.1) n7⟩
          · rw [if_neg (by omega), no]
            exact ⟨false, rfl, fun h => (nomatch h), fun h => absurd (congrArg List.length h.2.2.2.2.2.2.1) n6⟩
        · rw [if_neg e10, no]
          exact ⟨false, rfl, fun h => (nomatch h), fun h => absurd h.2.2.2.2.2.2.2.2.2.2.1 e10⟩
      · rw [if_neg e9, no]
        exact ⟨false, rfl, fun h => (nomatch h), fun h => absurd h.2.2.2.2.2.2.2.2.2.1 e9⟩
    · rw [if_pos (by simp; omega), no]
      exact ⟨false, rfl, fun h => (nomatch h), fun h => absurd ⟨h.2.1, h.2.2.1, h.2.2.2.1, h.2.2.2.2.1, h.2.2.2.2.2.1⟩ er⟩
  · rw [if_neg e0, no]
    exact ⟨false, rfl, fun h => (nomatch h), fun h => absurd h.1 e0⟩
end
end Go.Proofs.Ytkdboaaganmagaa.Td
