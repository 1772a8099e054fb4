/- math/bits' Div64, as numbers: the quotient and the rest of two words by one. Conditions: as each theorem states. -/
import Derived.Test.YtdplfphgomckfaaDoorOWx7
import Derived.Test.YtdplfphgomckfaaDoorBo
namespace Go.Proofs.YtdplfphgomckfaaDoor.Bv
set_option linter.unusedVariables false
set_option linter.unusedSimpArgs false
open Go.RowKit Go.Proofs.YtdplfphgomckfaaDoorW.PrintWords Go.Proofs.YtdplfphgomckfaaDoorW.PrintMore Go.Proofs.YtdplfphgomckfaaDoor.OW Go.Proofs.YtdplfphgomckfaaDoor.Bn
/-! ### Len64 -/
def lenOk (v : Nat) : Bool := if v = 0 then bt Lib.len8tab (v : Int) == 0 else (match bt Lib.len8tab (v : Int) with | .ofNat (m + 1) => decide (m < 8 ∧ 2 ^ m ≤ v ∧ v < 2 ^ (m + 1)) | _ => false)
set_option maxRecDepth 100000 in
theorem len_all : (List.range 256).all lenOk = true := by decide
theorem len_at (v : Int) (h0 : 1 ≤ v) (h1 : v < 256) : ∃ m : Nat, bt Lib.len8tab v = (m : Int) + 1 ∧ m < 8 ∧ p2 m ≤ v ∧ v < p2 (m + 1) := by
  obtain ⟨n, rfl⟩ := Int.eq_ofNat_of_zero_le (show 0 ≤ v by omega)
  have h := (List.all_eq_true.1 len_all) n (by rw [List.mem_range]; omega)
  unfold lenOk at h
  rw [if_neg (by omega)] at h
  split at h
  · next m hm =>
    rw [decide_eq_true_eq] at h
    refine ⟨m, by rw [hm]; rfl, h.1, ?_, ?_⟩
    · rw [p2_eq]; have := h.2.1; exact_mod_cast this
    · rw [p2_eq]; have := h.2.2; exact_mod_cast this
  · cases h
set_option maxRecDepth 100000 in
theorem size_8 : Lib.len8tab.size = 256 := by decide
theorem p2_add (m : Nat) : ∀ n, p2 (m + n) = p2 m * p2 n
  | 0 => by simp [p2]
  | n + 1 => by rw [← Nat.add_assoc, p2, p2, p2_add m n]; grind
theorem size8 : (Lib.len8tab.size : Int) = 256 := by
  rw [size_8]; rfl
/-- One place of the table: what it tells of a number that was shifted by m bits. -/
theorem len_put (y : Int) (m : Nat) (c : Int) (hm : p2 m = c) (hc : m ≤ 56) (h0 : c ≤ y) (h1 : y < 256 * c) : ∃ L : Nat, (m : Int) + bt Lib.len8tab (y / c % 256) = (L : Int) + 1 ∧ L < m + 8 ∧ p2 L ≤ y ∧ y < p2 (L + 1) := by
  have hp := p2_pos m
  rw [hm] at hp
  have h2 : y / c < 256 := Int.ediv_lt_of_lt_mul hp h1
  have h3 : 1 ≤ y / c := Int.le_ediv_of_mul_le hp (by omega)
  have e : y / c % 256 = y / c := Int.emod_eq_of_lt (by omega) h2
  obtain ⟨n, e1, e2, e3, e4⟩ := len_at (y / c) h3 h2
  have h5 := Int.emod_add_mul_ediv y c
  have h6 := Int.emod_nonneg y (show c ≠ 0 by omega)
  have h7 := Int.emod_lt_of_pos y hp
  refine ⟨m + n, by rw [e, e1]; omega, by omega, ?_, ?_⟩
  · rw [p2_add, hm]
    have := Int.mul_le_mul_of_nonneg_left e3 (show 0 ≤ c by omega)
    omega
  · rw [Nat.add_assoc, p2_add, hm]
    have := Int.mul_le_mul_of_nonneg_left (show y / c + 1 ≤ p2 (n + 1) by omega) (show 0 ≤ c by omega)
    rw [Int.mul_add] at this
    omega
theorem w_add (k a : Int) (hk : 0 ≤ k ∧ k ≤ 56) (ha : 0 ≤ a ∧ a ≤ 8) : wrap64 (k + wrap64 a) = k + a := by
  rw [w64 (a := a) (by omega) (by omega), w64 (by omega) (by omega)]
theorem bt8 (v : Int) : 0 ≤ bt Lib.len8tab v ∧ bt Lib.len8tab v ≤ 255 := bt_range _ _
/-- j0, with the offset x2 (0 or 32) on a number below 2^32. -/
theorem len_j0 (x x2 : Int) (h0 : 0 ≤ x) (h1 : x < 4294967296) (h2 : x2 = 0 ∨ x2 = 32) : ∃ (m : Nat) (c : Int), p2 m = c ∧ m ≤ 24 ∧ (1 ≤ x → c ≤ x) ∧ x < 256 * c ∧ Ev (fun k => bits_Len64.j0 k x x2) (wrap64 (x2 + m + wrap64 (bt Lib.len8tab (x / c % 256)))) := by
  have hs := size8
  have w16 : wrap64 (x2 + 16) = x2 + 16 := w64 (by omega) (by omega)
  have w24 : wrap64 (x2 + 16 + 8) = x2 + 24 := by rw [w64 (by omega) (by omega)]; omega
  have w8 : wrap64 (x2 + 8) = x2 + 8 := w64 (by omega) (by omega)
  by_cases c1 : x ≥ 65536
  · by_cases c2 : x / 65536 ≥ 256
    · refine ⟨24, 16777216, by decide, by omega, fun _ => by omega, by omega, Ev.step (f := fun _ => some _) (fun k => ?_) (Ev.now _)⟩
      simp only [bits_Len64.j0]
      have e : x / 65536 / 256 % 256 = x / 16777216 % 256 := by omega
      rw [if_pos c1, if_pos c2, e, if_pos (by omega), if_pos (by omega), w16, w24]
      rfl
    · refine ⟨16, 65536, by decide, by omega, fun _ => by omega, by omega, Ev.step (f := fun _ => some _) (fun k => ?_) (Ev.now _)⟩
      simp only [bits_Len64.j0]
      rw [if_pos c1, if_neg c2, if_pos (by omega), if_pos (by omega), w16]
      rfl
  · by_cases c2 : x ≥ 256
    · refine ⟨8, 256, by decide, by omega, fun _ => by omega, by omega, Ev.step (f := fun _ => some _) (fun k => ?_) (Ev.now _)⟩
      simp only [bits_Len64.j0]
      rw [if_neg c1, if_pos c2, if_pos (by omega), if_pos (by omega), w8]
      rfl
    · refine ⟨0, 1, by decide, by omega, fun _ => by omega, by omega, Ev.step (f := fun _ => some _) (fun k => ?_) (Ev.now _)⟩
      simp only [bits_Len64.j0]
      rw [if_neg c1, if_neg c2, if_pos (by omega), if_pos (by omega), Int.ediv_one]
      simp
theorem lz_is (y : Int) (h0 : 1 ≤ y) (h1 : y < 18446744073709551616) : ∃ s : Nat, s ≤ 63 ∧ 9223372036854775808 ≤ y * p2 s ∧ y * p2 s < 18446744073709551616 ∧ Ev (fun k => bits_LeadingZeros64.f k y) (s : Int) := by
  have key : ∃ L : Nat, L ≤ 63 ∧ p2 L ≤ y ∧ y < p2 (L + 1) ∧ Ev (fun k => bits_Len64.f k y) ((L : Int) + 1) := by
    by_cases c : y ≥ 4294967296
    · obtain ⟨m, cc, e1, e2, e3, e4, e5⟩ := len_j0 (y / 4294967296) 32 (by omega) (by omega) (.inr rfl)
      have hcm : 32 + m ≤ 56 := by omega
      have hp := p2_pos m
      rw [e1] at hp
      have e7 := e3 (by omega)
      obtain ⟨L, g1, g2, g3, g4⟩ := len_put y (32 + m) (4294967296 * cc) (by rw [p2_add, e1]; rfl) hcm (by omega) (by omega)
      have hd : y / (4294967296 * cc) = y / 4294967296 / cc := (Int.ediv_ediv_of_nonneg (by decide)).symm
      rw [hd] at g1
      have hb := bt8 (y / 4294967296 / cc % 256)
      refine ⟨L, by omega, g3, g4, Ev.congr (f := fun k => bits_Len64.j0 k (y / 4294967296) 32) (fun k => by unfold bits_Len64.f; rw [if_pos c]) ?_⟩
      have e8 : wrap64 (32 + (m : Int) + wrap64 (bt Lib.len8tab (y / 4294967296 / cc % 256))) = (L : Int) + 1 := by
        rw [w64 (a := bt Lib.len8tab (y / 4294967296 / cc % 256)) (by omega) (by omega), w64 (by omega) (by omega)]; omega
      rw [e8] at e5
      exact e5
    · obtain ⟨m, cc, e1, e2, e3, e4, e5⟩ := len_j0 y 0 (by omega) (by omega) (.inl rfl)
      have e7 := e3 (by omega)
      obtain ⟨L, g1, g2, g3, g4⟩ := len_put y m cc e1 (by omega) e7 e4
      have hb := bt8 (y / cc % 256)
      refine ⟨L, by omega, g3, g4, Ev.congr (f := fun k => bits_Len64.j0 k y 0) (fun k => by unfold bits_Len64.f; rw [if_neg c]) ?_⟩
      have e8 : wrap64 (0 + (m : Int) + wrap64 (bt Lib.len8tab (y / cc % 256))) = (L : Int) + 1 := by
        rw [w64 (a := bt Lib.len8tab (y / cc % 256)) (by omega) (by omega), w64 (by omega) (by omega)]; omega
      rw [e8] at e5
      exact e5
  obtain ⟨L, h2, h3, h4, h5⟩ := key
  have p63 : p2 63 = 9223372036854775808 := by decide
  have p64 : p2 64 = 18446744073709551616 := by decide
  have hs : p2 L * p2 (63 - L) = p2 63 := by rw [← p2_add]; congr 1; omega
  have hs2 : p2 (L + 1) * p2 (63 - L) = p2 64 := by rw [← p2_add]; congr 1; omega
  have hp := p2_pos (63 - L)
  refine ⟨63 - L, by omega, ?_, ?_, Ev.bind h5 (f := fun _ t => some (wrap64 (64 - t))) (Ev.congr (f := fun _ => some _) (fun k => ?_) (Ev.now _))⟩
  · have := Int.mul_le_mul_of_nonneg_right h3 (show 0 ≤ p2 (63 - L) by omega)
    omega
  · have := Int.mul_lt_mul_of_pos_right h4 hp
    omega
  · rw [w64 (by omega) (by omega)]; congr 1; omega
/-! ### the digits of the quotient -/
theorem q_over (q Y N : Int) (hY : 0 < Y) (h : q * Y > N) : N / Y < q := Int.ediv_lt_of_lt_mul hY h
theorem q_under (q Y N : Int) (hY : 0 < Y) (h : q * Y ≤ N) : q ≤ N / Y := Int.le_ediv_of_mul_le hY h
/-- What one test of the loop tells. -/
theorem digit (y1 y0 Y un u N q r : Int) (hy1 : 2147483648 ≤ y1) (hy1' : y1 < 4294967296) (hy0 : 0 ≤ y0) (hy0' : y0 < 4294967296) (hY : Y = y1 * 4294967296 + y0) (hu0 : 0 ≤ un) (hun : un < Y) (hu : 0 ≤ u) (hu' : u < 4294967296) (hN : N = un * 4294967296 + u) (hq : q * y1 + r = un) (hr : 0 ≤ r) (hqs : q ≤ 4294967297) :
    ((q ≥ 4294967296 ∨ q * y0 > 4294967296 * r + u) → N / Y ≤ q - 1 ∧ (r + y1 ≥ 4294967296 → N / Y = q - 1)) ∧ (¬ (q ≥ 4294967296 ∨ q * y0 > 4294967296 * r + u) → q ≤ N / Y) := by
  have hYp : 0 < Y := by omega
  have e : q * Y = (un - r) * 4294967296 + q * y0 := by rw [hY, ← hq]; grind
  constructor
  · intro h
    have h1 : N / Y ≤ q - 1 := by
      have : N / Y < q := by
        rcases h with h | h
        · have : N / Y < 4294967296 := Int.ediv_lt_of_lt_mul hYp (by omega)
          omega
        · exact q_over q Y N hYp (by omega)
      omega
    refine ⟨h1, fun hb => ?_⟩
    have h2 : q - 1 ≤ N / Y := by
      refine q_under (q - 1) Y N hYp ?_
      have e2 : (q - 1) * Y = (un - (r + y1)) * 4294967296 + (q - 1) * y0 := by rw [hY, ← hq]; grind
      have e3 : (q - 1) * y0 ≤ 4294967296 * 4294967295 := by
        by_cases hq0 : 0 ≤ q - 1
        · exact Int.mul_le_mul (by omega) (by omega) hy0 (by omega)
        · have := Int.mul_nonneg (show 0 ≤ 1 - q by omega) hy0
          have e4 : (1 - q) * y0 = -((q - 1) * y0) := by grind
          omega
      omega
    omega
  · intro h
    have h1 : q < 4294967296 := by omega
    have h2 : q * y0 ≤ 4294967296 * r + u := by omega
    exact q_under q Y N hYp (by omega)
theorem first_q (y1 y0 Y un u N : Int) (hy1 : 2147483648 ≤ y1) (hy1' : y1 < 4294967296) (hy0 : 0 ≤ y0) (hy0' : y0 < 4294967296) (hY : Y = y1 * 4294967296 + y0) (hu0 : 0 ≤ un) (hun : un < Y) (hu : 0 ≤ u) (hu' : u < 4294967296) (hN : N = un * 4294967296 + u) :
    N / Y ≤ un / y1 ∧ un / y1 ≤ 4294967297 ∧ 0 ≤ un / y1 ∧ un / y1 * y1 + un % y1 = un ∧ 0 ≤ un % y1 ∧ un % y1 < y1 := by
  have h1 := Int.emod_add_mul_ediv un y1
  have h2 := Int.emod_nonneg un (show y1 ≠ 0 by omega)
  have h3 := Int.emod_lt_of_pos un (show 0 < y1 by omega)
  have h4 := Int.ediv_nonneg hu0 (show 0 ≤ y1 by omega)
  generalize un / y1 = q at *
  generalize un % y1 = r at *
  have e : q * y1 + r = un := by rw [← h1]; grind
  refine ⟨?_, ?_, h4, e, h2, h3⟩
  · have : N / Y < q + 1 := by
      refine q_over (q + 1) Y N (by omega) ?_
      have e2 : (q + 1) * Y = (q * y1 + y1) * 4294967296 + (q + 1) * y0 := by rw [hY]; grind
      have e3 := Int.mul_nonneg (show 0 ≤ q + 1 by omega) hy0
      omega
    omega
  · apply Int.le_of_not_gt
    intro h
    have := Int.mul_le_mul_of_nonneg_right (show 4294967298 ≤ q by omega) (show 0 ≤ y1 by omega)
    omega
theorem loop0 (Y s y1 y0 un u u0 N : Int) (hy1 : 2147483648 ≤ y1) (hy1' : y1 < 4294967296) (hy0 : 0 ≤ y0) (hy0' : y0 < 4294967296) (hY : Y = y1 * 4294967296 + y0) (hu0 : 0 ≤ un) (hun : un < Y) (hu : 0 ≤ u) (hu' : u < 4294967296) (hN : N = un * 4294967296 + u) (R : Int × Int)
    (hR : Ev (fun k => bits_Div64.j2 k Y s y1 y0 un u u0 (N / Y)) R) : ∀ (g : Nat) (q r : Int), q - N / Y ≤ g → 0 ≤ q → N / Y ≤ q → q ≤ 4294967297 → q * y1 + r = un → 0 ≤ r → r < 4294967296 → Ev (fun k => bits_Div64.l0 k Y s y1 y0 un u u0 q r) R
  | g, q, r, hg, hq0, hq1, hq2, hq3, hr0, hr1 => by
    have hd := digit y1 y0 Y un u N q r hy1 hy1' hy0 hy0' hY hu0 hun hu hu' hN hq3 hr0 hq2
    have hw : IntKind.u64.wrap (IntKind.u64.wrap (4294967296 * r) + u) = 4294967296 * r + u := by
      rw [u64_in (a := 4294967296 * r) (by omega) (by omega), u64_in (by omega) (by omega)]
    have hstep : ∀ k, bits_Div64.l0 (k + 1) Y s y1 y0 un u u0 q r = bits_Div64.j1 k Y s y1 y0 un u u0 q r (decide (q ≥ 4294967296 ∨ q * y0 > 4294967296 * r + u)) := fun k => by
      simp only [bits_Div64.l0]
      by_cases h : q ≥ 4294967296
      · rw [if_pos h, decide_eq_true (.inl h)]
      · rw [if_neg h, hw]
        have hm := Int.mul_le_mul (show q ≤ 4294967295 by omega) (show y0 ≤ 4294967295 by omega) hy0 (by omega)
        have hm0 := Int.mul_nonneg hq0 hy0
        rw [u64_in hm0 (by omega)]
        congr 1
        simp [h]
    by_cases h : q ≥ 4294967296 ∨ q * y0 > 4294967296 * r + u
    · obtain ⟨d1, d2⟩ := hd.1 h
      have hNn : 0 ≤ N / Y := Int.ediv_nonneg (by omega) (by omega)
      have hw1 : IntKind.u64.wrap (q - 1) = q - 1 := u64_in (by omega) (by omega)
      have hw2 : IntKind.u64.wrap (r + y1) = r + y1 := u64_in (by omega) (by omega)
      by_cases hb : r + y1 ≥ 4294967296
      · refine Ev.step hstep (Ev.step (fun k => ?_) hR)
        simp only [bits_Div64.j1]
        rw [if_pos (by simpa using h), hw1, hw2, if_pos hb, d2 hb]
      · match g, hg with
        | 0, hg => omega
        | g + 1, hg =>
          have ih := loop0 Y s y1 y0 un u u0 N hy1 hy1' hy0 hy0' hY hu0 hun hu hu' hN R hR g (q - 1) (r + y1) (by omega) (by omega) (by omega) (by omega) (by rw [← hq3]; grind) (by omega) (by omega)
          refine Ev.step hstep (Ev.step (fun k => ?_) ih)
          simp only [bits_Div64.j1]
          rw [if_pos (by simpa using h), hw1, hw2, if_neg hb]
    · have hd2 := hd.2 h
      have : q = N / Y := by omega
      refine Ev.step hstep (Ev.step (fun k => ?_) hR)
      simp only [bits_Div64.j1]
      rw [if_neg (by simpa using h), this]
theorem loop1 (Y s y1 y0 un u q1 N : Int) (hs : 0 ≤ s) (hy1 : 2147483648 ≤ y1) (hy1' : y1 < 4294967296) (hy0 : 0 ≤ y0) (hy0' : y0 < 4294967296) (hY : Y = y1 * 4294967296 + y0) (hu0 : 0 ≤ un) (hun : un < Y) (hu : 0 ≤ u) (hu' : u < 4294967296) (hN : N = un * 4294967296 + u) : ∀ (g : Nat) (q r : Int), q - N / Y ≤ g → 0 ≤ q → N / Y ≤ q → q ≤ 4294967297 → q * y1 + r = un → 0 ≤ r → r < 4294967296 →
    Ev (fun k => bits_Div64.l1 k Y s y1 y0 u q1 r un q) (IntKind.u64.wrap (IntKind.u64.wrap (q1 * 4294967296) + N / Y), shr .u64 (IntKind.u64.wrap (IntKind.u64.wrap (IntKind.u64.wrap (un * 4294967296) + u) - IntKind.u64.wrap (N / Y * Y))) s)
  | g, q, r, hg, hq0, hq1, hq2, hq3, hr0, hr1 => by
    have hd := digit y1 y0 Y un u N q r hy1 hy1' hy0 hy0' hY hu0 hun hu hu' hN hq3 hr0 hq2
    have hw : IntKind.u64.wrap (IntKind.u64.wrap (4294967296 * r) + u) = 4294967296 * r + u := by
      rw [u64_in (a := 4294967296 * r) (by omega) (by omega), u64_in (by omega) (by omega)]
    have hstep : ∀ k, bits_Div64.l1 (k + 1) Y s y1 y0 u q1 r un q = bits_Div64.j4 k Y s y1 y0 u q1 r un q (decide (q ≥ 4294967296 ∨ q * y0 > 4294967296 * r + u)) := fun k => by
      simp only [bits_Div64.l1]
      by_cases h : q ≥ 4294967296
      · rw [if_pos h, decide_eq_true (.inl h)]
      · rw [if_neg h, hw]
        have hm := Int.mul_le_mul (show q ≤ 4294967295 by omega) (show y0 ≤ 4294967295 by omega) hy0 (by omega)
        have hm0 := Int.mul_nonneg hq0 hy0
        rw [u64_in hm0 (by omega)]
        congr 1
        simp [h]
    by_cases h : q ≥ 4294967296 ∨ q * y0 > 4294967296 * r + u
    · obtain ⟨d1, d2⟩ := hd.1 h
      have hNn : 0 ≤ N / Y := Int.ediv_nonneg (by omega) (by omega)
      have hw1 : IntKind.u64.wrap (q - 1) = q - 1 := u64_in (by omega) (by omega)
      have hw2 : IntKind.u64.wrap (r + y1) = r + y1 := u64_in (by omega) (by omega)
      by_cases hb : r + y1 ≥ 4294967296
      · refine Ev.step hstep (Ev.step (f := fun _ => some _) (fun k => ?_) (Ev.now _))
        simp only [bits_Div64.j4]
        rw [if_pos (by simpa using h), hw1, hw2, if_pos hb, if_pos hs, d2 hb]
      · match g, hg with
        | 0, hg => omega
        | g + 1, hg =>
          have ih := loop1 Y s y1 y0 un u q1 N hs hy1 hy1' hy0 hy0' hY hu0 hun hu hu' hN g (q - 1) (r + y1) (by omega) (by omega) (by omega) (by omega) (by rw [← hq3]; grind) (by omega) (by omega)
          refine Ev.step hstep (Ev.step (fun k => ?_) ih)
          simp only [bits_Div64.j4]
          rw [if_pos (by simpa using h), hw1, hw2, if_neg hb]
    · have hd2 := hd.2 h
      have : q = N / Y := by omega
      refine Ev.step hstep (Ev.step (f := fun _ => some _) (fun k => ?_) (Ev.now _))
      simp only [bits_Div64.j4]
      rw [if_neg (by simpa using h), if_pos hs, this]
end Go.Proofs.YtdplfphgomckfaaDoor.Bv
