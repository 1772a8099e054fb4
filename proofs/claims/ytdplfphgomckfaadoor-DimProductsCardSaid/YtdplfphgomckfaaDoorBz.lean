/- math/bits' Div64, as numbers: the quotient and the rest of two words by one. Conditions: as each theorem states. -/
import Derived.Test.YtdplfphgomckfaaDoorOWx7
import Derived.Test.YtdplfphgomckfaaDoorBy2
import Derived.Test.YtdplfphgomckfaaDoorOWx7
namespace Go.Proofs.YtdplfphgomckfaaDoor.Bv
set_option linter.unusedVariables false
set_option linter.unusedSimpArgs false
open Go.RowKit Go.Proofs.YtdplfphgomckfaaDoorW.PrintWords Go.Proofs.YtdplfphgomckfaaDoorW.PrintMore Go.Proofs.YtdplfphgomckfaaDoor.OW Go.Proofs.YtdplfphgomckfaaDoor.Bn
/-! ### Len64 -/
def lenOk (v : Nat) : Bool := if v = 0 then bt Lib.len8tab (v : Int) == 0 else (match bt Lib.len8tab (v : Int) with | .ofNat (m + 1) => decide (m < 8 ∧ 2 ^ m ≤ v ∧ v < 2 ^ (m + 1)) | _ => false)
set_option maxRecDepth 100000 in
theorem len_all : (List.range 256).all lenOk = true := by decide
theorem len_at (v : Int) (h0 : 1 ≤ v) (h1 : v < 256) : ∃ m : Nat, bt Lib.len8tab v = (m : Int) + 1 ∧ m < 8 ∧ p2 m ≤ v ∧ v < p2 (m + 1) := by
 obtain ⟨n, rfl⟩ := Int.eq_ofNat_of_zero_le (show 0 ≤ v by omega)
 have h := (List.all_eq_true.1 len_all) n (by rw [List.mem_range]; omega)
 unfold lenOk at h
 rw [if_neg (by omega)] at h
 split at h
 ·next m hm =>
  rw [decide_eq_true_eq] at h
  refine ⟨m, by rw [hm]; rfl, h.1, ?_, ?_⟩
  ·rw [p2_eq]; have := h.2.1; exact_mod_cast this
  ·rw [p2_eq]; have := h.2.2; exact_mod_cast this
 ·cases h
set_option maxRecDepth 100000 in
theorem size_8 : Lib.len8tab.size = 256 := by decide
theorem p2_add (m : Nat) : ∀ n, p2 (m + n) = p2 m * p2 n
 | 0 => by simp [p2]
 | n + 1 => by rw [← Nat.add_assoc, p2, p2, p2_add m n]; grind
theorem size8 : (Lib.len8tab.size : Int) = 256 := by
 rw [size_8]; rfl
/-- One place of the table: what it tells of a number that was shifted by m bits. -/
theorem len_put (y : Int) (m : Nat) (c : Int) (hm : p2 m = c) (hc : m ≤ 56) (h0 : c ≤ y) (h1 : y < 256 * c) : ∃ L : Nat, (m : Int) + bt Lib.len8tab (y / c % 256) = (L : Int) + 1 ∧ L < m + 8 ∧ p2 L ≤ y ∧ y < p2 (L + 1) := by
 have hp := p2_pos m
 rw [hm] at hp
 have h2 : y / c < 256 := Int.ediv_lt_of_lt_mul hp h1
 have h3 : 1 ≤ y / c := Int.le_ediv_of_mul_le hp (by omega)
 have e : y / c % 256 = y / c := Int.emod_eq_of_lt (by omega) h2
 obtain ⟨n, e1, e2, e3, e4⟩ := len_at (y / c) h3 h2
 have h5 := Int.emod_add_mul_ediv y c
 have h6 := Int.emod_nonneg y (show c ≠ 0 by omega)
 have h7 := Int.emod_lt_of_pos y hp
 refine ⟨m + n, by rw [e, e1]; omega, by omega, ?_, ?_⟩
 ·rw [p2_add, hm]
  have := Int.mul_le_mul_of_nonneg_left e3 (show 0 ≤ c by omega)
  omega
 ·rw [Nat.add_assoc, p2_add, hm]
  have := Int.mul_le_mul_of_nonneg_left (show y / c + 1 ≤ p2 (n + 1) by omega) (show 0 ≤ c by omega)
  rw [Int.mul_add] at this
  omega
theorem w_add (k a : Int) (hk : 0 ≤ k ∧ k ≤ 56) (ha : 0 ≤ a ∧ a ≤ 8) : wrap64 (k + wrap64 a) = k + a := by
 rw [w64 (a := a) (by omega) (by omega), w64 (by omega) (by omega)]
theorem bt8 (v : Int) : 0 ≤ bt Lib.len8tab v ∧ bt Lib.len8tab v ≤ 255 := bt_range _ _
/-- j0, with the offset x2 (0 or 32) on a number below 2^32. -/
theorem len_j0 (x x2 : Int) (h0 : 0 ≤ x) (h1 : x < 4294967296) (h2 : x2 = 0 ∨ x2 = 32) : ∃ (m : Nat) (c : Int), p2 m = c ∧ m ≤ 24 ∧ (1 ≤ x → c ≤ x) ∧ x < 256 * c ∧ Ev (fun k => bits_Len64.j0 k x x2) (wrap64 (x2 + m + wrap64 (bt Lib.len8tab (x / c % 256)))) := by
 have hs := size8
 have w16 : wrap64 (x2 + 16) = x2 + 16 := w64 (by omega) (by omega)
 have w24 : wrap64 (x2 + 16 + 8) = x2 + 24 := by rw [w64 (by omega) (by omega)]; omega
 have w8 : wrap64 (x2 + 8) = x2 + 8 := w64 (by omega) (by omega)
 by_cases c1 : x ≥ 65536
 ·by_cases c2 : x / 65536 ≥ 256
  ·refine ⟨24, 16777216, by decide, by omega, fun _ => by omega, by omega, Ev.step (f := fun _ => some _) (fun k => ?_) (Ev.now _)⟩
   simp only [bits_Len64.j0]
   have e : x / 65536 / 256 % 256 = x / 16777216 % 256 := by omega
   rw [if_pos c1, if_pos c2, e, if_pos (by omega), if_pos (by omega), w16, w24]
   rfl
  ·refine ⟨16, 65536, by decide, by omega, fun _ => by omega, by omega, Ev.step (f := fun _ => some _) (fun k => ?_) (Ev.now _)⟩
   simp only [bits_Len64.j0]
   rw [if_pos c1, if_neg c2, if_pos (by omega), if_pos (by omega), w16]
   rfl
 ·by_cases c2 : x ≥ 256
  ·refine ⟨8, 256, by decide, by omega, fun _ => by omega, by omega, Ev.step (f := fun _ => some _) (fun k => ?_) (Ev.now _)⟩
   simp only [bits_Len64.j0]
   rw [if_neg c1, if_pos c2, if_pos (by omega), if_pos (by omega), w8]
   rfl
  ·refine ⟨0, 1, by decide, by omega, fun _ => by omega, by omega, Ev.step (f := fun _ => some _) (fun k => ?_) (Ev.now _)⟩
   simp only [bits_Len64.j0]
   rw [if_neg c1, if_neg c2, if_pos (by omega), if_pos (by omega), Int.ediv_one]
   simp
theorem lz_is (y : Int) (h0 : 1 ≤ y) (h1 : y < 18446744073709551616) : ∃ s : Nat, s ≤ 63 ∧ 9223372036854775808 ≤ y * p2 s ∧ y * p2 s < 18446744073709551616 ∧ Ev (fun k => bits_LeadingZeros64.f k y) (s : Int) := by
 have key : ∃ L : Nat, L ≤ 63 ∧ p2 L ≤ y ∧ y < p2 (L + 1) ∧ Ev (fun k => bits_Len64.f k y) ((L : Int) + 1) := by
  by_cases c : y ≥ 4294967296
  ·obtain ⟨m, cc, e1, e2, e3, e4, e5⟩ := len_j0 (y / 4294967296) 32 (by omega) (by omega) (.inr rfl)
   have hcm : 32 + m ≤ 56 := by omega
   have hp := p2_pos m
   rw [e1] at hp
   have e7 := e3 (by omega)
   obtain ⟨L, g1, g2, g3, g4⟩ := len_put y (32 + m) (4294967296 * cc) (by rw [p2_add, e1]; rfl) hcm (by omega) (by omega)
   have hd : y / (4294967296 * cc) = y / 4294967296 / cc := (Int.ediv_ediv_of_nonneg (by decide)).symm
   rw [hd] at g1
   have hb := bt8 (y / 4294967296 / cc % 256)
   refine ⟨L, by omega, g3, g4, Ev.congr (f := fun k => bits_Len64.j0 k (y / 4294967296) 32) (fun k => by unfold bits_Len64.f; rw [if_pos c]) ?_⟩
   have e8 : wrap64 (32 + (m : Int) + wrap64 (bt Lib.len8tab (y / 4294967296 / cc % 256))) = (L : Int) + 1 := by
    rw [w64 (a := bt Lib.len8tab (y / 4294967296 / cc % 256)) (by omega) (by omega), w64 (by omega) (by omega)]; omega
   rw [e8] at e5
   exact e5
  ·obtain ⟨m, cc, e1, e2, e3, e4, e5⟩ := len_j0 y 0 (by omega) (by omega) (.inl rfl)
   have e7 := e3 (by omega)
   obtain ⟨L, g1, g2, g3, g4⟩ := len_put y m cc e1 (by omega) e7 e4
   have hb := bt8 (y / cc % 256)
   refine ⟨L, by omega, g3, g4, Ev.congr (f := fun k => bits_Len64.j0 k y 0) (fun k => by unfold bits_Len64.f; rw [if_neg c]) ?_⟩
   have e8 : wrap64 (0 + (m : Int) + wrap64 (bt Lib.len8tab (y / cc % 256))) = (L : Int) + 1 := by
    rw [w64 (a := bt Lib.len8tab (y / cc % 256)) (by omega) (by omega), w64 (by omega) (by omega)]; omega
   rw [e8] at e5
   exact e5
 obtain ⟨L, h2, h3, h4, h5⟩ := key
 have p63 : p2 63 = 9223372036854775808 := by decide
 have p64 : p2 64 = 18446744073709551616 := by decide
 have hs : p2 L * p2 (63 - L) = p2 63 := by rw [← p2_add]; congr 1; omega
 have hs2 : p2 (L + 1) * p2 (63 - L) = p2 64 := by rw [← p2_add]; congr 1; omega
 have hp := p2_pos (63 - L)
 refine ⟨63 - L, by omega, ?_, ?_, Ev.bind h5 (f := fun _ t => some (wrap64 (64 - t))) (Ev.congr (f := fun _ => some _) (fun k => ?_) (Ev.now _))⟩
 ·have := Int.mul_le_mul_of_nonneg_right h3 (show 0 ≤ p2 (63 - L) by omega)
  omega
 ·have := Int.mul_lt_mul_of_pos_right h4 hp
  omega
 ·rw [w64 (by omega) (by omega)]; congr 1; omega
/-! ### the digits of the quotient -/
theorem q_over (q Y N : Int) (hY : 0 < Y) (h : q * Y > N) : N / Y < q := Int.ediv_lt_of_lt_mul hY h
theorem q_under (q Y N : Int) (hY : 0 < Y) (h : q * Y ≤ N) : q ≤ N / Y := Int.le_ediv_of_mul_le hY h
/-- What one test of the loop tells. -/
theorem digit (y1 y0 Y un u N q r : Int) (hy1 : 2147483648 ≤ y1) (hy1' : y1 < 4294967296) (hy0 : 0 ≤ y0) (hy0' : y0 < 4294967296) (hY : Y = y1 * 4294967296 + y0) (hu0 : 0 ≤ un) (hun : un < Y) (hu : 0 ≤ u) (hu' : u < 4294967296) (hN : N = un * 4294967296 + u) (hq : q * y1 + r = un) (hr : 0 ≤ r) (hqs : q ≤ 4294967297) :
  ((q ≥ 4294967296 ∨ q * y0 > 4294967296 * r + u) → N / Y ≤ q - 1 ∧ (r + y1 ≥ 4294967296 → N / Y = q - 1)) ∧ (¬ (q ≥ 4294967296 ∨ q * y0 > 4294967296 * r + u) → q ≤ N / Y) := by
 have hYp : 0 < Y := by omega
 have e : q * Y = (un - r) * 4294967296 + q * y0 := by rw [hY, ← hq]; grind
 constructor
 ·intro h
  have h1 : N / Y ≤ q - 1 := by
   have : N / Y < q := by
    rcases h with h | h
    ·have : N / Y < 4294967296 := Int.ediv_lt_of_lt_mul hYp (by omega)
     omega
    ·exact q_over q Y N hYp (by omega)
   omega
  refine ⟨h1, fun hb => ?_⟩
  have h2 : q - 1 ≤ N / Y := by
   refine q_under (q - 1) Y N hYp ?_
   have e2 : (q - 1) * Y = (un - (r + y1)) * 4294967296 + (q - 1) * y0 := by rw [hY, ← hq]; grind
   have e3 : (q - 1) * y0 ≤ 4294967296 * 4294967295 := by
    by_cases hq0 : 0 ≤ q - 1
    ·exact Int.mul_le_mul (by omega) (by omega) hy0 (by omega)
    ·have := Int.mul_nonneg (show 0 ≤ 1 - q by omega) hy0
     have e4 : (1 - q) * y0 = -((q - 1) * y0) := by grind
     omega
   omega
  omega
 ·intro h
  have h1 : q < 4294967296 := by omega
  have h2 : q * y0 ≤ 4294967296 * r + u := by omega
  exact q_under q Y N hYp (by omega)
theorem first_q (y1 y0 Y un u N : Int) (hy1 : 2147483648 ≤ y1) (hy1' : y1 < 4294967296) (hy0 : 0 ≤ y0) (hy0' : y0 < 4294967296) (hY : Y = y1 * 4294967296 + y0) (hu0 : 0 ≤ un) (hun : un < Y) (hu : 0 ≤ u) (hu' : u < 4294967296) (hN : N = un * 4294967296 + u) :
  N / Y ≤ un / y1 ∧ un / y1 ≤ 4294967297 ∧ 0 ≤ un / y1 ∧ un / y1 * y1 + un % y1 = un ∧ 0 ≤ un % y1 ∧ un % y1 < y1 := by
 have h1 := Int.emod_add_mul_ediv un y1
 have h2 := Int.emod_nonneg un (show y1 ≠ 0 by omega)
 have h3 := Int.emod_lt_of_pos un (show 0 < y1 by omega)
 have h4 := Int.ediv_nonneg hu0 (show 0 ≤ y1 by omega)
 generalize un / y1 = q at *
 generalize un % y1 = r at *
 have e : q * y1 + r = un := by rw [← h1]; grind
 refine ⟨?_, ?_, h4, e, h2, h3⟩
 ·have : N / Y < q + 1 := by
   refine q_over (q + 1) Y N (by omega) ?_
   have e2 : (q + 1) * Y = (q * y1 + y1) * 4294967296 + (q + 1) * y0 := by rw [hY]; grind
   have e3 := Int.mul_nonneg (show 0 ≤ q + 1 by omega) hy0
   omega
  omega
 ·apply Int.le_of_not_gt
  intro h
  have := Int.mul_le_mul_of_nonneg_right (show 4294967298 ≤ q by omega) (show 0 ≤ y1 by omega)
  omega
theorem loop0 (Y s y1 y0 un u u0 N : Int) (hy1 : 2147483648 ≤ y1) (hy1' : y1 < 4294967296) (hy0 : 0 ≤ y0) (hy0' : y0 < 4294967296) (hY : Y = y1 * 4294967296 + y0) (hu0 : 0 ≤ un) (hun : un < Y) (hu : 0 ≤ u) (hu' : u < 4294967296) (hN : N = un * 4294967296 + u) (R : Int × Int)
  (hR : Ev (fun k => bits_Div64.j2 k Y s y1 y0 un u u0 (N / Y)) R) : ∀ (g : Nat) (q r : Int), q - N / Y ≤ g → 0 ≤ q → N / Y ≤ q → q ≤ 4294967297 → q * y1 + r = un → 0 ≤ r → r < 4294967296 → Ev (fun k => bits_Div64.l0 k Y s y1 y0 un u u0 q r) R
 | g, q, r, hg, hq0, hq1, hq2, hq3, hr0, hr1 => by
  have hd := digit y1 y0 Y un u N q r hy1 hy1' hy0 hy0' hY hu0 hun hu hu' hN hq3 hr0 hq2
  have hw : IntKind.u64.wrap (IntKind.u64.wrap (4294967296 * r) + u) = 4294967296 * r + u := by
   rw [u64_in (a := 4294967296 * r) (by omega) (by omega), u64_in (by omega) (by omega)]
  have hstep : ∀ k, bits_Div64.l0 (k + 1) Y s y1 y0 un u u0 q r = bits_Div64.j1 k Y s y1 y0 un u u0 q r (decide (q ≥ 4294967296 ∨ q * y0 > 4294967296 * r + u)) := fun k => by
   simp only [bits_Div64.l0]
   by_cases h : q ≥ 4294967296
   ·rw [if_pos h, decide_eq_true (.inl h)]
   ·rw [if_neg h, hw]
    have hm := Int.mul_le_mul (show q ≤ 4294967295 by omega) (show y0 ≤ 4294967295 by omega) hy0 (by omega)
    have hm0 := Int.mul_nonneg hq0 hy0
    rw [u64_in hm0 (by omega)]
    congr 1
    simp [h]
  by_cases h : q ≥ 4294967296 ∨ q * y0 > 4294967296 * r + u
  ·obtain ⟨d1, d2⟩ := hd.1 h
   have hNn : 0 ≤ N / Y := Int.ediv_nonneg (by omega) (by omega)
   have hw1 : IntKind.u64.wrap (q - 1) = q - 1 := u64_in (by omega) (by omega)
   have hw2 : IntKind.u64.wrap (r + y1) = r + y1 := u64_in (by omega) (by omega)
   by_cases hb : r + y1 ≥ 4294967296
   ·refine Ev.step hstep (Ev.step (fun k => ?_) hR)
    simp only [bits_Div64.j1]
    rw [if_pos (by simpa using h), hw1, hw2, if_pos hb, d2 hb]
   ·match g, hg with
    | 0, hg => omega
    | g + 1, hg =>
     have ih := loop0 Y s y1 y0 un u u0 N hy1 hy1' hy0 hy0' hY hu0 hun hu hu' hN R hR g (q - 1) (r + y1) (by omega) (by omega) (by omega) (by omega) (by rw [← hq3]; grind) (by omega) (by omega)
     refine Ev.step hstep (Ev.step (fun k => ?_) ih)
     simp only [bits_Div64.j1]
     rw [if_pos (by simpa using h), hw1, hw2, if_neg hb]
  ·have hd2 := hd.2 h
   have : q = N / Y := by omega
   refine Ev.step hstep (Ev.step (fun k => ?_) hR)
   simp only [bits_Div64.j1]
   rw [if_neg (by simpa using h), this]
theorem loop1 (Y s y1 y0 un u q1 N : Int) (hs : 0 ≤ s) (hy1 : 2147483648 ≤ y1) (hy1' : y1 < 4294967296) (hy0 : 0 ≤ y0) (hy0' : y0 < 4294967296) (hY : Y = y1 * 4294967296 + y0) (hu0 : 0 ≤ un) (hun : un < Y) (hu : 0 ≤ u) (hu' : u < 4294967296) (hN : N = un * 4294967296 + u) : ∀ (g : Nat) (q r : Int), q - N / Y ≤ g → 0 ≤ q → N / Y ≤ q → q ≤ 4294967297 → q * y1 + r = un → 0 ≤ r → r < 4294967296 →
  Ev (fun k => bits_Div64.l1 k Y s y1 y0 u q1 r un q) (IntKind.u64.wrap (IntKind.u64.wrap (q1 * 4294967296) + N / Y), shr .u64 (IntKind.u64.wrap (IntKind.u64.wrap (IntKind.u64.wrap (un * 4294967296) + u) - IntKind.u64.wrap (N / Y * Y))) s)
 | g, q, r, hg, hq0, hq1, hq2, hq3, hr0, hr1 => by
  have hd := digit y1 y0 Y un u N q r hy1 hy1' hy0 hy0' hY hu0 hun hu hu' hN hq3 hr0 hq2
  have hw : IntKind.u64.wrap (IntKind.u64.wrap (4294967296 * r) + u) = 4294967296 * r + u := by
   rw [u64_in (a := 4294967296 * r) (by omega) (by omega), u64_in (by omega) (by omega)]
  have hstep : ∀ k, bits_Div64.l1 (k + 1) Y s y1 y0 u q1 r un q = bits_Div64.j4 k Y s y1 y0 u q1 r un q (decide (q ≥ 4294967296 ∨ q * y0 > 4294967296 * r + u)) := fun k => by
   simp only [bits_Div64.l1]
   by_cases h : q ≥ 4294967296
   ·rw [if_pos h, decide_eq_true (.inl h)]
   ·rw [if_neg h, hw]
    have hm := Int.mul_le_mul (show q ≤ 4294967295 by omega) (show y0 ≤ 4294967295 by omega) hy0 (by omega)
    have hm0 := Int.mul_nonneg hq0 hy0
    rw [u64_in hm0 (by omega)]
    congr 1
    simp [h]
  by_cases h : q ≥ 4294967296 ∨ q * y0 > 4294967296 * r + u
  ·obtain ⟨d1, d2⟩ := hd.1 h
   have hNn : 0 ≤ N / Y := Int.ediv_nonneg (by omega) (by omega)
   have hw1 : IntKind.u64.wrap (q - 1) = q - 1 := u64_in (by omega) (by omega)
   have hw2 : IntKind.u64.wrap (r + y1) = r + y1 := u64_in (by omega) (by omega)
   by_cases hb : r + y1 ≥ 4294967296
   ·refine Ev.step hstep (Ev.step (f := fun _ => some _) (fun k => ?_) (Ev.now _))
    simp only [bits_Div64.j4]
    rw [if_pos (by simpa using h), hw1, hw2, if_pos hb, if_pos hs, d2 hb]
   ·match g, hg with
    | 0, hg => omega
    | g + 1, hg =>
     have ih := loop1 Y s y1 y0 un u q1 N hs hy1 hy1' hy0 hy0' hY hu0 hun hu hu' hN g (q - 1) (r + y1) (by omega) (by omega) (by omega) (by omega) (by rw [← hq3]; grind) (by omega) (by omega)
     refine Ev.step hstep (Ev.step (fun k => ?_) ih)
     simp only [bits_Div64.j4]
     rw [if_pos (by simpa using h), hw1, hw2, if_neg hb]
  ·have hd2 := hd.2 h
   have : q = N / Y := by omega
   refine Ev.step hstep (Ev.step (f := fun _ => some _) (fun k => ?_) (Ev.now _))
   simp only [bits_Div64.j4]
   rw [if_neg (by simpa using h), if_pos hs, this]
end Go.Proofs.YtdplfphgomckfaaDoor.Bv
/- fix's sums, differences, Scale, as numbers: over math/bits' Div64. Conditions: as each theorem states. -/
namespace Go.Proofs.YtdplfphgomckfaaDoor.Bw
set_option linter.unusedVariables false
set_option linter.unusedSimpArgs false
open Go.RowKit Go.Proofs.YtdplfphgomckfaaDoorW.PrintWords Go.Proofs.YtdplfphgomckfaaDoorW.PrintMore Go.Proofs.YtdplfphgomckfaaDoor.OW Go.Proofs.YtdplfphgomckfaaDoor.Bn Go.Proofs.YtdplfphgomckfaaDoor.Bv
theorem j2_is (Y s y1 y0 un u u0 N : Int) (hs : 0 ≤ s) (hy1 : 2147483648 ≤ y1) (hy1' : y1 < 4294967296) (hy0 : 0 ≤ y0) (hy0' : y0 < 4294967296) (hY : Y = y1 * 4294967296 + y0) (hu0 : 0 ≤ un) (hun : un < Y) (hu : 0 ≤ u) (hu' : u < 4294967296) (hv : 0 ≤ u0) (hv' : u0 < 4294967296) (hN : N = un * 4294967296 + u) :
  Ev (fun k => bits_Div64.j2 k Y s y1 y0 un u u0 (N / Y)) (N / Y * 4294967296 + (N % Y * 4294967296 + u0) / Y, shr .u64 ((N % Y * 4294967296 + u0) % Y) s) := by
 have hYp : 0 < Y := by omega
 have h1 := Int.emod_add_mul_ediv N Y
 have h2 := Int.emod_nonneg N (show Y ≠ 0 by omega)
 have h3 := Int.emod_lt_of_pos N hYp
 have h4 : 0 ≤ N / Y := Int.ediv_nonneg (by omega) (by omega)
 have h5 : N / Y < 4294967296 := Int.ediv_lt_of_lt_mul hYp (by omega)
 generalize hQ : N / Y = Q at *
 generalize hR : N % Y = R at *
 have hun21 : IntKind.u64.wrap (IntKind.u64.wrap (IntKind.u64.wrap (un * 4294967296) + u) - IntKind.u64.wrap (Q * Y)) = R := by
  have e : R = un * 4294967296 + u - Q * Y := by rw [← hN, ← h1]; grind
  rw [u64_eq, u64_eq, u64_eq, u64_eq]
  omega
 obtain ⟨q1, q2, q3, q4, q5, q6⟩ := first_q y1 y0 Y R u0 (R * 4294967296 + u0) hy1 hy1' hy0 hy0' hY h2 h3 hv hv' rfl
 have hq0 : IntKind.u64.wrap (Int.tdiv R y1) = R / y1 := by rw [Int.tdiv_eq_ediv_of_nonneg h2, u64_in q3 (by omega)]
 have hr0 : IntKind.u64.wrap (R - IntKind.u64.wrap (R / y1 * y1)) = R % y1 := by
  have hle : 0 ≤ R / y1 * y1 := Int.mul_nonneg q3 (by omega)
  rw [u64_in (a := R / y1 * y1) hle (by omega), u64_in (by omega) (by omega)]
  omega
 have hM : 0 ≤ R * 4294967296 + u0 := by omega
 have m1 := Int.emod_add_mul_ediv (R * 4294967296 + u0) Y
 have m2 := Int.emod_nonneg (R * 4294967296 + u0) (show Y ≠ 0 by omega)
 have m3 := Int.emod_lt_of_pos (R * 4294967296 + u0) hYp
 have m4 : 0 ≤ (R * 4294967296 + u0) / Y := Int.ediv_nonneg hM (by omega)
 have m5 : (R * 4294967296 + u0) / Y < 4294967296 := Int.ediv_lt_of_lt_mul hYp (by omega)
 have hl := loop1 Y s y1 y0 R u0 Q (R * 4294967296 + u0) hs hy1 hy1' hy0 hy0' hY h2 h3 hv hv' rfl (R / y1 - (R * 4294967296 + u0) / Y).toNat (R / y1) (R % y1) (by omega) q3 q1 q2 q4 q5 (by omega)
 generalize (R * 4294967296 + u0) / Y = Q2 at *
 generalize hR2 : (R * 4294967296 + u0) % Y = R2 at *
 have f1 : IntKind.u64.wrap (IntKind.u64.wrap (Q * 4294967296) + Q2) = Q * 4294967296 + Q2 := by
  rw [u64_in (a := Q * 4294967296) (by omega) (by omega), u64_in (by omega) (by omega)]
 have f2 : IntKind.u64.wrap (IntKind.u64.wrap (IntKind.u64.wrap (R * 4294967296) + u0) - IntKind.u64.wrap (Q2 * Y)) = R2 := by
  have e : R2 = R * 4294967296 + u0 - Q2 * Y := by rw [← m1]; grind
  rw [u64_eq, u64_eq, u64_eq, u64_eq]
  omega
 rw [f1, f2] at hl
 refine Ev.step (fun k => ?_) hl
 simp only [bits_Div64.j2]
 rw [if_neg (by omega), hun21, hq0, hr0]
theorem or_is (A b : Int) (s : Nat) (hs : s ≤ 64) (hA : 0 ≤ A) (hA' : A * p2 s < 18446744073709551616) (hb : 0 ≤ b) (hb' : b < p2 s) : Go.bits .or .u64 (A * p2 s) b = A * p2 s + b := by
 obtain ⟨a, rfl⟩ := Int.eq_ofNat_of_zero_le hA
 obtain ⟨c, rfl⟩ := Int.eq_ofNat_of_zero_le hb
 have hp : p2 s = ((2 ^ s : Nat) : Int) := by rw [p2_eq, Int.natCast_pow]; rfl
 have h64 : 2 ^ s ≤ 2 ^ 64 := Nat.pow_le_pow_right (by omega) hs
 have e64 : (2 : Nat) ^ 64 = 18446744073709551616 := by decide
 have h2 := fun (hc : c < 2 ^ s) => Nat.shiftLeft_add_eq_or_of_lt hc a
 rw [Nat.shiftLeft_eq] at h2
 rw [e64] at h64
 generalize 2 ^ s = P at *
 rw [hp] at hA' hb' ⊢
 rw [← Int.natCast_mul] at hA' ⊢
 generalize a * P = K at *
 have h := bits_or_u64_nat K c (by omega) (by omega)
 rw [h, ← h2 (by omega)]
 omega
theorem and_low (v : Int) (h0 : 0 ≤ v) (h1 : v < 18446744073709551616) : Go.bits .and .u64 v 4294967295 = v % 4294967296 := by
 have h := bits_and_u64_nat v.toNat 4294967295 (by omega) (by omega)
 rw [show (4294967295 : Nat) = 2 ^ 32 - 1 from by decide, Nat.and_two_pow_sub_one_eq_mod, Int.toNat_of_nonneg h0] at h
 rw [show (2 ^ 32 - 1 : Nat) = 4294967295 from by decide] at h
 refine h.trans ?_
 rw [show (2 ^ 32 : Nat) = 4294967296 from by decide]
 omega
theorem shl_is (x : Int) (s : Nat) (hs : s ≤ 64) : shl .u64 x (s : Int) = x * p2 s % 18446744073709551616 := by
 unfold shl
 rw [Int.toNat_natCast, Nat.min_eq_left (by have : IntKind.u64.bits = 64 := rfl; omega), ← p2_eq, u64_eq]
theorem shr_is (x : Int) (s : Nat) (hs : s ≤ 64) : shr .u64 x (s : Int) = x / p2 s := by
 unfold shr
 rw [Int.toNat_natCast, Nat.min_eq_left (by have : IntKind.u64.bits = 64 := rfl; omega), ← p2_eq]
theorem div_is (hi lo y : Int) (h0 : 0 ≤ hi) (h1 : hi < y) (h2 : y < 18446744073709551616) (h3 : 0 ≤ lo) (h4 : lo < 18446744073709551616) : Ev (fun k => bits_Div64.f k hi lo y) ((hi * 18446744073709551616 + lo) / y, (hi * 18446744073709551616 + lo) % y) := by
 by_cases hz : hi = 0
 ·subst hz
  refine Ev.congr (f := fun _ => some _) (fun k => ?_) (Ev.now _)
  unfold bits_Div64.f
  have hd := Int.ediv_le_self y h3
  have hd0 : 0 ≤ lo / y := Int.ediv_nonneg h3 (by omega)
  rw [if_neg (by omega), if_neg (by omega), if_pos rfl, Int.tdiv_eq_ediv_of_nonneg h3, Int.tmod_eq_emod_of_nonneg h3, Int.zero_mul, Int.zero_add, u64_in hd0 (by omega)]
 ·obtain ⟨s, s1, s2, s3, s4⟩ := lz_is y (by omega) h2
  have ps := p2_pos s
  have pt := p2_pos (64 - s)
  have p64 : p2 64 = 18446744073709551616 := by decide
  have hpp : p2 s * p2 (64 - s) = 18446744073709551616 := by rw [← p2_add, ← p64]; congr 1; omega
  obtain ⟨Y, hY⟩ : ∃ Y, y * p2 s = Y := ⟨_, rfl⟩
  rw [hY] at s2 s3
  -- the parts
  have c1 : shl .u64 y (s : Int) = Y := by rw [shl_is _ _ (by omega), hY]; omega
  have hlt : hi * p2 s < Y := by rw [← hY]; exact Int.mul_lt_mul_of_pos_right h1 ps
  have hi0 : 0 ≤ hi * p2 s := Int.mul_nonneg h0 (by omega)
  have c2 : shl .u64 hi (s : Int) = hi * p2 s := by rw [shl_is _ _ (by omega)]; omega
  have lq := Int.emod_add_mul_ediv lo (p2 (64 - s))
  have lq0 := Int.emod_nonneg lo (show p2 (64 - s) ≠ 0 by omega)
  have lq1 := Int.emod_lt_of_pos lo pt
  have lq2 : 0 ≤ lo / p2 (64 - s) := Int.ediv_nonneg h3 (by omega)
  have lq3 : lo / p2 (64 - s) < p2 s := Int.ediv_lt_of_lt_mul pt (by rw [hpp]; exact h4)
  obtain ⟨L, hL⟩ : ∃ L, lo / p2 (64 - s) = L := ⟨_, rfl⟩
  obtain ⟨M, hM⟩ : ∃ M, lo % p2 (64 - s) = M := ⟨_, rfl⟩
  rw [hL, hM] at lq
  rw [hM] at lq0 lq1
  rw [hL] at lq2 lq3
  have hlo : lo * p2 s = 18446744073709551616 * L + M * p2 s := by rw [← lq, ← hpp]; grind
  have hMs : M * p2 s < 18446744073709551616 := by
   have := Int.mul_lt_mul_of_pos_right lq1 ps
   rw [Int.mul_comm (p2 (64 - s)), hpp] at this
   exact this
  have hMs0 : 0 ≤ M * p2 s := Int.mul_nonneg lq0 (by omega)
  have c3 : shl .u64 lo (s : Int) = M * p2 s := by rw [shl_is _ _ (by omega), hlo]; omega
  have w64s : IntKind.u64.wrap (s : Int) = (s : Int) := u64_in (by omega) (by omega)
  have w64t : IntKind.u64.wrap (64 - (s : Int)) = ((64 - s : Nat) : Int) := by rw [u64_in (by omega) (by omega)]; omega
  have c4 : shr .u64 lo ((64 - s : Nat) : Int) = L := by rw [shr_is _ _ (by omega), hL]
  have c5 : Go.bits .or .u64 (hi * p2 s) L = hi * p2 s + L := or_is hi L s (by omega) h0 (by omega) lq2 lq3
  have hun : hi * p2 s + L < Y := by
   have : (hi + 1) * p2 s ≤ y * p2 s := Int.mul_le_mul_of_nonneg_right (by omega) (by omega)
   rw [hY, Int.add_mul, Int.one_mul] at this
   omega
  obtain ⟨un, hune⟩ : ∃ un, hi * p2 s + L = un := ⟨_, rfl⟩
  rw [hune] at hun c5
  obtain ⟨V, hV⟩ : ∃ V, M * p2 s = V := ⟨_, rfl⟩
  rw [hV] at hlo hMs hMs0 c3
  have c6 : Go.bits .and .u64 V 4294967295 = V % 4294967296 := and_low V hMs0 hMs
  have c7 : Go.bits .and .u64 Y 4294967295 = Y % 4294967296 := and_low Y (by omega) s3
  have hYd : Y = Y / 4294967296 * 4294967296 + Y % 4294967296 := by omega
  obtain ⟨q1, q2, q3, q4, q5, q6⟩ := first_q (Y / 4294967296) (Y % 4294967296) Y un (V / 4294967296) (un * 4294967296 + V / 4294967296) (by omega) (by omega) (by omega) (by omega) hYd (by omega) hun (by omega) (by omega) rfl
  have hq0 : IntKind.u64.wrap (Int.tdiv un (Y / 4294967296)) = un / (Y / 4294967296) := by rw [Int.tdiv_eq_ediv_of_nonneg (by omega), u64_in q3 (by omega)]
  have hr0 : IntKind.u64.wrap (un - IntKind.u64.wrap (un / (Y / 4294967296) * (Y / 4294967296))) = un % (Y / 4294967296) := by
   have hle : 0 ≤ un / (Y / 4294967296) * (Y / 4294967296) := Int.mul_nonneg q3 (by omega)
   rw [u64_in (a := un / (Y / 4294967296) * (Y / 4294967296)) hle (by omega), u64_in (by omega) (by omega)]
   omega
  have hj := j2_is Y s (Y / 4294967296) (Y % 4294967296) un (V / 4294967296) (V % 4294967296) (un * 4294967296 + V / 4294967296) (by omega) (by omega) (by omega) (by omega) (by omega) hYd (by omega) hun (by omega) (by omega) (by omega) (by omega) rfl
  have hl := loop0 Y s (Y / 4294967296) (Y % 4294967296) un (V / 4294967296) (V % 4294967296) (un * 4294967296 + V / 4294967296) (by omega) (by omega) (by omega) (by omega) hYd (by omega) hun (by omega) (by omega) rfl _ hj (un / (Y / 4294967296) - (un * 4294967296 + V / 4294967296) / Y).toNat (un / (Y / 4294967296)) (un % (Y / 4294967296)) (by omega) q3 q1 q2 q4 q5 (by omega)
  -- what it comes to
  have hYp : 0 < Y := by omega
  have d1 := Int.emod_add_mul_ediv (un * 4294967296 + V / 4294967296) Y
  generalize hQ1 : (un * 4294967296 + V / 4294967296) / Y = Q1 at *
  generalize hR1 : (un * 4294967296 + V / 4294967296) % Y = R1 at *
  have d2 := Int.emod_add_mul_ediv (R1 * 4294967296 + V % 4294967296) Y
  have d3 := Int.emod_nonneg (R1 * 4294967296 + V % 4294967296) (show Y ≠ 0 by omega)
  have d4 := Int.emod_lt_of_pos (R1 * 4294967296 + V % 4294967296) hYp
  generalize hQ2 : (R1 * 4294967296 + V % 4294967296) / Y = Q2 at *
  generalize hR2 : (R1 * 4294967296 + V % 4294967296) % Y = R2 at *
  have tot : (hi * 18446744073709551616 + lo) * p2 s = (Q1 * 4294967296 + Q2) * Y + R2 := by
   have e1 : (hi * 18446744073709551616 + lo) * p2 s = un * 18446744073709551616 + V := by
    have : (hi * 18446744073709551616 + lo) * p2 s = hi * p2 s * 18446744073709551616 + lo * p2 s := by grind
    rw [this, hlo, ← hune]; grind
   have e2 : V = V / 4294967296 * 4294967296 + V % 4294967296 := by omega
   rw [e1]
   have e3 : (Q1 * 4294967296 + Q2) * Y + R2 = Y * Q1 * 4294967296 + (R2 + Y * Q2) := by grind
   rw [e3, d2]
   have e4 : Y * Q1 = un * 4294967296 + V / 4294967296 - R1 := by omega
   rw [e4]; omega
  have hrem : R2 = (hi * 18446744073709551616 + lo - (Q1 * 4294967296 + Q2) * y) * p2 s := by
   rw [← hY] at tot
   grind
  obtain ⟨W, hW⟩ : ∃ W, hi * 18446744073709551616 + lo - (Q1 * 4294967296 + Q2) * y = W := ⟨_, rfl⟩
  rw [hW] at hrem
  have hW0 : 0 ≤ W := by
   apply Int.le_of_not_gt
   intro hneg
   have := Int.mul_le_mul_of_nonneg_right (show W ≤ -1 by omega) (show 0 ≤ p2 s by omega)
   omega
  have hW1 : W < y := by
   apply Int.lt_of_not_ge
   intro hge
   have := Int.mul_le_mul_of_nonneg_right hge (show 0 ≤ p2 s by omega)
   omega
  have huniq := (Int.ediv_emod_unique (a := hi * 18446744073709551616 + lo) (b := y) (r := W) (q := Q1 * 4294967296 + Q2) (by omega)).2 ⟨by rw [← hW]; grind, hW0, hW1⟩
  have hsh : shr .u64 R2 (s : Int) = W := by
   rw [shr_is _ _ (by omega), hrem, Int.mul_ediv_cancel _ (by omega)]
  rw [hsh] at hl
  rw [huniq.1, huniq.2]
  refine Ev.congr (f := fun k => (bits_LeadingZeros64.f k y).bind _) (fun k => by unfold bits_Div64.f; rw [if_neg (by omega), if_neg (by omega), if_neg hz]) (Ev.bind s4 (Ev.congr (fun k => ?_) hl))
  rw [w64s, w64t, if_pos (by omega), if_pos (by omega), c1, c2, c3, c4, c5, c6, c7, if_neg (by omega), hq0, hr0]
end Go.Proofs.YtdplfphgomckfaaDoor.Bw
/- fix's Scale, as a number. Conditions: as each theorem states. -/
namespace Go.Proofs.YtdplfphgomckfaaDoor.Bx
set_option linter.unusedVariables false
set_option linter.unusedSimpArgs false
open Go.RowKit Go.Proofs.YtdplfphgomckfaaDoorW.PrintWords Go.Proofs.YtdplfphgomckfaaDoorW.PrintMore Go.Proofs.YtdplfphgomckfaaDoor.OW Go.Proofs.YtdplfphgomckfaaDoor.Bn Go.Proofs.YtdplfphgomckfaaDoor.Bv Go.Proofs.YtdplfphgomckfaaDoor.Bw
theorem size_is (a : Int) (h : I64 a) : ∃ u, fix_size.f a = some u ∧ 0 ≤ u ∧ u ≤ 9223372036854775808 ∧ u = (if a < 0 then -a else a) := by
 obtain ⟨h0, h1⟩ := h
 unfold fix_size.f
 by_cases c : a < 0
 ·refine ⟨-a, ?_, by omega, by omega, by rw [if_pos c]⟩
  rw [if_pos c, u64_eq, u64_eq]; congr 1; omega
 ·refine ⟨a, ?_, by omega, by omega, by rw [if_neg c]⟩
  rw [if_neg c, u64_eq]; congr 1; omega
theorem times_w (a n : Int) (ha : I64 a) (hn : I64 n) : (∃ lo hi, fix_times.f a n = some (lo, hi) ∧ Ws lo hi (a * n)) ∧ Sm (a * n) := by
 obtain ⟨u, eu, u0, u1, hu⟩ := size_is a ha
 obtain ⟨v, ev, v0, v1, hv⟩ := size_is n hn
 have m0 := Int.mul_nonneg u0 v0
 have m1 : u * v ≤ 9223372036854775808 * 9223372036854775808 := Int.mul_le_mul u1 v1 v0 (by omega)
 have em : Dn.Mul.f u v = some (u * v / 18446744073709551616, u * v % 18446744073709551616) := if_pos ⟨u0, by omega, v0, by omega⟩
 obtain ⟨P, hP⟩ : ∃ P, u * v = P := ⟨_, rfl⟩
 rw [hP] at m0 m1 em
 have hw : Ws (P % 18446744073709551616) (P / 18446744073709551616) P := ⟨⟨by omega, by omega⟩, ⟨by omega, by omega⟩, by omega⟩
 have hsgn : a * n = if ((decide (a < 0)) != (decide (n < 0))) = true then -P else P := by
  rw [← hP, hu, hv]
  by_cases c1 : a < 0 <;> by_cases c2 : n < 0
  ·rw [if_pos c1, if_pos c2, decide_eq_true c1, decide_eq_true c2]; simp; grind
  ·rw [if_pos c1, if_neg c2, decide_eq_true c1, decide_eq_false c2]; simp; grind
  ·rw [if_neg c1, if_pos c2, decide_eq_false c1, decide_eq_true c2]; simp; grind
  ·rw [if_neg c1, if_neg c2, decide_eq_false c1, decide_eq_false c2]; simp
 have hS : Sm (a * n) := by rw [hsgn]; unfold Sm; split <;> omega
 refine ⟨?_, hS⟩
 by_cases c : ((decide (a < 0)) != (decide (n < 0))) = true
 ·rw [if_pos c] at hsgn
  obtain ⟨lo, hi, e, w⟩ := minus_w hw
  refine ⟨lo, hi, ?_, by rw [hsgn]; exact w⟩
  unfold fix_times.f
  rw [eu, Option.bind_some, ev, Option.bind_some, em, Option.bind_some, if_pos c]
  dsimp only
  rw [e, Option.bind_some]
 ·rw [if_neg c] at hsgn
  refine ⟨_, _, ?_, by rw [hsgn]; exact hw⟩
  unfold fix_times.f
  rw [eu, Option.bind_some, ev, Option.bind_some, em, Option.bind_some, if_neg c]
theorem div_sm {x den : Int} (hx : Sm x) (hd : 1 ≤ den) : Sm (x / den) := by
 obtain ⟨h0, h1⟩ := hx
 by_cases c : 0 ≤ x
 ·have a := Int.ediv_nonneg c (show 0 ≤ den by omega)
  have b := Int.ediv_le_self den c
  unfold Sm; omega
 ·have a : x / den < 0 := Int.ediv_neg_of_neg_of_pos (by omega) (by omega)
  have b : x ≤ x / den := Int.le_ediv_of_mul_le (by omega) (by
   have h2 := Int.mul_nonneg (show 0 ≤ -x by omega) (show 0 ≤ den - 1 by omega)
   have h3 : -x * (den - 1) = -(x * den) + x := by grind
   omega)
  unfold Sm; omega
/-- The two steps of long division, of a number that is not below zero. -/
theorem long_w {a b m : Int} (h : Ws a b m) (hm : 0 ≤ m) (hx : Sm m) (den : Int) (hd : 1 ≤ den) (hd1 : den ≤ 9223372036854775807) : ∃ lo, Ev (fun k => bits_Div64.f k (Int.tmod b den) a den) (lo, m % den) ∧ Ws lo (IntKind.u64.wrap (Int.tdiv b den)) (m / den) := by
 obtain ⟨⟨a0, a1⟩, ⟨b0, b1⟩, e⟩ := h
 obtain ⟨x0, x1⟩ := hx
 have e' : m = b * 18446744073709551616 + a := by omega
 have r0 := Int.emod_nonneg b (show den ≠ 0 by omega)
 have r1 := Int.emod_lt_of_pos b (show 0 < den by omega)
 have rq := Int.emod_add_mul_ediv b den
 have q0 := Int.ediv_nonneg b0 (show 0 ≤ den by omega)
 have q1 := Int.ediv_le_self den b0
 have hdv := div_is (b % den) a den r0 r1 (by omega) a0 a1
 rw [Int.tmod_eq_emod_of_nonneg b0, Int.tdiv_eq_ediv_of_nonneg b0, u64_in q0 (by omega)]
 obtain ⟨R, hR⟩ : ∃ R, b % den = R := ⟨_, rfl⟩
 obtain ⟨Q, hQ⟩ : ∃ Q, b / den = Q := ⟨_, rfl⟩
 rw [hR, hQ] at rq
 rw [hR] at r0 r1 hdv ⊢
 rw [hQ] at q0 q1 ⊢
 have s1 := Int.emod_add_mul_ediv (R * 18446744073709551616 + a) den
 have s2 := Int.emod_nonneg (R * 18446744073709551616 + a) (show den ≠ 0 by omega)
 have s3 := Int.emod_lt_of_pos (R * 18446744073709551616 + a) (show 0 < den by omega)
 have s4 := Int.ediv_nonneg (show 0 ≤ R * 18446744073709551616 + a by omega) (show 0 ≤ den by omega)
 have s5 : (R * 18446744073709551616 + a) / den < 18446744073709551616 := Int.ediv_lt_of_lt_mul (by omega) (by omega)
 generalize (R * 18446744073709551616 + a) / den = q at *
 generalize (R * 18446744073709551616 + a) % den = r at *
 have huniq := (Int.ediv_emod_unique (a := m) (b := den) (r := r) (q := Q * 18446744073709551616 + q) (by omega)).2 ⟨by rw [e', ← rq]; grind, s2, s3⟩
 have hb2 : b ≤ 4611686018427387904 := by omega
 refine ⟨q, by rw [huniq.2]; exact hdv, ⟨s4, s5⟩, ⟨q0, by omega⟩, ?_⟩
 rw [huniq.1, Int.emod_eq_of_lt (by omega) (by omega)]
 omega
theorem over_w {a b x : Int} (h : Ws a b x) (hx : Sm x) (den : Int) (hd : 1 ≤ den) (hd1 : den ≤ 9223372036854775807) : ∃ lo hi, Ev (fun k => fix_words_over.f k a b den) (lo, hi) ∧ Ws lo hi (x / den) := by
 have hb := below_w h hx
 by_cases c : x < 0
 ·obtain ⟨l1, h1, e1, w1⟩ := minus_w h
  obtain ⟨lo, hdv, w2⟩ := long_w w1 (by omega) (by unfold Sm at *; omega) den hd hd1
  obtain ⟨q2, hq2⟩ : ∃ q, IntKind.u64.wrap (Int.tdiv h1 den) = q := ⟨_, rfl⟩
  rw [hq2] at w2
  have hneg : x / den = -(-x / den + if -x % den > 0 then 1 else 0) := by
   have := neg_div (-x) den hd
   rw [Int.neg_neg] at this
   have hr := Int.emod_nonneg (-x) (show den ≠ 0 by omega)
   rw [this]
   by_cases hz : -x % den > 0
   ·rw [if_pos hz, if_pos (by omega)]
   ·rw [if_neg hz, if_neg (by omega)]; omega
  have hstart : ∀ k, fix_words_over.f k a b den = fix_words_over.j0 k den true l1 h1 := fun k => by
   unfold fix_words_over.f
   rw [hb, Option.bind_some, decide_eq_true c, if_pos rfl, e1, Option.bind_some]
  have hstep : ∀ k, fix_words_over.j0 (k + 1) den true l1 h1 = (bits_Div64.f k (Int.tmod h1 den) l1 den).bind fun bt152 => (if bt152.2 > 0 then ((fix_words_plus.f bt152.1 q2 1 0).bind fun bt155 => ((fix_words_minus.f bt155.1 bt155.2).bind fun bt157 => (some (bt157.1, bt157.2)))) else ((fix_words_minus.f bt152.1 q2).bind fun bt159 => (some (bt159.1, bt159.2)))) := fun k => by
   simp only [fix_words_over.j0]
   rw [if_neg (by omega), hq2]
   rfl
  by_cases hz : -x % den > 0
  ·rw [if_pos hz] at hneg
   obtain ⟨l3, h3, e3, w3⟩ := plus_w w2 (show Ws 1 0 1 from ⟨⟨by decide, by decide⟩, ⟨by decide, by decide⟩, by decide⟩)
   obtain ⟨l4, h4, e4, w4⟩ := minus_w w3
   refine ⟨l4, h4, Ev.congr hstart (Ev.step hstep (Ev.bind hdv (f := fun _ bt152 => (if bt152.2 > 0 then ((fix_words_plus.f bt152.1 q2 1 0).bind fun bt155 => ((fix_words_minus.f bt155.1 bt155.2).bind fun bt157 => (some (bt157.1, bt157.2)))) else ((fix_words_minus.f bt152.1 q2).bind fun bt159 => (some (bt159.1, bt159.2))))) (Ev.congr (f := fun _ => some _) (fun k => ?_) (Ev.now _)))), by rw [hneg]; exact w4⟩
   dsimp only
   rw [if_pos hz, e3, Option.bind_some]
   dsimp only
   rw [e4, Option.bind_some]
  ·rw [if_neg hz, Int.add_zero] at hneg
   obtain ⟨l4, h4, e4, w4⟩ := minus_w w2
   refine ⟨l4, h4, Ev.congr hstart (Ev.step hstep (Ev.bind hdv (f := fun _ bt152 => (if bt152.2 > 0 then ((fix_words_plus.f bt152.1 q2 1 0).bind fun bt155 => ((fix_words_minus.f bt155.1 bt155.2).bind fun bt157 => (some (bt157.1, bt157.2)))) else ((fix_words_minus.f bt152.1 q2).bind fun bt159 => (some (bt159.1, bt159.2))))) (Ev.congr (f := fun _ => some _) (fun k => ?_) (Ev.now _)))), by rw [hneg]; exact w4⟩
   dsimp only
   rw [if_neg hz, e4, Option.bind_some]
 ·obtain ⟨lo, hdv, w2⟩ := long_w h (by omega) hx den hd hd1
  obtain ⟨q2, hq2⟩ : ∃ q, IntKind.u64.wrap (Int.tdiv b den) = q := ⟨_, rfl⟩
  rw [hq2] at w2
  refine ⟨lo, q2, Ev.congr (f := fun k => fix_words_over.j0 k den false a b) (fun k => ?_) (Ev.step (f := fun k => (bits_Div64.f k (Int.tmod b den) a den).bind fun bt152 => some (bt152.1, q2)) (fun k => ?_) (Ev.bind hdv (f := fun _ bt152 => some (bt152.1, q2)) (Ev.now _))), w2⟩
  ·unfold fix_words_over.f
   rw [hb, Option.bind_some, decide_eq_false c, if_neg (by decide)]
  ·simp only [fix_words_over.j0]
   rw [if_neg (by omega), hq2]
   rfl
theorem scale_is (a n d : Int) (ha : I64 a) (hn : I64 n) (hd : I64 d) : Ev (fun k => fix_Scale.f k a n d) (scl a n d) := by
 by_cases h : n < 0 ∨ d < 1
 ·refine Ev.step (f := fun _ => some (scl a n d)) (fun k => ?_) (Ev.now _)
  unfold fix_Scale.f scl
  rw [if_pos h]
  by_cases h1 : n < 0
  ·rw [if_pos h1]; rfl
  ·rw [if_neg h1, decide_eq_true (by omega)]; rfl
 ·obtain ⟨⟨lo, hi, e1, w1⟩, hS⟩ := times_w a n ha hn
  obtain ⟨l2, h2, e2, w2⟩ := over_w w1 hS d (by omega) hd.2
  have e3 := held_w w2 (div_sm hS (by omega))
  refine Ev.step (f := fun k => (fix_words_over.f k lo hi d).bind fun bt163 => ((fix_words_held.f bt163.1 bt163.2).bind fun t165 => (some t165))) (fun k => ?_) (Ev.bind e2 (f := fun _ bt163 => ((fix_words_held.f bt163.1 bt163.2).bind fun t165 => (some t165))) (Ev.congr (f := fun _ => some _) (fun k => ?_) (Ev.now _)))
  ·unfold fix_Scale.f
   rw [if_neg (by omega), decide_eq_false (by omega)]
   simp only [fix_Scale.j0]
   rw [if_neg (by decide), e1, Option.bind_some, u64_in (a := d) (by omega) (by unfold I64 at hd; omega)]
  ·dsimp only
   rw [e3, Option.bind_some]
   unfold scl
   rw [if_neg h]
end Go.Proofs.YtdplfphgomckfaaDoor.Bx
