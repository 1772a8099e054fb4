/- fix's sums, differences, Scale, as numbers: over math/bits' Div64. Conditions: as each theorem states. -/
import Derived.Test.YtdplfphgomckfaaDoorOWx7
import Derived.Test.YtdplfphgomckfaaDoorOWx1
import Derived.Test.YtdplfphgomckfaaDoorBv
namespace Go.Proofs.YtdplfphgomckfaaDoor.Bw
set_option linter.unusedVariables false
set_option linter.unusedSimpArgs false
open Go.RowKit Go.Proofs.YtdplfphgomckfaaDoorW.PrintWords Go.Proofs.YtdplfphgomckfaaDoorW.PrintMore Go.Proofs.YtdplfphgomckfaaDoor.OW Go.Proofs.YtdplfphgomckfaaDoor.Bn Go.Proofs.YtdplfphgomckfaaDoor.Bv
theorem j2_is (Y s y1 y0 un u u0 N : Int) (hs : 0 ≤ s) (hy1 : 2147483648 ≤ y1) (hy1' : y1 < 4294967296) (hy0 : 0 ≤ y0) (hy0' : y0 < 4294967296) (hY : Y = y1 * 4294967296 + y0) (hu0 : 0 ≤ un) (hun : un < Y) (hu : 0 ≤ u) (hu' : u < 4294967296) (hv : 0 ≤ u0) (hv' : u0 < 4294967296) (hN : N = un * 4294967296 + u) :
    Ev (fun k => bits_Div64.j2 k Y s y1 y0 un u u0 (N / Y)) (N / Y * 4294967296 + (N % Y * 4294967296 + u0) / Y, shr .u64 ((N % Y * 4294967296 + u0) % Y) s) := by
  have hYp : 0 < Y := by omega
  have h1 := Int.emod_add_mul_ediv N Y
  have h2 := Int.emod_nonneg N (show Y ≠ 0 by omega)
  have h3 := Int.emod_lt_of_pos N hYp
  have h4 : 0 ≤ N / Y := Int.ediv_nonneg (by omega) (by omega)
  have h5 : N / Y < 4294967296 := Int.ediv_lt_of_lt_mul hYp (by omega)
  generalize hQ : N / Y = Q at *
  generalize hR : N % Y = R at *
  have hun21 : IntKind.u64.wrap (IntKind.u64.wrap (IntKind.u64.wrap (un * 4294967296) + u) - IntKind.u64.wrap (Q * Y)) = R := by
    have e : R = un * 4294967296 + u - Q * Y := by rw [← hN, ← h1]; grind
    rw [u64_eq, u64_eq, u64_eq, u64_eq]
    omega
  obtain ⟨q1, q2, q3, q4, q5, q6⟩ := first_q y1 y0 Y R u0 (R * 4294967296 + u0) hy1 hy1' hy0 hy0' hY h2 h3 hv hv' rfl
  have hq0 : IntKind.u64.wrap (Int.tdiv R y1) = R / y1 := by rw [Int.tdiv_eq_ediv_of_nonneg h2, u64_in q3 (by omega)]
  have hr0 : IntKind.u64.wrap (R - IntKind.u64.wrap (R / y1 * y1)) = R % y1 := by
    have hle : 0 ≤ R / y1 * y1 := Int.mul_nonneg q3 (by omega)
    rw [u64_in (a := R / y1 * y1) hle (by omega), u64_in (by omega) (by omega)]
    omega
  have hM : 0 ≤ R * 4294967296 + u0 := by omega
  have m1 := Int.emod_add_mul_ediv (R * 4294967296 + u0) Y
  have m2 := Int.emod_nonneg (R * 4294967296 + u0) (show Y ≠ 0 by omega)
  have m3 := Int.emod_lt_of_pos (R * 4294967296 + u0) hYp
  have m4 : 0 ≤ (R * 4294967296 + u0) / Y := Int.ediv_nonneg hM (by omega)
  have m5 : (R * 4294967296 + u0) / Y < 4294967296 := Int.ediv_lt_of_lt_mul hYp (by omega)
  have hl := loop1 Y s y1 y0 R u0 Q (R * 4294967296 + u0) hs hy1 hy1' hy0 hy0' hY h2 h3 hv hv' rfl (R / y1 - (R * 4294967296 + u0) / Y).toNat (R / y1) (R % y1) (by omega) q3 q1 q2 q4 q5 (by omega)
  generalize (R * 4294967296 + u0) / Y = Q2 at *
  generalize hR2 : (R * 4294967296 + u0) % Y = R2 at *
  have f1 : IntKind.u64.wrap (IntKind.u64.wrap (Q * 4294967296) + Q2) = Q * 4294967296 + Q2 := by
    rw [u64_in (a := Q * 4294967296) (by omega) (by omega), u64_in (by omega) (by omega)]
  have f2 : IntKind.u64.wrap (IntKind.u64.wrap (IntKind.u64.wrap (R * 4294967296) + u0) - IntKind.u64.wrap (Q2 * Y)) = R2 := by
    have e : R2 = R * 4294967296 + u0 - Q2 * Y := by rw [← m1]; grind
    rw [u64_eq, u64_eq, u64_eq, u64_eq]
    omega
  rw [f1, f2] at hl
  refine Ev.step (fun k => ?_) hl
  simp only [bits_Div64.j2]
  rw [if_neg (by omega), hun21, hq0, hr0]
theorem or_is (A b : Int) (s : Nat) (hs : s ≤ 64) (hA : 0 ≤ A) (hA' : A * p2 s < 18446744073709551616) (hb : 0 ≤ b) (hb' : b < p2 s) : Go.bits .or .u64 (A * p2 s) b = A * p2 s + b := by
  obtain ⟨a, rfl⟩ := Int.eq_ofNat_of_zero_le hA
  obtain ⟨c, rfl⟩ := Int.eq_ofNat_of_zero_le hb
  have hp : p2 s = ((2 ^ s : Nat) : Int) := by rw [p2_eq, Int.natCast_pow]; rfl
  have h64 : 2 ^ s ≤ 2 ^ 64 := Nat.pow_le_pow_right (by omega) hs
  have e64 : (2 : Nat) ^ 64 = 18446744073709551616 := by decide
  have h2 := fun (hc : c < 2 ^ s) => Nat.shiftLeft_add_eq_or_of_lt hc a
  rw [Nat.shiftLeft_eq] at h2
  rw [e64] at h64
  generalize 2 ^ s = P at *
  rw [hp] at hA' hb' ⊢
  rw [← Int.natCast_mul] at hA' ⊢
  generalize a * P = K at *
  have h := bits_or_u64_nat K c (by omega) (by omega)
  rw [h, ← h2 (by omega)]
  omega
theorem and_low (v : Int) (h0 : 0 ≤ v) (h1 : v < 18446744073709551616) : Go.bits .and .u64 v 4294967295 = v % 4294967296 := by
  have h := bits_and_u64_nat v.toNat 4294967295 (by omega) (by omega)
  rw [show (4294967295 : Nat) = 2 ^ 32 - 1 from by decide, Nat.and_two_pow_sub_one_eq_mod, Int.toNat_of_nonneg h0] at h
  rw [show (2 ^ 32 - 1 : Nat) = 4294967295 from by decide] at h
  refine h.trans ?_
  rw [show (2 ^ 32 : Nat) = 4294967296 from by decide]
  omega
theorem shl_is (x : Int) (s : Nat) (hs : s ≤ 64) : shl .u64 x (s : Int) = x * p2 s % 18446744073709551616 := by
  unfold shl
  rw [Int.toNat_natCast, Nat.min_eq_left (by have : IntKind.u64.bits = 64 := rfl; omega), ← p2_eq, u64_eq]
theorem shr_is (x : Int) (s : Nat) (hs : s ≤ 64) : shr .u64 x (s : Int) = x / p2 s := by
  unfold shr
  rw [Int.toNat_natCast, Nat.min_eq_left (by have : IntKind.u64.bits = 64 := rfl; omega), ← p2_eq]
theorem div_is (hi lo y : Int) (h0 : 0 ≤ hi) (h1 : hi < y) (h2 : y < 18446744073709551616) (h3 : 0 ≤ lo) (h4 : lo < 18446744073709551616) : Ev (fun k => bits_Div64.f k hi lo y) ((hi * 18446744073709551616 + lo) / y, (hi * 18446744073709551616 + lo) % y) := by
  by_cases hz : hi = 0
  · subst hz
    refine Ev.congr (f := fun _ => some _) (fun k => ?_) (Ev.now _)
    unfold bits_Div64.f
    have hd := Int.ediv_le_self y h3
    have hd0 : 0 ≤ lo / y := Int.ediv_nonneg h3 (by omega)
    rw [if_neg (by omega), if_neg (by omega), if_pos rfl, Int.tdiv_eq_ediv_of_nonneg h3, Int.tmod_eq_emod_of_nonneg h3, Int.zero_mul, Int.zero_add, u64_in hd0 (by omega)]
  · obtain ⟨s, s1, s2, s3, s4⟩ := lz_is y (by omega) h2
    have ps := p2_pos s
    have pt := p2_pos (64 - s)
    have p64 : p2 64 = 18446744073709551616 := by decide
    have hpp : p2 s * p2 (64 - s) = 18446744073709551616 := by rw [← p2_add, ← p64]; congr 1; omega
    obtain ⟨Y, hY⟩ : ∃ Y, y * p2 s = Y := ⟨_, rfl⟩
    rw [hY] at s2 s3
    -- the parts
    have c1 : shl .u64 y (s : Int) = Y := by rw [shl_is _ _ (by omega), hY]; omega
    have hlt : hi * p2 s < Y := by rw [← hY]; exact Int.mul_lt_mul_of_pos_right h1 ps
    have hi0 : 0 ≤ hi * p2 s := Int.mul_nonneg h0 (by omega)
    have c2 : shl .u64 hi (s : Int) = hi * p2 s := by rw [shl_is _ _ (by omega)]; omega
    have lq := Int.emod_add_mul_ediv lo (p2 (64 - s))
    have lq0 := Int.emod_nonneg lo (show p2 (64 - s) ≠ 0 by omega)
    have lq1 := Int.emod_lt_of_pos lo pt
    have lq2 : 0 ≤ lo / p2 (64 - s) := Int.ediv_nonneg h3 (by omega)
    have lq3 : lo / p2 (64 - s) < p2 s := Int.ediv_lt_of_lt_mul pt (by rw [hpp]; exact h4)
    obtain ⟨L, hL⟩ : ∃ L, lo / p2 (64 - s) = L := ⟨_, rfl⟩
    obtain ⟨M, hM⟩ : ∃ M, lo % p2 (64 - s) = M := ⟨_, rfl⟩
    rw [hL, hM] at lq
    rw [hM] at lq0 lq1
    rw [hL] at lq2 lq3
    have hlo : lo * p2 s = 18446744073709551616 * L + M * p2 s := by rw [← lq, ← hpp]; grind
    have hMs : M * p2 s < 18446744073709551616 := by
      have := Int.mul_lt_mul_of_pos_right lq1 ps
      rw [Int.mul_comm (p2 (64 - s)), hpp] at this
      exact this
    have hMs0 : 0 ≤ M * p2 s := Int.mul_nonneg lq0 (by omega)
    have c3 : shl .u64 lo (s : Int) = M * p2 s := by rw [shl_is _ _ (by omega), hlo]; omega
    have w64s : IntKind.u64.wrap (s : Int) = (s : Int) := u64_in (by omega) (by omega)
    have w64t : IntKind.u64.wrap (64 - (s : Int)) = ((64 - s : Nat) : Int) := by rw [u64_in (by omega) (by omega)]; omega
    have c4 : shr .u64 lo ((64 - s : Nat) : Int) = L := by rw [shr_is _ _ (by omega), hL]
    have c5 : Go.bits .or .u64 (hi * p2 s) L = hi * p2 s + L := or_is hi L s (by omega) h0 (by omega) lq2 lq3
    have hun : hi * p2 s + L < Y := by
      have : (hi + 1) * p2 s ≤ y * p2 s := Int.mul_le_mul_of_nonneg_right (by omega) (by omega)
      rw [hY, Int.add_mul, Int.one_mul] at this
      omega
    obtain ⟨un, hune⟩ : ∃ un, hi * p2 s + L = un := ⟨_, rfl⟩
    rw [hune] at hun c5
    obtain ⟨V, hV⟩ : ∃ V, M * p2 s = V := ⟨_, rfl⟩
    rw [hV] at hlo hMs hMs0 c3
    have c6 : Go.bits .and .u64 V 4294967295 = V % 4294967296 := and_low V hMs0 hMs
    have c7 : Go.bits .and .u64 Y 4294967295 = Y % 4294967296 := and_low Y (by omega) s3
    have hYd : Y = Y / 4294967296 * 4294967296 + Y % 4294967296 := by omega
    obtain ⟨q1, q2, q3, q4, q5, q6⟩ := first_q (Y / 4294967296) (Y % 4294967296) Y un (V / 4294967296) (un * 4294967296 + V / 4294967296) (by omega) (by omega) (by omega) (by omega) hYd (by omega) hun (by omega) (by omega) rfl
    have hq0 : IntKind.u64.wrap (Int.tdiv un (Y / 4294967296)) = un / (Y / 4294967296) := by rw [Int.tdiv_eq_ediv_of_nonneg (by omega), u64_in q3 (by omega)]
    have hr0 : IntKind.u64.wrap (un - IntKind.u64.wrap (un / (Y / 4294967296) * (Y / 4294967296))) = un % (Y / 4294967296) := by
      have hle : 0 ≤ un / (Y / 4294967296) * (Y / 4294967296) := Int.mul_nonneg q3 (by omega)
      rw [u64_in (a := un / (Y / 4294967296) * (Y / 4294967296)) hle (by omega), u64_in (by omega) (by omega)]
      omega
    have hj := j2_is Y s (Y / 4294967296) (Y % 4294967296) un (V / 4294967296) (V % 4294967296) (un * 4294967296 + V / 4294967296) (by omega) (by omega) (by omega) (by omega) (by omega) hYd (by omega) hun (by omega) (by omega) (by omega) (by omega) rfl
    have hl := loop0 Y s (Y / 4294967296) (Y % 4294967296) un (V / 4294967296) (V % 4294967296) (un * 4294967296 + V / 4294967296) (by omega) (by omega) (by omega) (by omega) hYd (by omega) hun (by omega) (by omega) rfl _ hj (un / (Y / 4294967296) - (un * 4294967296 + V / 4294967296) / Y).toNat (un / (Y / 4294967296)) (un % (Y / 4294967296)) (by omega) q3 q1 q2 q4 q5 (by omega)
    -- what it comes to
    have hYp : 0 < Y := by omega
    have d1 := Int.emod_add_mul_ediv (un * 4294967296 + V / 4294967296) Y
    generalize hQ1 : (un * 4294967296 + V / 4294967296) / Y = Q1 at *
    generalize hR1 : (un * 4294967296 + V / 4294967296) % Y = R1 at *
    have d2 := Int.emod_add_mul_ediv (R1 * 4294967296 + V % 4294967296) Y
    have d3 := Int.emod_nonneg (R1 * 4294967296 + V % 4294967296) (show Y ≠ 0 by omega)
    have d4 := Int.emod_lt_of_pos (R1 * 4294967296 + V % 4294967296) hYp
    generalize hQ2 : (R1 * 4294967296 + V % 4294967296) / Y = Q2 at *
    generalize hR2 : (R1 * 4294967296 + V % 4294967296) % Y = R2 at *
    have tot : (hi * 18446744073709551616 + lo) * p2 s = (Q1 * 4294967296 + Q2) * Y + R2 := by
      have e1 : (hi * 18446744073709551616 + lo) * p2 s = un * 18446744073709551616 + V := by
        have : (hi * 18446744073709551616 + lo) * p2 s = hi * p2 s * 18446744073709551616 + lo * p2 s := by grind
        rw [this, hlo, ← hune]; grind
      have e2 : V = V / 4294967296 * 4294967296 + V % 4294967296 := by omega
      rw [e1]
      have e3 : (Q1 * 4294967296 + Q2) * Y + R2 = Y * Q1 * 4294967296 + (R2 + Y * Q2) := by grind
      rw [e3, d2]
      have e4 : Y * Q1 = un * 4294967296 + V / 4294967296 - R1 := by omega
      rw [e4]; omega
    have hrem : R2 = (hi * 18446744073709551616 + lo - (Q1 * 4294967296 + Q2) * y) * p2 s := by
      rw [← hY] at tot
      grind
    obtain ⟨W, hW⟩ : ∃ W, hi * 18446744073709551616 + lo - (Q1 * 4294967296 + Q2) * y = W := ⟨_, rfl⟩
    rw [hW] at hrem
    have hW0 : 0 ≤ W := by
      apply Int.le_of_not_gt
      intro hneg
      have := Int.mul_le_mul_of_nonneg_right (show W ≤ -1 by omega) (show 0 ≤ p2 s by omega)
      omega
    have hW1 : W < y := by
      apply Int.lt_of_not_ge
      intro hge
      have := Int.mul_le_mul_of_nonneg_right hge (show 0 ≤ p2 s by omega)
      omega
    have huniq := (Int.ediv_emod_unique (a := hi * 18446744073709551616 + lo) (b := y) (r := W) (q := Q1 * 4294967296 + Q2) (by omega)).2 ⟨by rw [← hW]; grind, hW0, hW1⟩
    have hsh : shr .u64 R2 (s : Int) = W := by
      rw [shr_is _ _ (by omega), hrem, Int.mul_ediv_cancel _ (by omega)]
    rw [hsh] at hl
    rw [huniq.1, huniq.2]
    refine Ev.congr (f := fun k => (bits_LeadingZeros64.f k y).bind _) (fun k => by unfold bits_Div64.f; rw [if_neg (by omega), if_neg (by omega), if_neg hz]) (Ev.bind s4 (Ev.congr (fun k => ?_) hl))
    rw [w64s, w64t, if_pos (by omega), if_pos (by omega), c1, c2, c3, c4, c5, c6, c7, if_neg (by omega), hq0, hr0]
end Go.Proofs.YtdplfphgomckfaaDoor.Bw
