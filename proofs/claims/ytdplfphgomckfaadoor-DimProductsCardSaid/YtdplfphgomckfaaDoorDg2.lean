/- capstanref02.side, walked. Conditions: as each theorem states. -/
import Derived.Test.YtdplfphgomckfaaDoorDe
import Derived.Test.YtdplfphgomckfaaDoorDt
import Derived.Test.YtdplfphgomckfaaDoorOPx1
namespace Go.Proofs.YtdplfphgomckfaaDoor.Dr
set_option linter.unusedVariables false
set_option linter.unusedSimpArgs false
open Go.RowKit Go.Proofs.YtdplfphgomckfaaDoorW.PrintWords Go.Proofs.YtdplfphgomckfaaDoor.Laid Go.Proofs.YtdplfphgomckfaaDoor.Da Go.Proofs.YtdplfphgomckfaaDoor.Db
def MX : Nat := 1000000000000000
/-- n times q, so often; none: above the limit on the way. -/
def pw (q : Nat) : Nat → Nat → Option Nat
 | 0, n => some n
 | k + 1, n => if n * q > 1000000000000000 then none else pw q k (n * q)
def prm : Nat → Nat | 0 => 2 | 1 => 3 | _ => 5
/-- What is left to do from prime i on. -/
def sdF (e : Nat → Nat) : Nat → Nat → Nat → Option Nat
 | 0, _, n => some n
 | g + 1, i, n => (pw (prm i) (e i) n).bind fun m => sdF e g (i + 1) m
def sideV (e : Nat → Nat) : Nat := match sdF e 3 0 1 with | none => 1000000000000001 | some n => n
theorem prm_bd (i : Nat) : 2 ≤ prm i ∧ prm i ≤ 5 := by unfold prm; split <;> omega
def p3C (p : List Int) : Array Value := (p.map (Value.int .i64)).toArray
theorem p3C_at (p : List Int) (k : Nat) (h : k < p.length) : (p3C p)[k]? = some (.int .i64 (p.getD k 0)) := by
 unfold p3C
 simp [List.getD_eq_getElem?_getD, h]
def prC : Array Value := #[.int .i64 2, .int .i64 3, .int .i64 5]
theorem prC_at (k : Nat) (h : k < 3) : prC[k]? = some (.int .i64 (prm k : Nat)) := by
 have : k = 0 ∨ k = 1 ∨ k = 2 := by omega
 rcases this with rfl | rfl | rfl <;> rfl
def SPost (w : World) (v : Nat) (e : Ending) (w' : World) : Prop := e = .returned (.int .i64 (v : Int)) ∧ Below w.heap.size w w'
set_option maxHeartbeats 4000000 in
set_option maxRecDepth 100000 in
theorem side_any (x0 x1 x2 sg : Int) (p : List Int) (hp : p = [x0, x1, x2]) (hsg : sg = 1 ∨ sg = -1) (hb : ∀ x ∈ p, -1000000 ≤ x ∧ x ≤ 1000000) (e : Nat → Nat) (he : ∀ k, k < 3 → e k = (sg * p.getD k 0).toNat) (w : World) : Calls Tryd.prog 23 #[.agg #[.int .i64 x0, .int .i64 x1, .int .i64 x2], .int .i64 sg] w (SPost w (sideV e)) := by
 obtain ⟨V, hV⟩ : ∃ V, sideV e = V := ⟨_, rfl⟩
 rw [hV]
 have HV := Lib.hid hV
 have hl : p.length = 3 := by rw [hp]; rfl
 have HHB := Lib.hid hb
 have HE := Lib.hid he
 have hbox : (#[.int .i64 x0, .int .i64 x1, .int .i64 x2] : Array Value) = p3C p := by rw [hp]; rfl
 have HB0 := Lib.hid (((Below.refl w.heap.size w).alloc (Nat.le_refl _) (.cells #[.int .i64 x0, .int .i64 x1, .int .i64 x2] 46)).alloc (by simp) (.cells prC 81))
 have HP0 := Lib.hid (show ((w.alloc (.cells #[.int .i64 x0, .int .i64 x1, .int .i64 x2] 46)).alloc (.cells prC 81)).heap[w.heap.size]? = some (.cells (p3C p) 46 (0, 0)) from by rw [← hbox]; exact Blk.blk_alloc (Blk.blk_new w _) _)
 have HQ0 := Lib.hid (Blk.blk_at (w.alloc (.cells #[.int .i64 x0, .int .i64 x1, .int .i64 x2] 46)) (.cells prC 81) (w.heap.size + 1) (by simp))
 obtain ⟨W0, hW0⟩ : ∃ W, (w.alloc (.cells #[.int .i64 x0, .int .i64 x1, .int .i64 x2] 46)).alloc (.cells prC 81) = W := ⟨_, rfl⟩
 obtain ⟨b, hbb⟩ : ∃ b, w.heap.size = b := ⟨_, rfl⟩
 rw [hW0] at HB0 HP0 HQ0
 rw [hbb] at HP0 HQ0
 unfold prC at hW0
 clear hV hb he hbox hp
 go_enter Tryd.func23, Tryd.ntmps23
 go_wp2_with fail
 try rw [hW0]
 try simp only [hbb]
 have HW := Lib.hid (And.intro hW0 hbb)
 clear hW0 hbb
 go_loopg [5, 7] 3 (fun gf v5 v7 wx => ∃ (i n : Nat), v7 = .int .i64 i ∧ v5 = .int .i64 n ∧ i + gf = 3 ∧ n ≤ 1000000000000000 ∧ wx = W0 ∧ Hid ((match sdF e gf i n with | none => 1000000000000001 | some n => n) = V))
 case atStart => exact ⟨0, 1, rfl, rfl, by omega, by omega, rfl, HV⟩
 case round =>
  obtain ⟨i, n, rfl, rfl, hi, hn, rfl, HR⟩ := hrel
  by_cases hlt : i < 3
  ·obtain ⟨g', rfl⟩ : ∃ g', gk = g' + 1 := ⟨gk - 1, by omega⟩
   have q0 : decide ((i : Int) < 3) = true := by simp; omega
   have y1 := (Blk.blk_cell HP0.out i).trans (p3C_at p i (by omega))
   have y2 := (Blk.blk_cell HQ0.out i).trans (prC_at i hlt)
   have hpi := HHB.out (p.getD i 0) (by rw [List.getD_eq_getElem?_getD, List.getElem?_eq_getElem (by omega : i < p.length)]; exact List.getElem_mem _)
   have hei := HE.out i hlt
   obtain ⟨x, hx⟩ : ∃ x, p.getD i 0 = x := ⟨_, rfl⟩
   rw [hx] at y1 hpi hei
   obtain ⟨q, hq⟩ : ∃ q, prm i = q := ⟨_, rfl⟩
   have hqb := prm_bd i
   rw [hq] at y2 hqb
   obtain ⟨E, hE⟩ : ∃ E, e i = E := ⟨_, rfl⟩
   rw [hE] at hei
   have hEb : E ≤ 1000000 := by rcases hsg with rfl | rfl <;> omega
   obtain ⟨sx, hsx⟩ : ∃ sx, sg * x = sx := ⟨_, rfl⟩
   have hsxb : -1000000 ≤ sx ∧ sx ≤ 1000000 := by rcases hsg with rfl | rfl <;> omega
   rw [hsx] at hei
   have hwr : IntKind.i64.wrap sx = sx := by rw [IntKind.wrap_i64]; omega
   have hw64 : wrap64 sx = sx := by unfold wrap64; omega
   have hres := HR.out
   rw [sdF, hq, hE] at hres
   have HRR := Lib.hid hres
   clear hres HR hx hq hE
   go_wp2_with fail
   go_loopg [5, 8] E (fun gf v5 v8 wx => ∃ (k m : Nat), v8 = .int .i64 k ∧ v5 = .int .i64 m ∧ k + gf = E ∧ m ≤ 1000000000000000 ∧ wx = wr ∧ Hid ((match (pw q gf m).bind (fun m => sdF e g' (i + 1) m) with | none => 1000000000000001 | some n => n) = V))
   case atStart => exact ⟨0, n, rfl, rfl, by omega, hn, rfl, HRR⟩
   case round =>
    clear HRR
    obtain ⟨k, m, rfl, rfl, hk, hm, rfl, HR⟩ := hrel
    by_cases hlk : k < E
    ·obtain ⟨g2, rfl⟩ : ∃ g', gk = g' + 1 := ⟨gk - 1, by omega⟩
     have q1 : decide ((k : Int) < sx) = true := by simp; omega
     have hb1 : m * q ≤ 1000000000000000 * 5 := Nat.mul_le_mul hm hqb.2
     obtain ⟨mq, hmq⟩ : ∃ x, m * q = x := ⟨_, rfl⟩
     have hmqI : (m : Int) * (q : Int) = (mq : Int) := by rw [← hmq]; exact (Int.natCast_mul m q).symm
     rw [hmq] at hb1
     have hres := HR.out
     rw [pw, hmq] at hres
     clear hmq HR
     by_cases hbig : mq > 1000000000000000
     ·rw [if_pos hbig] at hres
      have hres2 : 1000000000000001 = V := hres
      subst hres2
      have q2 : decide ((mq : Int) > 1000000000000000) = true := by simp; omega
      have HBG := Lib.hid hbig
      clear hres hbig
      go_wp2_with fail
      go_ret
      exact ⟨rfl, HB0.out⟩
     ·rw [if_neg hbig] at hres
      have HRN := Lib.hid hres
      have q2 : decide ((mq : Int) > 1000000000000000) = false := by simp; omega
      clear hres
      go_wp2_with fail
      go_roundg g2
      case measure => omega
      case rel => exact ⟨k + 1, mq, by go_num, rfl, by omega, by omega, rfl, HRN⟩
    ·obtain rfl : gk = 0 := by omega
     obtain rfl : k = E := by omega
     have q1 : decide ((k : Int) < sx) = false := by simp; omega
     have hres := HR.out
     rw [pw, Option.bind_some] at hres
     have HRN := Lib.hid hres
     clear hres HR
     go_wp2_with fail
     go_roundg g'
     case measure => omega
     case rel => exact ⟨i + 1, m, by go_num, rfl, by omega, hm, rfl, HRN⟩
  ·obtain rfl : gk = 0 := by omega
   obtain rfl : i = 3 := by omega
   have q0 : decide (((3 : Nat) : Int) < 3) = false := by decide
   have hres := HR.out
   rw [sdF] at hres
   have hres2 : n = V := hres
   subst hres2
   clear hres
   go_wp2_with fail
   go_ret
   exact ⟨rfl, HB0.out⟩
end Go.Proofs.YtdplfphgomckfaaDoor.Dr
/- The reference's exponents against the program's factors: greatest common divisors of products of powers of 2, 3 and 5. Conditions: as each theorem states. -/
namespace Go.Proofs.YtdplfphgomckfaaDoor.Dg
set_option linter.unusedVariables false
set_option linter.unusedSimpArgs false
open Go.RowKit Go.Proofs.YtdplfphgomckfaaDoorW.PrintWords Go.Proofs.YtdplfphgomckfaaDoor.Laid Go.Proofs.YtdplfphgomckfaaDoor.Da Go.Proofs.YtdplfphgomckfaaDoor.Db Go.Proofs.YtdplfphgomckfaaDoor.Dc Go.Proofs.YtdplfphgomckfaaDoor.Dd Go.Proofs.YtdplfphgomckfaaDoor.De Go.Proofs.YtdplfphgomckfaaDoor.Dr Go.Proofs.YtdplfphgomckfaaDoor.Dt
open Go.Proofs.YtdplfphgomckfaaDoor.OP (S52 S46 z52 k52)
/-- The exponents above and below the line. -/
def up (p : List Int) (k : Nat) : Nat := (p.getD k 0).toNat
def dn (p : List Int) (k : Nat) : Nat := (-(p.getD k 0)).toNat
def P3 (e : Nat → Nat) : Nat := 2 ^ e 0 * 3 ^ e 1 * 5 ^ e 2
theorem P3_pos (e : Nat → Nat) : 1 ≤ P3 e := Nat.mul_pos (Nat.mul_pos (Nat.pow_pos (by omega)) (Nat.pow_pos (by omega))) (Nat.pow_pos (by omega))
theorem P3_add (e f : Nat → Nat) : P3 e * P3 f = P3 fun k => e k + f k := by
 unfold P3
 simp only [Nat.pow_add]
 simp only [Nat.mul_assoc, Nat.mul_left_comm, Nat.mul_comm]
theorem P3_congr {e f : Nat → Nat} (h0 : e 0 = f 0) (h1 : e 1 = f 1) (h2 : e 2 = f 2) : P3 e = P3 f := by unfold P3; rw [h0, h1, h2]
theorem P3_div (e f : Nat → Nat) (h0 : f 0 ≤ e 0) (h1 : f 1 ≤ e 1) (h2 : f 2 ≤ e 2) : P3 e / P3 f = P3 fun k => e k - f k := by
 have h := P3_add f (fun k => e k - f k)
 have h' : P3 e = P3 f * P3 (fun k => e k - f k) := by
  rw [h]; exact P3_congr (by omega) (by omega) (by omega)
 rw [h', Nat.mul_div_cancel_left _ (P3_pos f)]
theorem cop {a b : Nat} (h : Nat.gcd a b = 1) (m n : Nat) : Nat.gcd (a ^ m) (b ^ n) = 1 := Nat.Coprime.pow m n h
theorem gcd_split (a b c d : Nat) (hac : Nat.gcd a d = 1) (hbc : Nat.gcd b c = 1) : Nat.gcd (a * b) (c * d) = Nat.gcd a c * Nat.gcd b d := by
 have hac' : Nat.Coprime a d := hac
 have hbc' : Nat.Coprime b c := hbc
 apply Nat.dvd_antisymm
 ·have h1 : Nat.gcd (a * b) (c * d) ∣ Nat.gcd (a * b) c * Nat.gcd (a * b) d := Nat.gcd_mul_right_dvd_mul_gcd _ _ _
  have h2 : Nat.gcd (a * b) c = Nat.gcd a c := Nat.Coprime.gcd_mul_right_cancel _ hbc'
  have h3 : Nat.gcd (a * b) d = Nat.gcd b d := Nat.Coprime.gcd_mul_left_cancel _ hac'
  rw [h2, h3] at h1
  exact h1
 ·have hc : Nat.Coprime (Nat.gcd a c) (Nat.gcd b d) := by
   have : Nat.Coprime (Nat.gcd a c) d := Nat.Coprime.coprime_dvd_left (Nat.gcd_dvd_left a c) hac'
   exact Nat.Coprime.coprime_dvd_right (Nat.gcd_dvd_right b d) this
  refine Nat.Coprime.mul_dvd_of_dvd_of_dvd hc ?_ ?_
  ·exact Nat.dvd_gcd (Nat.dvd_trans (Nat.gcd_dvd_left a c) (Nat.dvd_mul_right a b)) (Nat.dvd_trans (Nat.gcd_dvd_right a c) (Nat.dvd_mul_right c d))
  ·exact Nat.dvd_gcd (Nat.dvd_trans (Nat.gcd_dvd_left b d) (Nat.dvd_mul_left b a)) (Nat.dvd_trans (Nat.gcd_dvd_right b d) (Nat.dvd_mul_left d c))
theorem gcd_pw (q m n : Nat) : Nat.gcd (q ^ m) (q ^ n) = q ^ min m n := by
 by_cases h : m ≤ n
 ·rw [Nat.min_eq_left h]
  exact Nat.gcd_eq_left (Nat.pow_dvd_pow q h)
 ·rw [Nat.min_eq_right (by omega)]
  exact Nat.gcd_eq_right (Nat.pow_dvd_pow q (by omega))
theorem P3_gcd (e f : Nat → Nat) : Nat.gcd (P3 e) (P3 f) = P3 fun k => min (e k) (f k) := by
 unfold P3
 have c23 (m n : Nat) : Nat.gcd (2 ^ m) (3 ^ n) = 1 := cop (by decide) m n
 have c32 (m n : Nat) : Nat.gcd (3 ^ m) (2 ^ n) = 1 := cop (by decide) m n
 have c25 (m n : Nat) : Nat.gcd (2 ^ m) (5 ^ n) = 1 := cop (by decide) m n
 have c52 (m n : Nat) : Nat.gcd (5 ^ m) (2 ^ n) = 1 := cop (by decide) m n
 have c35 (m n : Nat) : Nat.gcd (3 ^ m) (5 ^ n) = 1 := cop (by decide) m n
 have c53 (m n : Nat) : Nat.gcd (5 ^ m) (3 ^ n) = 1 := cop (by decide) m n
 rw [gcd_split (2 ^ e 0 * 3 ^ e 1) (5 ^ e 2) (2 ^ f 0 * 3 ^ f 1) (5 ^ f 2) (Nat.Coprime.mul_left (c25 _ _) (c35 _ _)) (Nat.Coprime.mul_right (c52 _ _) (c53 _ _)), gcd_split (2 ^ e 0) (3 ^ e 1) (2 ^ f 0) (3 ^ f 1) (c23 _ _) (c32 _ _), gcd_pw, gcd_pw, gcd_pw]
theorem pw_is (q : Nat) (hq : 1 ≤ q) : ∀ k n, n ≤ 1000000000000000 → pw q k n = if n * q ^ k ≤ 1000000000000000 then some (n * q ^ k) else none
 | 0, n, h => by rw [pw, Nat.pow_zero, Nat.mul_one, if_pos h]
 | k + 1, n, h => by
  rw [pw]
  have e : n * q ^ (k + 1) = n * q * q ^ k := by rw [Nat.pow_succ, Nat.mul_comm (q ^ k) q, Nat.mul_assoc]
  rw [e]
  split
  ·next hg =>
   rw [if_neg]
   have := Nat.mul_le_mul_left (n * q) (Nat.pow_pos hq : 0 < q ^ k)
   omega
  ·next hg => exact pw_is q hq k (n * q) (by omega)
theorem sideV_is (e : Nat → Nat) : sideV e = if P3 e ≤ 1000000000000000 then P3 e else 1000000000000001 := by
 unfold sideV sdF sdF sdF sdF
 rw [show prm 0 = 2 from rfl, show prm (0 + 1) = 3 from rfl, show prm (0 + 1 + 1) = 5 from rfl]
 have hP : P3 e = 1 * 2 ^ e 0 * 3 ^ e 1 * 5 ^ e 2 := by unfold P3; rw [Nat.one_mul]
 rw [hP, pw_is 2 (by omega) _ _ (by omega)]
 have p3 : 0 < 3 ^ e (0 + 1) := Nat.pow_pos (by omega)
 have p5 : 0 < 5 ^ e (0 + 1 + 1) := Nat.pow_pos (by omega)
 generalize hA : 1 * 2 ^ e 0 = A at *
 rw [show e 1 = e (0 + 1) from rfl, show e 2 = e (0 + 1 + 1) from rfl]
 have g1 := Nat.mul_le_mul_left A p3
 by_cases h1 : A ≤ 1000000000000000
 ·rw [if_pos h1, Option.bind_some, pw_is 3 (by omega) _ _ h1]
  generalize hB : A * 3 ^ e (0 + 1) = B at *
  have g2 := Nat.mul_le_mul_left B p5
  by_cases h2 : B ≤ 1000000000000000
  ·rw [if_pos h2, Option.bind_some, pw_is 5 (by omega) _ _ h2]
   by_cases h3 : B * 5 ^ e (0 + 1 + 1) ≤ 1000000000000000
   ·rw [if_pos h3, if_pos h3]; rfl
   ·rw [if_neg h3, if_neg h3]; rfl
  ·rw [if_neg h2, Option.bind_none, if_neg (by omega)]
 ·rw [if_neg h1]
  generalize hB : A * 3 ^ e (0 + 1) = B at *
  have g2 := Nat.mul_le_mul_left B p5
  rw [Option.bind_none, if_neg (by omega)]
theorem sideV_gt (e : Nat → Nat) : sideV e > 1000000000000000 ↔ P3 e > 1000000000000000 := by
 rw [sideV_is]
 split <;> omega
/-- The reference's table. -/
def NL : List S52 := (OP.capstanref02_Names.f).getD []
theorem NL_f : OP.capstanref02_Names.f = some NL := rfl
/-- A row's place in both tables. -/
def idx (r : Rw) : Nat := table.findIdx fun q => q.name == r.name
def ex (r : Rw) : S46 := (NL.getD (idx r) z52).f1
def okIB (r : Rw) : Bool := decide (idx r < 18) && decide ((NL.getD (idx r) z52).f2 = r.base) && decide (-30 ≤ (ex r).f0) && decide ((ex r).f0 ≤ 30) && decide (-30 ≤ (ex r).f1) && decide ((ex r).f1 ≤ 30) && decide (-30 ≤ (ex r).f2) && decide ((ex r).f2 ≤ 30)
theorem all_idx : table.all okIB = true := by decide
theorem idx_ok {r : Rw} (h : r ∈ table) : idx r < 18 ∧ (NL.getD (idx r) z52).f2 = r.base ∧ (-30 ≤ (ex r).f0 ∧ (ex r).f0 ≤ 30) ∧ (-30 ≤ (ex r).f1 ∧ (ex r).f1 ≤ 30) ∧ (-30 ≤ (ex r).f2 ∧ (ex r).f2 ≤ 30) := by
 have := (List.all_eq_true.1 all_idx) r h
 simpa [okIB, and_assoc] using this
/-- A unit and the exponents that mean it. -/
def RU (u : Un) (p d : List Int) : Prop := u.num = P3 (up p) ∧ u.den = P3 (dn p) ∧ u.d = d ∧ p.length = 3
def sgn (down : Bool) : Int := if down = true then -1 else 1
def bump (p : List Int) (x : S46) (sg : Int) : List Int := [p.getD 0 0 + sg * x.f0, p.getD 1 0 + sg * x.f1, p.getD 2 0 + sg * x.f2]
def bumpD (d : List Int) (base sg : Int) : List Int := if base < 0 then d else d.set base.toNat (d.getD base.toNat 0 + sg)
/-- Beyond the limits. -/
def over (p d : List Int) (base : Int) : Prop := sideV (up p) > 1000000000000000 ∨ sideV (dn p) > 1000000000000000 ∨ (0 ≤ base ∧ (d.getD base.toNat 0 > 8 ∨ d.getD base.toNat 0 < -8))
def xl (x : S46) (sg : Int) : List Int := [sg * x.f0, sg * x.f1, sg * x.f2]
def okXB (r : Rw) : Bool := decide (r.num.toNat = P3 (up (xl (ex r) 1))) && decide (r.den.toNat = P3 (dn (xl (ex r) 1)))
theorem all_ex : table.all okXB = true := by decide
theorem ex_ok {r : Rw} (h : r ∈ table) : r.num.toNat = P3 (up (xl (ex r) 1)) ∧ r.den.toNat = P3 (dn (xl (ex r) 1)) := by
 have := (List.all_eq_true.1 all_ex) r h
 simpa [okXB] using this
theorem xl_neg (x : S46) : up (xl x (-1)) = dn (xl x 1) ∧ dn (xl x (-1)) = up (xl x 1) := by
 constructor <;> funext k <;> (rcases k with _ | _ | _ | k) <;> simp [up, dn, xl]
theorem row_xy {r : Rw} (h : r ∈ table) (down : Bool) : (if down = true then r.den.toNat else r.num.toNat) = P3 (up (xl (ex r) (sgn down))) ∧ (if down = true then r.num.toNat else r.den.toNat) = P3 (dn (xl (ex r) (sgn down))) := by
 obtain ⟨h1, h2⟩ := ex_ok h
 cases down with
 | false => exact ⟨h1, h2⟩
 | true =>
  obtain ⟨e1, e2⟩ := xl_neg (ex r)
  exact ⟨h2.trans (congrArg P3 e1).symm, h1.trans (congrArg P3 e2).symm⟩
theorem min_P3 (p q : List Int) : P3 (up p) / Nat.gcd (P3 (up p)) (P3 (dn q)) * (P3 (up q) / Nat.gcd (P3 (up q)) (P3 (dn p))) = P3 fun k => (p.getD k 0 + q.getD k 0).toNat := by
 rw [P3_gcd, P3_gcd, P3_div (up p) (fun k => min (up p k) (dn q k)) (Nat.min_le_left _ _) (Nat.min_le_left _ _) (Nat.min_le_left _ _), P3_div (up q) (fun k => min (up q k) (dn p k)) (Nat.min_le_left _ _) (Nat.min_le_left _ _) (Nat.min_le_left _ _), P3_add]
 apply P3_congr <;> (dsimp only [up, dn]; omega)
theorem min_P3' (p q : List Int) : P3 (dn p) / Nat.gcd (P3 (up q)) (P3 (dn p)) * (P3 (dn q) / Nat.gcd (P3 (up p)) (P3 (dn q))) = P3 fun k => (-(p.getD k 0 + q.getD k 0)).toNat := by
 rw [P3_gcd, P3_gcd, P3_div (dn p) (fun k => min (up q k) (dn p k)) (Nat.min_le_right _ _) (Nat.min_le_right _ _) (Nat.min_le_right _ _), P3_div (dn q) (fun k => min (up p k) (dn q k)) (Nat.min_le_right _ _) (Nat.min_le_right _ _) (Nat.min_le_right _ _), P3_add]
 apply P3_congr <;> (dsimp only [up, dn]; omega)
theorem prod_val (a b c : Nat) (h : a * b = c) (hb : 1 ≤ b) : (prodF a b).2 = decide (c ≤ 1000000000000000) ∧ (c ≤ 1000000000000000 → (prodF a b).1 = c) := by
 unfold prodF
 by_cases hc : c ≤ 1000000000000000
 ·have : ¬ a > M / b := by
   have := (Nat.le_div_iff_mul_le (k := b) (x := a) (y := M) hb).2 (by unfold M; omega)
   omega
  rw [if_neg this]
  exact ⟨by simpa using hc, fun _ => h⟩
 ·have : a > M / b := by
   have := mt (Nat.le_div_iff_mul_le (k := b) (x := a) (y := M) hb).1 (by unfold M; omega)
   omega
  rw [if_pos this]
  exact ⟨by simp; omega, fun h => absurd h hc⟩
theorem step_ref (u : Un) (p d : List Int) (r : Rw) (down : Bool) (hu : OkU u) (hr : r ∈ table) (h : RU u p d) :
  ((stepR u r down).2 = true → RU (stepR u r down).1 (bump p (ex r) (sgn down)) (bumpD d r.base (sgn down)) ∧ ¬ over (bump p (ex r) (sgn down)) (bumpD d r.base (sgn down)) r.base) ∧ ((stepR u r down).2 = false → over (bump p (ex r) (sgn down)) (bumpD d r.base (sgn down)) r.base) := by
 obtain ⟨N, D, ds⟩ := u
 obtain ⟨h1, h2, h3, h4⟩ := h
 obtain ⟨u1, u2, u3, u4, u5, u6⟩ := hu
 dsimp only at h1 h2 h3 u1 u2 u3 u4 u5 u6
 subst h3
 obtain ⟨X, hX⟩ : ∃ X, (if down = true then r.den.toNat else r.num.toNat) = X := ⟨_, rfl⟩
 obtain ⟨Y, hY⟩ : ∃ Y, (if down = true then r.num.toNat else r.den.toNat) = Y := ⟨_, rfl⟩
 have hS : stepR ⟨N, D, ds⟩ r down = stepF ⟨N, D, ds⟩ X Y (plc r) (sgn down) := by
  rw [← hX, ← hY]
  cases down <;> rfl
 obtain ⟨hx, hy⟩ := row_xy hr down
 rw [hX] at hx
 rw [hY] at hy
 rw [hS]
 obtain ⟨q, hq⟩ : ∃ q, xl (ex r) (sgn down) = q := ⟨_, rfl⟩
 rw [hq] at hx hy
 have hup : P3 (fun k => (p.getD k 0 + q.getD k 0).toNat) = P3 (up (bump p (ex r) (sgn down))) := by
  rw [← hq]; exact P3_congr rfl rfl rfl
 have hdn : P3 (fun k => (-(p.getD k 0 + q.getD k 0)).toNat) = P3 (dn (bump p (ex r) (sgn down))) := by
  rw [← hq]; exact P3_congr rfl rfl rfl
 have hmu := (min_P3 p q).trans hup
 have hmd := (min_P3' p q).trans hdn
 have x1 : 1 ≤ X := by rw [hx]; exact P3_pos _
 have y1 : 1 ≤ Y := by rw [hy]; exact P3_pos _
 rw [← h1, ← h2, ← hx, ← hy] at hmu hmd
 have pa := prod_val _ _ _ hmu (div_pos' (Nat.gcd_pos_of_pos_left D x1) (Nat.gcd_le_left D x1))
 have pb := prod_val _ _ _ hmd (div_pos' (Nat.gcd_pos_of_pos_left Y u1) (Nat.gcd_le_right N y1))
 unfold stepF
 dsimp only
 generalize prodF (N / Nat.gcd N Y) (X / Nat.gcd X D) = A at pa ⊢
 generalize prodF (D / Nat.gcd X D) (Y / Nat.gcd N Y) = B at pb ⊢
 obtain ⟨a1, a2⟩ := A
 obtain ⟨b1, b2⟩ := B
 dsimp only at pa pb
 obtain ⟨rfl, pa⟩ := pa
 obtain ⟨rfl, pb⟩ := pb
 obtain ⟨P', hP'⟩ : ∃ P', bump p (ex r) (sgn down) = P' := ⟨_, rfl⟩
 have hPl : P'.length = 3 := by rw [← hP']; rfl
 rw [hP'] at pa pb ⊢
 unfold over
 rw [sideV_gt, sideV_gt]
 by_cases ha : P3 (up P') ≤ 1000000000000000
 ·by_cases hb : P3 (dn P') ≤ 1000000000000000
  ·rw [show decide (P3 (up P') ≤ 1000000000000000) = true from by simpa using ha, show decide (P3 (dn P') ≤ 1000000000000000) = true from by simpa using hb]
   have ha1 := pa ha
   have hb1 := pb hb
   unfold plc
   by_cases hbs : r.base < 0
   ·rw [if_pos hbs, endF_none]
    dsimp only
    unfold bumpD
    rw [if_pos hbs]
    refine ⟨fun _ => ⟨⟨ha1, hb1, rfl, hPl⟩, ?_⟩, fun h => absurd h (by decide)⟩
    rintro (h | h | ⟨h, _⟩) <;> omega
   ·rw [if_neg hbs, endF_some]
    dsimp only
    have hb5 : r.base.toNat < ds.length := by have := (row_ok hr).2.2.2.2; omega
    unfold bumpD
    rw [if_neg hbs]
    have hget : (ds.set r.base.toNat (ds.getD r.base.toNat 0 + sgn down)).getD r.base.toNat 0 = ds.getD r.base.toNat 0 + sgn down := by
     rw [List.getD_eq_getElem?_getD, List.getElem?_set_self hb5]; rfl
    rw [hget]
    obtain ⟨z, hz⟩ : ∃ z, ds.getD r.base.toNat 0 + sgn down = z := ⟨_, rfl⟩
    rw [hz]
    constructor
    ·intro h
     simp only [Bool.and_eq_true, decide_eq_true_eq] at h
     refine ⟨⟨ha1, hb1, rfl, hPl⟩, ?_⟩
     rintro (h' | h' | ⟨_, h' | h'⟩) <;> omega
    ·intro h
     rw [Bool.and_eq_false_iff] at h
     simp only [decide_eq_false_iff_not] at h
     exact .inr (.inr ⟨by omega, by omega⟩)
  ·rw [show decide (P3 (dn P') ≤ 1000000000000000) = false from by simpa using hb, endF_no2]
   exact ⟨fun h => absurd h (by simp), fun _ => .inr (.inl (by omega))⟩
 ·rw [show decide (P3 (up P') ≤ 1000000000000000) = false from by simpa using ha, endF_no1]
  exact ⟨fun h => absurd h (by simp), fun _ => .inl (by omega)⟩
theorem pow_bd (e : Nat → Nat) (h : P3 e ≤ 1000000000000000) (k : Nat) (hk : k < 3) : e k ≤ 60 := by
 have e0 : 1 ≤ 2 ^ e 0 := Nat.pow_pos (by omega)
 have e1 : 1 ≤ 3 ^ e 1 := Nat.pow_pos (by omega)
 have e2 : 1 ≤ 5 ^ e 2 := Nat.pow_pos (by omega)
 have m1 : 2 ^ e k ≤ P3 e := by
  unfold P3
  have : k = 0 ∨ k = 1 ∨ k = 2 := by omega
  rcases this with rfl | rfl | rfl
  ·have a := Nat.mul_le_mul_left (2 ^ e 0) e1
   have b := Nat.mul_le_mul_left (2 ^ e 0 * 3 ^ e 1) e2
   omega
  ·have z := Nat.pow_le_pow_left (show 2 ≤ 3 by omega) (e 1)
   have a := Nat.mul_le_mul_right (3 ^ e 1) e0
   have b := Nat.mul_le_mul_left (2 ^ e 0 * 3 ^ e 1) e2
   omega
  ·have z := Nat.pow_le_pow_left (show 2 ≤ 5 by omega) (e 2)
   have a := Nat.mul_le_mul e0 e1
   have b := Nat.mul_le_mul_right (5 ^ e 2) a
   omega
 apply Nat.le_of_not_lt
 intro h60
 have := Nat.pow_le_pow_right (show 0 < 2 by omega) (show 60 ≤ e k by omega)
 have q : (2 : Nat) ^ 60 = 1152921504606846976 := by decide
 omega
theorem exp_bd (u : Un) (p d : List Int) (hu : OkU u) (h : RU u p d) : ∀ x ∈ p, -60 ≤ x ∧ x ≤ 60 := by
 obtain ⟨h1, h2, h3, h4⟩ := h
 obtain ⟨u1, u2, u3, u4, _, _⟩ := hu
 rw [h1] at u2
 rw [h2] at u4
 intro x hx
 obtain ⟨k, hk, rfl⟩ := List.getElem_of_mem hx
 have a := pow_bd _ u2 k (by omega)
 have b := pow_bd _ u4 k (by omega)
 unfold up at a
 unfold dn at b
 rw [List.getD_eq_getElem?_getD, List.getElem?_eq_getElem hk] at a b
 simp only [Option.getD_some] at a b
 omega
theorem side_up (u : Un) (p d : List Int) (hu : OkU u) (h : RU u p d) : sideV (up p) = u.num ∧ sideV (dn p) = u.den := by
 obtain ⟨h1, h2, h3, h4⟩ := h
 obtain ⟨u1, u2, u3, u4, _, _⟩ := hu
 rw [sideV_is, sideV_is, ← h1, ← h2, if_pos u2, if_pos u4]
 exact ⟨rfl, rfl⟩
/-- What part answers. -/
def pt (s : ByteArray) (a : Nat) : Int × Int × Int × Int × Int × Bool :=
 if (facF s a).2.2.2 = true then ((idx (facF s a).1 : Nat), ((facF s a).2.1 : Nat), (a : Nat), ((facF s a).2.2.1 : Nat), 0, true) else (0, 0, 0, 0, ((facF s a).2.2.1 : Nat), false)
theorem bt_nat (s : ByteArray) (j : Nat) (h : j < s.size) : bt s (j : Int) = ((s.data.toList.getD j 0).toNat : Int) := by
 unfold bt
 rw [dif_pos (by simpa using h), List.getD_eq_getElem?_getD, List.getElem?_eq_getElem (by simpa using h)]
 rfl
theorem upTo_is (s : ByteArray) (hs : s.size ≤ 64) (b : Bool) (p : UInt8 → Bool) (hp : p = if b = true then digB else letB) : ∀ (k i : Nat), i ≤ s.size → s.size - i < k → OP.capstanref02_upTo.l0 k s (i : Int) b = some ((i + tw p (s.data.toList.drop i) : Nat) : Int)
 | 0, i, hi, hk => by omega
 | k + 1, i, hi, hk => by
  unfold OP.capstanref02_upTo.l0
  by_cases h : i < s.size
  ·have ih := upTo_is s hs b p hp k (i + 1) (by omega) (by omega)
   have ht := tw_at p s i h
   have hw : wrap64 ((i : Int) + 1) = ((i + 1 : Nat) : Int) := by unfold wrap64; omega
   rw [hw, ih]
   have hbt := bt_nat s i h
   rw [List.getD_eq_getElem?_getD, List.getElem?_eq_getElem (by simpa using h)] at hbt
   simp only [Option.getD_some] at hbt
   change bt s (i : Int) = ((s[i].toNat : Nat) : Int) at hbt
   obtain ⟨c, hc⟩ : ∃ c, s[i] = c := ⟨_, rfl⟩
   rw [hc] at hbt ht
   obtain ⟨x, hx⟩ : ∃ x, bt s (i : Int) = x := ⟨_, rfl⟩
   rw [hx] at hbt ⊢
   have hl : letB c = true ↔ (97 ≤ x ∧ x ≤ 122) ∨ (65 ≤ x ∧ x ≤ 90) := by
    unfold letB
    simp only [Bool.or_eq_true, Bool.and_eq_true, decide_eq_true_eq, u8_le, hbt]
    rfl
   have hd : digB c = true ↔ 48 ≤ x ∧ x ≤ 57 := by
    unfold digB
    simp only [Bool.and_eq_true, decide_eq_true_eq, u8_le, hbt]
    rfl
   obtain ⟨t, ht0⟩ : ∃ t, tw p (s.data.toList.drop i) = t := ⟨_, rfl⟩
   obtain ⟨t', ht1⟩ : ∃ t', tw p (s.data.toList.drop (i + 1)) = t' := ⟨_, rfl⟩
   rw [ht0, ht1] at ht
   rw [ht0, ht1]
   have e0 : (i : Int) < (s.size : Int) := by omega
   have e1 : (0 : Int) ≤ (i : Int) := by omega
   rw [if_pos e0, if_pos e1]
   cases b with
   | true =>
    rw [if_pos rfl] at hp
    subst hp
    have key : (48 ≤ x ∧ x ≤ 57 ∧ t = t' + 1) ∨ (¬ (48 ≤ x ∧ x ≤ 57) ∧ t = 0) := by
     by_cases hq : digB c = true
     ·rw [if_pos hq] at ht
      have := hd.1 hq
      exact .inl ⟨this.1, this.2, ht⟩
     ·rw [if_neg hq] at ht
      exact .inr ⟨fun h => hq (hd.2 h), ht⟩
    clear hl hd ht ih hw hx hbt
    repeat' split
    all_goals (first | (exfalso; omega) | (apply congrArg some; omega) | (exfalso; simp_all; done))
   | false =>
    rw [if_neg (by decide)] at hp
    subst hp
    have key : (((97 ≤ x ∧ x ≤ 122) ∨ (65 ≤ x ∧ x ≤ 90)) ∧ t = t' + 1) ∨ (¬ ((97 ≤ x ∧ x ≤ 122) ∨ (65 ≤ x ∧ x ≤ 90)) ∧ t = 0) := by
     by_cases hq : letB c = true
     ·rw [if_pos hq] at ht
      exact .inl ⟨hl.1 hq, ht⟩
     ·rw [if_neg hq] at ht
      exact .inr ⟨fun h => hq (hl.2 h), ht⟩
    clear hl hd ht ih hw hx hbt
    repeat' split
    all_goals (first | (exfalso; omega) | (apply congrArg some; omega) | (rename_i hbf; cases hbf; done) | (exfalso; simp_all; done))
  ·rw [if_neg (by omega)]
   have : s.data.toList.drop i = [] := List.drop_eq_nil_of_le (by simp; omega)
   rw [this]
   rfl
/-! names -/
def nmA (j : Nat) : List UInt8 := (table.getD j zr).name
def ffx (x : List UInt8) (i : Nat) : Nat → Int
 | 0 => -1
 | g + 1 => if nmA i = x then (i : Int) else ffx x (i + 1) g
def lix (x : List UInt8) : Nat → Option Nat
 | 0 => none
 | i + 1 => if nmA i = x then some i else lix x i
theorem last_ix (nb : ByteArray) : ∀ n, lastRow nb n = (lix nb.toList n).map fun j => table.getD j zr
 | 0 => rfl
 | n + 1 => by
  unfold lastRow lix nmA
  rw [bs_list]
  by_cases h : (table.getD n zr).name = nb.toList
  ·rw [if_pos h, if_pos (by simpa using h)]; rfl
  ·rw [if_neg h, if_neg (by simpa using h)]; exact last_ix nb n
theorem rd_name : ∀ j : Nat, j < 18 → (OP.rd_T52 NL (j : Int)).f0.data.toList = nmA j := by decide
theorem find_ix (nb : ByteArray) : ∀ (g i k : Nat), i + g = 18 → g < k → OP.capstanref02_Find.l0 k nb NL (i : Int) = some (ffx nb.toList i g)
 | g, i, 0, _, hk => by omega
 | 0, i, k + 1, hi, _ => by
  unfold OP.capstanref02_Find.l0
  have : NL.length = 18 := by decide
  rw [if_neg (by omega)]
  rfl
 | g + 1, i, k + 1, hi, hk => by
  unfold OP.capstanref02_Find.l0 ffx
  have : NL.length = 18 := by decide
  rw [if_pos (by omega), if_pos (by omega), ByteArray.toList_eq (OP.rd_T52 NL (i : Int)).f0, rd_name i (by omega), show wrap64 ((i : Int) + 1) = ((i + 1 : Nat) : Int) from by unfold wrap64; omega, find_ix nb g (i + 1) k (by omega) (by omega)]
  split <;> rfl
theorem all_found : ∀ j, j < 18 → ffx (nmA j) 0 18 = (j : Int) ∧ lix (nmA j) 18 = some j ∧ idx (table.getD j zr) = j := by decide
theorem ffx_no (x : List UInt8) : ∀ (g i : Nat), (∀ j, i ≤ j → j < i + g → nmA j ≠ x) → ffx x i g = -1
 | 0, _, _ => rfl
 | g + 1, i, h => by
  unfold ffx
  rw [if_neg (h i (by omega) (by omega))]
  exact ffx_no x g (i + 1) fun j h1 h2 => h j (by omega) (by omega)
theorem lix_no (x : List UInt8) : ∀ n, (∀ j, j < n → nmA j ≠ x) → lix x n = none
 | 0, _ => rfl
 | n + 1, h => by
  unfold lix
  rw [if_neg (h n (by omega))]
  exact lix_no x n fun j h1 => h j (by omega)
theorem find_is (nb : ByteArray) (k : Nat) (hk : 18 < k) : (lastRow nb 18 = none ∧ OP.capstanref02_Find.f k nb = some (-1)) ∨ (∃ j, j < 18 ∧ lastRow nb 18 = some (table.getD j zr) ∧ idx (table.getD j zr) = j ∧ OP.capstanref02_Find.f k nb = some (j : Int)) := by
 have hF : OP.capstanref02_Find.f k nb = some (ffx nb.toList 0 18) := by
  unfold OP.capstanref02_Find.f
  rw [NL_f, Option.bind_some]
  exact find_ix nb 18 0 k rfl hk
 rw [hF, last_ix]
 by_cases h : ∃ j, j < 18 ∧ nmA j = nb.toList
 ·obtain ⟨j, hj, e⟩ := h
  obtain ⟨a1, a2, a3⟩ := all_found j hj
  rw [← e, a1, a2]
  exact .inr ⟨j, hj, rfl, a3, rfl⟩
 ·rw [ffx_no _ 18 0 (fun j _ h2 e => h ⟨j, by omega, e⟩), lix_no _ 18 (fun j h2 e => h ⟨j, h2, e⟩)]
  exact .inl ⟨rfl, rfl⟩
theorem tw_pre (p : UInt8 → Bool) : ∀ (l : List UInt8) (j : Nat), j < tw p l → p (l.getD j 0) = true
 | [], j, h => by simp [tw] at h
 | a :: l, j, h => by
  rw [tw_cons] at h
  split at h
  ·next ha =>
   cases j with
   | zero => exact ha
   | succ j => exact tw_pre p l j (by omega)
  ·omega
def bd : Nat → Nat | 0 => 1000 | 1 => 100 | 2 => 10 | _ => 1
theorem num_is (s : ByteArray) (hs : s.size ≤ 64) (a ix : Int) (tn : Nat) (htn : tn ≤ s.size) : ∀ (g j n k : Nat), j + g = tn → g ≤ 3 → n < bd g → (∀ i, j ≤ i → i < tn → digB (s.data.toList.getD i 0) = true) → g < k → OP.capstanref02_part.l0 k s a ix (tn : Int) (n : Int) (j : Int) = some (ix, ((val n ((s.data.toList.drop j).take g) : Nat) : Int), a, (tn : Int), 0, true)
 | g, j, n, 0, _, _, _, _, hk => by omega
 | 0, j, n, k + 1, hj, _, _, _, _ => by
  unfold OP.capstanref02_part.l0
  rw [if_neg (by omega)]
  simp [val]
 | g + 1, j, n, k + 1, hj, hg, hn, hd, hk => by
  unfold OP.capstanref02_part.l0
  rw [if_pos (by omega), if_pos (by omega), if_pos (by omega), bt_nat s j (by omega)]
  have hdc := hd j (Nat.le_refl _) (by omega)
  have hl : (s.data.toList.drop j).take (g + 1) = s.data.toList.getD j 0 :: (s.data.toList.drop (j + 1)).take g := by
   rw [List.drop_eq_getElem_cons (show j < s.data.toList.length from by simp; omega), List.take_succ_cons, List.getD_eq_getElem?_getD, List.getElem?_eq_getElem (by simp; omega)]
   rfl
  rw [hl]
  obtain ⟨c, hc⟩ : ∃ c, s.data.toList.getD j 0 = c := ⟨_, rfl⟩
  rw [hc] at hdc ⊢
  have hc2 := (digB_iff c).1 hdc
  have hb : n < 100 ∧ 10 * n + (c.toNat - 48) < bd g := by
   have : g = 0 ∨ g = 1 ∨ g = 2 := by omega
   rcases this with rfl | rfl | rfl <;> (simp only [bd] at hn ⊢; omega)
  obtain ⟨hb1, hb2⟩ := hb
  clear hn
  have e1 : wrap64 (10 * (n : Int)) = 10 * (n : Int) := by unfold wrap64; omega
  obtain ⟨y, hy⟩ : ∃ y, c.toNat = y := ⟨_, rfl⟩
  rw [hy] at hc2 hb2 ⊢
  have e2 : ((y : Int) - 48) % 256 = (y : Int) - 48 := by omega
  have e3 : wrap64 (10 * (n : Int) + ((y : Int) - 48)) = 10 * (n : Int) + ((y : Int) - 48) := by unfold wrap64; omega
  have e : wrap64 (wrap64 (10 * (n : Int)) + ((y : Int) - 48) % 256) = ((10 * n + (y - 48) : Nat) : Int) := by rw [e1, e2, e3]; omega
  rw [e, show wrap64 ((j : Int) + 1) = ((j + 1 : Nat) : Int) from by unfold wrap64; omega, num_is s hs a ix tn htn g (j + 1) (10 * n + (y - 48)) k (by omega) (by omega) hb2 (fun i h1 h2 => hd i (by omega) h2) (by omega), ← hy]
  rfl
theorem j0_eq (k : Nat) (x0 : ByteArray) (x1 x7 x8 : Int) (b : Bool) : OP.capstanref02_part.j0 (k + 1) x0 x1 x7 x8 b = if b = true then (some (x8, 1, x1, x7, 0, true)) else ((OP.capstanref02_upTo.f k x0 (wrap64 (x7 + 1)) true).bind fun t111 => (if t111 = (wrap64 (x7 + 1)) then (OP.capstanref02_part.j1 k x0 x1 x8 (wrap64 (x7 + 1)) t111 true) else (if t111 > (wrap64 ((wrap64 (x7 + 1)) + 3)) then (OP.capstanref02_part.j1 k x0 x1 x8 (wrap64 (x7 + 1)) t111 true) else (if 0 ≤ (wrap64 (x7 + 1)) then (if (wrap64 (x7 + 1)) < (x0.size : Int) then (OP.capstanref02_part.j1 k x0 x1 x8 (wrap64 (x7 + 1)) t111 ((bt x0 (wrap64 (x7 + 1))) == 48)) else (none)) else (none))))) := rfl
theorem j1_eq (k : Nat) (x0 : ByteArray) (x1 x8 x9 x10 : Int) (b : Bool) : OP.capstanref02_part.j1 (k + 1) x0 x1 x8 x9 x10 b = if b = true then (some (0, 0, 0, 0, x9, false)) else (OP.capstanref02_part.l0 k x0 x1 x8 x10 0 x9) := rfl
theorem facG_some (s : ByteArray) (a c : Nat) (r : Rw) : facG s a c (some r) = if c = s.size ∨ s.data.toList.getD c 0 ≠ 94 then (r, 1, c, true) else facH s r (c + 1) (tw digB (s.data.toList.drop (c + 1))) := rfl
theorem part_k (k : Nat) (hk : 100 < k) (s : ByteArray) (hs : s.size ≤ 64) (a : Nat) (ha : a ≤ s.size) : OP.capstanref02_part.f (k + 2) s a = some (pt s a) := by
 unfold OP.capstanref02_part.f pt facF
 have h1 := upTo_is s hs false letB rfl (k + 2) a ha (by omega)
 have hsz := tw_size letB s a ha
 obtain ⟨c, hc⟩ : ∃ c, a + tw letB (s.data.toList.drop a) = c := ⟨_, rfl⟩
 rw [hc] at h1 hsz ⊢
 unfold OP.capstanref02_upTo.f
 rw [h1, Option.bind_some, if_pos (by omega), if_pos (by omega), if_pos (by omega), Int.toNat_natCast, Int.toNat_natCast]
 rcases find_is (s.extract a c) (k + 2) (by omega) with ⟨e1, e2⟩ | ⟨j, hj, e1, e3, e2⟩
 ·rw [e1, e2, Option.bind_some, if_pos (by omega)]
  rfl
 ·rw [e1, e2, Option.bind_some, if_neg (by omega)]
  generalize hr : table.getD j zr = r at e3
  rw [facG_some]
  by_cases h2 : c = s.size
  ·have hi : (c = s.size ∨ s.data.toList.getD c 0 ≠ 94) := .inl h2
   rw [if_pos (show (c : Int) = (s.size : Int) from by omega), if_pos hi]
   rw [j0_eq]
   rw [if_pos rfl]
   dsimp only
   rw [if_pos rfl, e3]
   rfl
  ·rw [if_neg (by omega), if_pos (by omega), if_pos (by omega), bt_nat s c (by omega)]
   by_cases h3 : s.data.toList.getD c 0 = 94
   ·have hi : ¬ (c = s.size ∨ s.data.toList.getD c 0 ≠ 94) := by rintro (h | h); exact h2 h; exact h h3
    rw [if_neg hi, h3]
    rw [j0_eq]
    rw [if_neg (show ¬ ((((94 : UInt8).toNat : Nat) : Int) != 94) = true from by decide), show wrap64 ((c : Int) + 1) = ((c + 1 : Nat) : Int) from by unfold wrap64; omega]
    unfold OP.capstanref02_upTo.f
    have h4 := upTo_is s hs true digB rfl (k + 1) (c + 1) (by omega) (by omega)
    have hsz2 := tw_size digB s (c + 1) (by omega)
    rw [h4, Option.bind_some]
    obtain ⟨m, hm⟩ : ∃ m, tw digB (s.data.toList.drop (c + 1)) = m := ⟨_, rfl⟩
    rw [hm] at hsz2 ⊢
    obtain ⟨d, hd⟩ : ∃ d, c + 1 = d := ⟨_, rfl⟩
    rw [hd] at hm hsz2 ⊢
    unfold facH
    by_cases h5 : m < 1
    ·rw [if_pos (show ((d + m : Nat) : Int) = (d : Int) from by omega), if_pos (show (m < 1 ∨ m > 3 ∨ s.data.toList.getD d 0 = 48) from .inl h5)]
     rw [j1_eq]
     rw [if_pos rfl]
     rfl
    ·rw [if_neg (show ¬ ((d + m : Nat) : Int) = (d : Int) from by omega), show wrap64 ((d : Int) + 3) = ((d + 3 : Nat) : Int) from by unfold wrap64; omega]
     by_cases h6 : m > 3
     ·rw [if_pos (by omega), if_pos (show (m < 1 ∨ m > 3 ∨ s.data.toList.getD d 0 = 48) from .inr (.inl h6))]
      rw [j1_eq]
      rw [if_pos rfl]
      rfl
     ·rw [if_neg (by omega), if_pos (by omega), if_pos (by omega), bt_nat s d (by omega)]
      by_cases h7 : s.data.toList.getD d 0 = 48
      ·rw [if_pos (show (m < 1 ∨ m > 3 ∨ s.data.toList.getD d 0 = 48) from .inr (.inr h7)), h7]
       rw [j1_eq]
       rw [if_pos (by decide)]
       rfl
      ·have h8 : ((((s.data.toList.getD d 0).toNat : Nat) : Int) == 48) = false := by
        rw [beq_eq_false_iff_ne]
        intro h
        exact h7 (UInt8.toNat_inj.1 (show _ = (48 : UInt8).toNat from by rw [show (48 : UInt8).toNat = 48 from rfl]; omega))
       rw [h8, if_neg (show ¬ (m < 1 ∨ m > 3 ∨ s.data.toList.getD d 0 = 48) from by rintro (h | h | h); exact h5 h; exact h6 h; exact h7 h)]
       rw [j1_eq]
       rw [if_neg (by decide)]
       dsimp only
       rw [if_pos rfl, e3]
       have hbm : 0 < bd m := by
        have : m = 1 ∨ m = 2 ∨ m = 3 := by omega
        rcases this with h | h | h <;> rw [h] <;> decide
       have hn := num_is s hs (a : Int) (j : Int) (d + m) hsz2 m d 0 k rfl (by omega) hbm (fun i h9 h10 => by
        have := tw_pre digB (s.data.toList.drop d) (i - d) (by omega)
        rw [List.getD_eq_getElem?_getD, List.getElem?_drop, ← List.getD_eq_getElem?_getD, show d + (i - d) = i from by omega] at this
        exact this) (by omega)
       rw [show (0 : Int) = ((0 : Nat) : Int) from rfl] at hn ⊢
       rw [hn]
       have hx : (s.extract d (d + m)).data.toList = (s.data.toList.drop d).take m := by
        rw [Lib.extract_data, show d + m - d = m from by omega]
       rw [hx]
   ·have h4 : ((((s.data.toList.getD c 0).toNat : Nat) : Int) != 94) = true := by
     rw [bne_iff_ne]
     intro h
     exact h3 (UInt8.toNat_inj.1 (show _ = (94 : UInt8).toNat from by rw [show (94 : UInt8).toNat = 94 from rfl]; omega))
    have hi : (c = s.size ∨ s.data.toList.getD c 0 ≠ 94) := .inr h3
    rw [h4, if_pos hi]
    rw [j0_eq]
    rw [if_pos rfl]
    dsimp only
    rw [if_pos rfl, e3]
    rfl
theorem part_is (s : ByteArray) (hs : s.size ≤ 64) (a : Nat) (ha : a ≤ s.size) : OP.capstanref02_part.f 200 s a = some (pt s a) := part_k 198 (by omega) s hs a ha
end Go.Proofs.YtdplfphgomckfaaDoor.Dg
