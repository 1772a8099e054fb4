/- DimProducts, in plain Lean. Conditions: as each theorem states. -/
import Derived.Test.YtdplfphgomckfaaDoorPz
import Derived.Test.YtdplfphgomckfaaDoorPk
import Derived.Test.YtdplfphgomckfaaDoorOGx1
import Derived.Test.YtdplfphgomckfaaDoorArgDimProducts
import Derived.OpenShut
namespace Go.Proofs.YtdplfphgomckfaaDoor.Pb
set_option linter.unusedVariables false
set_option linter.unusedSimpArgs false
open Go.RowKit Go.Proofs.YtdplfphgomckfaaDoorW.PrintWords Go.Proofs.YtdplfphgomckfaaDoor.Laid Go.Proofs.YtdplfphgomckfaaDoor.Da Go.Proofs.YtdplfphgomckfaaDoor.Db Go.Proofs.YtdplfphgomckfaaDoor.Dd Go.Proofs.YtdplfphgomckfaaDoor.De Go.Proofs.YtdplfphgomckfaaDoor.Dg Go.Proofs.YtdplfphgomckfaaDoor.Ra Go.Proofs.YtdplfphgomckfaaDoor.Pa Go.Proofs.YtdplfphgomckfaaDoor.Bn Go.Proofs.YtdplfphgomckfaaDoor.Bx Go.Proofs.YtdplfphgomckfaaDoor.Dj Go.Proofs.YtdplfphgomckfaaDoor.OG
theorem awake_ev : Ev OG.capstanlaw02_awake.f true := Ra.ev_mono 8 (by
 unfold OG.capstanlaw02_awake.f
 rw [Ra.read_awake]
 rfl) OG.capstanlaw02_awake.mono
/-- What a text's reading answers. -/
def Reads (s : ByteArray) (t : Un × Nat × Int) : Prop := Ev (fun k => De.Read.f k s) (flat t) ∧ t.2.1 ≤ s.size ∧ ((s.size > 64 ∧ t = (Zu, 0, 2)) ∨ (s.size ≤ 64 ∧ RdR s 0 false U1 t ∧ (t.2.2 = 0 ∨ t.2.2 = 20 ∨ t.2.2 = 21)))
theorem reads (s : ByteArray) : ∃ t, Reads s t := by
 by_cases h : s.size > 64
 ·refine ⟨(Zu, 0, 2), ⟨0, fun k _ => ?_⟩, Nat.zero_le _, .inl ⟨h, rfl⟩⟩
  show (readF k s).map flat = _
  unfold readF
  rw [if_pos h]; rfl
 ·obtain ⟨t, ht, hp, he⟩ := rd_tot s (s.size + 1) 0 false U1 (by omega) (by omega)
  refine ⟨t, Ra.ev_mono (s.size + 1) ?_ (Read.mono s), hp, .inr ⟨by omega, ⟨_, ht⟩, he⟩⟩
  show (readF (s.size + 1) s).map flat = _
  unfold readF
  rw [if_neg h, ht]; rfl
/-- What the units of two right texts and of their product have to do with each other. -/
def Prod3 (u v w : Un) : Prop := OkU u ∧ OkU v ∧ OkU w ∧ (∀ k, k < 5 → w.d.getD k 0 = u.d.getD k 0 + v.d.getD k 0) ∧ (u.den = 1 → v.den = 1 → w.den = 1 ∧ w.num = u.num * v.num)
theorem two_le (e : Nat → Nat) (k : Nat) (hk : k < 3) : 2 ^ e k ≤ P3 e := by
 have e0 : 1 ≤ 2 ^ e 0 := Nat.pow_pos (by omega)
 have e1 : 1 ≤ 3 ^ e 1 := Nat.pow_pos (by omega)
 have e2 : 1 ≤ 5 ^ e 2 := Nat.pow_pos (by omega)
 unfold P3
 have : k = 0 ∨ k = 1 ∨ k = 2 := by omega
 rcases this with rfl | rfl | rfl
 ·have a := Nat.mul_le_mul_left (2 ^ e 0) e1
  have b := Nat.mul_le_mul_left (2 ^ e 0 * 3 ^ e 1) e2
  omega
 ·have z := Nat.pow_le_pow_left (show 2 ≤ 3 by omega) (e 1)
  have a := Nat.mul_le_mul_right (3 ^ e 1) e0
  have b := Nat.mul_le_mul_left (2 ^ e 0 * 3 ^ e 1) e2
  omega
 ·have z := Nat.pow_le_pow_left (show 2 ≤ 5 by omega) (e 2)
  have a := Nat.mul_le_mul e0 e1
  have b := Nat.mul_le_mul_right (5 ^ e 2) a
  omega
theorem P3_one {e : Nat → Nat} (h : P3 e = 1) : e 0 = 0 ∧ e 1 = 0 ∧ e 2 = 0 := by
 have key : ∀ k, k < 3 → e k = 0 := fun k hk => by
  have h1 := two_le e k hk
  rcases Nat.eq_zero_or_pos (e k) with h2 | h2
  ·exact h2
  ·have : 2 ^ 1 ≤ 2 ^ e k := Nat.pow_le_pow_right (by omega) h2
   omega
 exact ⟨key 0 (by omega), key 1 (by omega), key 2 (by omega)⟩
theorem prod3 (a b s : ByteArray) (hP : Pre s a) (hS : Suf s b (a.size + 1)) (u v w : Un) (x y z : Nat) (h1 : RdR a 0 false U1 (u, x, 0)) (h2 : RdR b 0 false U1 (v, y, 0)) (h3 : RdR s 0 false U1 (w, z, 0)) : Prod3 u v w := by
 obtain ⟨k1, h1⟩ := h1
 obtain ⟨k2, h2⟩ := h2
 have hS' := hS.size
 -- the rest is read
 obtain ⟨t', ht', _⟩ := rd_tot s (s.size + 1) (a.size + 1) false u (by omega) (by omega)
 have hw := (pre_read hP k1 0 false U1 (u, x, 0) (by omega) h1).2 rfl t' ⟨_, ht'⟩
 have e := RdR.uniq h3 hw
 subst e
 obtain ⟨p, e, ou, ru⟩ := one_read a k1 0 false U1 [0, 0, 0] [0, 0, 0, 0, 0] u x (by omega) okU1 Pa.RU1 h1
 have h2' := rdL_up b k2 (s.size + 1) 0 false U1 _ h2
 have h3' := rdL_up s (s.size + 1) k2 (a.size + 1) false u _ ht'
 rw [Nat.add_comm] at h3'
 obtain ⟨p', q', e', f', ow, ov, rw', rv, sp, sd⟩ := two_reads hS (k2 + (s.size + 1)) 0 false u U1 p [0, 0, 0] e [0, 0, 0, 0, 0] w v z y (by omega) ou okU1 ru Pa.RU1 (by rw [Nat.add_zero]; exact h3') h2'
 refine ⟨ou, ov, ow, fun k hk => ?_, fun d1 d2 => ?_⟩
 ·have := sd k hk
  rw [rw'.2.2.1, ru.2.2.1, rv.2.2.1]
  have z5 : ([0, 0, 0, 0, 0] : List Int).getD k 0 = 0 := by
   have : k = 0 ∨ k = 1 ∨ k = 2 ∨ k = 3 ∨ k = 4 := by omega
   rcases this with rfl | rfl | rfl | rfl | rfl <;> rfl
  omega
 ·have g1 := P3_one (ru.2.1 ▸ d1)
  have g2 := P3_one (rv.2.1 ▸ d2)
  have s0 := sp 0 (by omega)
  have s1 := sp 1 (by omega)
  have s2 := sp 2 (by omega)
  have z0 : ([0, 0, 0] : List Int).getD 0 0 = 0 := rfl
  have z1 : ([0, 0, 0] : List Int).getD 1 0 = 0 := rfl
  have z2 : ([0, 0, 0] : List Int).getD 2 0 = 0 := rfl
  rw [z0] at s0
  rw [z1] at s1
  rw [z2] at s2
  unfold dn at g1 g2
  constructor
  ·rw [rw'.2.1]
   have : P3 (dn p') = P3 (fun _ => 0) := P3_congr (by unfold dn; omega) (by unfold dn; omega) (by unfold dn; omega)
   rw [this]; rfl
  ·rw [rw'.1, ru.1, rv.1, P3_add]
   exact P3_congr (by unfold up; omega) (by unfold up; omega) (by unfold up; omega)
theorem step_big (n m : Nat) (hn : 1 ≤ n) (hm : 1 ≤ m) : scl 1000000000 ((n * m : Nat) : Int) 1 = scl (scl 1000000000 (n : Int) 1) (m : Int) 1 := by
 unfold scl
 rw [if_neg (by omega), if_neg (by omega), if_neg (by omega), Int.ediv_one, Int.ediv_one, Int.ediv_one, Int.natCast_mul]
 have e : 1000000000 * ((n : Int) * (m : Int)) = 1000000000 * (n : Int) * (m : Int) := by grind
 rw [e]
 obtain ⟨y, hy⟩ : ∃ y : Int, 1000000000 * (n : Int) = y := ⟨_, rfl⟩
 rw [hy]
 by_cases h : y ≤ 9223372036854775807
 ·rw [show hold y = y from by unfold hold; rw [if_neg (by omega), if_neg (by omega)]]
 ·rw [show hold y = 9223372036854775807 from by unfold hold; rw [if_neg (by omega), if_pos (by omega)]]
  have h1 := Int.mul_le_mul_of_nonneg_left (show (1 : Int) ≤ (m : Int) by omega) (show 0 ≤ y by omega)
  have h2 := Int.mul_le_mul_of_nonneg_left (show (1 : Int) ≤ (m : Int) by omega) (show (0 : Int) ≤ 9223372036854775807 by omega)
  unfold hold
  by_cases h3 : 9223372036854775807 < 9223372036854775807 * (m : Int)
  ·rw [if_neg (by omega), if_pos (by omega), if_neg (by omega), if_pos h3]
  ·rw [if_neg (by omega), if_pos (by omega), if_neg (by omega), if_neg h3]; omega
theorem scl_bd (a n d : Int) : I64 (scl a n d) := by
 unfold scl
 split
 ·unfold I64; omega
 ·exact hold_bd _
theorem dim_in {u : Un} (h : OkU u) (k : Nat) (hk : k < 5) : -8 ≤ u.d.getD k 0 ∧ u.d.getD k 0 ≤ 8 := by
 have := h.2.2.2.2.1
 exact h.2.2.2.2.2 _ (by rw [List.getD_eq_getElem?_getD, List.getElem?_eq_getElem (by omega : k < u.d.length)]; exact List.getElem_mem _)
theorem good_end (u v w : Un) (h : Prod3 u v w) : Ev (fun k => capstanlaw02_DimProducts.j1 k false (u.num : Int) (u.den : Int) (u.d.getD 0 0) (u.d.getD 1 0) (u.d.getD 2 0) (u.d.getD 3 0) (u.d.getD 4 0) (v.num : Int) (v.den : Int) (v.d.getD 0 0) (v.d.getD 1 0) (v.d.getD 2 0) (v.d.getD 3 0) (v.d.getD 4 0) (w.num : Int) (w.den : Int) (w.d.getD 0 0) (w.d.getD 1 0) (w.d.getD 2 0) (w.d.getD 3 0) (w.d.getD 4 0)) true := by
 obtain ⟨ou, ov, ow, hd, hone⟩ := h
 have u0 := dim_in ou 0 (by omega); have u1 := dim_in ou 1 (by omega); have u2 := dim_in ou 2 (by omega); have u3 := dim_in ou 3 (by omega); have u4 := dim_in ou 4 (by omega)
 have v0 := dim_in ov 0 (by omega); have v1 := dim_in ov 1 (by omega); have v2 := dim_in ov 2 (by omega); have v3 := dim_in ov 3 (by omega); have v4 := dim_in ov 4 (by omega)
 have w0 := dim_in ow 0 (by omega); have w1 := dim_in ow 1 (by omega); have w2 := dim_in ow 2 (by omega); have w3 := dim_in ow 3 (by omega); have w4 := dim_in ow 4 (by omega)
 have d0 := hd 0 (by omega); have d1 := hd 1 (by omega); have d2 := hd 2 (by omega); have d3 := hd 3 (by omega); have d4 := hd 4 (by omega)
 obtain ⟨un1, un2, ud1, ud2, _, _⟩ := ou
 obtain ⟨vn1, vn2, vd1, vd2, _, _⟩ := ov
 obtain ⟨wn1, wn2, wd1, wd2, _, _⟩ := ow
 generalize u.d.getD 0 0 = a0 at *; generalize u.d.getD 1 0 = a1 at *; generalize u.d.getD 2 0 = a2 at *; generalize u.d.getD 3 0 = a3 at *; generalize u.d.getD 4 0 = a4 at *
 generalize v.d.getD 0 0 = b0 at *; generalize v.d.getD 1 0 = b1 at *; generalize v.d.getD 2 0 = b2 at *; generalize v.d.getD 3 0 = b3 at *; generalize v.d.getD 4 0 = b4 at *
 generalize w.d.getD 0 0 = c0 at *; generalize w.d.getD 1 0 = c1 at *; generalize w.d.getD 2 0 = c2 at *; generalize w.d.getD 3 0 = c3 at *; generalize w.d.getD 4 0 = c4 at *
 generalize u.num = un at *; generalize u.den = ud at *; generalize v.num = vn at *; generalize v.den = vd at *; generalize w.num = wn at *; generalize w.den = wd at *
 have hvs : vs [a0, a1, a2, a3, a4] [b0, b1, b2, b3, b4] (decide ((1 : Int) < 0)) = [c0, c1, c2, c3, c4] := by
  have hdec : decide ((1 : Int) < 0) = false := by decide
  rw [hdec]
  unfold vs jv
  simp only [Bool.false_eq_true, if_false, List.getD_cons_zero, List.getD_cons_succ]
  rw [hold_in (v := a0 + b0) (by omega), hold_in (v := a1 + b1) (by omega), hold_in (v := a2 + b2) (by omega), hold_in (v := a3 + b3) (by omega), hold_in (v := a4 + b4) (by omega), ← d0, ← d1, ← d2, ← d3, ← d4]
 have hm : dim_Mul.f a0 a1 a2 a3 a4 b0 b1 b2 b3 b4 = some (c0, c1, c2, c3, c4, true) := by
  unfold dim_Mul.f
  rw [both_yes a0 a1 a2 a3 a4 b0 b1 b2 b3 b4 1 (by intro x hx; simp at hx; unfold I64; omega) (by intro x hx; simp at hx; unfold I64; omega) (by rw [hvs]; intro x hx; simp at hx; omega), hvs]
  rfl
 have i1 : I64 (1000000000 : Int) := by unfold I64; omega
 have e1 : Ev (fun k => dim_Value.f k (wn : Int) (wd : Int) c0 c1 c2 c3 c4 1000000000) (scl 1000000000 (wn : Int) (wd : Int)) := Ev.bind (scale_is 1000000000 (wn : Int) (wd : Int) i1 (by unfold I64; omega) (by unfold I64; omega)) (f := fun _ t => some t) (Ev.now _)
 have e2 : Ev (fun k => dim_Value.f k (un : Int) (ud : Int) a0 a1 a2 a3 a4 1000000000) (scl 1000000000 (un : Int) (ud : Int)) := Ev.bind (scale_is 1000000000 (un : Int) (ud : Int) i1 (by unfold I64; omega) (by unfold I64; omega)) (f := fun _ t => some t) (Ev.now _)
 have e3 : Ev (fun k => dim_Value.f k (vn : Int) (vd : Int) b0 b1 b2 b3 b4 (scl 1000000000 (un : Int) (ud : Int))) (scl (scl 1000000000 (un : Int) (ud : Int)) (vn : Int) (vd : Int)) := Ev.bind (scale_is _ (vn : Int) (vd : Int) (scl_bd _ _ _) (by unfold I64; omega) (by unfold I64; omega)) (f := fun _ t => some t) (Ev.now _)
 obtain ⟨K1, h1⟩ := e1
 obtain ⟨K2, h2⟩ := e2
 obtain ⟨K3, h3⟩ := e3
 refine ⟨K1 + K2 + K3 + 2, fun k hk => ?_⟩
 obtain ⟨j, rfl⟩ : ∃ j, k = j + 1 + 1 := ⟨k - 2, by omega⟩
 simp only [capstanlaw02_DimProducts.j1]
 rw [if_neg (by decide), hm]
 simp only [Option.bind_some, if_true, beq_self_eq_true, Bool.not_true, Bool.or_self]
 simp only [capstanlaw02_DimProducts.j2]
 have g1 := h1 j (by omega)
 have g2 := h2 j (by omega)
 have g3 := h3 j (by omega)
 dsimp only at g1 g2 g3
 rw [if_neg (by decide), g1, Option.bind_some, g2, Option.bind_some, g3, Option.bind_some, if_pos (by omega), if_pos (by omega), if_pos (by omega), if_pos (by omega)]
 by_cases q1 : (ud : Int) = 1
 ·rw [if_pos q1]
  by_cases q2 : (vd : Int) = 1
  ·rw [if_pos q2]
   obtain ⟨o1, o2⟩ := hone (by omega) (by omega)
   subst o1
   have := step_big un vn un1 vn1
   rw [o2, q1, q2]
   rw [show (((1 : Nat) : Int)) = 1 from rfl, this, beq_self_eq_true]
  ·rw [if_neg q2]
 ·rw [if_neg q1]
theorem lt_help (p a b s : Nat) (h : p ≤ s) (hs : s = a + 1 + b) : ¬ ((p : Int) > (a : Int) + 1 + (b : Int)) := by omega
theorem wrap_help (a b : Nat) (ha : a ≤ 140737488351232) (hb : b ≤ 140737488351232) : wrap64 (wrap64 ((a : Int) + 1) + (b : Int)) = (a : Int) + 1 + (b : Int) := by
 rw [w64 (a := (a : Int) + 1) (by omega) (by omega), w64 (by omega) (by omega)]
set_option maxHeartbeats 1000000 in
theorem products_f (a b : ByteArray) (ha : a.size ≤ 140737488351232) (hb : b.size ≤ 140737488351232) : Ev (fun k => capstanlaw02_DimProducts.f k a b) true := by
 obtain ⟨ta, ra⟩ := reads a
 obtain ⟨tb, rb⟩ := reads b
 obtain ⟨s, hs⟩ : ∃ s, (a ++ (⟨#[42]⟩ : ByteArray)) ++ b = s := ⟨_, rfl⟩
 obtain ⟨ts, rs⟩ := reads s
 have hl : s.data.toList = a.data.toList ++ 42 :: b.data.toList := by
  rw [← hs]; simp
 have hP : Pre s a := ⟨_, hl⟩
 have hsz : s.size = a.size + 1 + b.size := by
  have := congrArg List.length hl
  simp at this
  omega
 have hS : Suf s b (a.size + 1) := by
  refine ⟨?_, by omega⟩
  rw [hl, List.drop_append, List.drop_of_length_le (by simp)]
  simp
 obtain ⟨⟨un, ud, uds⟩, pa, ea⟩ := ta
 obtain ⟨⟨vn, vd, vds⟩, pb, eb⟩ := tb
 obtain ⟨⟨wn, wd, wds⟩, ps, es⟩ := ts
 obtain ⟨r1, _, ca⟩ := ra
 obtain ⟨r2, _, cb⟩ := rb
 obtain ⟨r3, hp3, cs⟩ := rs
 have hps : ps ≤ s.size := hp3
 -- the plain law of the three readings
 have L1 : ea = 20 → es = 20 ∨ es = 2 := by
  intro h
  subst h
  rcases cs with ⟨_, e⟩ | ⟨h64, hr, _⟩
  ·injection e with _ e; injection e with _ e; exact .inr e
  ·rcases ca with ⟨_, e⟩ | ⟨_, ⟨k, hr1⟩, _⟩
   ·injection e with _ e; injection e with _ e; cases e
   ·have := (pre_read hP k 0 false U1 _ (by omega) hr1).1 (show ¬ ((20 : Int) = 0) by decide)
    have := RdR.uniq hr this
    injection this with _ this
    injection this with _ this
    exact .inl this
 have L2 : ea = 0 → eb = 0 → es = 0 → Prod3 ⟨un, ud, uds⟩ ⟨vn, vd, vds⟩ ⟨wn, wd, wds⟩ := by
  intro h1 h2 h3
  subst h1 h2 h3
  rcases ca with ⟨_, e⟩ | ⟨_, g1, _⟩
  ·injection e with _ e; injection e with _ e; cases e
  ·rcases cb with ⟨_, e⟩ | ⟨_, g2, _⟩
   ·injection e with _ e; injection e with _ e; cases e
   ·rcases cs with ⟨_, e⟩ | ⟨_, g3, _⟩
    ·injection e with _ e; injection e with _ e; cases e
    ·exact prod3 a b s hP hS _ _ _ _ _ _ g1 g2 g3
 have main : Ev (fun k => capstanlaw02_DimProducts.j0 k ea eb es false (un : Int) (ud : Int) (uds.getD 0 0) (uds.getD 1 0) (uds.getD 2 0) (uds.getD 3 0) (uds.getD 4 0) (vn : Int) (vd : Int) (vds.getD 0 0) (vds.getD 1 0) (vds.getD 2 0) (vds.getD 3 0) (vds.getD 4 0) (wn : Int) (wd : Int) (wds.getD 0 0) (wds.getD 1 0) (wds.getD 2 0) (wds.getD 3 0) (wds.getD 4 0)) true := by
  by_cases q1 : ea = 20
  ·refine ⟨1, fun k hk => ?_⟩
   obtain ⟨j, rfl⟩ : ∃ j, k = j + 1 := ⟨k - 1, by omega⟩
   simp only [capstanlaw02_DimProducts.j0]
   rw [if_neg (by decide), if_pos q1]
   rcases L1 q1 with h | h
   ·rw [if_pos h]
   ·rw [if_neg (by omega), h]; rfl
  ·by_cases q2 : ea = 0 ∧ eb = 0 ∧ es = 0
   ·obtain ⟨h1, h2, h3⟩ := q2
    have g := good_end _ _ _ (L2 h1 h2 h3)
    obtain ⟨K, g⟩ := g
    refine ⟨K + 1, fun k hk => ?_⟩
    obtain ⟨j, rfl⟩ : ∃ j, k = j + 1 := ⟨k - 1, by omega⟩
    simp only [capstanlaw02_DimProducts.j0]
    rw [if_neg (by decide), if_neg q1, if_pos h1, if_pos h2, h3]
    exact g j (by omega)
   ·refine ⟨2, fun k hk => ?_⟩
    obtain ⟨j, rfl⟩ : ∃ j, k = j + 1 + 1 := ⟨k - 2, by omega⟩
    simp only [capstanlaw02_DimProducts.j0]
    rw [if_neg (by decide), if_neg q1]
    by_cases h1 : ea = 0
    ·rw [if_pos h1]
     by_cases h2 : eb = 0
     ·rw [if_pos h2]
      have h3 : (es != 0) = true := by rw [bne_iff_ne]; exact fun h => q2 ⟨h1, h2, h⟩
      rw [h3]
      simp only [capstanlaw02_DimProducts.j1]
      rw [if_pos trivial]
     ·rw [if_neg h2]
      simp only [capstanlaw02_DimProducts.j1]
      rw [if_pos trivial]
    ·rw [if_neg h1]
     simp only [capstanlaw02_DimProducts.j1]
     rw [if_pos trivial]
 obtain ⟨K0, h0⟩ := awake_ev
 obtain ⟨K1, h1⟩ := r1
 obtain ⟨K2, h2⟩ := r2
 obtain ⟨K3, h3⟩ := r3
 obtain ⟨K4, h4⟩ := main
 refine ⟨K0 + K1 + K2 + K3 + K4, fun k hk => ?_⟩
 have g1 := h1 k (by omega)
 have g2 := h2 k (by omega)
 have g3 := h3 k (by omega)
 have g4 := h4 k (by omega)
 dsimp only [flat] at g1 g2 g3 g4
 have hz : (a ++ (⟨#[42]⟩ : ByteArray)).size = a.size + 1 := by rw [ByteArray.size_append]; rfl
 show capstanlaw02_DimProducts.f k a b = some true
 unfold capstanlaw02_DimProducts.f
 rw [h0 k (by omega), Option.bind_some, if_pos rfl, g1, Option.bind_some, g2, Option.bind_some, if_pos (by omega), hz, if_pos (by omega), hs, g3, Option.bind_some]
 dsimp only
 rw [if_neg (by omega)]
 rw [wrap_help a.size b.size ha hb, decide_eq_false (lt_help ps a.size b.size s.size hps hsz)]
 exact g4
end Go.Proofs.YtdplfphgomckfaaDoor.Pb
/- DimProducts: what is to be shown of the call. -/
namespace Go.Proofs.YtdplfphgomckfaaDoor.Pc
set_option linter.unusedVariables false
open Go.RowKit Go.Proofs.YtdplfphgomckfaaDoor.Pb
theorem walk : ArgDimProducts.Walk := by
 intro a b w hL ha hb
 obtain ⟨K, hK⟩ := products_f a b ha hb
 exact OG.capstanlaw02_DimProducts.calls K a b true w (hK K (Nat.le_refl _)) hL
end Go.Proofs.YtdplfphgomckfaaDoor.Pc
