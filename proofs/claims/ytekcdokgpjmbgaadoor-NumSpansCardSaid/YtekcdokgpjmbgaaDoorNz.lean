/- The reference's ReadSpan, walked by hand. -/
import Derived.Test.YtekcdokgpjmbgaaDoorNx
import Derived.Test.YtekcdokgpjmbgaaDoorNe
import Derived.Test.YtekcdokgpjmbgaaDoorOAx7
namespace Go.Proofs.YtekcdokgpjmbgaaDoor.Nz
set_option linter.unusedVariables false
set_option linter.unusedSimpArgs false
open Go.RowKit Go.Proofs.YtekcdokgpjmbgaaDoorW.PrintWords Go.Proofs.YtekcdokgpjmbgaaDoor.OA Go.Proofs.YtekcdokgpjmbgaaDoor.Nd Go.Proofs.YtekcdokgpjmbgaaDoor.Ne Go.Proofs.YtekcdokgpjmbgaaDoor.Nf Go.Proofs.YtekcdokgpjmbgaaDoor.Ng Go.Proofs.YtekcdokgpjmbgaaDoor.Laid Go.Proofs.YtekcdokgpjmbgaaDoor.Nx
theorem D_isD' (l : List UInt8) : (D l).all isD = true := by
  induction l with
  | nil => rfl
  | cons a l ih =>
    unfold D at ih ⊢
    rw [List.takeWhile_cons]
    split
    · rw [List.all_cons, ih, Bool.and_true]; assumption
    · rfl
theorem D_pre' (l : List UInt8) : ∃ r, l = D l ++ r ∧ r = l.drop (D l).length := by
  obtain ⟨r, hr⟩ : D l <+: l := List.takeWhile_prefix isD
  exact ⟨r, hr.symm, by conv => rhs; rw [← hr]; rw [show D (D l ++ r) = D l by rw [hr], List.drop_left]⟩
def nxt (c : Int) : Nat → Nat → Nat
  | 0, j => j
  | f + 1, j => if ((lt j).toNat : Int) = c then j else nxt c f (j + 1)
def fin (n : Int) : Int × Int := if n < 1 ∨ 604800 < n then (0, 13) else (n, 0)
/-- The reference's loop: p where it stands, j the next letter, n the seconds so far. -/
def rs (s : ByteArray) : Nat → Nat → Nat → Int → Int × Int
  | 0, _, _, _ => (0, 13)
  | f + 1, p, j, n =>
    if p < s.size then
      if (D (L s p)).length < 1 ∨ 6 < (D (L s p)).length ∨ bt s p = 48 ∨ s.size ≤ p + (D (L s p)).length then (0, 13)
      else if nxt (bt s ((p + (D (L s p)).length : Nat) : Int)) (4 - j) j = 4 then (0, 13)
      else rs s f (p + (D (L s p)).length + 1) (nxt (bt s ((p + (D (L s p)).length : Nat) : Int)) (4 - j) j + 1) (n + (val 0 (D (L s p)) : Int) * (wo (nxt (bt s ((p + (D (L s p)).length : Nat) : Int)) (4 - j) j) : Int))
    else fin n
def InvW (w wr : World) : Prop := Below w.heap.size w wr ∧ wr.heap[w.heap.size]? = some (.cells #[.int .i64 86400, .int .i64 3600, .int .i64 60, .int .i64 1] 40 (0, 0))
theorem InvW.drewN {w wr : World} (h : InvW w wr) (n : Nat) : InvW w (wr.drewN n) := ⟨Blk.below_drewN h.1 n, Blk2.blk_drewN h.2 n⟩
theorem InvW.below {w wr w2 : World} (h : InvW w wr) (hb : Below wr.heap.size wr w2) : InvW w w2 := ⟨Blk.below_then h.1 hb h.1.size, Blk.blk_below h.2 hb (Blk.blk_lt h.2)⟩
/-- Where the outer loop stands. -/
def At (s : ByteArray) (R : Int × Int) (f p j : Nat) (i n m : Int) : Prop :=
  i = p ∧ m = j ∧ j ≤ 4 ∧ p ≤ s.size ∧ s.size < p + f ∧ 0 ≤ n ∧ n ≤ j * 86399913600 ∧ rs s f p j n = R
theorem fin_bad {n : Int} (h : n < 1 ∨ 604800 < n) : fin n = (0, 13) := by unfold fin; rw [if_pos h]
theorem fin_ok {n : Int} (h : ¬ (n < 1 ∨ 604800 < n)) : fin n = (n, 0) := by unfold fin; rw [if_neg h]
theorem At.done {s : ByteArray} {R : Int × Int} {f p j : Nat} {i n m : Int} (h : At s R f p j i n m) (hi : ¬ i < s.size) : R = fin n := by
  obtain ⟨h1, h2, h3, h4, h5, h6, h7, h8⟩ := h
  obtain ⟨f, rfl⟩ : ∃ g, f = g + 1 := ⟨f - 1, by omega⟩
  rw [rs, if_neg (by omega)] at h8
  exact h8.symm
/-- A round: k the run's length, ik where its letter stands. -/
theorem At.bad {s : ByteArray} {R : Int × Int} {f p j : Nat} {i n m : Int} (h : At s R f p j i n m) (hi : i < s.size) (hb : (D (L s p)).length < 1 ∨ 6 < (D (L s p)).length ∨ bt s i = 48 ∨ s.size ≤ p + (D (L s p)).length) : R = (0, 13) := by
  obtain ⟨rfl, h2, h3, h4, h5, h6, h7, h8⟩ := h
  obtain ⟨f, rfl⟩ : ∃ g, f = g + 1 := ⟨f - 1, by omega⟩
  rw [rs, if_pos (by omega), if_pos hb] at h8
  exact h8.symm
theorem At.good {s : ByteArray} {R : Int × Int} {f p j : Nat} {i n m : Int} (h : At s R f p j i n m) (hi : i < s.size) (hb : ¬ ((D (L s p)).length < 1 ∨ 6 < (D (L s p)).length ∨ bt s i = 48 ∨ s.size ≤ p + (D (L s p)).length)) {ik : Int} (hik : ik = i + (D (L s p)).length) {J : Nat} (hJ : nxt (bt s ik) (4 - j) j = J) :
    (J = 4 → R = (0, 13)) ∧ (J ≠ 4 → ∃ g, f = g + 1 ∧ rs s g (p + (D (L s p)).length + 1) (J + 1) (n + (val 0 (D (L s p)) : Int) * (wo J : Int)) = R) := by
  obtain ⟨rfl, h2, h3, h4, h5, h6, h7, h8⟩ := h
  obtain ⟨f, rfl⟩ : ∃ g, f = g + 1 := ⟨f - 1, by omega⟩
  have e : ((p + (D (L s p)).length : Nat) : Int) = ik := by omega
  rw [rs, if_pos (by omega), if_neg hb, e, hJ] at h8
  constructor
  · intro h; rw [if_pos h] at h8; exact h8.symm
  · intro h; rw [if_neg h] at h8; exact ⟨f, rfl, h8⟩
theorem ext_D (s : ByteArray) (p : Nat) (i ik : Int) (hi : i = p) (hik : ik = i + (D (L s p)).length) (hle : ik ≤ s.size) : (s.extract i.toNat ik.toNat).data.toList = D (L s p) := by
  obtain ⟨r, h1, h2⟩ := D_pre' (L s p)
  have e1 : i.toNat = p := by omega
  have e2 : ik.toNat = p + (D (L s p)).length := by omega
  rw [e1, e2]
  have : s.extract p (p + (D (L s p)).length) = B ((s.data.toList.take (p + (D (L s p)).length)).drop p) := by
    have := B_ext s.data.toList p (p + (D (L s p)).length)
    rwa [B_eta] at this
  rw [this, B_list, List.drop_take, Nat.add_sub_cancel_left]
  have h3 : (L s p).take (D (L s p)).length = D (L s p) := by
    conv => lhs; rw [h1]
    rw [List.take_left' (by rw [← h1])]
  exact h3
theorem nxt_ne (c : Int) (f j : Nat) (h : ((lt j).toNat : Int) ≠ c) : nxt c (f + 1) j = nxt c f (j + 1) := by rw [nxt, if_neg h]
theorem nxt_eq (c : Int) (f j : Nat) (h : ((lt j).toNat : Int) = c) : nxt c (f + 1) j = j := by rw [nxt, if_pos h]
theorem w1_ok (v : Int) (k : Nat) (h0 : 0 ≤ v) (h1 : v ≤ 999999) (hk : k ≤ 86400) : IntKind.i64.wrap (v * (k : Int)) = v * (k : Int) := by
  have h2 : v * (k : Int) ≤ 999999 * 86400 := Int.mul_le_mul h1 (by omega) (by omega) (by omega)
  have h3 : 0 ≤ v * (k : Int) := Int.mul_nonneg h0 (by omega)
  generalize v * (k : Int) = x at h2 h3
  rw [Go.Proofs.YtekcdokgpjmbgaaDoorW.PrintLast.i64_w, w64 (by omega) (by omega)]
theorem mul_le (v : Int) (k : Nat) (h0 : 0 ≤ v) (h1 : v ≤ 999999) (hk : k ≤ 86400) : 0 ≤ v * (k : Int) ∧ v * (k : Int) ≤ 86399913600 :=
  ⟨Int.mul_nonneg h0 (by omega), by have : v * (k : Int) ≤ 999999 * 86400 := Int.mul_le_mul h1 (by omega) (by omega) (by omega); omega⟩
theorem wr_ok {a : Int} (h0 : 0 ≤ a) (h1 : a ≤ 1000000000000000) : IntKind.i64.wrap a = a := by rw [Go.Proofs.YtekcdokgpjmbgaaDoorW.PrintLast.i64_w, w64 (by omega) (by omega)]
def InAt (c : Int) (j J f' j' : Nat) (m' : Int) : Prop := m' = j' ∧ j' + f' = 4 ∧ j ≤ j' ∧ nxt c f' j' = J
set_option maxHeartbeats 16000000 in
set_option maxRecDepth 100000 in
theorem rs_ok (s : ByteArray) (hs : s.size ≤ 281474976710656) (w : World) :
    Calls Tryd.prog 11 #[.string s] w fun e w' => e = .returned (.tuple #[.int .i64 (rs s (s.size + 1) 0 0 0).1, .int .i64 (rs s (s.size + 1) 0 0 0).2]) ∧ Below w.heap.size w w' := by
  obtain ⟨R, hR⟩ : ∃ R, rs s (s.size + 1) 0 0 0 = R := ⟨_, rfl⟩
  rw [hR]
  have HR := Lib.hid hR
  have HZ := Lib.hid hs
  clear hR hs
  go_enter Tryd.func11, Tryd.ntmps11
  go_wp2_with fail
  go_loopw [4, 5, 6] (fun v4 v5 v6 wr => ∃ (f p j : Nat) (i n m : Int), v4 = .int .i64 n ∧ v5 = .int .i64 m ∧ v6 = .int .i64 i ∧ Hid (At s R f p j i n m) ∧ Hid (InvW w wr))
    (fun _ _ v6 _ => s.size - (intOf v6).toNat)
  case atStart => exact ⟨s.size + 1, 0, 0, 0, 0, 0, rfl, rfl, rfl, Lib.hid ⟨rfl, rfl, by omega, by omega, by omega, by omega, by omega, HR.out⟩, Lib.hid ⟨(Below.refl _ _).alloc (Nat.le_refl _) _, Blk.blk_new _ _⟩⟩
  case round =>
    obtain ⟨f, p, j, i, n, m, rfl, rfl, rfl, HA, HW⟩ := hrel
    by_cases c0 : i < (s.size : Int)
    · have d0 : decide (i < (s.size : Int)) = true := decide_eq_true c0
      have hi := HA.out.1
      obtain ⟨k, hk⟩ : ∃ k : Int, ((D (L s p)).length : Int) = k := ⟨_, rfl⟩
      have HRUN := Lib.hid (fun W => capstanref10_run.calls (s.size + 1) s i k W (by rw [hi, ← hk]; exact run_f s (by have := HZ.out; omega) p HA.out.2.2.2.1 _ (by omega)))
      have hkl : (D (L s p)).length ≤ s.size - p := by
        have h1 : (D (L s p)).length ≤ (L s p).length := List.Sublist.length_le (List.takeWhile_sublist isD)
        have h2 : (L s p).length = s.size - p := by unfold L; rw [List.length_drop, Array.length_toList, ByteArray.size_data]
        omega
      have hk0 : 0 ≤ k := by omega
      have hks : i + k ≤ s.size := by have := HA.out.2.2.2.1; omega
      have hi0 : 0 ≤ i := by omega
      have p1 := eq_true hi0
      have q1 := eq_true c0
      have hx1 := bt_at s i
      have HC0 := Lib.hid c0
      have HI := Lib.hid hi
      have HK := Lib.hid hk
      have HI0 := Lib.hid hi0
      have HK0 := Lib.hid hk0
      have HKS := Lib.hid hks
      have e2 : IntKind.i64.wrap (i + k) = i + k := wr_ok (by omega) (by have := HZ.out; omega)
      obtain ⟨ik, hik⟩ : ∃ ik : Int, i + k = ik := ⟨_, rfl⟩
      replace e2 := e2.trans hik
      have e3 : wrap64 (i + k) = ik := by rw [← Go.Proofs.YtekcdokgpjmbgaaDoorW.PrintLast.i64_w]; exact e2
      have HIK := Lib.hid hik
      clear hi hkl hks hi0 c0 hik
      by_cases b1 : k < 1
      · have a1 : decide (k < 1) = true := decide_eq_true b1
        have HT := Lib.hid (HA.out.bad HC0.out (.inl (by have := HK.out; omega)))
        clear b1 hk hk0
        go_wp2_with (go_at_call 21; refine (HRUN.out _).mono ?_; rintro e W1 ⟨rfl, nd, rfl⟩)
        go_ret2
        exact ⟨by rw [HT.out]; rfl, (HW.out.drewN nd).1⟩
      have a1 : decide (k < 1) = false := decide_eq_false b1
      by_cases b2 : 6 < k
      · have a2 : decide (6 < k) = true := decide_eq_true b2
        have HT := Lib.hid (HA.out.bad HC0.out (.inr (.inl (by have := HK.out; omega))))
        clear b1 b2 hk hk0
        go_wp2_with (go_at_call 21; refine (HRUN.out _).mono ?_; rintro e W1 ⟨rfl, nd, rfl⟩)
        go_ret2
        exact ⟨by rw [HT.out]; rfl, (HW.out.drewN nd).1⟩
      have a2 : decide (6 < k) = false := decide_eq_false b2
      by_cases b3 : bt s i = 48
      · have a3 : (bt s i == 48) = true := beq_iff_eq.2 b3
        have HT := Lib.hid (HA.out.bad HC0.out (.inr (.inr (.inl b3))))
        clear b1 b2 b3 hk hk0
        go_wp2_with (go_at_call 21; refine (HRUN.out _).mono ?_; rintro e W1 ⟨rfl, nd, rfl⟩)
        go_ret2
        exact ⟨by rw [HT.out]; rfl, (HW.out.drewN nd).1⟩
      have a3 : (bt s i == 48) = false := beq_eq_false_iff_ne.2 b3
      by_cases b4 : (s.size : Int) ≤ ik
      · have a4 : decide ((s.size : Int) ≤ ik) = true := decide_eq_true b4
        have HT := Lib.hid (HA.out.bad HC0.out (.inr (.inr (.inr (by have := HK.out; have := HIK.out; have := HI.out; omega)))))
        clear b1 b2 b3 b4 hk hk0
        go_wp2_with (go_at_call 21; refine (HRUN.out _).mono ?_; rintro e W1 ⟨rfl, nd, rfl⟩)
        go_ret2
        exact ⟨by rw [HT.out]; rfl, (HW.out.drewN nd).1⟩
      have a4 : decide ((s.size : Int) ≤ ik) = false := decide_eq_false b4
      have a5 : decide (ik < (s.size : Int)) = true := decide_eq_true (by omega)
      have p2 : (0 ≤ ik) = True := eq_true (by have := HIK.out; have := HI0.out; omega)
      have q2 : (ik < (s.size : Int)) = True := eq_true (by omega)
      have hx2 := bt_at s ik
      have HB4 := Lib.hid b4
      have HB1 := Lib.hid b1
      have HB2 := Lib.hid b2
      have HNB : Hid (¬ ((D (L s p)).length < 1 ∨ 6 < (D (L s p)).length ∨ bt s i = 48 ∨ s.size ≤ p + (D (L s p)).length)) := Lib.hid (by have := HK.out; have := HIK.out; have := HI.out; rintro (h | h | h | h) <;> first | omega | exact b3 h)
      have HIK2 : Hid (ik = i + (D (L s p)).length) := Lib.hid (by have := HK.out; have := HIK.out; omega)
      obtain ⟨c, hc⟩ : ∃ c, bt s ik = c := ⟨_, rfl⟩
      rw [hc] at hx2
      obtain ⟨J, hJ⟩ : ∃ J, nxt c (4 - j) j = J := ⟨_, rfl⟩
      have HJ := Lib.hid hJ
      have HG := Lib.hid (HA.out.good (J := J) HC0.out HNB.out HIK2.out (by rw [hc]; exact hJ))
      have hD6 : (D (L s p)).length ≤ 6 := by have := HK.out; omega
      have hDne : D (L s p) ≠ [] := by intro e; have := HK.out; rw [e] at this; simp at this; omega
      obtain ⟨v, hv⟩ : ∃ v : Int, (val 0 (D (L s p)) : Int) = v := ⟨_, rfl⟩
      have hvlt := val_lt 0 (D (L s p)) (D_isD' (L s p))
      have hvle : val 0 (D (L s p)) ≤ 999999 := by
        have h1 : 10 ^ (D (L s p)).length ≤ 10 ^ 6 := Nat.pow_le_pow_right (by omega) hD6
        omega
      have HV := Lib.hid hv
      have HV0 : Hid (0 ≤ v) := Lib.hid (by omega)
      have HV1 : Hid (v ≤ 999999) := Lib.hid (by omega)
      have hpi : Na.pi.f (s.extract i.toNat ik.toNat) 10 64 = some (v, none) := by
        unfold Na.pi.f
        have hex := ext_D s p i ik HI.out HIK2.out (by omega)
        have hsz : (s.extract i.toNat ik.toNat).size ≤ 9223372036854775806 := by have := HZ.out; rw [ByteArray.size_extract]; omega
        rw [if_pos ⟨hsz, rfl, rfl⟩, hex, pib _ (D_isD' _) hDne (by omega), hv]
      have HPI := Lib.hid (fun W => Na.pi.calls (s.extract i.toNat ik.toNat) 10 64 v none W hpi)
      have p3 : (ik ≤ (s.size : Int)) = True := eq_true (by omega)
      have p4 : (i ≤ ik) = True := eq_true (by have := HIK.out; omega)
      have e5 : IntKind.i64.wrap (k + 1) = k + 1 := wr_ok (by omega) (by omega)
      obtain ⟨k1, hk1⟩ : ∃ k1 : Int, k + 1 = k1 := ⟨_, rfl⟩
      replace e5 := e5.trans hk1
      obtain ⟨i1, hi1⟩ : ∃ i1 : Int, i + k1 = i1 := ⟨_, rfl⟩
      have e6 : IntKind.i64.wrap (i + k1) = i1 := by rw [wr_ok (by have := HI0.out; omega) (by have := HIK.out; have := HZ.out; omega)]; exact hi1
      have HI1 : Hid (i1 = i + k + 1) := Lib.hid (by omega)
      clear b1 b2 b3 b4 hk hk0 hJ hc hD6 hDne hv hvlt hvle hpi hk1 hi1
      go_wp2_with (go_at_call 21; refine (HRUN.out _).mono ?_; rintro e W1 ⟨rfl, nd, rfl⟩)
      go_loopw [5] (fun v5 wq => ∃ (f' j' : Nat) (m' : Int), v5 = .int .i64 m' ∧ Hid (InAt c j J f' j' m') ∧ Hid (∃ q, wq = wr.drewN q))
        (fun v5 _ => 4 - (intOf v5).toNat)
      case atStart => exact ⟨4 - j, j, m, rfl, Lib.hid ⟨HA.out.2.1, by have := HA.out.2.2.1; omega, Nat.le_refl _, HJ.out⟩, Lib.hid ⟨nd, rfl⟩⟩
      case round =>
        obtain ⟨f', j', m', rfl, HIN, HQ⟩ := hrel
        have hm := HIN.out.1
        have hjf := HIN.out.2.1
        have hjj := HIN.out.2.2.1
        have hnx := HIN.out.2.2.2
        clear HIN
        obtain ⟨q, rfl⟩ := HQ.out
        have hj5 : j' = 0 ∨ j' = 1 ∨ j' = 2 ∨ j' = 3 ∨ j' = 4 := by omega
        rcases hj5 with rfl | rfl | rfl | rfl | rfl
        · obtain rfl : m' = 0 := by omega
          obtain rfl : f' = 3 + 1 := by omega
          clear hm hjf
          by_cases hcl : (100 : Int) = c
          · have HJ2 : Hid (J = 0) := Lib.hid (by rw [← hnx, nxt_eq c 3 0 hcl])
            have a7 : ((100 : Int) == c) = true := beq_iff_eq.2 hcl
            have a8 : ((100 : Int) != c) = false := bne_eq_false_iff_eq.2 hcl
            have HJJ := Lib.hid hjj
            clear hcl hnx hjj
            obtain ⟨x, hx, hx0, hxM⟩ : ∃ x : Int, v * ((86400 : Nat) : Int) = x ∧ 0 ≤ x ∧ x ≤ 86399913600 := ⟨_, rfl, mul_le v 86400 HV0.out HV1.out (by omega)⟩
            have w1 : IntKind.i64.wrap (v * 86400) = x := by rw [← hx]; exact (by first | exact w1_ok v 86400 HV0.out HV1.out (by omega) | (have h := w1_ok v 1 HV0.out HV1.out (by omega); simpa using h))
            have w1b : wrap64 (v * 86400) = x := by rw [← Go.Proofs.YtekcdokgpjmbgaaDoorW.PrintLast.i64_w]; exact w1
            obtain ⟨n2, hn2⟩ : ∃ n2 : Int, n + x = n2 := ⟨_, rfl⟩
            have hnj : n ≤ 0 * 86399913600 := by
              have h1 := HA.out.2.2.2.2.2.2.1
              have h2 := HJJ.out
              have h3 : (j : Int) * 86399913600 ≤ (0 : Int) * 86399913600 := Int.mul_le_mul_of_nonneg_right (by omega) (by omega)
              omega
            have hn0 := HA.out.2.2.2.2.2.1
            have w2 : IntKind.i64.wrap (n + x) = n2 := by rw [wr_ok (by omega) (by omega)]; exact hn2
            have w2b : wrap64 (n + x) = n2 := by rw [← Go.Proofs.YtekcdokgpjmbgaaDoorW.PrintLast.i64_w]; exact w2
            have w5 : IntKind.i64.wrap (1 : Int) = 1 := by decide
            have HNX : Hid (n + v * ((86400 : Nat) : Int) = n2) := Lib.hid (by rw [hx]; exact hn2)
            have HN0 : Hid (0 ≤ n2) := Lib.hid (by omega)
            have HN1 : Hid (n2 ≤ 1 * 86399913600) := Lib.hid (by omega)
            have x0 : ∀ h, (((⟨#[100, 104, 109, 115]⟩ : ByteArray)[0]'h).toNat : Int) = 100 := fun _ => rfl
            clear hx hx0 hxM hnj hn0 hn2
            go_wp2
            go_region
            go_wp2_with (go_at_call 22; refine (HPI.out _).mono ?_; rintro e W2 ⟨rfl, hb⟩; have hW2 := (HW.out.drewN _).below hb; have l0 := Blk.blk_cell hW2.2 0; simp at l0)
            go_roundw
            case rel =>
              obtain ⟨g, hg, hrs⟩ := HG.out.2 (by rw [HJ2.out]; decide)
              exact ⟨g, p + (D (L s p)).length + 1, 1, i1, n2, 1, rfl, by go_num, rfl, Lib.hid ⟨by have := HI1.out; have := HI.out; have := HK.out; omega, rfl, by omega, by have := HB4.out; have := HIK.out; have := HI.out; have := HK.out; omega, by have := HA.out.2.2.2.2.1; omega, HN0.out, HN1.out, by
                rw [HJ2.out, HV.out] at hrs
                have h2 : n + v * (wo 0 : Int) = n2 := HNX.out
                rw [h2] at hrs
                exact hrs⟩, Lib.hid hW2⟩
            case measure => simp [intOf]; have := HI1.out; have := HI0.out; have := HK0.out; have := HC0.out; omega
          · have HN2 := Lib.hid (by have h := hnx; rw [nxt_ne c 3 0 hcl] at h; exact h : nxt c 3 1 = J)
            have a7 : ((100 : Int) == c) = false := beq_eq_false_iff_ne.2 hcl
            have x0 : ∀ h, (((⟨#[100, 104, 109, 115]⟩ : ByteArray)[0]'h).toNat : Int) = 100 := fun _ => rfl
            have a8 : ((100 : Int) != c) = true := bne_iff_ne.2 hcl
            have HJJ := Lib.hid hjj
            clear hcl hnx hjj
            go_wp2
            go_region
            go_wp2
            go_roundw
            case rel => exact ⟨3, 1, 1, by go_num, Lib.hid ⟨rfl, rfl, by have := HJJ.out; omega, HN2.out⟩, Lib.hid ⟨_, rfl⟩⟩
            case measure => simp [intOf]
        · obtain rfl : m' = 1 := by omega
          obtain rfl : f' = 2 + 1 := by omega
          clear hm hjf
          by_cases hcl : (104 : Int) = c
          · have HJ2 : Hid (J = 1) := Lib.hid (by rw [← hnx, nxt_eq c 2 1 hcl])
            have a7 : ((104 : Int) == c) = true := beq_iff_eq.2 hcl
            have a8 : ((104 : Int) != c) = false := bne_eq_false_iff_eq.2 hcl
            have HJJ := Lib.hid hjj
            clear hcl hnx hjj
            obtain ⟨x, hx, hx0, hxM⟩ : ∃ x : Int, v * ((3600 : Nat) : Int) = x ∧ 0 ≤ x ∧ x ≤ 86399913600 := ⟨_, rfl, mul_le v 3600 HV0.out HV1.out (by omega)⟩
            have w1 : IntKind.i64.wrap (v * 3600) = x := by rw [← hx]; exact (by first | exact w1_ok v 3600 HV0.out HV1.out (by omega) | (have h := w1_ok v 1 HV0.out HV1.out (by omega); simpa using h))
            have w1b : wrap64 (v * 3600) = x := by rw [← Go.Proofs.YtekcdokgpjmbgaaDoorW.PrintLast.i64_w]; exact w1
            obtain ⟨n2, hn2⟩ : ∃ n2 : Int, n + x = n2 := ⟨_, rfl⟩
            have hnj : n ≤ 1 * 86399913600 := by
              have h1 := HA.out.2.2.2.2.2.2.1
              have h2 := HJJ.out
              have h3 : (j : Int) * 86399913600 ≤ (1 : Int) * 86399913600 := Int.mul_le_mul_of_nonneg_right (by omega) (by omega)
              omega
            have hn0 := HA.out.2.2.2.2.2.1
            have w2 : IntKind.i64.wrap (n + x) = n2 := by rw [wr_ok (by omega) (by omega)]; exact hn2
            have w2b : wrap64 (n + x) = n2 := by rw [← Go.Proofs.YtekcdokgpjmbgaaDoorW.PrintLast.i64_w]; exact w2
            have w5 : IntKind.i64.wrap (2 : Int) = 2 := by decide
            have HNX : Hid (n + v * ((3600 : Nat) : Int) = n2) := Lib.hid (by rw [hx]; exact hn2)
            have HN0 : Hid (0 ≤ n2) := Lib.hid (by omega)
            have HN1 : Hid (n2 ≤ 2 * 86399913600) := Lib.hid (by omega)
            have x0 : ∀ h, (((⟨#[100, 104, 109, 115]⟩ : ByteArray)[1]'h).toNat : Int) = 104 := fun _ => rfl
            clear hx hx0 hxM hnj hn0 hn2
            go_wp2
            go_region
            go_wp2_with (go_at_call 22; refine (HPI.out _).mono ?_; rintro e W2 ⟨rfl, hb⟩; have hW2 := (HW.out.drewN _).below hb; have l0 := Blk.blk_cell hW2.2 1; simp at l0)
            go_roundw
            case rel =>
              obtain ⟨g, hg, hrs⟩ := HG.out.2 (by rw [HJ2.out]; decide)
              exact ⟨g, p + (D (L s p)).length + 1, 2, i1, n2, 2, rfl, by go_num, rfl, Lib.hid ⟨by have := HI1.out; have := HI.out; have := HK.out; omega, rfl, by omega, by have := HB4.out; have := HIK.out; have := HI.out; have := HK.out; omega, by have := HA.out.2.2.2.2.1; omega, HN0.out, HN1.out, by
                rw [HJ2.out, HV.out] at hrs
                have h2 : n + v * (wo 1 : Int) = n2 := HNX.out
                rw [h2] at hrs
                exact hrs⟩, Lib.hid hW2⟩
            case measure => simp [intOf]; have := HI1.out; have := HI0.out; have := HK0.out; have := HC0.out; omega
          · have HN2 := Lib.hid (by have h := hnx; rw [nxt_ne c 2 1 hcl] at h; exact h : nxt c 2 2 = J)
            have a7 : ((104 : Int) == c) = false := beq_eq_false_iff_ne.2 hcl
            have x0 : ∀ h, (((⟨#[100, 104, 109, 115]⟩ : ByteArray)[1]'h).toNat : Int) = 104 := fun _ => rfl
            have a8 : ((104 : Int) != c) = true := bne_iff_ne.2 hcl
            have HJJ := Lib.hid hjj
            clear hcl hnx hjj
            go_wp2
            go_region
            go_wp2
            go_roundw
            case rel => exact ⟨2, 2, 2, by go_num, Lib.hid ⟨rfl, rfl, by have := HJJ.out; omega, HN2.out⟩, Lib.hid ⟨_, rfl⟩⟩
            case measure => simp [intOf]
        · obtain rfl : m' = 2 := by omega
          obtain rfl : f' = 1 + 1 := by omega
          clear hm hjf
          by_cases hcl : (109 : Int) = c
          · have HJ2 : Hid (J = 2) := Lib.hid (by rw [← hnx, nxt_eq c 1 2 hcl])
            have a7 : ((109 : Int) == c) = true := beq_iff_eq.2 hcl
            have a8 : ((109 : Int) != c) = false := bne_eq_false_iff_eq.2 hcl
            have HJJ := Lib.hid hjj
            clear hcl hnx hjj
            obtain ⟨x, hx, hx0, hxM⟩ : ∃ x : Int, v * ((60 : Nat) : Int) = x ∧ 0 ≤ x ∧ x ≤ 86399913600 := ⟨_, rfl, mul_le v 60 HV0.out HV1.out (by omega)⟩
            have w1 : IntKind.i64.wrap (v * 60) = x := by rw [← hx]; exact (by first | exact w1_ok v 60 HV0.out HV1.out (by omega) | (have h := w1_ok v 1 HV0.out HV1.out (by omega); simpa using h))
            have w1b : wrap64 (v * 60) = x := by rw [← Go.Proofs.YtekcdokgpjmbgaaDoorW.PrintLast.i64_w]; exact w1
            obtain ⟨n2, hn2⟩ : ∃ n2 : Int, n + x = n2 := ⟨_, rfl⟩
            have hnj : n ≤ 2 * 86399913600 := by
              have h1 := HA.out.2.2.2.2.2.2.1
              have h2 := HJJ.out
              have h3 : (j : Int) * 86399913600 ≤ (2 : Int) * 86399913600 := Int.mul_le_mul_of_nonneg_right (by omega) (by omega)
              omega
            have hn0 := HA.out.2.2.2.2.2.1
            have w2 : IntKind.i64.wrap (n + x) = n2 := by rw [wr_ok (by omega) (by omega)]; exact hn2
            have w2b : wrap64 (n + x) = n2 := by rw [← Go.Proofs.YtekcdokgpjmbgaaDoorW.PrintLast.i64_w]; exact w2
            have w5 : IntKind.i64.wrap (3 : Int) = 3 := by decide
            have HNX : Hid (n + v * ((60 : Nat) : Int) = n2) := Lib.hid (by rw [hx]; exact hn2)
            have HN0 : Hid (0 ≤ n2) := Lib.hid (by omega)
            have HN1 : Hid (n2 ≤ 3 * 86399913600) := Lib.hid (by omega)
            have x0 : ∀ h, (((⟨#[100, 104, 109, 115]⟩ : ByteArray)[2]'h).toNat : Int) = 109 := fun _ => rfl
            clear hx hx0 hxM hnj hn0 hn2
            go_wp2
            go_region
            go_wp2_with (go_at_call 22; refine (HPI.out _).mono ?_; rintro e W2 ⟨rfl, hb⟩; have hW2 := (HW.out.drewN _).below hb; have l0 := Blk.blk_cell hW2.2 2; simp at l0)
            go_roundw
            case rel =>
              obtain ⟨g, hg, hrs⟩ := HG.out.2 (by rw [HJ2.out]; decide)
              exact ⟨g, p + (D (L s p)).length + 1, 3, i1, n2, 3, rfl, by go_num, rfl, Lib.hid ⟨by have := HI1.out; have := HI.out; have := HK.out; omega, rfl, by omega, by have := HB4.out; have := HIK.out; have := HI.out; have := HK.out; omega, by have := HA.out.2.2.2.2.1; omega, HN0.out, HN1.out, by
                rw [HJ2.out, HV.out] at hrs
                have h2 : n + v * (wo 2 : Int) = n2 := HNX.out
                rw [h2] at hrs
                exact hrs⟩, Lib.hid hW2⟩
            case measure => simp [intOf]; have := HI1.out; have := HI0.out; have := HK0.out; have := HC0.out; omega
          · have HN2 := Lib.hid (by have h := hnx; rw [nxt_ne c 1 2 hcl] at h; exact h : nxt c 1 3 = J)
            have a7 : ((109 : Int) == c) = false := beq_eq_false_iff_ne.2 hcl
            have x0 : ∀ h, (((⟨#[100, 104, 109, 115]⟩ : ByteArray)[2]'h).toNat : Int) = 109 := fun _ => rfl
            have a8 : ((109 : Int) != c) = true := bne_iff_ne.2 hcl
            have HJJ := Lib.hid hjj
            clear hcl hnx hjj
            go_wp2
            go_region
            go_wp2
            go_roundw
            case rel => exact ⟨1, 3, 3, by go_num, Lib.hid ⟨rfl, rfl, by have := HJJ.out; omega, HN2.out⟩, Lib.hid ⟨_, rfl⟩⟩
            case measure => simp [intOf]
        · obtain rfl : m' = 3 := by omega
          obtain rfl : f' = 0 + 1 := by omega
          clear hm hjf
          by_cases hcl : (115 : Int) = c
          · have HJ2 : Hid (J = 3) := Lib.hid (by rw [← hnx, nxt_eq c 0 3 hcl])
            have a7 : ((115 : Int) == c) = true := beq_iff_eq.2 hcl
            have a8 : ((115 : Int) != c) = false := bne_eq_false_iff_eq.2 hcl
            have HJJ := Lib.hid hjj
            clear hcl hnx hjj
            obtain ⟨x, hx, hx0, hxM⟩ : ∃ x : Int, v * ((1 : Nat) : Int) = x ∧ 0 ≤ x ∧ x ≤ 86399913600 := ⟨_, rfl, mul_le v 1 HV0.out HV1.out (by omega)⟩
            have w1 : IntKind.i64.wrap (v) = x := by rw [← hx]; exact (by first | exact w1_ok v 1 HV0.out HV1.out (by omega) | (have h := w1_ok v 1 HV0.out HV1.out (by omega); simpa using h))
            have w1b : wrap64 (v) = x := by rw [← Go.Proofs.YtekcdokgpjmbgaaDoorW.PrintLast.i64_w]; exact w1
            obtain ⟨n2, hn2⟩ : ∃ n2 : Int, n + x = n2 := ⟨_, rfl⟩
            have hnj : n ≤ 3 * 86399913600 := by
              have h1 := HA.out.2.2.2.2.2.2.1
              have h2 := HJJ.out
              have h3 : (j : Int) * 86399913600 ≤ (3 : Int) * 86399913600 := Int.mul_le_mul_of_nonneg_right (by omega) (by omega)
              omega
            have hn0 := HA.out.2.2.2.2.2.1
            have w2 : IntKind.i64.wrap (n + x) = n2 := by rw [wr_ok (by omega) (by omega)]; exact hn2
            have w2b : wrap64 (n + x) = n2 := by rw [← Go.Proofs.YtekcdokgpjmbgaaDoorW.PrintLast.i64_w]; exact w2
            have w5 : IntKind.i64.wrap (4 : Int) = 4 := by decide
            have HNX : Hid (n + v * ((1 : Nat) : Int) = n2) := Lib.hid (by rw [hx]; exact hn2)
            have HN0 : Hid (0 ≤ n2) := Lib.hid (by omega)
            have HN1 : Hid (n2 ≤ 4 * 86399913600) := Lib.hid (by omega)
            have x0 : ∀ h, (((⟨#[100, 104, 109, 115]⟩ : ByteArray)[3]'h).toNat : Int) = 115 := fun _ => rfl
            clear hx hx0 hxM hnj hn0 hn2
            go_wp2
            go_region
            go_wp2_with (go_at_call 22; refine (HPI.out _).mono ?_; rintro e W2 ⟨rfl, hb⟩; have hW2 := (HW.out.drewN _).below hb; have l0 := Blk.blk_cell hW2.2 3; simp at l0)
            go_roundw
            case rel =>
              obtain ⟨g, hg, hrs⟩ := HG.out.2 (by rw [HJ2.out]; decide)
              exact ⟨g, p + (D (L s p)).length + 1, 4, i1, n2, 4, rfl, by go_num, rfl, Lib.hid ⟨by have := HI1.out; have := HI.out; have := HK.out; omega, rfl, by omega, by have := HB4.out; have := HIK.out; have := HI.out; have := HK.out; omega, by have := HA.out.2.2.2.2.1; omega, HN0.out, HN1.out, by
                rw [HJ2.out, HV.out] at hrs
                have h2 : n + v * (wo 3 : Int) = n2 := HNX.out
                rw [h2] at hrs
                exact hrs⟩, Lib.hid hW2⟩
            case measure => simp [intOf]; have := HI1.out; have := HI0.out; have := HK0.out; have := HC0.out; omega
          · have HN2 := Lib.hid (by have h := hnx; rw [nxt_ne c 0 3 hcl] at h; exact h : nxt c 0 4 = J)
            have a7 : ((115 : Int) == c) = false := beq_eq_false_iff_ne.2 hcl
            have x0 : ∀ h, (((⟨#[100, 104, 109, 115]⟩ : ByteArray)[3]'h).toNat : Int) = 115 := fun _ => rfl
            have a8 : ((115 : Int) != c) = true := bne_iff_ne.2 hcl
            have HJJ := Lib.hid hjj
            clear hcl hnx hjj
            go_wp2
            go_region
            go_wp2
            go_roundw
            case rel => exact ⟨0, 4, 4, by go_num, Lib.hid ⟨rfl, rfl, by have := HJJ.out; omega, HN2.out⟩, Lib.hid ⟨_, rfl⟩⟩
            case measure => simp [intOf]
        · obtain rfl : m' = 4 := by omega
          obtain rfl : f' = 0 := by omega
          have HT := Lib.hid (HG.out.1 hnx.symm)
          clear hm hjf hnx hjj
          go_wp2
          go_region
          go_wp2
          go_ret2
          exact ⟨by rw [HT.out]; rfl, (HW.out.drewN _).1⟩
    · have d0 : decide (i < (s.size : Int)) = false := decide_eq_false c0
      have HT := Lib.hid (HA.out.done c0)
      clear c0
      by_cases b1 : n < 1
      · have a1 : decide (n < 1) = true := decide_eq_true b1
        have HT2 := Lib.hid (HT.out.trans (fin_bad (.inl b1)))
        clear b1
        go_wp2
        go_ret2
        exact ⟨by rw [HT2.out]; rfl, HW.out.1⟩
      · have a1 : decide (n < 1) = false := decide_eq_false b1
        by_cases b2 : 604800 < n
        · have a2 : decide (604800 < n) = true := decide_eq_true b2
          have HT2 := Lib.hid (HT.out.trans (fin_bad (.inr b2)))
          clear b1 b2
          go_wp2
          go_ret2
          exact ⟨by rw [HT2.out]; rfl, HW.out.1⟩
        · have a2 : decide (604800 < n) = false := decide_eq_false b2
          have HT2 := Lib.hid (HT.out.trans (fin_ok (by omega)))
          clear b1 b2
          go_wp2
          go_ret2
          exact ⟨by rw [HT2.out]; rfl, HW.out.1⟩
def RefSpan.f (s : ByteArray) : Option (Int × Int) := if s.size ≤ 281474976710656 then some (rs s (s.size + 1) 0 0 0) else none
theorem RefSpan.calls (s : ByteArray) (r1 r2 : Int) (w : World) (h : RefSpan.f s = some (r1, r2)) :
    Calls Tryd.prog 11 #[.string s] w fun e w' => e = .returned (.tuple #[.int .i64 r1, .int .i64 r2]) ∧ Below w.heap.size w w' := by
  unfold RefSpan.f at h
  split at h
  · rename_i hb
    injection h with h
    have := rs_ok s hb w
    rwa [h] at this
  · cases h
end Go.Proofs.YtekcdokgpjmbgaaDoor.Nz
