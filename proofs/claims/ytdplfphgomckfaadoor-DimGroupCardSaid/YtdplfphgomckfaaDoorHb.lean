/- DimGroup, walked. Conditions: as each theorem states. -/
import Derived.Test.YtdplfphgomckfaaDoorHa
import Derived.WalkKit
namespace Go.Proofs.YtdplfphgomckfaaDoor.Hb
set_option linter.unusedVariables false
set_option linter.unusedSimpArgs false
open Go.RowKit Go.Proofs.YtdplfphgomckfaaDoorW.PrintWords Go.Proofs.YtdplfphgomckfaaDoor.Laid Go.Proofs.YtdplfphgomckfaaDoor.Ha Go.Proofs.YtdplfphgomckfaaDoor.Bx
attribute [local go_sem high] OH.eqA24
def DC (a0 a1 a2 a3 a4 : Int) : Obj := .cells #[.int .i64 a0, .int .i64 a1, .int .i64 a2, .int .i64 a3, .int .i64 a4] 24 (0, 0)
def sel (a0 a1 a2 a3 a4 : Int) (k : Nat) : Int := [a0, a1, a2, a3, a4].getD k 0
theorem sel_at (a0 a1 a2 a3 a4 : Int) (W : World) (b k : Nat) (h : W.heap[b]? = some (DC a0 a1 a2 a3 a4)) (hk : k < 5) : W.cell? ⟨b, k, none⟩ = some (.int .i64 (sel a0 a1 a2 a3 a4 k)) := by
  have : k = 0 ∨ k = 1 ∨ k = 2 ∨ k = 3 ∨ k = 4 := by omega
  rcases this with rfl | rfl | rfl | rfl | rfl
  · exact (Blk.blk_cell h 0).trans rfl
  · exact (Blk.blk_cell h 1).trans rfl
  · exact (Blk.blk_cell h 2).trans rfl
  · exact (Blk.blk_cell h 3).trans rfl
  · exact (Blk.blk_cell h 4).trans rfl
theorem nx {w W W2 : World} {o : Obj} (h : Below w.heap.size w W) (hb : Below W.heap.size W W2) : Below w.heap.size w (W2.alloc o) := (Blk.below_then h hb h.size).alloc (Nat.le_trans h.size hb.size) o
theorem sel_all (a0 a1 a2 a3 a4 : Int) (h : ∀ k, k < 5 → -8 ≤ sel a0 a1 a2 a3 a4 k ∧ sel a0 a1 a2 a3 a4 k ≤ 8) : Ha.S5 a0 a1 a2 a3 a4 := ⟨h 0 (by omega), h 1 (by omega), h 2 (by omega), h 3 (by omega), h 4 (by omega)⟩
set_option maxHeartbeats 16000000 in
set_option maxRecDepth 100000 in
theorem group_any (a0 a1 a2 a3 a4 b0 b1 b2 b3 b4 : Int) (ha : A5 a0 a1 a2 a3 a4) (hb : A5 b0 b1 b2 b3 b4) (w : World) (hL : LaidB w) : Calls Tryd.prog 6 #[.agg #[.int .i64 a0, .int .i64 a1, .int .i64 a2, .int .i64 a3, .int .i64 a4], .agg #[.int .i64 b0, .int .i64 b1, .int .i64 b2, .int .i64 b3, .int .i64 b4]] w fun e w' => e = .returned (.bool true) ∧ Below w.heap.size w w' := by
  obtain ⟨c0, c1, c2, c3, c4, ok, hm1, hm2, hok⟩ := mul_two a0 a1 a2 a3 a4 b0 b1 b2 b3 b4 ha hb
  have HM1 := Lib.hid hm1
  have HM2 := Lib.hid hm2
  have HOK := Lib.hid hok
  have HA := Lib.hid ha
  have HBd := Lib.hid hb
  have HL := Lib.hid hL
  have hA : ((w.alloc (.cells #[.int .i64 a0, .int .i64 a1, .int .i64 a2, .int .i64 a3, .int .i64 a4] 24)).alloc (.cells #[.int .i64 b0, .int .i64 b1, .int .i64 b2, .int .i64 b3, .int .i64 b4] 24)).heap[w.heap.size]? = some (DC a0 a1 a2 a3 a4) := Blk.blk_alloc (Blk.blk_new w _) _
  have hB : ((w.alloc (.cells #[.int .i64 a0, .int .i64 a1, .int .i64 a2, .int .i64 a3, .int .i64 a4] 24)).alloc (.cells #[.int .i64 b0, .int .i64 b1, .int .i64 b2, .int .i64 b3, .int .i64 b4] 24)).heap[w.heap.size + 1]? = some (DC b0 b1 b2 b3 b4) := Blk.blk_at _ _ (w.heap.size + 1) (by simp)
  have HB0 := Lib.hid (((Below.refl w.heap.size w).alloc (Nat.le_refl _) (.cells #[.int .i64 a0, .int .i64 a1, .int .i64 a2, .int .i64 a3, .int .i64 a4] 24)).alloc (by simp) (.cells #[.int .i64 b0, .int .i64 b1, .int .i64 b2, .int .i64 b3, .int .i64 b4] 24))
  obtain ⟨b, hbb⟩ : ∃ b, w.heap.size = b := ⟨_, rfl⟩
  rw [hbb] at hA hB
  have HAB := Lib.hid hA
  have HBB := Lib.hid hB
  have hlt : b + 1 < ((w.alloc (.cells #[.int .i64 a0, .int .i64 a1, .int .i64 a2, .int .i64 a3, .int .i64 a4] 24)).alloc (.cells #[.int .i64 b0, .int .i64 b1, .int .i64 b2, .int .i64 b3, .int .i64 b4] 24)).heap.size := Blk.blk_lt hB
  clear hm1 hm2 hok ha hb hL hA hB
  go_enter Tryd.func6, Tryd.ntmps6
  go_wp2_with fail
  try simp only [hbb]
  refine (OH.capstanlaw02_awake.calls 8 true _ awake_f (LaidB.below HL.out (by rw [hbb] at HB0; rw [hbb]; exact HB0.out))).mono ?_
  rintro e w1 ⟨rfl, h1⟩
  have H1 := Lib.hid (Blk.below_then HB0.out h1 HB0.out.size)
  have hA := Blk.blk_below HAB.out h1 (Blk.blk_lt HAB.out)
  have hB := Blk.blk_below HBB.out h1 (Blk.blk_lt HBB.out)
  have HAB1 := Lib.hid hA
  have HBB1 := Lib.hid hB
  have p0 := (Blk.blk_cell hA 0).trans (show _ = some (.int .i64 a0) from rfl)
  have p1 := (Blk.blk_cell hA 1).trans (show _ = some (.int .i64 a1) from rfl)
  have p2 := (Blk.blk_cell hA 2).trans (show _ = some (.int .i64 a2) from rfl)
  have p3 := (Blk.blk_cell hA 3).trans (show _ = some (.int .i64 a3) from rfl)
  have p4 := (Blk.blk_cell hA 4).trans (show _ = some (.int .i64 a4) from rfl)
  have q0 := (Blk.blk_cell hB 0).trans (show _ = some (.int .i64 b0) from rfl)
  have q1 := (Blk.blk_cell hB 1).trans (show _ = some (.int .i64 b1) from rfl)
  have q2 := (Blk.blk_cell hB 2).trans (show _ = some (.int .i64 b2) from rfl)
  have q3 := (Blk.blk_cell hB 3).trans (show _ = some (.int .i64 b3) from rfl)
  have q4 := (Blk.blk_cell hB 4).trans (show _ = some (.int .i64 b4) from rfl)
  clear h1 HAB HBB hA hB HB0 hlt
  go_wp2_with fail
  refine (OH.dim_Mul.calls a0 a1 a2 a3 a4 b0 b1 b2 b3 b4 c0 c1 c2 c3 c4 ok _ HM1.out).mono ?_
  rintro e w2 ⟨rfl, h2⟩
  clear p0 p1 p2 p3 p4 q0 q1 q2 q3 q4
  have H2 := Lib.hid (Blk.below_then H1.out h2 H1.out.size)
  have hA := Blk.blk_alloc (Blk.blk_below HAB1.out h2 (Blk.blk_lt HAB1.out)) (.cells #[.int .i64 c0, .int .i64 c1, .int .i64 c2, .int .i64 c3, .int .i64 c4] 24)
  have hB := Blk.blk_alloc (Blk.blk_below HBB1.out h2 (Blk.blk_lt HBB1.out)) (.cells #[.int .i64 c0, .int .i64 c1, .int .i64 c2, .int .i64 c3, .int .i64 c4] 24)
  have HAB2 := Lib.hid hA
  have HBB2 := Lib.hid hB
  have HC2 := Lib.hid (show (w2.alloc (.cells #[.int .i64 c0, .int .i64 c1, .int .i64 c2, .int .i64 c3, .int .i64 c4] 24)).heap[w2.heap.size]? = some (DC c0 c1 c2 c3 c4) from Blk.blk_new w2 _)
  have p0 := (Blk.blk_cell hA 0).trans (show _ = some (.int .i64 a0) from rfl)
  have p1 := (Blk.blk_cell hA 1).trans (show _ = some (.int .i64 a1) from rfl)
  have p2 := (Blk.blk_cell hA 2).trans (show _ = some (.int .i64 a2) from rfl)
  have p3 := (Blk.blk_cell hA 3).trans (show _ = some (.int .i64 a3) from rfl)
  have p4 := (Blk.blk_cell hA 4).trans (show _ = some (.int .i64 a4) from rfl)
  have q0 := (Blk.blk_cell hB 0).trans (show _ = some (.int .i64 b0) from rfl)
  have q1 := (Blk.blk_cell hB 1).trans (show _ = some (.int .i64 b1) from rfl)
  have q2 := (Blk.blk_cell hB 2).trans (show _ = some (.int .i64 b2) from rfl)
  have q3 := (Blk.blk_cell hB 3).trans (show _ = some (.int .i64 b3) from rfl)
  have q4 := (Blk.blk_cell hB 4).trans (show _ = some (.int .i64 b4) from rfl)
  clear h2 HAB1 HBB1 hA hB H1
  go_wp2_with fail
  refine (OH.dim_Mul.calls b0 b1 b2 b3 b4 a0 a1 a2 a3 a4 c0 c1 c2 c3 c4 ok _ HM2.out).mono ?_
  rintro e w3 ⟨rfl, h3⟩
  clear p0 p1 p2 p3 p4 q0 q1 q2 q3 q4
  have H3 := Lib.hid ((Blk.below_then (H2.out.alloc H2.out.size (.cells #[.int .i64 c0, .int .i64 c1, .int .i64 c2, .int .i64 c3, .int .i64 c4] 24)) h3 (by have := H2.out.size; simp; omega)).alloc (by have := H2.out.size; have := h3.size; simp at this; omega) (.cells #[.int .i64 c0, .int .i64 c1, .int .i64 c2, .int .i64 c3, .int .i64 c4] 24))
  have hA := Blk.blk_alloc (Blk.blk_below HAB2.out h3 (Blk.blk_lt HAB2.out)) (.cells #[.int .i64 c0, .int .i64 c1, .int .i64 c2, .int .i64 c3, .int .i64 c4] 24)
  have hB := Blk.blk_alloc (Blk.blk_below HBB2.out h3 (Blk.blk_lt HBB2.out)) (.cells #[.int .i64 c0, .int .i64 c1, .int .i64 c2, .int .i64 c3, .int .i64 c4] 24)
  have hC := Blk.blk_alloc (Blk.blk_below HC2.out h3 (Blk.blk_lt HC2.out)) (.cells #[.int .i64 c0, .int .i64 c1, .int .i64 c2, .int .i64 c3, .int .i64 c4] 24)
  have HAB3 := Lib.hid hA
  have HBB3 := Lib.hid hB
  have HCB3 := Lib.hid hC
  obtain ⟨qc, hqc⟩ : ∃ q, w2.heap.size = q := ⟨_, rfl⟩
  rw [hqc] at hC HCB3
  have HDB3 := Lib.hid (show (w3.alloc (.cells #[.int .i64 c0, .int .i64 c1, .int .i64 c2, .int .i64 c3, .int .i64 c4] 24)).heap[w3.heap.size]? = some (DC c0 c1 c2 c3 c4) from Blk.blk_new w3 _)
  clear h3 HAB2 HBB2 HC2 hA hB hC H2
  try simp only [hqc]
  clear hqc
  obtain ⟨W3, hW3⟩ : ∃ W, w3.alloc (.cells #[.int .i64 c0, .int .i64 c1, .int .i64 c2, .int .i64 c3, .int .i64 c4] 24) = W := ⟨_, rfl⟩
  rw [hW3] at H3 HAB3 HBB3 HCB3 HDB3
  have r0 := (Blk.blk_cell HCB3.out 0).trans (show _ = some (.int .i64 c0) from rfl)
  have r1 := (Blk.blk_cell HCB3.out 1).trans (show _ = some (.int .i64 c1) from rfl)
  have r2 := (Blk.blk_cell HCB3.out 2).trans (show _ = some (.int .i64 c2) from rfl)
  have r3 := (Blk.blk_cell HCB3.out 3).trans (show _ = some (.int .i64 c3) from rfl)
  have r4 := (Blk.blk_cell HCB3.out 4).trans (show _ = some (.int .i64 c4) from rfl)
  have s0 := (Blk.blk_cell HDB3.out 0).trans (show _ = some (.int .i64 c0) from rfl)
  have s1 := (Blk.blk_cell HDB3.out 1).trans (show _ = some (.int .i64 c1) from rfl)
  have s2 := (Blk.blk_cell HDB3.out 2).trans (show _ = some (.int .i64 c2) from rfl)
  have s3 := (Blk.blk_cell HDB3.out 3).trans (show _ = some (.int .i64 c3) from rfl)
  have s4 := (Blk.blk_cell HDB3.out 4).trans (show _ = some (.int .i64 c4) from rfl)
  go_upto_region 7 with fail
  clear r0 r1 r2 r3 r4 s0 s1 s2 s3 s4 hW3 HDB3 HM1 HM2
  go_wp2_with fail
  go_loopg [9] 5 (fun gf v9 wx => ∃ i : Nat, v9 = .int .i64 i ∧ i + gf = 5 ∧ wx = W3 ∧ Hid (∀ k, k < i → -8 ≤ sel a0 a1 a2 a3 a4 k ∧ sel a0 a1 a2 a3 a4 k ≤ 8))
  case atStart => exact ⟨0, rfl, by omega, rfl, Lib.hid (fun k hk => absurd hk (by omega))⟩
  case round =>
    obtain ⟨i, rfl, hi, rfl, HS⟩ := hrel
    by_cases hlt : i < 5
    · obtain ⟨g', rfl⟩ : ∃ g', gk = g' + 1 := ⟨gk - 1, by omega⟩
      have q0 : decide ((i : Int) < 5) = true := by simp; omega
      have hlt5 : (i : Int) < 5 := by omega
      have y := sel_at a0 a1 a2 a3 a4 _ b i HAB3.out hlt
      obtain ⟨x, hx⟩ : ∃ x, sel a0 a1 a2 a3 a4 i = x := ⟨_, rfl⟩
      rw [hx] at y
      by_cases h1 : x > 8
      · have q1 : decide (x > 8) = true := by simp; omega
        go_wp2_with fail
        go_ret
        exact ⟨rfl, by first | exact H3.out | (have h := H3.out; rw [hbb] at h; exact h)⟩
      · have q1 : decide (x > 8) = false := by simp; omega
        by_cases h2 : x < -8
        · have q2 : decide (x < -8) = true := by simp; omega
          go_wp2_with fail
          go_ret
          exact ⟨rfl, by first | exact H3.out | (have h := H3.out; rw [hbb] at h; exact h)⟩
        · have q2 : decide (x < -8) = false := by simp; omega
          have HS2 := Lib.hid (show ∀ k, k < i + 1 → -8 ≤ sel a0 a1 a2 a3 a4 k ∧ sel a0 a1 a2 a3 a4 k ≤ 8 from fun k hk => by
            by_cases hki : k = i
            · rw [hki, hx]; omega
            · exact HS.out k (by omega))
          clear hx HS
          go_wp2_with fail
          go_roundg g'
          case measure => omega
          case rel => exact ⟨i + 1, by go_num, by omega, rfl, HS2⟩
    · obtain rfl : gk = 0 := by omega
      obtain rfl : i = 5 := by omega
      have q0 : decide (((5 : Nat) : Int) < 5) = false := by decide
      have HSM := Lib.hid (sel_all a0 a1 a2 a3 a4 HS.out)
      clear HS
      cases ok with
      | true =>
        obtain ⟨hc, e0, e1, e2, e3, e4⟩ := HOK.out rfl
        have HDV := Lib.hid (div_back a0 a1 a2 a3 a4 b0 b1 b2 b3 b4 c0 c1 c2 c3 c4 HSM.out HBd.out hc e0 e1 e2 e3 e4)
        clear hc e0 e1 e2 e3 e4
        have r0 := (Blk.blk_cell HCB3.out 0).trans (show _ = some (.int .i64 c0) from rfl)
        have r1 := (Blk.blk_cell HCB3.out 1).trans (show _ = some (.int .i64 c1) from rfl)
        have r2 := (Blk.blk_cell HCB3.out 2).trans (show _ = some (.int .i64 c2) from rfl)
        have r3 := (Blk.blk_cell HCB3.out 3).trans (show _ = some (.int .i64 c3) from rfl)
        have r4 := (Blk.blk_cell HCB3.out 4).trans (show _ = some (.int .i64 c4) from rfl)
        have t0 := (Blk.blk_cell HBB3.out 0).trans (show _ = some (.int .i64 b0) from rfl)
        have t1 := (Blk.blk_cell HBB3.out 1).trans (show _ = some (.int .i64 b1) from rfl)
        have t2 := (Blk.blk_cell HBB3.out 2).trans (show _ = some (.int .i64 b2) from rfl)
        have t3 := (Blk.blk_cell HBB3.out 3).trans (show _ = some (.int .i64 b3) from rfl)
        have t4 := (Blk.blk_cell HBB3.out 4).trans (show _ = some (.int .i64 b4) from rfl)
        go_wp2_with fail
        refine (OH.dim_Div.calls c0 c1 c2 c3 c4 b0 b1 b2 b3 b4 a0 a1 a2 a3 a4 true _ HDV.out).mono ?_
        rintro e w4 ⟨rfl, h4⟩
        clear r0 r1 r2 r3 r4 t0 t1 t2 t3 t4
        have H4 := Lib.hid (nx (o := (.cells #[.int .i64 a0, .int .i64 a1, .int .i64 a2, .int .i64 a3, .int .i64 a4] 24)) H3.out h4)
        have HAB4 := Lib.hid (Blk.blk_alloc (Blk.blk_below HAB3.out h4 (Blk.blk_lt HAB3.out)) (.cells #[.int .i64 a0, .int .i64 a1, .int .i64 a2, .int .i64 a3, .int .i64 a4] 24))
        clear h4
        have p0 := (Blk.blk_cell HAB4.out 0).trans (show _ = some (.int .i64 a0) from rfl)
        have p1 := (Blk.blk_cell HAB4.out 1).trans (show _ = some (.int .i64 a1) from rfl)
        have p2 := (Blk.blk_cell HAB4.out 2).trans (show _ = some (.int .i64 a2) from rfl)
        have p3 := (Blk.blk_cell HAB4.out 3).trans (show _ = some (.int .i64 a3) from rfl)
        have p4 := (Blk.blk_cell HAB4.out 4).trans (show _ = some (.int .i64 a4) from rfl)
        go_wp2_with fail
        refine (OH.dim_Div.calls a0 a1 a2 a3 a4 a0 a1 a2 a3 a4 0 0 0 0 0 true _ (div_self a0 a1 a2 a3 a4 HA.out)).mono ?_
        rintro e w5 ⟨rfl, h5⟩
        clear p0 p1 p2 p3 p4
        have H5 := Lib.hid (nx (o := (.cells #[.int .i64 0, .int .i64 0, .int .i64 0, .int .i64 0, .int .i64 0] 24)) H4.out h5)
        have HAB5 := Lib.hid (Blk.blk_alloc (Blk.blk_below HAB4.out h5 (Blk.blk_lt HAB4.out)) (.cells #[.int .i64 0, .int .i64 0, .int .i64 0, .int .i64 0, .int .i64 0] 24))
        have HZB5 := Lib.hid (show (w5.alloc (.cells #[.int .i64 0, .int .i64 0, .int .i64 0, .int .i64 0, .int .i64 0] 24)).heap[w5.heap.size]? = some (DC 0 0 0 0 0) from Blk.blk_new w5 _)
        clear h5
        have p0 := (Blk.blk_cell HAB5.out 0).trans (show _ = some (.int .i64 a0) from rfl)
        have p1 := (Blk.blk_cell HAB5.out 1).trans (show _ = some (.int .i64 a1) from rfl)
        have p2 := (Blk.blk_cell HAB5.out 2).trans (show _ = some (.int .i64 a2) from rfl)
        have p3 := (Blk.blk_cell HAB5.out 3).trans (show _ = some (.int .i64 a3) from rfl)
        have p4 := (Blk.blk_cell HAB5.out 4).trans (show _ = some (.int .i64 a4) from rfl)
        go_wp2_with fail
        refine (OH.dim_Mul.calls a0 a1 a2 a3 a4 0 0 0 0 0 a0 a1 a2 a3 a4 true _ (mul_zero a0 a1 a2 a3 a4 HSM.out)).mono ?_
        rintro e w6 ⟨rfl, h6⟩
        clear p0 p1 p2 p3 p4
        have H6 := Lib.hid (nx (o := (.cells #[.int .i64 a0, .int .i64 a1, .int .i64 a2, .int .i64 a3, .int .i64 a4] 24)) H5.out h6)
        have hA6 := Blk.blk_alloc (Blk.blk_below HAB5.out h6 (Blk.blk_lt HAB5.out)) (.cells #[.int .i64 a0, .int .i64 a1, .int .i64 a2, .int .i64 a3, .int .i64 a4] 24)
        have hZ6 := Blk.blk_alloc (Blk.blk_below HZB5.out h6 (Blk.blk_lt HZB5.out)) (.cells #[.int .i64 a0, .int .i64 a1, .int .i64 a2, .int .i64 a3, .int .i64 a4] 24)
        clear h6
        have p0 := (Blk.blk_cell hA6 0).trans (show _ = some (.int .i64 a0) from rfl)
        have p1 := (Blk.blk_cell hA6 1).trans (show _ = some (.int .i64 a1) from rfl)
        have p2 := (Blk.blk_cell hA6 2).trans (show _ = some (.int .i64 a2) from rfl)
        have p3 := (Blk.blk_cell hA6 3).trans (show _ = some (.int .i64 a3) from rfl)
        have p4 := (Blk.blk_cell hA6 4).trans (show _ = some (.int .i64 a4) from rfl)
        have z0 := (Blk.blk_cell hZ6 0).trans (show _ = some (.int .i64 0) from rfl)
        have z1 := (Blk.blk_cell hZ6 1).trans (show _ = some (.int .i64 0) from rfl)
        have z2 := (Blk.blk_cell hZ6 2).trans (show _ = some (.int .i64 0) from rfl)
        have z3 := (Blk.blk_cell hZ6 3).trans (show _ = some (.int .i64 0) from rfl)
        have z4 := (Blk.blk_cell hZ6 4).trans (show _ = some (.int .i64 0) from rfl)
        clear hA6 hZ6
        go_wp2_with fail
        refine (Dv.Text.calls 0 0 0 0 0 (Db.bs [49]) _ text_zero (LaidB.below HL.out H6.out)).mono ?_
        rintro e w7 ⟨rfl, h7⟩
        have H7 := Lib.hid (Blk.below_then H6.out h7 H6.out.size)
        clear h7 p0 p1 p2 p3 p4 z0 z1 z2 z3 z4
        have e49 : ((Db.bs [49]).toList == [49]) = true := by rw [Dt.bs_list]; rfl
        go_wp2_with fail
        go_ret
        exact ⟨rfl, by first | exact H7.out | (have h := H7.out; rw [hbb] at h; exact h)⟩
      | false =>
        have p0 := (Blk.blk_cell HAB3.out 0).trans (show _ = some (.int .i64 a0) from rfl)
        have p1 := (Blk.blk_cell HAB3.out 1).trans (show _ = some (.int .i64 a1) from rfl)
        have p2 := (Blk.blk_cell HAB3.out 2).trans (show _ = some (.int .i64 a2) from rfl)
        have p3 := (Blk.blk_cell HAB3.out 3).trans (show _ = some (.int .i64 a3) from rfl)
        have p4 := (Blk.blk_cell HAB3.out 4).trans (show _ = some (.int .i64 a4) from rfl)
        go_wp2_with fail
        refine (OH.dim_Div.calls a0 a1 a2 a3 a4 a0 a1 a2 a3 a4 0 0 0 0 0 true _ (div_self a0 a1 a2 a3 a4 HA.out)).mono ?_
        rintro e w5 ⟨rfl, h5⟩
        clear p0 p1 p2 p3 p4
        have H5 := Lib.hid (nx (o := (.cells #[.int .i64 0, .int .i64 0, .int .i64 0, .int .i64 0, .int .i64 0] 24)) H3.out h5)
        have HAB5 := Lib.hid (Blk.blk_alloc (Blk.blk_below HAB3.out h5 (Blk.blk_lt HAB3.out)) (.cells #[.int .i64 0, .int .i64 0, .int .i64 0, .int .i64 0, .int .i64 0] 24))
        have HZB5 := Lib.hid (show (w5.alloc (.cells #[.int .i64 0, .int .i64 0, .int .i64 0, .int .i64 0, .int .i64 0] 24)).heap[w5.heap.size]? = some (DC 0 0 0 0 0) from Blk.blk_new w5 _)
        clear h5
        have p0 := (Blk.blk_cell HAB5.out 0).trans (show _ = some (.int .i64 a0) from rfl)
        have p1 := (Blk.blk_cell HAB5.out 1).trans (show _ = some (.int .i64 a1) from rfl)
        have p2 := (Blk.blk_cell HAB5.out 2).trans (show _ = some (.int .i64 a2) from rfl)
        have p3 := (Blk.blk_cell HAB5.out 3).trans (show _ = some (.int .i64 a3) from rfl)
        have p4 := (Blk.blk_cell HAB5.out 4).trans (show _ = some (.int .i64 a4) from rfl)
        go_wp2_with fail
        refine (OH.dim_Mul.calls a0 a1 a2 a3 a4 0 0 0 0 0 a0 a1 a2 a3 a4 true _ (mul_zero a0 a1 a2 a3 a4 HSM.out)).mono ?_
        rintro e w6 ⟨rfl, h6⟩
        clear p0 p1 p2 p3 p4
        have H6 := Lib.hid (nx (o := (.cells #[.int .i64 a0, .int .i64 a1, .int .i64 a2, .int .i64 a3, .int .i64 a4] 24)) H5.out h6)
        have hA6 := Blk.blk_alloc (Blk.blk_below HAB5.out h6 (Blk.blk_lt HAB5.out)) (.cells #[.int .i64 a0, .int .i64 a1, .int .i64 a2, .int .i64 a3, .int .i64 a4] 24)
        have hZ6 := Blk.blk_alloc (Blk.blk_below HZB5.out h6 (Blk.blk_lt HZB5.out)) (.cells #[.int .i64 a0, .int .i64 a1, .int .i64 a2, .int .i64 a3, .int .i64 a4] 24)
        clear h6
        have p0 := (Blk.blk_cell hA6 0).trans (show _ = some (.int .i64 a0) from rfl)
        have p1 := (Blk.blk_cell hA6 1).trans (show _ = some (.int .i64 a1) from rfl)
        have p2 := (Blk.blk_cell hA6 2).trans (show _ = some (.int .i64 a2) from rfl)
        have p3 := (Blk.blk_cell hA6 3).trans (show _ = some (.int .i64 a3) from rfl)
        have p4 := (Blk.blk_cell hA6 4).trans (show _ = some (.int .i64 a4) from rfl)
        have z0 := (Blk.blk_cell hZ6 0).trans (show _ = some (.int .i64 0) from rfl)
        have z1 := (Blk.blk_cell hZ6 1).trans (show _ = some (.int .i64 0) from rfl)
        have z2 := (Blk.blk_cell hZ6 2).trans (show _ = some (.int .i64 0) from rfl)
        have z3 := (Blk.blk_cell hZ6 3).trans (show _ = some (.int .i64 0) from rfl)
        have z4 := (Blk.blk_cell hZ6 4).trans (show _ = some (.int .i64 0) from rfl)
        clear hA6 hZ6
        go_wp2_with fail
        refine (Dv.Text.calls 0 0 0 0 0 (Db.bs [49]) _ text_zero (LaidB.below HL.out H6.out)).mono ?_
        rintro e w7 ⟨rfl, h7⟩
        have H7 := Lib.hid (Blk.below_then H6.out h7 H6.out.size)
        clear h7 p0 p1 p2 p3 p4 z0 z1 z2 z3 z4
        have e49 : ((Db.bs [49]).toList == [49]) = true := by rw [Dt.bs_list]; rfl
        go_wp2_with fail
        go_ret
        exact ⟨rfl, by first | exact H7.out | (have h := H7.out; rw [hbb] at h; exact h)⟩
end Go.Proofs.YtdplfphgomckfaaDoor.Hb
