/- The reference's Decode (function 14): the walk. Conditions: as each theorem states. -/
import Derived.Test.YtkdboaaganmagaaCi
import Derived.Test.YtkdboaaganmagaaCf
import Derived.Deep.RegionHeld3
import Derived.Deep.RegionLaw
import Derived.Deep.Cut
import Derived.Deep.CutBlock
import Derived.Outline
import Derived.Deep.MidRow
import Derived.Deep.LoopGhost
namespace Go.Proofs.Ytkdboaaganmagaa.Cj
set_option linter.unusedVariables false
set_option linter.unusedSimpArgs false
open Go.RowKit Go.Proofs.YtkdboaaganmagaaW.PrintWords Go.Proofs.Ytkdboaaganmagaa.OP Go.Proofs.Ytkdboaaganmagaa.Ca Go.Proofs.Ytkdboaaganmagaa.Cd Go.Proofs.Ytkdboaaganmagaa.Ce Go.Proofs.Ytkdboaaganmagaa.Cg Go.Proofs.Ytkdboaaganmagaa.Ci Go.Proofs.Ytkdboaaganmagaa.Cf
def RPost (w0 : World) (RES : Option Pg) (e : Ending) (w' : World) : Prop := match RES with | none => DPost w0 Zg 40 e w' | some p => DPost w0 p 0 e w'
theorem res14 (W : World) (b : Nat) (PV : Array Value) (err : Int) (tmps : Array Value) (h2 : tmps.getD 2 undef = .pointer (some ⟨b, 0, none⟩)) (h3 : tmps.getD 3 undef = .int .i64 err) (hs : PV.size = 12) (hat : W.rangeAt b 0 PV.toList) : (results Try.f14 tmps).run Try.prog W = .ok (.tuple #[.agg PV, .int .i64 err]) W := by
  have h1 := run_loadVar_mid (P := Try.prog) W b 0 29 PV.toList _ hat Try.underlying29 rfl (by rw [Array.length_toList, hs]; exact i29)
  simp only [Array.getD_eq_getD_getElem?] at h2 h3
  simp [results, Try.results14, h2, h3, asAddr, h1]
/-- The five cells of an array that is being filled. -/
def ar (k : IntKind) (acc : List Int) (g : Nat) : Array Value := ((acc ++ List.replicate g 0).map (Value.int k)).toArray
theorem ar_set (k : IntKind) (acc : List Int) (g q : Nat) (v : Int) (h : acc.length = q) : (ar k acc (g + 1)).setIfInBounds q (.int k v) = ar k (acc ++ [v]) g := by
  subst h
  unfold ar
  rw [List.setIfInBounds_toArray]
  congr 1
  rw [List.replicate_succ, List.map_append, List.set_append_right _ _ (by simp)]
  simp
theorem ar_get (k : IntKind) (acc : List Int) (g q : Nat) (h : acc.length = q) : (ar k acc (g + 1))[q]? = some (.int k 0) := by
  subst h
  unfold ar
  simp
def aru (acc : List Int) (g : Nat) : Array Value := ar .u64 (acc.map IntKind.u64.wrap) g
theorem aru_set (acc : List Int) (g q : Nat) (v : Int) (h : acc.length = q) : (aru acc (g + 1)).setIfInBounds q (.int .u64 (IntKind.u64.wrap v)) = aru (acc ++ [v]) g := by
  unfold aru
  rw [ar_set .u64 (acc.map IntKind.u64.wrap) g q _ (by simpa using h), List.map_append]
  rfl
theorem aru_get (acc : List Int) (g q : Nat) (h : acc.length = q) : (aru acc (g + 1))[q]? = some (.int .u64 0) := ar_get .u64 _ g q (by simpa using h)
theorem w64u (X : Option (List Int)) (v : Int) (X' : Option (List Int)) (h : lft q8 0 X = (v, X')) : ∃ u, IntKind.u64.wrap v = u ∧ IntKind.i64.wrap u = v ∧ wrap64 u = v := by
  have h2 : wrap64 v = v := by have := l8_w X; rw [h] at this; exact this
  refine ⟨_, rfl, ?_, ?_⟩
  · rw [show ∀ y, IntKind.i64.wrap y = wrap64 y from fun y => by rw [IntKind.wrap_i64]; unfold wrap64; omega, w64_wr, h2]
  · rw [w64_wr, h2]
theorem take8' {w0 W : World} {g : Nat} {B : List Int} {X X' : Option (List Int)} {v u : Int} (hs : B.length ≤ 1048576) (hl : lft q8 0 X = (v, X')) (hu : IntKind.u64.wrap v = u) (h : RS w0 W g B X) (hB : Below w0.heap.size w0 W) : Calls Try.prog 24 #[.pointer (some ⟨g, 0, none⟩), .int .i64 8] W (TP w0 W g B .u64 u X') := by
  refine (take8 w0 W g B hs X h hB).mono ?_
  rintro e w1 ⟨v2, X2, h2, _, h3⟩
  rw [hl] at h2
  injection h2 with h4 h5
  subst h4 h5 hu
  exact h3
theorem four' {w0 W : World} {g : Nat} {B : List Int} {X X' : Option (List Int)} {v m : Int} (hs : B.length ≤ 1048576) (hin : InB B) (hm0 : 0 ≤ m) (hm : m ≤ 2147483647) (hl : lft (qc m) 0 X = (v, X')) (h : RS w0 W g B X) (hB : Below w0.heap.size w0 W) : Calls Try.prog 25 #[.pointer (some ⟨g, 0, none⟩), .int .i64 m] W (TP w0 W g B .i64 v X') := by
  refine (four w0 W g B hs hin m hm0 hm X h hB).mono ?_
  rintro e w1 ⟨v2, X2, h2, _, h3⟩
  rw [hl] at h2
  injection h2 with h4 h5
  subst h4 h5
  exact h3
theorem take1' {w0 W : World} {g : Nat} {B : List Int} {X X' : Option (List Int)} {v : Int} (hs : B.length ≤ 1048576) (hin : InB B) (hl : lft q1 0 X = (v, X')) (h : RS w0 W g B X) (hB : Below w0.heap.size w0 W) : Calls Try.prog 24 #[.pointer (some ⟨g, 0, none⟩), .int .i64 1] W (TP w0 W g B .u64 v X') := by
  refine (take1 w0 W g B hs hin X h hB).mono ?_
  rintro e w1 ⟨v2, X2, h2, _, h3⟩
  rw [hl] at h2
  injection h2 with h4 h5
  subst h4 h5
  exact h3
theorem four_bd {w0 W : World} {g : Nat} {B : List Int} {X X' : Option (List Int)} {v m : Int} (hin : InB B) (hm0 : 0 ≤ m) (hl : lft (qc m) 0 X = (v, X')) (h : RS w0 W g B X) : 0 ≤ v ∧ v ≤ m := by
  have := lc_bd m hm0 X (h.inX hin)
  rw [hl] at this
  exact this
theorem one_bd {w0 W : World} {g : Nat} {B : List Int} {X X' : Option (List Int)} {v : Int} (hin : InB B) (hl : lft q1 0 X = (v, X')) (h : RS w0 W g B X) : 0 ≤ v ∧ v ≤ 255 := by
  have := l1_bd X (h.inX hin)
  rw [hl] at this
  exact this
theorem z29s : Z29.size = 12 := rfl
theorem z29a : Z29.all (·.oneCell') = true := by simp [Z29, Value.oneCell']
abbrev sn : Value := .slice none 0 0
set_option maxHeartbeats 40000000 in
set_option maxRecDepth 100000 in
theorem rdec_main (A : Option Addr) (c : Nat) (B : List Int) (w0 : World) (hr0 : Kd.C (Kd.int .u8) w0 A B.length B) (hc0 : B.length ≤ c) (hs : ¬ B.length > 1048576) (hin : InB B) : Calls Try.prog 14 #[.slice A B.length c] w0 (RPost w0 (prog B)) := by
  have hs : B.length ≤ 1048576 := by omega
  obtain ⟨RES, hRES⟩ : ∃ R, prog B = R := ⟨_, rfl⟩
  rw [hRES]
  rw [prog_head B hin] at hRES
  have h0 : decide ((B.length : Int) > 1048576) = false := by simp; omega
  have HC := Lib.hid (fun W1 (h1 : RS w0 W1 (w0.heap.size + 1) B (some B)) (h2 : Below w0.heap.size w0 W1) => head w0 W1 (w0.heap.size + 1) B hs hin h1 h2)
  obtain ⟨v0, X0, hl0⟩ : ∃ v X, lft p4 0 (some B) = (v, X) := ⟨_, _, rfl⟩
  rw [hl0] at hRES
  simp only [hl0] at HC
  have HR := Lib.hid hRES; have HS := Lib.hid hs; have HIN := Lib.hid hin; have HR0 := Lib.hid hr0
  clear hl0 hRES hs hin hr0
  go_enter Try.func14, Try.ntmps14
  go_wp2_with fail
  have hb1 := (((Below.refl w0.heap.size w0).alloc (Nat.le_refl _) (.cells Z29 29)).alloc (by simp) (.cells #[.slice A B.length c, .int .i64 0, .bool false] 61)).alloc (by simp; omega) (.cells Z29 29)
  have k2 := Blk.blk_alloc (Blk.blk_alloc (Blk.blk_new w0 (.cells Z29 29)) (.cells #[.slice A B.length c, .int .i64 0, .bool false] 61)) (.cells Z29 29)
  have k4 := Blk.blk_at ((w0.alloc (.cells Z29 29)).alloc (.cells #[.slice A B.length c, .int .i64 0, .bool false] 61)) (.cells Z29 29) (w0.heap.size + 2) (by simp)
  have hI := (IsS61.new w0 (w0.alloc (.cells Z29 29)) A c B 0 false ((Below.refl w0.heap.size w0).alloc (Nat.le_refl _) (.cells Z29 29)) HR0.out).alloc (.cells Z29 29)
  rw [show (w0.alloc (.cells Z29 29)).heap.size = w0.heap.size + 1 from by simp] at hI
  refine (HC.out _ ⟨0, false, hI, 0, rfl, Nat.zero_le _, rfl⟩ hb1).mono ?_
  rintro e w1 ⟨rfl, hr, hb, hk⟩
  have m2 := hk.blk k2 (by omega) (by simp)
  have m4 := hk.blk k4 (by omega) (by simp)
  obtain ⟨b, hbb⟩ : ∃ b, w0.heap.size = b := ⟨_, rfl⟩
  simp only [hbb] at hr hb hk m2 m4 ⊢
  try simp only [show b + 1 + 1 = b + 2 from rfl]
  have HQ : Hid (Qs w0 B b X0 Zg sn sn sn sn w1) := Lib.hid ⟨hr, by rw [hbb]; exact hb, m2, m4, Kd.R_nil _ _ _ _ _, Kd.R_nil _ _ _ _ _, Kd.R_nil _ _ _ _ _, Kd.R_nil _ _ _ _ _⟩
  have hwb : w0.heap.size ≤ b := by omega
  have HWB := Lib.hid hwb
  have HBB := Lib.hid hbb
  clear hr hb hk m2 m4 hb1 k2 k4 hI HC hbb hwb HR0
  by_cases hm : v0 = 1668313905
  · subst hm
    have hres := HR.out
    rw [if_pos rfl] at hres
    have HR1 := Lib.hid hres
    clear hres HR
    go_wp2_with fail
    obtain ⟨v1, X1, hl1⟩ : ∃ v X, lft (qc 2147483647) 0 X0 = (v, X) := ⟨_, _, rfl⟩
    have hv1 := four_bd HIN.out (by decide : (0 : Int) ≤ 2147483647) hl1 HQ.out.1
    refine (four' HS.out HIN.out (by decide) (by decide) hl1 HQ.out.1 HQ.out.2.1).mono ?_
    rintro e w1 ⟨rfl, hr, hb, hk⟩
    have HQ1 := Lib.hid (HQ.out.took hr hb hk)
    have HL1 := Lib.hid hl1; clear hl1 hr hb hk
    obtain ⟨y0, z0⟩ := HQ1.out.cells 0
    unfold PB at y0
    try simp at y0
    go_wp2_with fail
    clear y0 z0
    have HQ2 := Lib.hid (Qs.store (p' := ⟨v1, 0, 0, 0, 0, 0, [], [], [], 0, 0, []⟩) HQ1.out HWB.out 0 (.int .i64 v1) rfl HQ1.out.2.2.2.2)
    obtain ⟨v3, X3, hl3⟩ : ∃ v X, lft (qc 2147483647) 0 X1 = (v, X) := ⟨_, _, rfl⟩
    have hv3 := four_bd HIN.out (by decide : (0 : Int) ≤ 2147483647) hl3 HQ2.out.1
    refine (four' HS.out HIN.out (by decide) (by decide) hl3 HQ2.out.1 HQ2.out.2.1).mono ?_
    rintro e w3 ⟨rfl, hr, hb, hk⟩
    have HQ3 := Lib.hid (HQ2.out.took hr hb hk)
    have HL3 := Lib.hid hl3; clear hl3 hr hb hk
    obtain ⟨y9, z9⟩ := HQ3.out.cells 9
    unfold PB at y9
    try simp at y9
    go_wp2_with fail
    clear y9 z9
    have HQ4 := Lib.hid (Qs.store (p' := ⟨v1, 0, 0, 0, 0, 0, [], [], [], v3, 0, []⟩) HQ3.out HWB.out 9 (.int .i64 v3) rfl HQ3.out.2.2.2.2)
    obtain ⟨v5, X5, hl5⟩ : ∃ v X, lft (qc 2147483647) 0 X3 = (v, X) := ⟨_, _, rfl⟩
    have hv5 := four_bd HIN.out (by decide : (0 : Int) ≤ 2147483647) hl5 HQ4.out.1
    refine (four' HS.out HIN.out (by decide) (by decide) hl5 HQ4.out.1 HQ4.out.2.1).mono ?_
    rintro e w5 ⟨rfl, hr, hb, hk⟩
    have HQ5 := Lib.hid (HQ4.out.took hr hb hk)
    have HL5 := Lib.hid hl5; clear hl5 hr hb hk
    obtain ⟨y10, z10⟩ := HQ5.out.cells 10
    unfold PB at y10
    try simp at y10
    go_upto_block 0 with fail
    clear y10 z10
    have HQ6 := Lib.hid (Qs.store (p' := ⟨v1, 0, 0, 0, 0, 0, [], [], [], v3, v5, []⟩) HQ5.out HWB.out 10 (.int .i64 v5) rfl HQ5.out.2.2.2.2)
    have hres := (c0_five HL1.out HL3.out HL5.out).symm.trans HR1.out
    have HR2 := Lib.hid hres; clear hres HR1
    have hlt := Qs.lt HQ6.out
    have HFA := Lib.hid (Qs.fresh HQ6.out (Nat.le_refl _))
    have HQA := Lib.hid (Qs.alloc HQ6.out (.cells (ar .i64 [] 5) 56))
    have HAA := Lib.hid (Blk.blk_new (w5.setCell ⟨b + 2, 10, none⟩ (.int .i64 v5)) (.cells (ar .i64 [] 5) 56))
    obtain ⟨k1, hk1⟩ : ∃ k, w5.heap.size = k := ⟨_, rfl⟩
    have hz : (w5.setCell ⟨b + 2, 10, none⟩ (.int .i64 v5)).heap.size = w5.heap.size := by simp
    rw [hz, hk1] at hlt HFA HAA
    simp only [hk1]
    clear hz hk1
    go_cut [] from 17 (fun wc => ∃ (X : Option (List Int)) (d e f g h : Int), Hid ((X.bind fun l => cR v1 v3 v5 ([d, e, f, g, h], l)) = RES) ∧ Hid (Qs w0 B b X ⟨v1, 0, 0, 0, 0, 0, [], [], [], v3, v5, []⟩ sn sn sn sn wc) ∧ Hid (wc.heap[k1]? = some (.cells #[.int .i64 d, .int .i64 e, .int .i64 f, .int .i64 g, .int .i64 h] 56 (0, 0))))
    case first =>
      as_aux_lemma =>
        go_wp2_with fail
        go_loopg [7] 5 (fun gf vi wx => ∃ (q : Nat) (acc : List Int) (X : Option (List Int)), vi = .int .i64 q ∧ q + gf = 5 ∧ acc.length = q ∧ Hid ((X.bind fun l => (qA q8 gf acc l).bind (cR v1 v3 v5)) = RES) ∧ Hid (Qs w0 B b X ⟨v1, 0, 0, 0, 0, 0, [], [], [], v3, v5, []⟩ sn sn sn sn wx) ∧ Hid (wx.heap[k1]? = some (.cells (ar .i64 acc gf) 56 (0, 0))))
        case atStart => exact ⟨0, [], X5, rfl, by omega, rfl, HR2, HQA, HAA⟩
        case round =>
          clear HR2 HQA HAA
          obtain ⟨q1, acc1, X1, rfl, hq_1, hal1, HRL1, HQL1, HAL1⟩ := hrel
          by_cases hlt1 : q1 < 5
          · obtain ⟨g', rfl⟩ : ∃ g', gk = g' + 1 := ⟨gk - 1, by omega⟩
            have q0 : decide ((q1 : Int) < 5) = true := by simp; omega
            have q0n : decide (q1 < 5) = true := by simp; omega
            obtain ⟨v, X2, hl⟩ : ∃ v X, lft q8 0 X1 = (v, X) := ⟨_, _, rfl⟩
            obtain ⟨u, hu, hw, hw2⟩ := w64u _ _ _ hl
            have hres := (qA_step q8 0 X1 g' acc1 _).symm.trans HRL1.out
            rw [hl] at hres
            have HRZ := Lib.hid hres
            have HL := Lib.hid hl; have HU := Lib.hid hu
            clear hres hl hu
            go_wp2_with fail
            refine (take8' HS.out HL.out HU.out HQL1.out.1 HQL1.out.2.1).mono ?_
            rintro e wq ⟨rfl, hr, hb, hk⟩
            have hA := hk.blk HAL1.out (by omega) (by simp)
            have ya := (Blk.blk_cell hA q1).trans (ar_get .i64 acc1 g' q1 hal1)
            have za := Blk.blk_frozen hA q1
            have HQZ := Lib.hid (HQL1.out.took hr hb hk)
            have HAZ := Lib.hid hA; have HAL2 := Lib.hid hal1
            clear hr hb hk hA hal1
            go_wp2
            go_roundg g'
            case measure => omega
            case rel => exact ⟨q1 + 1, acc1 ++ [v], X2, by go_num, by omega, by simp [HAL2.out], HRZ, Lib.hid (HQZ.out.loc HWB.out hlt HFA.out q1 _), Lib.hid (by rw [← ar_set .i64 acc1 g' q1 _ HAL2.out]; exact Blk.blk_set HAZ.out q1 _)⟩
          · obtain rfl : gk = 0 := by omega
            obtain rfl : q1 = 5 := by omega
            obtain ⟨d, e, f, g, h, rfl⟩ := five hal1
            have q0 : decide (((5 : Nat) : Int) < 5) = false := by decide
            clear hq_1 hlt1 hal1
            go_wp2
            go_meet
            case rel => exact ⟨_, d, e, f, g, h, HRL1, HQL1, HAL1⟩
    case rest =>
      clear HR2 HQA HAA HL1 HL3 HL5
      obtain ⟨XB, d1, d2, d3, d4, d5, HRB, HQB, HAB⟩ := hcut
      obtain ⟨y1, z1⟩ := HQB.out.cells 1
      obtain ⟨y2, z2⟩ := HQB.out.cells 2
      obtain ⟨y3, z3⟩ := HQB.out.cells 3
      obtain ⟨y4, z4⟩ := HQB.out.cells 4
      obtain ⟨y5, z5⟩ := HQB.out.cells 5
      unfold PB at y1 y2 y3 y4 y5
      try simp at y1 y2 y3 y4 y5
      have ya0 := Blk.blk_cell HAB.out 0
      have ya1 := Blk.blk_cell HAB.out 1
      have ya2 := Blk.blk_cell HAB.out 2
      have ya3 := Blk.blk_cell HAB.out 3
      have ya4 := Blk.blk_cell HAB.out 4
      simp at ya0 ya1 ya2 ya3 ya4
      go_wp2_with fail
      clear y1 z1 y2 z2 y3 z3 y4 z4 y5 z5
      clear ya0 ya1 ya2 ya3 ya4
      have HQ7 := Lib.hid (Qs.store (p' := ⟨v1, d1, 0, 0, 0, 0, [], [], [], v3, v5, []⟩) HQB.out HWB.out 1 (.int .i64 d1) rfl HQB.out.2.2.2.2)
      have HQ8 := Lib.hid (Qs.store (p' := ⟨v1, d1, d2, 0, 0, 0, [], [], [], v3, v5, []⟩) HQ7.out HWB.out 2 (.int .i64 d2) rfl HQ7.out.2.2.2.2)
      have HQ9 := Lib.hid (Qs.store (p' := ⟨v1, d1, d2, d3, 0, 0, [], [], [], v3, v5, []⟩) HQ8.out HWB.out 3 (.int .i64 d3) rfl HQ8.out.2.2.2.2)
      have HQ10 := Lib.hid (Qs.store (p' := ⟨v1, d1, d2, d3, d4, 0, [], [], [], v3, v5, []⟩) HQ9.out HWB.out 4 (.int .i64 d4) rfl HQ9.out.2.2.2.2)
      have HQ11 := Lib.hid (Qs.store (p' := ⟨v1, d1, d2, d3, d4, d5, [], [], [], v3, v5, []⟩) HQ10.out HWB.out 5 (.int .i64 d5) rfl HQ10.out.2.2.2.2)
      obtain ⟨v12, X12, hl12⟩ : ∃ v X, lft (qc 16384) 0 XB = (v, X) := ⟨_, _, rfl⟩
      have hv12 := four_bd HIN.out (by decide : (0 : Int) ≤ 16384) hl12 HQ11.out.1
      refine (four' HS.out HIN.out (by decide) (by decide) hl12 HQ11.out.1 HQ11.out.2.1).mono ?_
      rintro e w12 ⟨rfl, hr, hb, hk⟩
      have HQ12 := Lib.hid (HQ11.out.took hr hb hk)
      have HL12 := Lib.hid hl12; clear hl12 hr hb hk
      obtain ⟨n2, hn2⟩ : ∃ n : Nat, v12 = n := ⟨v12.toNat, by omega⟩
      subst hn2
      have hn2 : n2 ≤ 16384 := by omega
      have hres := HRB.out
      rw [show (fun l => cR v1 v3 v5 ([d1, d2, d3, d4, d5], l)) = fun l => c1 ⟨v1, d1, d2, d3, d4, d5, [], [], [], v3, v5, []⟩ l from rfl] at hres
      unfold c1 at hres
      rw [oneq HL12.out] at hres
      simp only [Int.toNat_natCast] at hres
      have HR2 := Lib.hid hres
      clear hres HRB HL12
      go_upto_block 2 with fail
      go_cut [] from 17 (fun wc => ∃ (acc : List Int) (X : Option (List Int)) (vf : Value), Hid ((X.bind fun l => c2 ⟨v1, d1, d2, d3, d4, d5, acc, [], [], v3, v5, []⟩ l) = RES) ∧ Hid (Qs w0 B b X ⟨v1, d1, d2, d3, d4, d5, acc, [], [], v3, v5, []⟩ vf sn sn sn wc))
      case first =>
        as_aux_lemma =>
          go_wp2_with fail
          go_loopg [9] n2 (fun gf vi wx => ∃ (q : Nat) (acc : List Int) (X : Option (List Int)) (vf : Value), vi = .int .i64 q ∧ q + gf = n2 ∧ acc.length = q ∧ Hid ((X.bind fun l => (qA q8 gf acc l).bind fun u => c2 ⟨v1, d1, d2, d3, d4, d5, u.1, [], [], v3, v5, []⟩ u.2) = RES) ∧ Hid (Qs w0 B b X ⟨v1, d1, d2, d3, d4, d5, acc, [], [], v3, v5, []⟩ vf sn sn sn wx))
          case atStart => exact ⟨0, [], _, _, rfl, by omega, rfl, HR2, HQ12⟩
          case round =>
            clear HR2 HQ12
            obtain ⟨q, acc2, X2, vf2, rfl, hq_, hal, HRL2, HQL2⟩ := hrel
            by_cases hlt2 : q < n2
            · have q0 : decide ((q : Int) < (n2 : Int)) = true := by simp; omega
              have q0n : decide (q < n2) = true := by simp; omega
              obtain ⟨yb, zb⟩ := HQL2.out.1.bad
              cases X2 with
              | none =>
                simp only [Option.isNone_none] at yb
                have HM := Lib.hid (HRL2.out : none = RES)
                clear HRL2
                go_wp2
                go_meet
                case rel => exact ⟨acc2, none, vf2, HM, HQL2⟩
              | some lx =>
                as_aux_lemma =>
                  simp only [Option.isNone_some] at yb
                  obtain ⟨g', rfl⟩ : ∃ g', gk = g' + 1 := ⟨gk - 1, by omega⟩
                  obtain ⟨Af, cf, ef⟩ := Kd.R_slice HQL2.out.2.2.2.2.1
                  subst ef
                  have hacc : acc2.length ≤ 16384 := by omega
                  have HAL := Lib.hid hal; clear hal
                  obtain ⟨yf, zf⟩ := HQL2.out.cells 6
                  unfold PB at yf
                  try simp at yf
                  obtain ⟨v, X2, hl⟩ : ∃ v X, lft q8 0 (some lx) = (v, X) := ⟨_, _, rfl⟩
                  obtain ⟨u, hu, hw, hw2⟩ := w64u _ _ _ hl
                  have hres := (qA_step q8 0 (some lx) g' acc2 _).symm.trans HRL2.out
                  rw [hl] at hres
                  have HRZ := Lib.hid hres
                  have HC := Lib.hid (fun W1 h1 h2 => take8' (w0 := w0) (W := W1) (g := b + 1) HS.out hl hu h1 h2)
                  have hbs := Qs.lt HQL2.out
                  clear hres HRL2 hl hu
                  go_wp2_with fail
                  go_region_law (first | (refine Kd.R_append_rows_step (Kd.int .i64) (Rr := (fun x cs => cs = [Value.int .i64 x])) (w0 := wz.alloc (.cells #[.int .i64 v] 2)) b (by rfl) (.tmp 75) (.tmp 79) 24 2 (.int .i64 0) 8 (by rfl) Try.underlying24 Ce.info2 rfl ?_ ?_ (.slice Af acc2.length cf) acc2 [v] (some ⟨wz.heap.size, 0, none⟩) 1 1 (fun _ => True) (fun _ => False) ?_ ?_ ?_ ?_ ?_ ?_ ?_ ?_ ?_ ?_ ?_; decide; decide; rfl; rfl; exact Kd.R_alloc HQZ.out.2.2.2.2.1 _; exact lit_row .i64 [v] (by simp) (Blk.blk_new _ _); exact fun _ _ h => h; exact fun _ h => h.elim; exact fun _ _ => trivial; exact Below.refl _ _; (simp; omega); omega; intro v1_ w1_ ho hb hgr hown; obtain ⟨A1, c1_, e1⟩ := Kd.R_slice ho; subst e1; have HAP := Lib.hid ((HQZ.out.alloc _).app6 HWB.out hgr ho); have y1 := Blk.blk_cell HAP.out.2 6; have z1 := Blk.blk_frozen HAP.out.2 6; unfold PB at y1; simp at y1; clear ho hb hgr hown) | (go_simp; go_wp2_with ((go_at_call 24; refine (HC.out _ ?_ ?_).mono ?_; (first | exact HQL2.out.1 | exact HQL2.out.1.drew); (first | exact HQL2.out.2.1 | exact HQL2.out.2.1.drew); rintro e wz ⟨rfl, hr, hb, hk⟩; have HQZ := Lib.hid (HQL2.out.drew.took hr hb hk); have yz := (HQZ.out.cells 6).1; unfold PB at yz; simp at yz; have hbz := Qs.lt HQZ.out; clear hr hb hk))))
                  all_goals (try go_wp2)
                  all_goals (go_roundg g'; (case measure => omega); (case rel => exact ⟨q + 1, acc2 ++ [v], X2, .slice A1 (acc2.length + 1) c1_, by simp, by omega, by simp [HAL.out], HRZ, Lib.hid (by have h := HAP.out.1; simp only [List.length_append, List.length_cons, List.length_nil, Nat.zero_add] at h; exact h)⟩))
            · obtain rfl : gk = 0 := by omega
              obtain rfl : q = n2 := by omega
              have q0 : decide ((q : Int) < (q : Int)) = false := by simp
              have q0n : decide (q < q) = false := by simp
              have HM := Lib.hid ((qA_end q8 X2 acc2 _).symm.trans HRL2.out)
              clear HRL2
              go_wp2
              go_meet
              case rel => exact ⟨acc2, X2, vf2, HM, HQL2⟩
      case rest =>
        clear HR2 HQ12
        obtain ⟨acc2, Y2, vf2, HRM2, HQM2⟩ := hcut
        go_wp2_with fail
        obtain ⟨v13, X13, hl13⟩ : ∃ v X, lft (qc 256) 0 Y2 = (v, X) := ⟨_, _, rfl⟩
        have hv13 := four_bd HIN.out (by decide : (0 : Int) ≤ 256) hl13 HQM2.out.1
        refine (four' HS.out HIN.out (by decide) (by decide) hl13 HQM2.out.1 HQM2.out.2.1).mono ?_
        rintro e w13 ⟨rfl, hr, hb, hk⟩
        have HQ13 := Lib.hid (HQM2.out.took hr hb hk)
        have HL13 := Lib.hid hl13; clear hl13 hr hb hk
        obtain ⟨n3, hn3⟩ : ∃ n : Nat, v13 = n := ⟨v13.toNat, by omega⟩
        subst hn3
        have hn3 : n3 ≤ 256 := by omega
        have hres := HRM2.out
        skip
        unfold c2 at hres
        rw [oneq HL13.out] at hres
        simp only [Int.toNat_natCast] at hres
        have HR3 := Lib.hid hres
        clear hres HRM2 HL13
        go_upto_block 4 with fail
        go_cut [] from 17 (fun wc => ∃ (acc : List S51) (X : Option (List Int)) (vf : Value), Hid ((X.bind fun l => c3 ⟨v1, d1, d2, d3, d4, d5, acc2, acc, [], v3, v5, []⟩ l) = RES) ∧ Hid (Qs w0 B b X ⟨v1, d1, d2, d3, d4, d5, acc2, acc, [], v3, v5, []⟩ vf2 vf sn sn wc))
        case first =>
          as_aux_lemma =>
            go_wp2_with fail
            go_loopg [10] n3 (fun gf vi wx => ∃ (q : Nat) (acc : List S51) (X : Option (List Int)) (vf : Value), vi = .int .i64 q ∧ q + gf = n3 ∧ acc.length = q ∧ Hid ((X.bind fun l => (qA fW gf acc l).bind fun u => c3 ⟨v1, d1, d2, d3, d4, d5, acc2, u.1, [], v3, v5, []⟩ u.2) = RES) ∧ Hid (Qs w0 B b X ⟨v1, d1, d2, d3, d4, d5, acc2, acc, [], v3, v5, []⟩ vf2 vf sn sn wx))
            case atStart => exact ⟨0, [], _, _, rfl, by omega, rfl, HR3, HQ13⟩
            case round =>
              clear HR3 HQ13
              obtain ⟨q, acc3, X3, vf3, rfl, hq_, hal, HRL3, HQL3⟩ := hrel
              by_cases hlt3 : q < n3
              · have q0 : decide ((q : Int) < (n3 : Int)) = true := by simp; omega
                have q0n : decide (q < n3) = true := by simp; omega
                obtain ⟨yb, zb⟩ := HQL3.out.1.bad
                cases X3 with
                | none =>
                  simp only [Option.isNone_none] at yb
                  have HM := Lib.hid (HRL3.out : none = RES)
                  clear HRL3
                  go_wp2
                  go_meet
                  case rel => exact ⟨acc3, none, vf3, HM, HQL3⟩
                | some lx =>
                  as_aux_lemma =>
                    simp only [Option.isNone_some] at yb
                    obtain ⟨g', rfl⟩ : ∃ g', gk = g' + 1 := ⟨gk - 1, by omega⟩
                    obtain ⟨Af, cf, ef⟩ := Kd.R_slice HQL3.out.2.2.2.2.2.1
                    subst ef
                    have hacc : acc3.length ≤ 256 := by omega
                    have HAL := Lib.hid hal; clear hal
                    obtain ⟨x1, X1, hl1⟩ : ∃ v X, lft (qc 2147483647) 0 (some lx) = (v, X) := ⟨_, _, rfl⟩
                    obtain ⟨x2, X2, hl2⟩ : ∃ v X, lft (qc 2147483647) 0 X1 = (v, X) := ⟨_, _, rfl⟩
                    obtain ⟨x3, X3, hl3⟩ : ∃ v X, lft q8 0 X2 = (v, X) := ⟨_, _, rfl⟩
                    obtain ⟨x4, X4, hl4⟩ : ∃ v X, lft q8 0 X3 = (v, X) := ⟨_, _, rfl⟩
                    obtain ⟨u3, hu3, hw3, hv3⟩ := w64u _ _ _ hl3
                    obtain ⟨u4, hu4, hw4, hv4⟩ := w64u _ _ _ hl4
                    have hres := (fW_step hl1 hl2 hl3 hl4 _).symm.trans ((qA_one fW (some lx) g' acc3 _).symm.trans HRL3.out)
                    have HRZ := Lib.hid hres
                    have HC1 := Lib.hid (fun W1 h1 h2 => four' (w0 := w0) (W := W1) (g := b + 1) HS.out HIN.out (by decide) (by decide) hl1 h1 h2)
                    have HC2 := Lib.hid (fun W1 h1 h2 => four' (w0 := w0) (W := W1) (g := b + 1) HS.out HIN.out (by decide) (by decide) hl2 h1 h2)
                    have HC3 := Lib.hid (fun W1 h1 h2 => take8' (w0 := w0) (W := W1) (g := b + 1) HS.out hl3 hu3 h1 h2)
                    have HC4 := Lib.hid (fun W1 h1 h2 => take8' (w0 := w0) (W := W1) (g := b + 1) HS.out hl4 hu4 h1 h2)
                    clear hres HRL3 hl1 hl2 hl3 hl4 hu3 hu4
                    go_wp2_with fail
                    refine (HC1.out _ HQL3.out.1 HQL3.out.2.1).mono ?_
                    rintro e wa ⟨rfl, hr, hb, hk⟩
                    have HQA1 := Lib.hid (HQL3.out.took hr hb hk)
                    clear hr hb hk
                    go_wp2_with fail
                    have hlk := Qs.lt HQA1.out
                    have HFB := Lib.hid (Qs.fresh HQA1.out (Nat.le_refl _))
                    have HQB1 := Lib.hid (Qs.alloc HQA1.out (.cells #[.int .i64 x1, .int .i64 0, .int .i64 0, .int .i64 0] 51))
                    have HB1 := Lib.hid (Blk.blk_new wa (.cells #[.int .i64 x1, .int .i64 0, .int .i64 0, .int .i64 0] 51))
                    obtain ⟨kb, hk_⟩ : ∃ k, wa.heap.size = k := ⟨_, rfl⟩
                    rw [hk_] at hlk HFB HB1
                    simp only [hk_]
                    clear hk_
                    clear HQA1
                    refine (HC2.out _ HQB1.out.1 HQB1.out.2.1).mono ?_
                    rintro e wb ⟨rfl, hr, hb, hk⟩
                    have HQC2 := Lib.hid (HQB1.out.took hr hb hk)
                    have HBC2 := Lib.hid (hk.blk HB1.out (by omega) (by simp))
                    clear hr hb hk HQB1 HB1
                    have yx := Blk.blk_cell HBC2.out 1
                    have zx := Blk.blk_frozen HBC2.out 1
                    simp at yx
                    go_wp2_with fail
                    clear yx zx
                    have HQB2 : Hid (Qs w0 B b _ _ _ _ _ _ (wb.setCell ⟨kb, 1, none⟩ (.int .i64 x2))) := Lib.hid (HQC2.out.loc HWB.out hlk HFB.out 1 _)
                    have HB2 : Hid ((wb.setCell ⟨kb, 1, none⟩ (.int .i64 x2)).heap[kb]? = some (.cells #[.int .i64 x1, .int .i64 x2, .int .i64 0, .int .i64 0] 51 (0, 0))) := Lib.hid (Blk.blk_set HBC2.out 1 _)
                    clear HQC2 HBC2
                    refine (HC3.out _ HQB2.out.1 HQB2.out.2.1).mono ?_
                    rintro e wc2 ⟨rfl, hr, hb, hk⟩
                    have HQC3 := Lib.hid (HQB2.out.took hr hb hk)
                    have HBC3 := Lib.hid (hk.blk HB2.out (by omega) (by simp))
                    clear hr hb hk HQB2 HB2
                    have yx := Blk.blk_cell HBC3.out 2
                    have zx := Blk.blk_frozen HBC3.out 2
                    simp at yx
                    go_wp2_with fail
                    clear yx zx
                    have HQB3 : Hid (Qs w0 B b _ _ _ _ _ _ (wc2.setCell ⟨kb, 2, none⟩ (.int .i64 x3))) := Lib.hid (HQC3.out.loc HWB.out hlk HFB.out 2 _)
                    have HB3 : Hid ((wc2.setCell ⟨kb, 2, none⟩ (.int .i64 x3)).heap[kb]? = some (.cells #[.int .i64 x1, .int .i64 x2, .int .i64 x3, .int .i64 0] 51 (0, 0))) := Lib.hid (Blk.blk_set HBC3.out 2 _)
                    clear HQC3 HBC3
                    refine (HC4.out _ HQB3.out.1 HQB3.out.2.1).mono ?_
                    rintro e wd ⟨rfl, hr, hb, hk⟩
                    have HQC4 := Lib.hid (HQB3.out.took hr hb hk)
                    have HBC4 := Lib.hid (hk.blk HB3.out (by omega) (by simp))
                    clear hr hb hk HQB3 HB3
                    have yx := Blk.blk_cell HBC4.out 3
                    have zx := Blk.blk_frozen HBC4.out 3
                    simp at yx
                    go_upto_region 29 with fail
                    clear yx zx
                    obtain ⟨WZ, hWZ⟩ : ∃ W, wd.setCell ⟨kb, 3, none⟩ (.int .i64 x4) = W := ⟨_, rfl⟩
                    rw [hWZ]
                    have HQB4 : Hid (Qs w0 B b _ _ _ _ _ _ (wd.setCell ⟨kb, 3, none⟩ (.int .i64 x4))) := Lib.hid (HQC4.out.loc HWB.out hlk HFB.out 3 _)
                    have HB4 : Hid ((wd.setCell ⟨kb, 3, none⟩ (.int .i64 x4)).heap[kb]? = some (.cells #[.int .i64 x1, .int .i64 x2, .int .i64 x3, .int .i64 x4] 51 (0, 0))) := Lib.hid (Blk.blk_set HBC4.out 3 _)
                    clear HQC4 HBC4
                    rw [hWZ] at HQB4 HB4
                    clear hWZ
                    obtain ⟨yf, zf⟩ := HQB4.out.cells 7
                    unfold PB at yf
                    try simp at yf
                    have yx0 := Blk.blk_cell HB4.out 0
                    have yx1 := Blk.blk_cell HB4.out 1
                    have yx2 := Blk.blk_cell HB4.out 2
                    have yx3 := Blk.blk_cell HB4.out 3
                    simp at yx0 yx1 yx2 yx3
                    have hbs := Qs.lt HQB4.out
                    clear HB4
                    go_wp2_with (at_builtin; refine Kd.R_append k51 (w0 := WZ) b rfl (.tmp 111) (.tmp 113) 25 51 (.agg #[.int .i64 0, .int .i64 0, .int .i64 0, .int .i64 0]) 32 rfl Try.underlying25 Ce.info51 rfl (by decide) (by omega) (.slice Af acc3.length cf) acc3 (⟨x1, x2, x3, x4⟩ : S51) [.int .i64 x1, .int .i64 x2, .int .i64 x3, .int .i64 x4] (fun _ => True) (fun _ => False) rfl rfl ?_ (fun _ hk => hk.elim) (fun _ _ => trivial) HQB4.out.2.2.2.2.2.1 (Below.refl _ _) (by omega) (by omega) ?_; (exact k51_mkM _ _ _ (⟨x1, x2, x3, x4⟩ : S51)); intro v1_ w1_ ho hb hgr hat; obtain ⟨A1, c1_, e1⟩ := Kd.R_slice ho; subst e1; have HAP := Lib.hid (HQB4.out.app7 HWB.out hgr ho); have y1 := Blk.blk_cell HAP.out.2 7; have z1 := Blk.blk_frozen HAP.out.2 7; unfold PB at y1; simp at y1; clear ho hb hgr hat)
                    go_roundg g'
                    case measure => omega
                    case rel => exact ⟨q + 1, acc3 ++ [⟨x1, x2, x3, x4⟩], X4, .slice A1 (acc3.length + 1) c1_, by go_num, by omega, by simp [HAL.out], HRZ, Lib.hid (by have h := HAP.out.1; simp only [List.length_append, List.length_cons, List.length_nil, Nat.zero_add] at h; exact h)⟩
              · obtain rfl : gk = 0 := by omega
                obtain rfl : q = n3 := by omega
                have q0 : decide ((q : Int) < (q : Int)) = false := by simp
                have q0n : decide (q < q) = false := by simp
                have HM := Lib.hid ((qA_end fW X3 acc3 _).symm.trans HRL3.out)
                clear HRL3
                go_wp2
                go_meet
                case rel => exact ⟨acc3, X3, vf3, HM, HQL3⟩
        case rest =>
          clear HR3 HQ13
          obtain ⟨acc3, Y3, vf3, HRM3, HQM3⟩ := hcut
          go_wp2_with fail
          obtain ⟨v14, X14, hl14⟩ : ∃ v X, lft (qc 256) 0 Y3 = (v, X) := ⟨_, _, rfl⟩
          have hv14 := four_bd HIN.out (by decide : (0 : Int) ≤ 256) hl14 HQM3.out.1
          refine (four' HS.out HIN.out (by decide) (by decide) hl14 HQM3.out.1 HQM3.out.2.1).mono ?_
          rintro e w14 ⟨rfl, hr, hb, hk⟩
          have HQ14 := Lib.hid (HQM3.out.took hr hb hk)
          have HL14 := Lib.hid hl14; clear hl14 hr hb hk
          obtain ⟨n4, hn4⟩ : ∃ n : Nat, v14 = n := ⟨v14.toNat, by omega⟩
          subst hn4
          have hn4 : n4 ≤ 256 := by omega
          have hres := HRM3.out
          skip
          unfold c3 at hres
          rw [oneq HL14.out] at hres
          simp only [Int.toNat_natCast] at hres
          have HR4 := Lib.hid hres
          clear hres HRM3 HL14
          go_upto_block 6 with fail
          go_cut [] from 17 (fun wc => ∃ (acc : List S54) (X : Option (List Int)) (vf : Value), Hid ((X.bind fun l => c4 ⟨v1, d1, d2, d3, d4, d5, acc2, acc3, acc, v3, v5, []⟩ l) = RES) ∧ Hid (Qs w0 B b X ⟨v1, d1, d2, d3, d4, d5, acc2, acc3, acc, v3, v5, []⟩ vf2 vf3 vf sn wc))
          case first =>
            as_aux_lemma =>
              go_wp2_with fail
              go_loopg [12] n4 (fun gf vi wx => ∃ (q : Nat) (acc : List S54) (X : Option (List Int)) (vf : Value), vi = .int .i64 q ∧ q + gf = n4 ∧ acc.length = q ∧ Hid ((X.bind fun l => (qA fC gf acc l).bind fun u => c4 ⟨v1, d1, d2, d3, d4, d5, acc2, acc3, u.1, v3, v5, []⟩ u.2) = RES) ∧ Hid (Qs w0 B b X ⟨v1, d1, d2, d3, d4, d5, acc2, acc3, acc, v3, v5, []⟩ vf2 vf3 vf sn wx))
              case atStart => exact ⟨0, [], _, _, rfl, by omega, rfl, HR4, HQ14⟩
              case round =>
                clear HR4 HQ14
                obtain ⟨q, acc4, X4, vf4, rfl, hq_, hal, HRL4, HQL4⟩ := hrel
                by_cases hlt4 : q < n4
                · have q0 : decide ((q : Int) < (n4 : Int)) = true := by simp; omega
                  have q0n : decide (q < n4) = true := by simp; omega
                  obtain ⟨yb, zb⟩ := HQL4.out.1.bad
                  cases X4 with
                  | none =>
                    simp only [Option.isNone_none] at yb
                    have HM := Lib.hid (HRL4.out : none = RES)
                    clear HRL4
                    go_wp2
                    go_meet
                    case rel => exact ⟨acc4, none, vf4, HM, HQL4⟩
                  | some lx =>
                    as_aux_lemma =>
                      simp only [Option.isNone_some] at yb
                      obtain ⟨g', rfl⟩ : ∃ g', gk = g' + 1 := ⟨gk - 1, by omega⟩
                      obtain ⟨Af, cf, ef⟩ := Kd.R_slice HQL4.out.2.2.2.2.2.2.1
                      subst ef
                      have hacc : acc4.length ≤ 256 := by omega
                      have HAL := Lib.hid hal; clear hal
                      have hres := (fC_five (some lx) _).symm.trans ((qA_one fC (some lx) g' acc4 _).symm.trans HRL4.out)
                      have HRV := Lib.hid hres
                      clear hres HRL4
                      have w4 := wr
                      go_wp2_with fail
                      have hlk := Qs.lt HQL4.out
                      have HFC := Lib.hid (Qs.fresh HQL4.out (Nat.le_refl _))
                      have HQC := Lib.hid (Qs.alloc HQL4.out (.cells (aru [] 5) 57))
                      have HAC := Lib.hid (Blk.blk_new wr (.cells (aru [] 5) 57))
                      obtain ⟨kc, hk_⟩ : ∃ k, wr.heap.size = k := ⟨_, rfl⟩
                      rw [hk_] at hlk HFC HAC
                      simp only [hk_]
                      clear hk_
                      go_loopg [14] 5 (fun gf vi wx => ∃ (q : Nat) (acc : List Int) (X : Option (List Int)), vi = .int .i64 q ∧ q + gf = 5 ∧ acc.length = q ∧ Hid ((X.bind fun l => (qA q8 gf acc l).bind (fun u => (qA fC g' (acc4 ++ [cronOf u.1]) u.2).bind fun u => c4 ⟨v1, d1, d2, d3, d4, d5, acc2, acc3, u.1, v3, v5, []⟩ u.2)) = RES) ∧ Hid (Qs w0 B b X ⟨v1, d1, d2, d3, d4, d5, acc2, acc3, acc4, v3, v5, []⟩ vf2 vf3 (.slice Af acc4.length cf) sn wx) ∧ Hid (wx.heap[kc]? = some (.cells (aru acc gf) 57 (0, 0))))
                      case atStart => exact ⟨0, [], (some lx), rfl, by omega, rfl, HRV, HQC, HAC⟩
                      case round =>
                        clear HRV HQC HAC
                        obtain ⟨qc, accc, Xc, rfl, hq_c, halc, HRLc, HQLc, HALc⟩ := hrel
                        by_cases hltc : qc < 5
                        · obtain ⟨g2, rfl⟩ : ∃ g', gk = g' + 1 := ⟨gk - 1, by omega⟩
                          have q0 : decide ((qc : Int) < 5) = true := by simp; omega
                          have q0n : decide (qc < 5) = true := by simp; omega
                          obtain ⟨v, X2, hl⟩ : ∃ v X, lft q8 0 Xc = (v, X) := ⟨_, _, rfl⟩
                          obtain ⟨u, hu, hw, hw2⟩ := w64u _ _ _ hl
                          have hres := (qA_step q8 0 Xc g2 accc _).symm.trans HRLc.out
                          rw [hl] at hres
                          have HRZ := Lib.hid hres
                          have HL := Lib.hid hl; have HU := Lib.hid hu
                          clear hres hl hu
                          go_wp2_with fail
                          refine (take8' HS.out HL.out HU.out HQLc.out.1 HQLc.out.2.1).mono ?_
                          rintro e wq ⟨rfl, hr, hb, hk⟩
                          have hA := hk.blk HALc.out (by omega) (by simp)
                          have ya := (Blk.blk_cell hA qc).trans (aru_get accc g2 qc halc)
                          have za := Blk.blk_frozen hA qc
                          have HQZ := Lib.hid (HQLc.out.took hr hb hk)
                          have HAZ := Lib.hid hA; have HAL2 := Lib.hid halc
                          clear hr hb hk hA halc
                          go_wp2
                          go_roundg g2
                          case measure => omega
                          case rel => exact ⟨qc + 1, accc ++ [v], X2, by go_num, by omega, by simp [HAL2.out], HRZ, Lib.hid (HQZ.out.loc HWB.out hlk HFC.out qc _), Lib.hid (by rw [← aru_set accc g2 qc _ HAL2.out]; rw [HU.out]; exact Blk.blk_set HAZ.out qc _)⟩
                        · obtain rfl : gk = 0 := by omega
                          obtain rfl : qc = 5 := by omega
                          obtain ⟨d, e, f, g, h, rfl⟩ := five halc
                          have q0 : decide (((5 : Nat) : Int) < 5) = false := by decide
                          clear hq_c hltc halc
                          obtain ⟨yf, zf⟩ := HQLc.out.cells 8
                          unfold PB at yf
                          try simp at yf
                          have yx0 := Blk.blk_cell HALc.out 0
                          have yx1 := Blk.blk_cell HALc.out 1
                          have yx2 := Blk.blk_cell HALc.out 2
                          have yx3 := Blk.blk_cell HALc.out 3
                          have yx4 := Blk.blk_cell HALc.out 4
                          simp [aru, ar] at yx0 yx1 yx2 yx3 yx4
                          have hbs := Qs.lt HQLc.out
                          have HRZ := HRLc
                          go_wp2_with (at_builtin; refine Kd.R_append k54 (w0 := wr) b rfl (.tmp 140) (.tmp 152) 26 54 (.agg #[.int .u64 0, .int .u64 0, .int .u64 0, .int .u64 0, .int .u64 0]) 40 rfl Try.underlying26 Ce.info54 rfl (by decide) (by omega) (.slice Af acc4.length cf) acc4 (cronOf [d, e, f, g, h]) [.int .u64 (IntKind.u64.wrap d), .int .u64 (IntKind.u64.wrap e), .int .u64 (IntKind.u64.wrap f), .int .u64 (IntKind.u64.wrap g), .int .u64 (IntKind.u64.wrap h)] (fun _ => True) (fun _ => False) rfl rfl ?_ (fun _ hk => hk.elim) (fun _ _ => trivial) HQLc.out.2.2.2.2.2.2.1 (Below.refl _ _) (by omega) (by omega) ?_; (exact k54_mkM _ _ _ (cronOf [d, e, f, g, h])); intro v1_ w1_ ho hb hgr hat; obtain ⟨A1, c1_, e1⟩ := Kd.R_slice ho; subst e1; have HAP := Lib.hid (HQLc.out.app8 HWB.out hgr ho); have y1 := Blk.blk_cell HAP.out.2 8; have z1 := Blk.blk_frozen HAP.out.2 8; unfold PB at y1; simp at y1; clear ho hb hgr hat)
                          go_roundg g'
                          case measure => omega
                          case rel => exact ⟨q + 1, acc4 ++ [cronOf [d, e, f, g, h]], Xc, .slice A1 (acc4.length + 1) c1_, by go_num, by omega, by simp [HAL.out], HRZ, Lib.hid (by have h := HAP.out.1; simp only [List.length_append, List.length_cons, List.length_nil, Nat.zero_add] at h; exact h)⟩
                · obtain rfl : gk = 0 := by omega
                  obtain rfl : q = n4 := by omega
                  have q0 : decide ((q : Int) < (q : Int)) = false := by simp
                  have q0n : decide (q < q) = false := by simp
                  have HM := Lib.hid ((qA_end fC X4 acc4 _).symm.trans HRL4.out)
                  clear HRL4
                  go_wp2
                  go_meet
                  case rel => exact ⟨acc4, X4, vf4, HM, HQL4⟩
          case rest =>
            clear HR4 HQ14
            obtain ⟨acc4, Y4, vf4, HRM4, HQM4⟩ := hcut
            go_wp2_with fail
            obtain ⟨v15, X15, hl15⟩ : ∃ v X, lft (qc 16384) 0 Y4 = (v, X) := ⟨_, _, rfl⟩
            have hv15 := four_bd HIN.out (by decide : (0 : Int) ≤ 16384) hl15 HQM4.out.1
            refine (four' HS.out HIN.out (by decide) (by decide) hl15 HQM4.out.1 HQM4.out.2.1).mono ?_
            rintro e w15 ⟨rfl, hr, hb, hk⟩
            have HQ15 := Lib.hid (HQM4.out.took hr hb hk)
            have HL15 := Lib.hid hl15; clear hl15 hr hb hk
            obtain ⟨n6, hn6⟩ : ∃ n : Nat, v15 = n := ⟨v15.toNat, by omega⟩
            subst hn6
            have hn6 : n6 ≤ 16384 := by omega
            have hres := HRM4.out
            skip
            unfold c4 at hres
            rw [oneq HL15.out] at hres
            simp only [Int.toNat_natCast] at hres
            have HR6 := Lib.hid hres
            clear hres HRM4 HL15
            go_upto_block 10 with fail
            go_cut [] from 17 (fun wc => ∃ (acc : List S45) (X : Option (List Int)) (vf : Value), Hid ((X.bind fun l => c5 ⟨v1, d1, d2, d3, d4, d5, acc2, acc3, acc4, v3, v5, acc⟩ l) = RES) ∧ Hid (Qs w0 B b X ⟨v1, d1, d2, d3, d4, d5, acc2, acc3, acc4, v3, v5, acc⟩ vf2 vf3 vf4 vf wc))
            case first =>
              as_aux_lemma =>
                go_wp2_with fail
                go_loopg [15] n6 (fun gf vi wx => ∃ (q : Nat) (acc : List S45) (X : Option (List Int)) (vf : Value), vi = .int .i64 q ∧ q + gf = n6 ∧ acc.length = q ∧ Hid ((X.bind fun l => (qA fI gf acc l).bind fun u => c5 ⟨v1, d1, d2, d3, d4, d5, acc2, acc3, acc4, v3, v5, u.1⟩ u.2) = RES) ∧ Hid (Qs w0 B b X ⟨v1, d1, d2, d3, d4, d5, acc2, acc3, acc4, v3, v5, acc⟩ vf2 vf3 vf4 vf wx))
                case atStart => exact ⟨0, [], _, _, rfl, by omega, rfl, HR6, HQ15⟩
                case round =>
                  clear HR6 HQ15
                  obtain ⟨q, acc6, X6, vf6, rfl, hq_, hal, HRL6, HQL6⟩ := hrel
                  by_cases hlt6 : q < n6
                  · have q0 : decide ((q : Int) < (n6 : Int)) = true := by simp; omega
                    have q0n : decide (q < n6) = true := by simp; omega
                    obtain ⟨yb, zb⟩ := HQL6.out.1.bad
                    cases X6 with
                    | none =>
                      simp only [Option.isNone_none] at yb
                      have HM := Lib.hid (HRL6.out : none = RES)
                      clear HRL6
                      go_wp2
                      go_meet
                      case rel => exact ⟨acc6, none, vf6, HM, HQL6⟩
                    | some lx =>
                      as_aux_lemma =>
                        simp only [Option.isNone_some] at yb
                        obtain ⟨g', rfl⟩ : ∃ g', gk = g' + 1 := ⟨gk - 1, by omega⟩
                        obtain ⟨Af, cf, ef⟩ := Kd.R_slice HQL6.out.2.2.2.2.2.2.2
                        subst ef
                        have hacc : acc6.length ≤ 16384 := by omega
                        have HAL := Lib.hid hal; clear hal
                        obtain ⟨x1, X1, hl1⟩ : ∃ v X, lft q1 0 (some lx) = (v, X) := ⟨_, _, rfl⟩
                        obtain ⟨x2, X2, hl2⟩ : ∃ v X, lft q8 0 X1 = (v, X) := ⟨_, _, rfl⟩
                        have hw1 : IntKind.i64.wrap x1 = x1 := by have hb1 := one_bd HIN.out hl1 HQL6.out.1; rw [IntKind.wrap_i64]; omega
                        obtain ⟨u2, hu2, hw2, hv2⟩ := w64u _ _ _ hl2
                        clear hv2
                        have hres := (fI_step hl1 hl2 _).symm.trans ((qA_one fI (some lx) g' acc6 _).symm.trans HRL6.out)
                        have HRZ := Lib.hid hres
                        have HC1 := Lib.hid (fun W1 h1 h2 => take1' (w0 := w0) (W := W1) (g := b + 1) HS.out HIN.out hl1 h1 h2)
                        have HC2 := Lib.hid (fun W1 h1 h2 => take8' (w0 := w0) (W := W1) (g := b + 1) HS.out hl2 hu2 h1 h2)
                        clear hres HRL6 hl1 hl2 hu2
                        go_wp2_with fail
                        refine (HC1.out _ HQL6.out.1 HQL6.out.2.1).mono ?_
                        rintro e wa ⟨rfl, hr, hb, hk⟩
                        have HQA1 := Lib.hid (HQL6.out.took hr hb hk)
                        clear hr hb hk
                        go_wp2_with fail
                        have hlk := Qs.lt HQA1.out
                        have HFB := Lib.hid (Qs.fresh HQA1.out (Nat.le_refl _))
                        have HQB1 := Lib.hid (Qs.alloc HQA1.out (.cells #[.int .i64 x1, .int .i64 0] 45))
                        have HB1 := Lib.hid (Blk.blk_new wa (.cells #[.int .i64 x1, .int .i64 0] 45))
                        obtain ⟨kb, hk_⟩ : ∃ k, wa.heap.size = k := ⟨_, rfl⟩
                        rw [hk_] at hlk HFB HB1
                        simp only [hk_]
                        clear hk_
                        clear HQA1
                        refine (HC2.out _ HQB1.out.1 HQB1.out.2.1).mono ?_
                        rintro e wd ⟨rfl, hr, hb, hk⟩
                        have HQC1 := Lib.hid (HQB1.out.took hr hb hk)
                        have HBC1 := Lib.hid (hk.blk HB1.out (by omega) (by simp))
                        clear hr hb hk HQB1 HB1
                        have yx := Blk.blk_cell HBC1.out 1
                        have zx := Blk.blk_frozen HBC1.out 1
                        simp at yx
                        go_upto_region 46 with fail
                        clear yx zx
                        obtain ⟨WZ, hWZ⟩ : ∃ W, wd.setCell ⟨kb, 1, none⟩ (.int .i64 x2) = W := ⟨_, rfl⟩
                        rw [hWZ]
                        have HQB4 : Hid (Qs w0 B b _ _ _ _ _ _ (wd.setCell ⟨kb, 1, none⟩ (.int .i64 x2))) := Lib.hid (HQC1.out.loc HWB.out hlk HFB.out 1 _)
                        have HB4 : Hid ((wd.setCell ⟨kb, 1, none⟩ (.int .i64 x2)).heap[kb]? = some (.cells #[.int .i64 x1, .int .i64 x2] 45 (0, 0))) := Lib.hid (Blk.blk_set HBC1.out 1 _)
                        rw [hWZ] at HQB4 HB4
                        clear hWZ HQC1 HBC1
                        obtain ⟨yf, zf⟩ := HQB4.out.cells 11
                        unfold PB at yf
                        try simp at yf
                        have yx0 := Blk.blk_cell HB4.out 0
                        have yx1 := Blk.blk_cell HB4.out 1
                        simp at yx0 yx1
                        have hbs := Qs.lt HQB4.out
                        clear HB4
                        go_wp2_with (at_builtin; refine Kd.R_append k45 (w0 := WZ) b rfl (.tmp 178) (.tmp 180) 27 45 (.agg #[.int .i64 0, .int .i64 0]) 16 rfl Try.underlying27 Ce.info45 rfl (by decide) (by omega) (.slice Af acc6.length cf) acc6 (⟨x1, x2⟩ : S45) [.int .i64 x1, .int .i64 x2] (fun _ => True) (fun _ => False) rfl rfl ?_ (fun _ hk => hk.elim) (fun _ _ => trivial) HQB4.out.2.2.2.2.2.2.2 (Below.refl _ _) (by omega) (by omega) ?_; (exact k45_mkM _ _ _ (⟨x1, x2⟩ : S45)); intro v1_ w1_ ho hb hgr hat; obtain ⟨A1, c1_, e1⟩ := Kd.R_slice ho; subst e1; have HAP := Lib.hid (HQB4.out.app11 HWB.out hgr ho); have y1 := Blk.blk_cell HAP.out.2 11; have z1 := Blk.blk_frozen HAP.out.2 11; unfold PB at y1; simp at y1; clear ho hb hgr hat)
                        go_roundg g'
                        case measure => omega
                        case rel => exact ⟨q + 1, acc6 ++ [⟨x1, x2⟩], X2, .slice A1 (acc6.length + 1) c1_, by go_num, by omega, by simp [HAL.out], HRZ, Lib.hid (by have h := HAP.out.1; simp only [List.length_append, List.length_cons, List.length_nil, Nat.zero_add] at h; exact h)⟩
                  · obtain rfl : gk = 0 := by omega
                    obtain rfl : q = n6 := by omega
                    have q0 : decide ((q : Int) < (q : Int)) = false := by simp
                    have q0n : decide (q < q) = false := by simp
                    have HM := Lib.hid ((qA_end fI X6 acc6 _).symm.trans HRL6.out)
                    clear HRL6
                    go_wp2
                    go_meet
                    case rel => exact ⟨acc6, X6, vf6, HM, HQL6⟩
            case rest =>
              clear HR6 HQ15
              obtain ⟨acc6, Y6, vf6, HRM6, HQM6⟩ := hcut
              as_aux_lemma =>
                obtain ⟨yb, zb⟩ := HQM6.out.1.bad
                have hres := HRM6.out
                cases Y6 with
                | none =>
                  have hres2 : none = RES := hres
                  subst hres2
                  simp only [Option.isNone_none] at yb
                  clear hres HRM6
                  have TH := there_blk HQM6.out.2.2.1 (by rfl : Z29.size = 12)
                  have TH2 := Lib.hid TH; clear TH
                  go_upto_region 48 with fail
                  refine wp_region_list ?_
                  go_step
                  go_step
                  refine wpList_store_mid rfl 29 (.tmp 2) (.tmp 196) rfl b 0 Z29 rfl rfl (by rw [z29s]; exact TH2.out) (by rw [z29s]; exact i29) z29a ?_
                  obtain ⟨WE, hWE⟩ : ∃ x, wc.setCells b 0 Z29.toList = x := ⟨_, rfl⟩
                  rw [hWE]
                  have HWE := Lib.hid hWE; clear hWE
                  simp only [Act.put, List.setIfInBounds_toArray, List.set_cons_zero, List.set_cons_succ]
                  repeat (first | go_step | go_values | go_skip)
                  refine bodyPost_ret (v := .tuple #[.agg Z29, .int .i64 40]) (res14 _ b Z29 40 _ rfl rfl rfl (by rw [← HWE.out]; exact World.rangeAt_setCells_same wc b 0 Z29.toList TH2.out)) rfl ?_
                  rw [← HWE.out]
                  exact ⟨_, _, _, _, rfl, zrows _ _, below_sets HWB.out HQM6.out.2.1 _ _⟩
                | some l6 =>
                  simp only [Option.isNone_some] at yb
                  obtain ⟨i6, yi, hi6, hi7⟩ := HQM6.out.1.place
                  by_cases hz : l6.length = 0
                  · have hres2 : some (⟨v1, d1, d2, d3, d4, d5, acc2, acc3, acc4, v3, v5, acc6⟩ : Pg) = RES := by rw [← hres]; show _ = c5 _ _; unfold c5; rw [if_pos hz]
                    obtain ⟨AA2, cc2, ee2⟩ := Kd.R_slice HQM6.out.2.2.2.2.1; subst ee2
                    obtain ⟨AA3, cc3, ee3⟩ := Kd.R_slice HQM6.out.2.2.2.2.2.1; subst ee3
                    obtain ⟨AA4, cc4, ee4⟩ := Kd.R_slice HQM6.out.2.2.2.2.2.2.1; subst ee4
                    obtain ⟨AA6, cc6, ee6⟩ := Kd.R_slice HQM6.out.2.2.2.2.2.2.2; subst ee6
                    subst hres2
                    clear hres HRM6
                    have hie := hi7.2 hz
                    subst hie
                    obtain ⟨PV, hPV⟩ : ∃ x, x = (PB ⟨v1, d1, d2, d3, d4, d5, acc2, acc3, acc4, v3, v5, acc6⟩ (.slice AA2 acc2.length cc2) (.slice AA3 acc3.length cc3) (.slice AA4 acc4.length cc4) (.slice AA6 acc6.length cc6)) := ⟨_, rfl⟩
                    have h3 := HQM6.out.2.2.2.1
                    rw [← hPV] at h3
                    have hall : PV.all (·.oneCell') = true := by rw [hPV]; simp [PB, Value.oneCell']
                    have hs12 : PV.size = 12 := by rw [hPV]; rfl
                    have TH := there_blk HQM6.out.2.2.1 (by rfl : Z29.size = 12)
                    have RA := range_blk h3
                    have h9 : ((B.length : Int) == B.length) = true := by simp
                    have h9n : ((B.length : Int) != B.length) = false := by simp
                    have HPV := Lib.hid hPV; clear h3 hz hPV hi7 hi6
                    go_upto_region 49 with fail
                    refine wp_region_list ?_
                    refine wpList_load_mid rfl 29 (.tmp 5) rfl (b + 2) 0 (by simp [Act.eval]) PV.toList _ RA Try.underlying29 rfl (by rw [Array.length_toList, hs12]; exact info29) ?_
                    refine wpList_store_mid rfl 29 (.tmp 2) (.tmp 197) rfl b 0 PV (by simp [Act.eval, Act.put]) (by simp [Act.eval, Act.put]) (by rw [hs12]; exact TH) (by rw [hs12]; exact info29) hall ?_
                    have hat := World.rangeAt_setCells_same wc b 0 PV.toList (by rw [Array.length_toList, hs12]; exact TH)
                    have HAT := Lib.hid hat; have HS12 := Lib.hid hs12; clear hat hs12 hall TH RA
                    obtain ⟨WE, hWE⟩ : ∃ x, wc.setCells b 0 PV.toList = x := ⟨_, rfl⟩
                    rw [hWE] at HAT ⊢
                    have HWE := Lib.hid hWE; clear hWE
                    simp only [Act.put, List.setIfInBounds_toArray, List.set_cons_zero, List.set_cons_succ]
                    repeat (first | go_step | go_values | go_skip)
                    refine bodyPost_ret (v := .tuple #[.agg PV, .int .i64 0]) (res14 _ b PV 0 _ rfl rfl HS12.out HAT.out) rfl ?_
                    have hWE := HWE.out
                    subst hWE
                    have hPV := HPV.out
                    obtain ⟨r1, r2, r3, r4⟩ := HQM6.out.2.2.2.2
                    have h2 := HQM6.out.2.2.1
                    exact ⟨_, _, _, _, by rw [hPV], ⟨row_end rfl r1 h2 (by decide) HWB.out _, row_end rfl r2 h2 (by decide) HWB.out _, row_end rfl r3 h2 (by decide) HWB.out _, row_end rfl r4 h2 (by decide) HWB.out _⟩, below_sets HWB.out HQM6.out.2.1 _ _⟩
                  · have hres2 : none = RES := by rw [← hres]; show _ = c5 _ _; unfold c5; rw [if_neg hz]
                    subst hres2
                    clear hres HRM6
                    have hne : ¬ i6 = B.length := fun h => hz (hi7.1 h)
                    have h9 : ((i6 : Int) == B.length) = false := by simp; omega
                    have h9n : ((i6 : Int) != B.length) = true := by simp; omega
                    have TH := there_blk HQM6.out.2.2.1 (by rfl : Z29.size = 12)
                    have TH2 := Lib.hid TH; clear TH
                    go_upto_region 48 with fail
                    refine wp_region_list ?_
                    go_step
                    go_step
                    refine wpList_store_mid rfl 29 (.tmp 2) (.tmp 196) rfl b 0 Z29 rfl rfl (by rw [z29s]; exact TH2.out) (by rw [z29s]; exact i29) z29a ?_
                    obtain ⟨WE, hWE⟩ : ∃ x, wc.setCells b 0 Z29.toList = x := ⟨_, rfl⟩
                    rw [hWE]
                    have HWE := Lib.hid hWE; clear hWE
                    simp only [Act.put, List.setIfInBounds_toArray, List.set_cons_zero, List.set_cons_succ]
                    repeat (first | go_step | go_values | go_skip)
                    refine bodyPost_ret (v := .tuple #[.agg Z29, .int .i64 40]) (res14 _ b Z29 40 _ rfl rfl rfl (by rw [← HWE.out]; exact World.rangeAt_setCells_same wc b 0 Z29.toList TH2.out)) rfl ?_
                    rw [← HWE.out]
                    exact ⟨_, _, _, _, rfl, zrows _ _, below_sets HWB.out HQM6.out.2.1 _ _⟩
  · have hres := HR.out
    rw [if_neg hm] at hres
    subst hres
    have hm1 : (v0 == 1668313905) = false := by simpa using hm
    have hm2 : (v0 != 1668313905) = true := by simpa using hm
    clear HR hm
    have TH := there_blk HQ.out.2.2.1 (by rfl : Z29.size = 12)
    have TH2 := Lib.hid TH; clear TH
    go_upto_region 6 with fail
    refine wp_region_list ?_
    go_step
    go_step
    refine wpList_store_mid rfl 29 (.tmp 2) (.tmp 28) rfl b 0 Z29 rfl rfl (by rw [z29s]; exact TH2.out) (by rw [z29s]; exact i29) z29a ?_
    obtain ⟨WE, hWE⟩ : ∃ x, w1.setCells b 0 Z29.toList = x := ⟨_, rfl⟩
    rw [hWE]
    have HWE := Lib.hid hWE; clear hWE
    simp only [Act.put, List.setIfInBounds_toArray, List.set_cons_zero, List.set_cons_succ]
    repeat (first | go_step | go_values | go_skip)
    refine bodyPost_ret (v := .tuple #[.agg Z29, .int .i64 40]) (res14 _ b Z29 40 _ rfl rfl rfl (by rw [← HWE.out]; exact World.rangeAt_setCells_same w1 b 0 Z29.toList TH2.out)) rfl ?_
    rw [← HWE.out]
    exact ⟨_, _, _, _, rfl, zrows _ _, below_sets HWB.out HQ.out.2.1 _ _⟩
set_option maxHeartbeats 4000000 in
set_option maxRecDepth 100000 in
theorem rdec_long (A : Option Addr) (c : Nat) (B : List Int) (w : World) (h : B.length > 1048576) : Calls Try.prog 14 #[.slice A B.length c] w (DPost w Zg 2) := by
  have h0 : decide ((B.length : Int) > 1048576) = true := by simp; omega
  go_enter Try.func14, Try.ntmps14
  go_wp2
  refine bodyPost_ret (v := .tuple #[.agg Z29, .int .i64 2]) (res14 _ w.heap.size Z29 2 _ rfl rfl rfl (range_blk (Blk.blk_new w _))) rfl ?_
  exact ⟨_, _, _, _, rfl, zrows _ _, (Below.refl _ _).alloc (Nat.le_refl _) _⟩
end Go.Proofs.Ytkdboaaganmagaa.Cj
