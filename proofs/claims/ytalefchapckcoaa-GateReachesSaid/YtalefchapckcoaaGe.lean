/- The walk of the law GateReaches. -/
import Derived.Test.YtalefchapckcoaaGd
import Derived.Test.YtalefchapckcoaaBlk2
namespace Go.Proofs.Ytalefchapckcoaa.Ge
open Go.RowKit Go.Proofs.Ytalefchapckcoaa.Blk Go.Proofs.Ytalefchapckcoaa.Blk2 Go.Proofs.Ytalefchapckcoaa.Ga Go.Proofs.Ytalefchapckcoaa.Gc Go.Proofs.Ytalefchapckcoaa.Gd
attribute [local go_sem] max2_int min2_int max_two min_two

def far (z cnt : Int) : Int := mxv (z - cnt) (cnt - z)
theorem far_step {mn mx st cnt want : Int} (h : Rt mn mx st cnt) : far (mnv (mxv want mn) mx) (cl mn mx st cnt want) = mxv 0 (far (mnv (mxv want mn) mx) cnt - st) := by
  obtain ⟨h1, h2, h3, h4, h5, h6, h7, h8⟩ := h
  unfold far cl
  simp only [mxv_eq, mnv_eq]; omega
theorem since_zero (ct : Int) (cb : Bool) (t : Int) : sinceB ct cb t 0 = false := by
  have : ¬ IntKind.u64.wrap (IntKind.u64.wrap t - IntKind.u64.wrap ct) < IntKind.u64.wrap 0 := by
    simp only [IntKind.wrap_u64]; omega
  simp [sinceB, this]
theorem ans_zero (mn mx st : Int) (s : GS) (want t : Int) (hs : staleB s t = false) : ansF ⟨mn, mx, st, 0, 0⟩ s false 0 want t = (false, 0, cl mn mx st s.cnt want) ∧ (nextF ⟨mn, mx, st, 0, 0⟩ s false want t).cnt = cl mn mx st s.cnt want ∧ (nextF ⟨mn, mx, st, 0, 0⟩ s false want t).kt = t ∧ errF s t = 0 := by
  have e : (Ga.stepG mn mx st 0 0 s.cnt s.ct s.cb want t).1 = (false, 0, cl mn mx st s.cnt want) ∧ (Ga.stepG mn mx st 0 0 s.cnt s.ct s.cb want t).2.1 = cl mn mx st s.cnt want := by
    unfold Ga.stepG
    rw [since_zero]
    constructor
    · split
      · rfl
      · split <;> rfl
    · split
      · rfl
      · split <;> rfl
  refine ⟨?_, ?_, ?_, ?_⟩
  · unfold ansF; rw [hs]; simp [e.1]
  · unfold nextF; rw [hs]; simp [e.2]
  · unfold nextF; rw [hs]; simp
  · unfold errF; rw [hs]; simp

/-- What holds at each round's head. -/
def Inv (mn mx st : Int) (g B : Nat) (w : World) (i : Int) (wr : World) : Prop :=
  ∃ s : GS, RtS ⟨mn, mx, st, 0, 0⟩ s ∧ IsGate wr g ⟨mn, mx, st, 0, 0⟩ s ∧ (s.kb = true → s.kt < i) ∧ Below w.heap.size w wr ∧ w.heap.size ≤ g ∧ wr.cell? ⟨B, 2, none⟩ = some (.int .i64 st) ∧ B < wr.heap.size ∧ B ≠ g ∧ w.heap.size ≤ B

set_option maxHeartbeats 4000000 in
set_option maxRecDepth 100000 in
theorem walk (r : GR) (a b n : Int) (w : World) (hn0 : 0 ≤ n) (hn1 : n ≤ 255) :
    Calls Try.prog 4 #[rv r, .agg #[.int .i64 a, .int .i64 b], .int .u8 n] w fun e w' => e = .returned (.bool true) ∧ Below w.heap.size w w' := by
  obtain ⟨mn, mx, st, up, dn⟩ := r
  unfold rv
  go_enter Try.func4, Try.ntmps4
  go_wp2_with fail
  go_quiet (fail)
  go_wp2_with fail
  refine (awake_any _).mono ?_
  rintro e w1 ⟨rfl, hb⟩
  have hbox := blk_call (blk_drewN (blk_alloc (blk_new w (.cells #[.int .i64 mn, .int .i64 mx, .int .i64 st, .int .i64 up, .int .i64 dn] 23)) (.cells #[.int .i64 a, .int .i64 b] 46)) _) hb
  have hlt := blk_lt hbox
  have hb1 : Below w.heap.size w w1 := below_then (below_drewN ((((Below.refl _ _).alloc (Nat.le_refl _) _).alloc (by simp) _)) _) hb (by show _ ≤ (((w.alloc _).alloc _).drewN _).heap.size; simp; omega)
  clear hb
  have c0 := blk_cell hbox 0
  have c1 := blk_cell hbox 1
  have c2 := blk_cell hbox 2
  have c3 := blk_cell hbox 3
  have c4 := blk_cell hbox 4
  have f3 := blk_frozen hbox 3
  have f4 := blk_frozen hbox 4
  simp at c0 c1 c2 c3 c4
  have HBX := Lib.hid hbox; clear hbox
  have HB1 := Lib.hid hb1; clear hb1
  go_wp2_with fail
  have hbx2 := blk_set (blk_set HBX.out 3 (.int .i64 0)) 4 (.int .i64 0)
  have HB2 := Lib.hid ((HB1.out.setCell (p := ⟨w.heap.size, 3, none⟩) (Nat.le_refl _) (.int .i64 0)).setCell (p := ⟨w.heap.size, 4, none⟩) (Nat.le_refl _) (.int .i64 0))
  cases hr : rightB ⟨mn, mx, st, 0, 0⟩ with
  | false =>
    have HR := Lib.hid hr; clear hr
    refine (new_any ⟨mn, mx, st, 0, 0⟩ a _).mono ?_
    intro e w2 hN
    unfold NewPost at hN
    rw [if_neg (by rw [HR.out]; decide)] at hN
    obtain ⟨rfl, hb⟩ := hN
    have HB3 := Lib.hid (below_then HB2.out hb (HB2.out.size)); clear hb
    go_wp2
    go_ret
    exact ⟨rfl, HB3.out⟩
  | true =>
    have HR := Lib.hid hr; clear hr
    by_cases hs : a < mn ∨ mx < a
    · have HS := Lib.hid hs; clear hs
      refine (new_any ⟨mn, mx, st, 0, 0⟩ a _).mono ?_
      intro e w2 hN
      unfold NewPost at hN
      rw [if_pos HR.out, if_pos HS.out] at hN
      obtain ⟨rfl, hb⟩ := hN
      have HB3 := Lib.hid (below_then HB2.out hb (HB2.out.size)); clear hb
      go_wp2
      go_ret
      exact ⟨rfl, HB3.out⟩
    · have HS := Lib.hid hs; clear hs
      refine (new_ok ⟨mn, mx, st, 0, 0⟩ a _ HR.out HS.out).mono ?_
      rintro e w2 ⟨g, rfl, hb, hgs, hG⟩
      have hbox := blk_call hbx2 hb
      have hgl := blk_lt hG
      have hgb : w.heap.size < g := by simp at hgs; omega
      have HB3 := Lib.hid (below_then HB2.out hb (HB2.out.size))
      have HG := Lib.hid hG
      clear hb hbx2 hgs hG c0 c1 c2 c3 c4 f3 f4
      have d0 := blk_cell hbox 0
      have d1 := blk_cell hbox 1
      have d2 := blk_cell hbox 2
      simp at d0 d1 d2
      clear hbox
      go_wp2_with fail
      have hI : Inv mn mx st g w.heap.size w 0 w2 := ⟨⟨a, 0, false, 0, false⟩, rts_start HR.out HS.out, HG.out, fun h => by simp at h, HB3.out, by omega, d2, by omega, by omega, Nat.le_refl _⟩
      clear HBX HB1 HB2 HB3 HG d0 d1 d2 hlt hgl
      go_loopw [12] (fun v12 wr => ∃ i : Int, 0 ≤ i ∧ i ≤ n ∧ v12 = .int .i64 i ∧ Inv mn mx st g w.heap.size w i wr) (fun v12 _ => (n - intOf v12).toNat)
      case atStart => exact ⟨0, by omega, hn0, rfl, hI⟩
      case round =>
        obtain ⟨i, hi0, hi1, rfl, s, hrt, hG, hkb, hB, hgB, hst, hBl, hBg, hBB⟩ := hrel
        have HI := Lib.hid hI; clear hI
        by_cases hlt : i < n
        · have hstale : staleB s i = false := by
            unfold staleB
            cases hk : s.kb with
            | false => rfl
            | true => have := hkb hk; simp; omega
          obtain ⟨z1, z2, z3, z4⟩ := ans_zero mn mx st s b i hstale
          have hfar := far_step (want := b) hrt
          have hrt2 := next_right false b i hrt
          have hc2 : mn ≤ cl mn mx st s.cnt b ∧ cl mn mx st s.cnt b ≤ mx := cl_range b hrt
          have HRT := Lib.hid hrt
          have hrt' : Rt mn mx st s.cnt := hrt
          clear hrt
          obtain ⟨q1, q2, q3, q4, q5, q6, q7, q8⟩ := hrt'
          have HG := Lib.hid hG
          have HB := Lib.hid hB
          have Z1 := Lib.hid z1; have Z2 := Lib.hid z2; have Z3 := Lib.hid z3; have Z4 := Lib.hid z4; have HF := Lib.hid hfar; have HRT2 := Lib.hid hrt2
          have hto1 : mn ≤ mnv (mxv b mn) mx := by rw [mnv_eq, mxv_eq]; omega
          have hto2 : mnv (mxv b mn) mx ≤ mx := by rw [mnv_eq, mxv_eq]; omega
          have hm1 : 0 ≤ mxv (mnv (mxv b mn) mx - s.cnt) (s.cnt - mnv (mxv b mn) mx) := by rw [mxv_eq (mnv (mxv b mn) mx - s.cnt)]; omega
          have hm2 : mxv (mnv (mxv b mn) mx - s.cnt) (s.cnt - mnv (mxv b mn) mx) ≤ 1000000 := by rw [mxv_eq (mnv (mxv b mn) mx - s.cnt)]; omega
          have hne : (mxv (mnv (mxv b mn) mx - cl mn mx st s.cnt b) (cl mn mx st s.cnt b - mnv (mxv b mn) mx) != mxv 0 (mxv (mnv (mxv b mn) mx - s.cnt) (s.cnt - mnv (mxv b mn) mx) - st)) = false := by
            unfold far at hfar; rw [hfar]; simp
          obtain ⟨hc3, hc4⟩ := hc2
          clear hG hB z1 z2 z3 z4 hfar hrt2 hkb hstale
          go_wp2_with fail
          refine (count_gate g _ s _ HG.out HRT.out).mono ?_
          rintro e w3 ⟨rfl, rfl⟩
          go_wp2_with fail
          refine (count_gate g _ s _ HG.out HRT.out).mono ?_
          rintro e w3 ⟨rfl, rfl⟩
          go_wp2_with fail
          refine (bind_any g _ s false 0 b i _ HG.out HRT.out).mono ?_
          rintro e w3 ⟨rfl, hG3, hgb3⟩
          rw [Z1.out, Z4.out]
          dsimp only [dv]
          have hst3 : w3.cell? ⟨w.heap.size, 2, none⟩ = some (.int .i64 st) := (World.cell?_of_block (hgb3.block w.heap.size hBl (by intro e; injection e with e; exact hBg e))).trans hst
          have hsz3 := hgb3.size
          have hBl3 : w.heap.size < w3.heap.size := by omega
          have HG3 := Lib.hid hG3; have HB3 := Lib.hid (below_of_gb HB.out hgb3 hgB HB.out.size)
          clear hG3 hgb3
          go_wp2
          go_roundw
          case rel =>
            refine ⟨i + 1, by omega, by omega, rfl, nextF ⟨mn, mx, st, 0, 0⟩ s false b i, HRT2.out, blk_alloc HG3.out _, fun _ => by rw [Z3.out]; omega, HB3.out.alloc HB3.out.size _, hgB, ?_, by simp; omega, hBg, hBB⟩
            rw [World.cell?_alloc_lt _ _ _ (by simp; omega)]; exact hst3
          case measure => simp [intOf]; omega
        · have HB := Lib.hid hB
          clear hG hB
          go_wp2
          go_ret
          exact ⟨rfl, HB.out⟩
end Go.Proofs.Ytalefchapckcoaa.Ge
