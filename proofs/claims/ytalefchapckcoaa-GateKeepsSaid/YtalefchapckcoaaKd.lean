/- The walk of the law GateKeeps. -/
import Derived.Test.YtalefchapckcoaaKc
import Derived.Test.YtalefchapckcoaaBlk2
import Derived.Test.YtalefchapckcoaaArgGateKeeps
import Derived.Deep.RegionHeld3
import Derived.Deep.DeepCutAuto
import Derived.Deep.RegionLaw
namespace Go.Proofs.Ytalefchapckcoaa.Kd1
set_option linter.unusedVariables false
set_option linter.unusedSimpArgs false
open Go.RowKit Go.Proofs.Ytalefchapckcoaa.Ga Go.Proofs.Ytalefchapckcoaa.Gc Go.Proofs.Ytalefchapckcoaa.Gd Go.Proofs.Ytalefchapckcoaa.Kb Go.Proofs.Ytalefchapckcoaa.Kc
open Go.Proofs.YtalefchapckcoaaW.PrintWords (Kd)
open Go.Proofs.Ytalefchapckcoaa.OK (S39 S43 k43 k43_mk k43_mkM)
def BX (r : GR) : Obj := .cells #[.int .i64 r.mn, .int .i64 r.mx, .int .i64 r.st, .int .i64 r.up, .int .i64 r.dn] 23
/-- What holds at each round's head. -/
def Ask (ad : Addr) (k : Nat) (h : Bool) (why want t : Int) (w w' : World) : Prop :=
  w'.cell? (ad.add (k * 4)) = some (.bool h) ∧ w'.cell? ⟨(ad.add (k * 4)).block, (ad.add (k * 4)).off + 1, none⟩ = some (.int .i64 why) ∧ w'.cell? ⟨(ad.add (k * 4)).block, (ad.add (k * 4)).off + 2, none⟩ = some (.int .i64 want) ∧ w'.cell? ⟨(ad.add (k * 4)).block, (ad.add (k * 4)).off + 3, none⟩ = some (.int .i64 t)
def Inv (r : GR) (start : Int) (ga : Nat) (w : World) (k : Nat) (v9 : Value) (wr : World) : Prop :=
  ∃ (s : GS) (l : List S43), RtS r s ∧ Ord s ∧ IsGate wr ga r s ∧ Below w.heap.size w wr ∧ w.heap.size < ga ∧ wr.heap[w.heap.size]? = some (BX r) ∧
    Kd.R k43 43 wr w.heap.size (fun _ => True) v9 l ∧ l.length ≤ k ∧ Kept r ⟨start, 0, false⟩ l ∧ l.foldl nextT ⟨start, 0, false⟩ = ks s ∧ (k = 0 → s.kb = false)
def dcells (d : Bool × Int × Int) : Array Value := #[.bool d.1, .int .i64 d.2.1, .int .i64 d.2.2]
/-- What stays through a round. -/
def RS (r : GR) (ga : Nat) (s : GS) (w : World) (v9 : Value) (l : List S43) (W : World) : Prop :=
  IsGate W ga r s ∧ Below w.heap.size w W ∧ W.heap[w.heap.size]? = some (BX r) ∧ Kd.R k43 43 W w.heap.size (fun _ => True) v9 l ∧ w.heap.size < ga
variable {r : GR} {ga : Nat} {s : GS} {w W : World} {v9 : Value} {l : List S43}
theorem RS.lt (h : RS r ga s w v9 l W) : ga < W.heap.size := Blk.blk_lt h.1
theorem RS.alloc (h : RS r ga s w v9 l W) (o : Obj) : RS r ga s w v9 l (W.alloc o) :=
  ⟨Blk.blk_alloc h.1 o, h.2.1.alloc h.2.1.size _, Blk.blk_alloc h.2.2.1 o, Kd.R_alloc h.2.2.2.1 o, h.2.2.2.2⟩
theorem RS.drewN (h : RS r ga s w v9 l W) (n : Nat) : RS r ga s w v9 l (W.drewN n) :=
  ⟨Blk2.blk_drewN h.1 n, Blk.below_drewN h.2.1 n, Blk2.blk_drewN h.2.2.1 n, Kd.R_drewN h.2.2.2.1 n, h.2.2.2.2⟩
theorem RS.drew (h : RS r ga s w v9 l W) : RS r ga s w v9 l W.drew :=
  ⟨Blk2.blk_drew h.1, h.2.1.drew, Blk2.blk_drew h.2.2.1, Kd.R_drew h.2.2.2.1, h.2.2.2.2⟩
theorem RS.set (h : RS r ga s w v9 l W) {b t : Nat} {cs : Array Value} (hb : W.heap[b]? = some (.cells cs t (0, 0))) (ht : t ≠ 43) (hg : ga < b) (i : Nat) (u : Value) : RS r ga s w v9 l (W.setCell ⟨b, i, none⟩ u) :=
  ⟨Blk.blk_far h.1 (by show ga ≠ b; omega) u, h.2.1.setCell (by show w.heap.size ≤ b; have := h.2.2.2.2; omega) _, Blk.blk_far h.2.2.1 (by show w.heap.size ≠ b; have := h.2.2.2.2; omega) u,
    Kd.R_set h.2.2.2.1 hb (fun q hq => by
      have hE : k43.E = [] := rfl
      have : q = 43 := by rw [hE] at hq; simpa using hq
      subst this; exact fun e => ht e.symm) i u, h.2.2.2.2⟩
theorem RS.bind {s2 : GS} {W2 : World} (h : RS r ga s w v9 l W) (hg : IsGate W2 ga r s2) (hgb : W.grownBy W2 (some ga)) : RS r ga s2 w v9 l W2 :=
  ⟨hg, Blk.below_of_gb h.2.1 hgb (by have := h.2.2.2.2; omega) h.2.1.size, Blk.blk_grown h.2.2.1 hgb (by have := h.2.2.2.2; intro e; injection e with e; omega),
    Kd.R_mono (Kd.R_grown (Kd.R_types h.2.2.2.1 h.1 (fun q hq => by
      have hE : k43.E = [] := rfl
      have : q = 43 := by rw [hE] at hq; simpa using hq
      subst this; decide)) hgb (fun k hk e => hk.2 (by injection e))) (fun _ _ => trivial), h.2.2.2.2⟩
theorem RS.app {W1 : World} {v1 : Value} {l1 : List S43} (h : RS r ga s w v9 l W) (hr : Kd.R k43 43 W1 w.heap.size (fun _ => True) v1 l1) (hb : Below w.heap.size w W1) (hg : W.grownBy W1 v9.ownBlock) : RS r ga s w v1 l1 W1 :=
  ⟨Blk.blk_grown h.1 hg (Kd.R_ne h.2.2.2.1 h.1 (by decide)), hb, Blk.blk_grown h.2.2.1 hg (Kd.R_ne h.2.2.2.1 h.2.2.1 (by decide)), hr, h.2.2.2.2⟩
theorem info43 : (Try.prog.info? 43).map (fun i => (i.zero, i.size, i.bytes)) = some (some (.agg #[.bool false, .int .i64 0, .int .i64 0, .int .i64 0]), 4, 32) := by kernel_rfl
theorem lit_one {α : Type} {W : World} {k : Nat} {t : TypeId} {fr : Nat × Nat} {R : α → List Value → Prop} (x : α) (cs : List Value) (hR : R x cs) (h : W.heap[k]? = some (.cells cs.toArray t fr)) : YtalefchapckcoaaW.PrintWords.ReadsRow R cs.length W (some ⟨k, 0, none⟩) 1 [x] := by
  refine ⟨rfl, by omega, fun _ => ⟨_, rfl, fun j p hj => ?_⟩⟩
  have hj0 : j = 0 := by
    have := (List.getElem?_eq_some_iff.1 hj).1
    simp at this; exact this
  rw [hj0] at hj ⊢
  simp only [List.getElem?_cons_zero, Option.some.injEq] at hj
  subst hj
  refine ⟨cs, rfl, hR, fun i u hu => ?_⟩
  have := Blk.blk_cell h i
  rw [show (⟨k, 0, none⟩ : Addr).add (0 * cs.length + i) = ⟨k, i, none⟩ from by simp [Addr.add]; omega, this]
  simpa using hu
set_option maxHeartbeats 8000000 in
set_option maxRecDepth 100000 in
theorem walk (r : GR) (start : Int) (a : Option Addr) (len cap : Nat) (w : World) (hel : ArgGateKeeps.Elems2 w a len cap) (hsz : len * 32 ≤ 140737488351232) :
    Calls Try.prog 3 #[rv r, .int .i64 start, .slice a len cap] w fun e w' => e = .returned (.bool true) ∧ Below w.heap.size w w' := by
  have hlen : len ≤ 9223372036854775807 := by
    rcases hel with ⟨_, h, _⟩ | ⟨_, _, h, h2, _⟩
    · omega
    · unfold maxLen at h2; omega
  have HEL := Lib.hid hel; clear hel
  have hRR := Ra.right_ref r
  obtain ⟨mn, mx, st, up, dn⟩ := r
  unfold rv
  have HRR := Lib.hid hRR; clear hRR
  go_enter Try.func3, Try.ntmps3
  go_wp2_with fail
  refine (awake_any _).mono ?_
  rintro e w1 ⟨rfl, hb⟩
  have hbox := Blk2.blk_call (Blk.blk_new w (BX ⟨mn, mx, st, up, dn⟩)) hb
  unfold BX at hbox
  have HB1 := Lib.hid (Blk.below_then ((Below.refl _ _).alloc (Nat.le_refl _) _) hb (by simp)); clear hb
  have c0 := Blk.blk_cell hbox 0
  have c1 := Blk.blk_cell hbox 1
  have c2 := Blk.blk_cell hbox 2
  have c3 := Blk.blk_cell hbox 3
  have c4 := Blk.blk_cell hbox 4
  simp at c0 c1 c2 c3 c4
  have HBX := Lib.hid hbox; clear hbox
  go_wp2_with fail
  cases hr : rightB ⟨mn, mx, st, up, dn⟩ with
  | false =>
    have HR := Lib.hid hr; clear hr
    refine (new_any ⟨mn, mx, st, up, dn⟩ start _).mono ?_
    intro e w2 hN
    unfold NewPost at hN
    rw [if_neg (by rw [HR.out]; decide)] at hN
    obtain ⟨rfl, hb⟩ := hN
    have hbox := Blk2.blk_call HBX.out hb
    have HB2 := Lib.hid (Blk.below_then HB1.out hb (HB1.out.size))
    clear hb c0 c1 c2 c3 c4 HBX HB1
    have c0 := Blk.blk_cell hbox 0
    have c1 := Blk.blk_cell hbox 1
    have c2 := Blk.blk_cell hbox 2
    have c3 := Blk.blk_cell hbox 3
    have c4 := Blk.blk_cell hbox 4
    simp at c0 c1 c2 c3 c4
    clear hbox
    go_wp2_with fail
    refine (PGateBinds.capstanref15_Right.calls mn mx st up dn false _ (by rw [HRR.out, HR.out])).mono ?_
    rintro e w3 ⟨rfl, hb⟩
    have HB3 := Lib.hid (Blk.below_then HB2.out hb (HB2.out.size))
    clear hb c0 c1 c2 c3 c4 HB2
    go_wp2
    go_ret
    exact ⟨rfl, HB3.out⟩
  | true =>
    have HR := Lib.hid hr; clear hr
    by_cases hs : start < mn ∨ mx < start
    · have HS := Lib.hid hs; clear hs
      refine (new_any ⟨mn, mx, st, up, dn⟩ start _).mono ?_
      intro e w2 hN
      unfold NewPost at hN
      rw [if_pos HR.out, if_pos HS.out] at hN
      obtain ⟨rfl, hb⟩ := hN
      have hbox := Blk2.blk_call HBX.out hb
      have HB2 := Lib.hid (Blk.below_then HB1.out hb (HB1.out.size))
      clear hb c0 c1 c2 c3 c4 HBX HB1
      have c0 := Blk.blk_cell hbox 0
      have c1 := Blk.blk_cell hbox 1
      have c2 := Blk.blk_cell hbox 2
      have c3 := Blk.blk_cell hbox 3
      have c4 := Blk.blk_cell hbox 4
      simp at c0 c1 c2 c3 c4
      have HBX := Lib.hid hbox; clear hbox
      go_wp2_with fail
      refine (PGateBinds.capstanref15_Right.calls mn mx st up dn true _ (by rw [HRR.out, HR.out])).mono ?_
      rintro e w3 ⟨rfl, hb⟩
      have hbox := Blk2.blk_call HBX.out hb
      have HB3 := Lib.hid (Blk.below_then HB2.out hb (HB2.out.size))
      clear hb c0 c1 c2 c3 c4 HB2 HBX
      have c0 := Blk.blk_cell hbox 0
      have c1 := Blk.blk_cell hbox 1
      simp at c0 c1
      clear hbox
      by_cases hs2 : start < mn
      · have d0 : decide (start < mn) = true := by simp; omega
        go_wp2
        go_ret
        exact ⟨by simp, HB3.out⟩
      · have d0 : decide (start < mn) = false := by simp; omega
        have d1 : decide (mx < start) = true := by have := HS.out; simp; omega
        go_wp2
        go_ret
        exact ⟨by simp, HB3.out⟩
    · have HS := Lib.hid hs; clear hs
      refine (new_ok ⟨mn, mx, st, up, dn⟩ start _ HR.out HS.out).mono ?_
      rintro e w2 ⟨ga, rfl, hb, hgs, hG⟩
      have hbox := Blk2.blk_call HBX.out hb
      have hgb : w.heap.size < ga := Nat.lt_of_lt_of_le (Blk.blk_lt HBX.out) hgs
      have hI : Inv ⟨mn, mx, st, up, dn⟩ start ga w 0 (.slice none 0 0) w2 := ⟨⟨start, 0, false, 0, false⟩, [], rts_start HR.out HS.out, ord_start start, hG, Blk.below_then HB1.out hb HB1.out.size, hgb, hbox, Kd.R_nil _ _ _ _ _, Nat.le_refl _, trivial, rfl, fun _ => rfl⟩
      clear hb hgs hG c0 c1 c2 c3 c4 HBX HB1 hbox
      have HI := Lib.hid hI; clear hI
      go_wp2_with fail
      go_loopw [9, 10, 11, 12, 13, 14] (fun v9 v10 v11 v12 v13 v14 wr => ∃ k : Nat, k ≤ len ∧ v10 = .int .i64 k ∧ Inv ⟨mn, mx, st, up, dn⟩ start ga w k v9 wr) (fun _ v10 _ _ _ _ _ => len - (intOf v10).toNat)
      case atStart => exact ⟨0, by omega, rfl, HI.out⟩
      case round =>
        clear HI
        obtain ⟨k, hk, rfl, s, l, hrt, hord, hG, hB, hga, hbx, hR9, hll, hkept, hend, hk0⟩ := hrel
        have HRT := Lib.hid hrt; have HORD := Lib.hid hord; have HLL := Lib.hid hll; have HKEPT := Lib.hid hkept; have HEND := Lib.hid hend; have HK0 := Lib.hid hk0
        have HCOOL := Lib.hid (cool_right HR.out)
        clear hrt hord hll hkept hend hk0
        by_cases hlt : k < len
        · obtain ⟨ad, rfl, hcell⟩ : ∃ ad, a = some ad ∧ ∃ (x0 : Bool) (x1 : Int) (x2 : Int) (x3 : Int), w.cell? (ad.add (k * 4 + 0)) = some (.bool x0) ∧ w.cell? (ad.add (k * 4 + 1)) = some (.int .i64 x1) ∧ w.cell? (ad.add (k * 4 + 2)) = some (.int .i64 x2) ∧ w.cell? (ad.add (k * 4 + 3)) = some (.int .i64 x3) ∧ J64 x3 := by
            rcases HEL.out with ⟨_, h, _⟩ | ⟨ad, h1, _, _, h4⟩
            · omega
            · obtain ⟨x0, x1, x2, x3, y0, y1, y2, y3, _, _, wf⟩ := h4 k hlt
              exact ⟨ad, h1, x0, x1, x2, x3, y0, y1, y2, y3, bounds_i64 wf⟩
          obtain ⟨h, why, want, t, y0, y1, y2, y3, it⟩ := hcell
          have HIT := Lib.hid it; clear it
          rw [Nat.add_zero] at y0
          rw [YtalefchapckcoaaW.PrintWords.add_field _ _ _ (by decide)] at y1 y2 y3
          have HY : Hid (∀ W, Below w.heap.size w W → Ask ad k h why want t w W) :=
            Lib.hid (fun W hW => ⟨cell_later hW y0, cell_later hW y1, cell_later hW y2, cell_later hW y3⟩)
          clear y0 y1 y2 y3
          obtain ⟨y0, y1, y2, y3⟩ := HY.out _ hB
          have hRS : RS ⟨mn, mx, st, up, dn⟩ ga s w u9 l wr := ⟨hG, hB, hbx, hR9, hga⟩
          have HRS := Lib.hid (RS.alloc hRS (.cells #[.bool h, .int .i64 why, .int .i64 want] 34))
          have hgl := hRS.lt
          have HRS0 := Lib.hid hRS
          clear hG hB hbx hR9 hRS
          go_upto_region 11 with (fail)
          go_cut [69] (fun v69 wx => v69 = .bool (h && (why == 0)) ∧ wx = wr.alloc (.cells #[.bool h, .int .i64 why, .int .i64 want] 34))
          case first =>
            clear y0 y1 y2 y3
            cases h with
            | false =>
              go_wp2
              go_meet
              exact ⟨by simp, rfl⟩
            | true =>
              go_wp2
              go_meet
              exact ⟨by simp, rfl⟩
          case rest =>
            obtain ⟨rfl, rfl⟩ := hcut
            clear y0 y1 y2 y3
            go_upto_if 69 with (fail)
            go_cut [] (fun wx => wx.heap[wr.heap.size]? = some (.cells #[.bool h, .int .i64 (why2 h why), .int .i64 want] 34) ∧ RS ⟨mn, mx, st, up, dn⟩ ga s w u9 l wx)
            case first =>
              have hb0 := Blk.blk_new wr (.cells #[.bool h, .int .i64 why, .int .i64 want] 34)
              by_cases hw : h = true ∧ why = 0
              · obtain ⟨rfl, rfl⟩ := hw
                go_wp2
                go_meet
                exact ⟨Blk.blk_new _ _, HRS0.out.alloc _⟩
              · have hf : (h && (why == 0)) = false := by simpa using hw
                have hn : why2 h why = why := by unfold why2; rw [if_neg hw]
                rw [hf]
                go_wp2
                go_meet
                exact ⟨by rw [hn]; exact hb0, HRS.out⟩
            case rest =>
              obtain ⟨hb0, hRS⟩ := hcut
              clear HRS HRS0
              obtain ⟨b0, hb0e⟩ : ∃ b, wr.heap.size = b := ⟨_, rfl⟩
              rw [hb0e] at hb0 hgl
              simp only [hb0e]
              have HW2 := Lib.hid (show h = true → why2 h why ≠ 0 from fun e => by unfold why2; split <;> simp_all)
              obtain ⟨wh, hwh⟩ : ∃ x, why2 h why = x := ⟨_, rfl⟩
              rw [hwh] at hb0 HW2
              clear hwh hb0e
              have HB0 := Lib.hid hb0; have HRS := Lib.hid hRS
              clear hb0 hRS
              go_wp2_with fail
              refine (count_gate ga ⟨mn, mx, st, up, dn⟩ s _ HRS.out.1 HRT.out).mono ?_
              rintro e w5 ⟨rfl, rfl⟩
              have x0 := Blk.blk_cell HB0.out 0
              have x1 := Blk.blk_cell HB0.out 1
              have x2 := Blk.blk_cell HB0.out 2
              simp at x0 x1 x2
              obtain ⟨y0, y1, y2, y3⟩ := HY.out _ HRS.out.2.1
              have HC : Hid (∀ W, Below w.heap.size w W → W.heap[b0]? = some (.cells #[.bool h, .int .i64 wh, .int .i64 want] 34) →
                  W.cell? ⟨(ad.add (k * 4)).block, (ad.add (k * 4)).off + 3, none⟩ = some (.int .i64 t) ∧ W.cell? ⟨b0, 0, none⟩ = some (.bool h) ∧ W.cell? ⟨b0, 1, none⟩ = some (.int .i64 wh) ∧ W.cell? ⟨b0, 2, none⟩ = some (.int .i64 want)) :=
                Lib.hid (fun W h1 h2 => ⟨(HY.out _ h1).2.2.2, Blk.blk_cell h2 0, Blk.blk_cell h2 1, Blk.blk_cell h2 2⟩)
              have n0 : b0 < wc.heap.size := Blk.blk_lt HB0.out
              have n1 : ga < wc.heap.size := HRS.out.lt
              have n2 : w.heap.size ≤ wc.heap.size := HRS.out.2.1.size
              go_upto_region 14 with (fail)
              go_cut [13, 14] (fun v13 v14 wx => ∃ b : Nat, v13 = .pointer (some ⟨b, 0, none⟩) ∧ v14 = .int .i64 (errF s t) ∧ wx.heap[b]? = some (.cells (dcells (ansF ⟨mn, mx, st, up, dn⟩ s h wh want t)) 39 (0, 0)) ∧
                RS ⟨mn, mx, st, up, dn⟩ ga (nextF ⟨mn, mx, st, up, dn⟩ s h want t) w u9 l wx ∧ wx.heap[b0]? = some (.cells #[.bool h, .int .i64 wh, .int .i64 want] 34) ∧ ga < b)
              case first =>
                go_region_held3 (fun W => W.cell? ⟨(ad.add (k * 4)).block, (ad.add (k * 4)).off + 3, none⟩ = some (.int .i64 t) ∧ W.cell? ⟨b0, 0, none⟩ = some (.bool h) ∧ W.cell? ⟨b0, 1, none⟩ = some (.int .i64 wh) ∧ W.cell? ⟨b0, 2, none⟩ = some (.int .i64 want))
                  (first | exact HC.out _ HRS.out.drew.2.1 HB0.out | exact HC.out _ (HRS.out.drew.alloc _).2.1 (Blk.blk_alloc HB0.out _) | exact HC.out _ Hw4.2.1 hb4 | exact HC.out _ (Hw4.alloc _).2.1 (Blk.blk_alloc hb4 _) | exact HC.out _ (((Hw4.2.1.setCell (p := ⟨wc.heap.size, 0, none⟩) n2 _).setCell (p := ⟨wc.heap.size, 1, none⟩) n2 _).setCell (p := ⟨wc.heap.size, 2, none⟩) n2 _) (Blk.blk_far (Blk.blk_far (Blk.blk_far hb4 (by show b0 ≠ wc.heap.size; omega) _) (by show b0 ≠ wc.heap.size; omega) _) (by show b0 ≠ wc.heap.size; omega) _))
                  (first
                    | (go_at_call 12; refine (bind_any ga ⟨mn, mx, st, up, dn⟩ s h wh want t _ ?_ HRT.out).mono ?_; (exact HRS.out.drew.1); rintro e w4 ⟨rfl, hG4, hgb2⟩; dsimp only [dv]
                       have Hw4 := RS.bind HRS.out.drew hG4 hgb2
                       have hb4 := Blk.blk_grown (Blk2.blk_drew HB0.out) hgb2 (by intro e; injection e with e; omega))
                    | (go_at_call 12; refine (bind_any ga ⟨mn, mx, st, up, dn⟩ s h wh want t _ ?_ HRT.out).mono ?_; (exact (HRS.out.drew.alloc _).1); rintro e w4 ⟨rfl, hG4, hgb2⟩; dsimp only [dv]
                       have Hw4 := RS.bind (HRS.out.drew.alloc _) hG4 hgb2
                       have hb4 := Blk.blk_grown (Blk.blk_alloc (Blk2.blk_drew HB0.out) _) hgb2 (by intro e; injection e with e; omega)
                       have hbx : w4.heap[wc.heap.size]? = some (.cells #[.bool false, .int .i64 0, .int .i64 0] 39 (0, 0)) := Blk.blk_grown (Blk.blk_new wc.drew _) hgb2 (by intro e; injection e with e; omega)
                       have hbl := Blk.blk_lt hbx
                       have q0 := Blk.blk_cell hbx 0
                       have q1 := Blk.blk_cell hbx 1
                       have q2 := Blk.blk_cell hbx 2
                       have g0 := Blk.blk_frozen hbx 0
                       have g1 := Blk.blk_frozen hbx 1
                       have g2 := Blk.blk_frozen hbx 2
                       simp at q0 q1 q2))
                · go_wp2_with fail
                  go_meet
                  have n3 := hgb2.size
                  exact ⟨_, rfl, rfl, Blk.blk_new _ _, Hw4.alloc _, Blk.blk_alloc hb4 _, Hw4.lt⟩
                · go_wp2_with fail
                  go_meet
                  have k1 := Blk.blk_set hbx 0 (.bool (ansF ⟨mn, mx, st, up, dn⟩ s h wh want t).1)
                  have k2 := Blk.blk_set k1 1 (.int .i64 (ansF ⟨mn, mx, st, up, dn⟩ s h wh want t).2.1)
                  exact ⟨_, rfl, rfl, Blk.blk_set (Blk.blk_set (Blk.blk_set hbx 0 _) 1 _) 2 _, ((Hw4.set hbx (by decide) (by omega) 0 _).set k1 (by decide) (by omega) 1 _).set k2 (by decide) (by omega) 2 _,
                    Blk.blk_far (Blk.blk_far (Blk.blk_far hb4 (by show b0 ≠ wc.heap.size; omega) _) (by show b0 ≠ wc.heap.size; omega) _) (by show b0 ≠ wc.heap.size; omega) _, by omega⟩
              case rest =>
                obtain ⟨b, rfl, rfl, hbx, hRS2, hb02, hgb⟩ := hcut
                clear x0 x1 x2 y0 y1 y2 y3 HC HRS HB0 n0 n1 n2 hgl
                have HIT2 := HIT.out
                cases hst : staleB s t with
                | true =>
                  have e1 : ansF ⟨mn, mx, st, up, dn⟩ s h wh want t = (false, 0, 0) := by unfold ansF; rw [if_pos hst]
                  have e2 : errF s t = 32 := by unfold errF; rw [if_pos hst]
                  have e3 : nextF ⟨mn, mx, st, up, dn⟩ s h want t = s := by unfold nextF; rw [if_pos hst]
                  have e4 : k ≠ 0 := by
                    intro e
                    have := HK0.out e
                    simp [staleB, this] at hst
                  rw [e1] at hbx
                  rw [e3] at hRS2
                  rw [e2]
                  have d0 : decide ((0 : Int) < (k : Int)) = true := by simp; omega
                  clear hst e1 e2 e3
                  have x0 := Blk.blk_cell hbx 0
                  have x1 := Blk.blk_cell hbx 1
                  have x2 := Blk.blk_cell hbx 2
                  simp [dcells] at x0 x1 x2
                  have HRS := Lib.hid hRS2; clear hRS2 hbx hb02
                  go_wp2_with fail
                  refine (count_gate ga ⟨mn, mx, st, up, dn⟩ s _ HRS.out.1 HRT.out).mono ?_
                  rintro e w6 ⟨rfl, rfl⟩
                  go_wp2_with fail
                  go_roundw
                  case rel => exact ⟨k + 1, by omega, by go_num, s, l, HRT.out, HORD.out, HRS.out.1, HRS.out.2.1, HRS.out.2.2.2.2, HRS.out.2.2.1, HRS.out.2.2.2.1, by have := HLL.out; omega, HKEPT.out, HEND.out, fun h => absurd h (by omega)⟩
                  case measure => simp [intOf]; omega
                | false =>
                  have e2 : errF s t = 0 := by unfold errF; rw [if_neg (by rw [hst]; decide)]
                  rw [e2]
                  obtain ⟨t1, t2⟩ := tell_ok ⟨mn, mx, st, up, dn⟩ s h wh want t HRT.out HCOOL.out HORD.out HIT.out hst HW2.out
                  have e5 : h = true → ansF ⟨mn, mx, st, up, dn⟩ s h wh want t = (true, wh, s.cnt) := fun e => by unfold ansF; rw [if_neg (by rw [hst]; decide), if_pos e]
                  have HT1 := Lib.hid t1; have HT2 := Lib.hid t2
                  have HNB : Hid ((nextF ⟨mn, mx, st, up, dn⟩ s h want t).kb = true) := Lib.hid (by unfold nextF; rw [if_neg (by rw [hst]; decide)]; split <;> rfl)
                  clear t1 t2 hst e2
                  have x0 := Blk.blk_cell hbx 0
                  have x1 := Blk.blk_cell hbx 1
                  have x2 := Blk.blk_cell hbx 2
                  have m0 := Blk.blk_cell hb02 0
                  have m1 := Blk.blk_cell hb02 1
                  simp [dcells] at x0 x1 x2 m0 m1
                  have HRS := Lib.hid hRS2; have HBX := Lib.hid hbx; clear hRS2 hbx hb02
                  go_upto_region 16 with (fail)
                  go_cut [114] (fun v114 wx => v114 = .bool false ∧ wx = wc)
                  case first =>
                    cases h with
                    | false =>
                      go_wp2
                      go_meet
                      exact ⟨by simp, rfl⟩
                    | true =>
                      rw [e5 rfl] at x0 x1 x2
                      simp only at x0 x1 x2
                      go_wp2
                      go_meet
                      exact ⟨by simp, rfl⟩
                  case rest =>
                    obtain ⟨rfl, rfl⟩ := hcut
                    obtain ⟨D0, D1, D2, hD⟩ : ∃ D0 D1 D2, ansF ⟨mn, mx, st, up, dn⟩ s h wh want t = (D0, D1, D2) := ⟨_, _, _, rfl⟩
                    have hT : tellT ⟨mn, mx, st, up, dn⟩ s h wh want t = ⟨⟨D0, D1, D2⟩, t⟩ := by unfold tellT; rw [hD]
                    rw [hD] at x0 x1 x2 HBX
                    rw [hT] at HT1 HT2
                    simp only at x0 x1 x2
                    clear hD hT e5 m0 m1
                    obtain ⟨y0, y1, y2, y3⟩ := HY.out _ HRS.out.2.1
                    have hll : l.length ≤ 4398046511103 := by have h1 := HLL.out; omega
                    have hnext : ∀ (v : Value) (W : World), RS ⟨mn, mx, st, up, dn⟩ ga (nextF ⟨mn, mx, st, up, dn⟩ s h want t) w v (l ++ [(⟨⟨D0, D1, D2⟩, t⟩ : S43)]) W → Inv ⟨mn, mx, st, up, dn⟩ start ga w (k + 1) v W := by
                      intro v W hN
                      refine ⟨_, _, next_right h want t HRT.out, next_ord h want t HORD.out HIT.out, hN.1, hN.2.1, hN.2.2.2.2, hN.2.2.1, hN.2.2.2.1, ?_, kept_snoc _ l _ _ HKEPT.out ?_, ?_, fun h => absurd h (by omega)⟩
                      · rw [List.length_append]; have := HLL.out; simp; omega
                      · rw [HEND.out]; exact HT1.out
                      · rw [List.foldl_append, HEND.out]; exact HT2.out
                    have HNX := Lib.hid hnext; clear hnext
                    go_upto_region 18 with (fail)
                    go_region_law (first | (refine Kd.R_append_rows_step k43 (Rr := (fun x cs => cs = [Value.bool x.f0.f0, .int .i64 x.f0.f1, .int .i64 x.f0.f2, .int .i64 x.f1])) (w0 := w) w.heap.size (by rfl) (.tmp 115) (.tmp 123) 31 43 (.agg #[.bool false, .int .i64 0, .int .i64 0, .int .i64 0]) 32 (by rfl) Try.underlying31 info43 rfl ?_ ?_ u9 l [(⟨⟨D0, D1, D2⟩, t⟩ : S43)] (some ⟨wc.heap.size, 0, none⟩) 1 1 (fun _ => True) (fun _ => False) ?_ ?_ ?_ ?_ ?_ ?_ ?_ ?_ ?_ ?_ ?_; decide; decide; rfl; rfl; exact (HRS.out.drew.alloc _).2.2.2.1; exact lit_one _ [.bool D0, .int .i64 D1, .int .i64 D2, .int .i64 t] rfl (Blk.blk_new _ _); exact fun x _ h => h ▸ k43_mkM _ _ _ x; exact fun _ h => h.elim; exact fun _ _ => trivial; exact (HRS.out.drew.alloc _).2.1; exact (HRS.out.drew.alloc _).2.1.size; omega; intro v1 w1_ ho hb hgr hown; have HN := Lib.hid ((HRS.out.drew.alloc _).app ho hb hgr); clear ho hb hgr hown) | go_simp)
                    all_goals
                      go_wp2
                      go_roundw
                      case rel => exact ⟨k + 1, by omega, by go_num, HNX.out _ _ HN.out⟩
                      case measure => simp [intOf]; omega
        · have hkl : k = len := by omega
          obtain ⟨A, c, rfl⟩ := Kd.R_slice hR9
          obtain ⟨_, q1, q2⟩ := Kd.R_reads' hR9
          have HK := Lib.hid (And.intro q1 q2); clear q1 q2 hR9
          have HB := Lib.hid hB; clear hB
          unfold BX at hbx
          have c0 := Blk.blk_cell hbx 0
          have c1 := Blk.blk_cell hbx 1
          have c2 := Blk.blk_cell hbx 2
          have c3 := Blk.blk_cell hbx 3
          have c4 := Blk.blk_cell hbx 4
          simp at c0 c1 c2 c3 c4
          clear HEL hbx hG
          go_wp2_with fail
          refine (keeps_any ⟨mn, mx, st, up, dn⟩ start A c l _ HK.out.2 HK.out.1 HKEPT.out).mono ?_
          rintro e w9 ⟨rfl, hb⟩
          have HB9 := Lib.hid (Blk.below_then HB.out hb HB.out.size); clear hb
          go_wp2
          go_ret
          exact ⟨rfl, HB9.out⟩
theorem walk2 : ArgGateKeeps.Walk := fun a0 a1 a2 a3 a4 b a len cap w _ _ _ _ _ _ hel hsz => walk ⟨a0, a1, a2, a3, a4⟩ b a len cap w hel hsz
end Go.Proofs.Ytalefchapckcoaa.Kd1
