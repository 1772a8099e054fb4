/- The walk of the law GateBinds. -/
import Derived.Test.YtalefchapckcoaaGd
import Derived.Test.YtalefchapckcoaaBlk2
import Derived.Test.YtalefchapckcoaaArgGateBinds
import Derived.Test.YtalefchapckcoaaRc
import Derived.Deep.RegionHeld3
import Derived.Deep.DeepCutAuto
namespace Go.Proofs.Ytalefchapckcoaa.Rd
open Go.RowKit Go.Proofs.Ytalefchapckcoaa.Blk Go.Proofs.Ytalefchapckcoaa.Blk2 Go.Proofs.Ytalefchapckcoaa.Ga Go.Proofs.Ytalefchapckcoaa.Gc Go.Proofs.Ytalefchapckcoaa.Gd Go.Proofs.Ytalefchapckcoaa.Ra Go.Proofs.Ytalefchapckcoaa.Rb Go.Proofs.Ytalefchapckcoaa.Rc

/-- What holds at each round's head: the gate and the reference's in one state. -/
def Inv (r : GR) (ga gb : Nat) (w wr : World) : Prop :=
  ∃ s : GS, RtS r s ∧ Ord s ∧ IsGate wr ga r s ∧ IsR wr gb r s ∧ Below w.heap.size w wr ∧ w.heap.size ≤ ga ∧ w.heap.size ≤ gb ∧ ga ≠ gb
def dcells (d : Bool × Int × Int) : Array Value := #[.bool d.1, .int .i64 d.2.1, .int .i64 d.2.2]
def Ask (ad : Addr) (k : Nat) (h : Bool) (why want t : Int) (w w' : World) : Prop :=
  Below w.heap.size w w' ∧ w'.cell? (ad.add (k * 4)) = some (.bool h) ∧ w'.cell? ⟨(ad.add (k * 4)).block, (ad.add (k * 4)).off + 1, none⟩ = some (.int .i64 why) ∧ w'.cell? ⟨(ad.add (k * 4)).block, (ad.add (k * 4)).off + 2, none⟩ = some (.int .i64 want) ∧ w'.cell? ⟨(ad.add (k * 4)).block, (ad.add (k * 4)).off + 3, none⟩ = some (.int .i64 t)
/-- Behind the gate's answer. -/
def Mid (r : GR) (s : GS) (ga gb : Nat) (h : Bool) (why want t : Int) (w : World) (s12 s13 : Value) (wx : World) : Prop :=
  ∃ b : Nat, s12 = .pointer (some ⟨b, 0, none⟩) ∧ s13 = .int .i64 (errF s t) ∧ wx.heap[b]? = some (.cells (dcells (ansF r s h why want t)) 39 (0, 0)) ∧
    IsGate wx ga r (nextF r s h want t) ∧ IsR wx gb r s ∧ Below w.heap.size w wx ∧ w.heap.size ≤ b ∧ b ≠ ga ∧ b ≠ gb
/-- Behind the reference's answer. -/
def Mid2 (r : GR) (s : GS) (ga gb b : Nat) (h : Bool) (why want t : Int) (w : World) (s14 s15 : Value) (wx : World) : Prop :=
  ∃ b2 : Nat, s14 = .pointer (some ⟨b2, 0, none⟩) ∧ s15 = .int .i64 (errF s t) ∧ wx.heap[b2]? = some (.cells (dcells (ansF r s h why want t)) 39 (0, 0)) ∧
    IsR wx gb r (nextF r s h want t) ∧ IsGate wx ga r (nextF r s h want t) ∧ wx.heap[b]? = some (.cells (dcells (ansF r s h why want t)) 39 (0, 0)) ∧ Below w.heap.size w wx
def RNewOk (r : GR) (start : Int) (w : World) (e : Ending) (w' : World) : Prop :=
  ∃ g, e = .returned (.tuple #[.pointer (some ⟨g, 0, none⟩), .int .i64 0]) ∧ Below w.heap.size w w' ∧ w.heap.size ≤ g ∧ IsR w' g r ⟨start, 0, false, 0, false⟩
theorem rnew_ok (r : GR) (start : Int) (w : World) (hr : rightB r = true) (h : ¬ (start < r.mn ∨ r.mx < start)) : Calls Try.prog 14 #[rv r, .int .i64 start] w (RNewOk r start w) :=
  (rnew_any r start w).mono fun e w' hn => by
    unfold RNewPost at hn; rw [if_pos hr, if_neg h] at hn; exact hn
theorem i64_of {t : Int} (h : (Lit.int .i64 t).wf = true) : I64 t := by
  have := bounds_i64 h
  exact this
set_option maxHeartbeats 8000000 in
set_option maxRecDepth 100000 in
theorem walk (r : GR) (start : Int) (a : Option Addr) (len cap : Nat) (w : World) (hel : ArgGateBinds.Elems2 w a len cap) :
    Calls Try.prog 6 #[rv r, .int .i64 start, .slice a len cap] w fun e w' => e = .returned (.bool true) ∧ Below w.heap.size w w' := by
  have hlen : len ≤ 9223372036854775807 := by
    rcases hel with ⟨_, h, _⟩ | ⟨_, _, h, h2, _⟩
    · omega
    · unfold maxLen at h2; omega
  have HEL := Lib.hid hel; clear hel
  obtain ⟨mn, mx, st, up, dn⟩ := r
  unfold rv
  go_enter Try.func6, Try.ntmps6
  go_wp2_with fail
  refine (awake_any _).mono ?_
  rintro e w1 ⟨rfl, hb⟩
  have hbox := blk_call (blk_new w (.cells #[.int .i64 mn, .int .i64 mx, .int .i64 st, .int .i64 up, .int .i64 dn] 23)) hb
  have HB1 := Lib.hid (below_then ((Below.refl _ _).alloc (Nat.le_refl _) _) hb (by simp)); clear hb
  have c0 := blk_cell hbox 0
  have c1 := blk_cell hbox 1
  have c2 := blk_cell hbox 2
  have c3 := blk_cell hbox 3
  have c4 := blk_cell hbox 4
  simp at c0 c1 c2 c3 c4
  have HBX := Lib.hid hbox; clear hbox
  go_wp2_with fail
  cases hr : rightB ⟨mn, mx, st, up, dn⟩ with
  | false =>
    have HR := Lib.hid hr; clear hr
    refine (new_any ⟨mn, mx, st, up, dn⟩ start _).mono ?_
    intro e w2 hN
    unfold NewPost at hN
    rw [if_neg (by rw [HR.out]; decide)] at hN
    obtain ⟨rfl, hb⟩ := hN
    have hbox := blk_call HBX.out hb
    have HB2 := Lib.hid (below_then HB1.out hb (HB1.out.size))
    clear hb c0 c1 c2 c3 c4 HBX HB1
    have c0 := blk_cell hbox 0
    have c1 := blk_cell hbox 1
    have c2 := blk_cell hbox 2
    have c3 := blk_cell hbox 3
    have c4 := blk_cell hbox 4
    simp at c0 c1 c2 c3 c4
    clear hbox
    go_wp2_with fail
    refine (rnew_any ⟨mn, mx, st, up, dn⟩ start _).mono ?_
    intro e w3 hN
    unfold RNewPost at hN
    rw [if_neg (by rw [HR.out]; decide)] at hN
    obtain ⟨rfl, hb⟩ := hN
    have HB3 := Lib.hid (below_then HB2.out hb (HB2.out.size))
    clear hb c0 c1 c2 c3 c4 HB2
    go_wp2
    go_ret
    exact ⟨rfl, HB3.out⟩
  | true =>
    have HR := Lib.hid hr; clear hr
    by_cases hs : start < mn ∨ mx < start
    · have HS := Lib.hid hs; clear hs
      refine (new_any ⟨mn, mx, st, up, dn⟩ start _).mono ?_
      intro e w2 hN
      unfold NewPost at hN
      rw [if_pos HR.out, if_pos HS.out] at hN
      obtain ⟨rfl, hb⟩ := hN
      have hbox := blk_call HBX.out hb
      have HB2 := Lib.hid (below_then HB1.out hb (HB1.out.size))
      clear hb c0 c1 c2 c3 c4 HBX HB1
      have c0 := blk_cell hbox 0
      have c1 := blk_cell hbox 1
      have c2 := blk_cell hbox 2
      have c3 := blk_cell hbox 3
      have c4 := blk_cell hbox 4
      simp at c0 c1 c2 c3 c4
      clear hbox
      go_wp2_with fail
      refine (rnew_any ⟨mn, mx, st, up, dn⟩ start _).mono ?_
      intro e w3 hN
      unfold RNewPost at hN
      rw [if_pos HR.out, if_pos HS.out] at hN
      obtain ⟨rfl, hb⟩ := hN
      have HB3 := Lib.hid (below_then HB2.out hb (HB2.out.size))
      clear hb c0 c1 c2 c3 c4 HB2
      go_wp2
      go_ret
      exact ⟨rfl, HB3.out⟩
    · have HS := Lib.hid hs; clear hs
      refine (new_ok ⟨mn, mx, st, up, dn⟩ start _ HR.out HS.out).mono ?_
      rintro e w2 ⟨ga, rfl, hb, hgs, hG⟩
      have hbox := blk_call HBX.out hb
      have hgb : w.heap.size ≤ ga := Nat.le_trans HB1.out.size hgs
      have HB2 := Lib.hid (below_then HB1.out hb (HB1.out.size))
      have HG := Lib.hid hG
      clear hb hgs hG c0 c1 c2 c3 c4 HBX HB1
      have c0 := blk_cell hbox 0
      have c1 := blk_cell hbox 1
      have c2 := blk_cell hbox 2
      have c3 := blk_cell hbox 3
      have c4 := blk_cell hbox 4
      simp at c0 c1 c2 c3 c4
      clear hbox
      go_wp2_with fail
      refine (rnew_ok ⟨mn, mx, st, up, dn⟩ start _ HR.out HS.out).mono ?_
      rintro e w3 ⟨gb, rfl, hb, hgs, hG2⟩
      have hI : Inv ⟨mn, mx, st, up, dn⟩ ga gb w w3 := ⟨⟨start, 0, false, 0, false⟩, rts_start HR.out HS.out, ⟨by unfold I64; simp, by unfold I64; simp, by simp⟩, blk_call HG.out hb, hG2, below_then HB2.out hb (HB2.out.size), hgb, Nat.le_trans HB2.out.size hgs, by have := blk_lt HG.out; omega⟩
      clear hb hgs hG2 c0 c1 c2 c3 c4 HG HB2 hgb
      have HI := Lib.hid hI; clear hI
      go_wp2_with fail
      go_loopw [11] (fun v11 wr => ∃ k : Nat, k ≤ len ∧ v11 = .int .i64 k ∧ Inv ⟨mn, mx, st, up, dn⟩ ga gb w wr) (fun v11 _ => len - (intOf v11).toNat)
      case atStart => exact ⟨0, by omega, rfl, HI.out⟩
      case round =>
        clear HI
        obtain ⟨k, hk, rfl, s, hrt, hord, hGa, hGb, hB, hga, hgb, hne⟩ := hrel
        have HRT := Lib.hid hrt; clear hrt
        have HORD := Lib.hid hord; clear hord
        have HCOOL := Lib.hid (cool_right HR.out)
        by_cases hlt : k < len
        · obtain ⟨ad, rfl, hcell⟩ : ∃ ad, a = some ad ∧ ∃ (x0 : Bool) (x1 : Int) (x2 : Int) (x3 : Int), w.cell? (ad.add (k * 4 + 0)) = some (.bool x0) ∧ w.cell? (ad.add (k * 4 + 1)) = some (.int .i64 x1) ∧ w.cell? (ad.add (k * 4 + 2)) = some (.int .i64 x2) ∧ w.cell? (ad.add (k * 4 + 3)) = some (.int .i64 x3) ∧ I64 x3 := by
            rcases HEL.out with ⟨_, h, _⟩ | ⟨ad, h1, _, _, h4⟩
            · omega
            · obtain ⟨x0, x1, x2, x3, y0, y1, y2, y3, _, _, wf⟩ := h4 k hlt
              exact ⟨ad, h1, x0, x1, x2, x3, y0, y1, y2, y3, i64_of wf⟩
          obtain ⟨h, why, want, t, y0, y1, y2, y3, it⟩ := hcell
          have HIT := Lib.hid it; clear it
          rw [Nat.add_zero] at y0
          rw [YtalefchapckcoaaW.PrintWords.add_field _ _ _ (by decide)] at y1 y2 y3
          have HY : Hid (∀ W, Below w.heap.size w W → Ask ad k h why want t w W) :=
            fun W hW => ⟨hW, cell_later hW y0, cell_later hW y1, cell_later hW y2, cell_later hW y3⟩
          clear y0 y1 y2 y3
          go_upto_region 12 with (fail)
          go_cut [12, 13] (Mid ⟨mn, mx, st, up, dn⟩ s ga gb h why want t w)
          case first =>
            go_region_held3 (fun w' => Below w.heap.size w w' ∧ w'.cell? (ad.add (k * 4)) = some (.bool h) ∧ w'.cell? ⟨(ad.add (k * 4)).block, (ad.add (k * 4)).off + 1, none⟩ = some (.int .i64 why) ∧ w'.cell? ⟨(ad.add (k * 4)).block, (ad.add (k * 4)).off + 2, none⟩ = some (.int .i64 want) ∧ w'.cell? ⟨(ad.add (k * 4)).block, (ad.add (k * 4)).off + 3, none⟩ = some (.int .i64 t))
              (first | exact HY.out _ hB.drew | exact HY.out _ (hB.drew.alloc hB.drew.size _) | exact HY.out _ Hw4 | exact HY.out _ (Hw4.alloc Hw4.size _) | exact HY.out _ (((Hw4.setCell (p := ⟨wr.heap.size, 0, none⟩) hB.size _).setCell (p := ⟨wr.heap.size, 1, none⟩) hB.size _).setCell (p := ⟨wr.heap.size, 2, none⟩) hB.size _))
              (first
                | (go_at_call 12; refine (bind_any ga ⟨mn, mx, st, up, dn⟩ s h why want t _ ?_ HRT.out).mono ?_; (exact hGa); rintro e w4 ⟨rfl, hG4, hgb2⟩; dsimp only [dv]; have Hw4 : Below w.heap.size w w4 := below_of_gb hB.drew hgb2 hga hB.drew.size)
                | (go_at_call 12; refine (bind_any ga ⟨mn, mx, st, up, dn⟩ s h why want t _ ?_ HRT.out).mono ?_; (exact blk_alloc hGa _); rintro e w4 ⟨rfl, hG4, hgb2⟩; dsimp only [dv]
                   have Hw4 : Below w.heap.size w w4 := below_of_gb ((hB.drew).alloc hB.drew.size _) hgb2 hga ((hB.drew).alloc hB.drew.size _).size
                   have hbx : w4.heap[wr.heap.size]? = some (.cells #[.bool false, .int .i64 0, .int .i64 0] 39 (0, 0)) := blk_grown (blk_new wr.drew _) hgb2 (by have := blk_lt hGa; intro e; injection e with e; omega)
                   have hbl := blk_lt hbx
                   have x0 := blk_cell hbx 0
                   have x1 := blk_cell hbx 1
                   have x2 := blk_cell hbx 2
                   have g0 := blk_frozen hbx 0
                   have g1 := blk_frozen hbx 1
                   have g2 := blk_frozen hbx 2
                   simp at x0 x1 x2))
            · go_wp2_with fail
              go_meet
              have n1 := blk_lt hG4
              have n2 := blk_lt (blk_grown (blk_drew hGb) hgb2 (by intro e; injection e with e; exact hne e.symm))
              exact ⟨_, rfl, rfl, blk_new _ _, blk_alloc hG4 _, blk_alloc (blk_grown (blk_drew hGb) hgb2 (by intro e; injection e with e; exact hne e.symm)) _, Hw4.alloc Hw4.size _, Hw4.size, by omega, by omega⟩
            · go_wp2_with fail
              go_meet
              have n1 := blk_lt hGa
              have n2 := blk_lt hGb
              have n3 := blk_grown (blk_drew (blk_alloc hGb (.cells #[.bool false, .int .i64 0, .int .i64 0] 39))) hgb2 (by intro e; injection e with e; exact hne e.symm)
              exact ⟨_, rfl, rfl, blk_set (blk_set (blk_set hbx 0 _) 1 _) 2 _, blk_far (blk_far (blk_far hG4 (by show ga ≠ wr.heap.size; omega) _) (by show ga ≠ wr.heap.size; omega) _) (by show ga ≠ wr.heap.size; omega) _, blk_far (blk_far (blk_far n3 (by show gb ≠ wr.heap.size; omega) _) (by show gb ≠ wr.heap.size; omega) _) (by show gb ≠ wr.heap.size; omega) _,
                ((Hw4.setCell (p := ⟨wr.heap.size, 0, none⟩) hB.size _).setCell (p := ⟨wr.heap.size, 1, none⟩) hB.size _).setCell (p := ⟨wr.heap.size, 2, none⟩) hB.size _, hB.size, by omega, by omega⟩
          case rest =>
            obtain ⟨b, rfl, rfl, hbx, hGa2, hGb2, hB2, hb0, hb1, hb2⟩ := hcut
            have hbl := blk_lt hbx
            go_upto_region 13 with (fail)
            clear hGa hGb hB
            go_cut [14, 15] (Mid2 ⟨mn, mx, st, up, dn⟩ s ga gb b h why want t w)
            case first =>
              go_region_held3 (fun w' => Below w.heap.size w w' ∧ w'.cell? (ad.add (k * 4)) = some (.bool h) ∧ w'.cell? ⟨(ad.add (k * 4)).block, (ad.add (k * 4)).off + 1, none⟩ = some (.int .i64 why) ∧ w'.cell? ⟨(ad.add (k * 4)).block, (ad.add (k * 4)).off + 2, none⟩ = some (.int .i64 want) ∧ w'.cell? ⟨(ad.add (k * 4)).block, (ad.add (k * 4)).off + 3, none⟩ = some (.int .i64 t))
                (first | exact HY.out _ hB2.drew | exact HY.out _ (hB2.drew.alloc hB2.drew.size _) | exact HY.out _ Hw4 | exact HY.out _ (Hw4.alloc Hw4.size _) | exact HY.out _ (((Hw4.setCell (p := ⟨wc.heap.size, 0, none⟩) hB2.size _).setCell (p := ⟨wc.heap.size, 1, none⟩) hB2.size _).setCell (p := ⟨wc.heap.size, 2, none⟩) hB2.size _))
                (first
                  | (go_at_call 15; refine (rbind_any gb ⟨mn, mx, st, up, dn⟩ s h why want t _ ?_ HRT.out HCOOL.out HORD.out HIT.out).mono ?_; (exact hGb2); rintro e w4 ⟨rfl, hG4, hgb2⟩; dsimp only [dv]; have Hw4 : Below w.heap.size w w4 := below_of_gb hB2.drew hgb2 hgb hB2.drew.size)
                  | (go_at_call 15; refine (rbind_any gb ⟨mn, mx, st, up, dn⟩ s h why want t _ ?_ HRT.out HCOOL.out HORD.out HIT.out).mono ?_; (exact blk_alloc hGb2 _); rintro e w4 ⟨rfl, hG4, hgb2⟩; dsimp only [dv]
                     have Hw4 : Below w.heap.size w w4 := below_of_gb ((hB2.drew).alloc hB2.drew.size _) hgb2 hgb ((hB2.drew).alloc hB2.drew.size _).size
                     have hby : w4.heap[wc.heap.size]? = some (.cells #[.bool false, .int .i64 0, .int .i64 0] 39 (0, 0)) := blk_grown (blk_new wc.drew _) hgb2 (by have := blk_lt hGb2; intro e; injection e with e; omega)
                     have hbly := blk_lt hby
                     have x0 := blk_cell hby 0
                     have x1 := blk_cell hby 1
                     have x2 := blk_cell hby 2
                     have g0 := blk_frozen hby 0
                     have g1 := blk_frozen hby 1
                     have g2 := blk_frozen hby 2
                     simp at x0 x1 x2))
              · go_wp2_with fail
                go_meet
                have q1 := blk_grown (blk_drew hGa2) hgb2 (by intro e; injection e with e; exact hne e)
                have q2 := blk_grown (blk_drew hbx) hgb2 (by intro e; injection e with e; omega)
                exact ⟨_, rfl, rfl, blk_new _ _, blk_alloc hG4 _, blk_alloc q1 _, blk_alloc q2 _, Hw4.alloc Hw4.size _⟩
              · go_wp2_with fail
                go_meet
                have n1 := blk_lt hGa2
                have n2 := blk_lt hGb2
                have q1 := blk_grown (blk_drew (blk_alloc hGa2 (.cells #[.bool false, .int .i64 0, .int .i64 0] 39))) hgb2 (by intro e; injection e with e; exact hne e)
                have q2 := blk_grown (blk_drew (blk_alloc hbx (.cells #[.bool false, .int .i64 0, .int .i64 0] 39))) hgb2 (by intro e; injection e with e; omega)
                exact ⟨_, rfl, rfl, blk_set (blk_set (blk_set hby 0 _) 1 _) 2 _, blk_far (blk_far (blk_far hG4 (by show gb ≠ wc.heap.size; omega) _) (by show gb ≠ wc.heap.size; omega) _) (by show gb ≠ wc.heap.size; omega) _, blk_far (blk_far (blk_far q1 (by show ga ≠ wc.heap.size; omega) _) (by show ga ≠ wc.heap.size; omega) _) (by show ga ≠ wc.heap.size; omega) _,
                  blk_far (blk_far (blk_far q2 (by show b ≠ wc.heap.size; omega) _) (by show b ≠ wc.heap.size; omega) _) (by show b ≠ wc.heap.size; omega) _,
                  ((Hw4.setCell (p := ⟨wc.heap.size, 0, none⟩) hB2.size _).setCell (p := ⟨wc.heap.size, 1, none⟩) hB2.size _).setCell (p := ⟨wc.heap.size, 2, none⟩) hB2.size _⟩
            case rest =>
              obtain ⟨b2, rfl, rfl, hby, hGb3, hGa3, hbx3, hB3⟩ := hcut
              have HRT2 := Lib.hid (next_right h want t HRT.out)
              have HORD2 := Lib.hid (next_ord (r := ⟨mn, mx, st, up, dn⟩) h want t HORD.out HIT.out)
              obtain ⟨s2, hs2⟩ : ∃ s2, nextF ⟨mn, mx, st, up, dn⟩ s h want t = s2 := ⟨_, rfl⟩
              rw [hs2] at hGb3 hGa3 HRT2 HORD2
              obtain ⟨d, hd⟩ : ∃ d, ansF ⟨mn, mx, st, up, dn⟩ s h why want t = d := ⟨_, rfl⟩
              rw [hd] at hby hbx3
              obtain ⟨x, hx⟩ : ∃ x, errF s t = x := ⟨_, rfl⟩
              rw [hx]
              have HBX := Lib.hid hbx3; have HBY := Lib.hid hby; have HGA := Lib.hid hGa3; have HGB := Lib.hid hGb3; have HB3 := Lib.hid hB3
              clear hs2 hd hx hGa2 hGb2 hbx hB2 HY hbx3 hby hGb3 hGa3 hB3 HRT HORD hbl
              go_wp2_with fail
              refine (changed_gate ga ⟨mn, mx, st, up, dn⟩ s2 _ HGA.out HRT2.out).mono ?_
              rintro e w5 ⟨rfl, nq, rfl⟩
              have hbx := blk_drewN HBX.out nq
              have hby := blk_drewN HBY.out nq
              have hga2 : IsGate (wc.drewN nq) ga ⟨mn, mx, st, up, dn⟩ s2 := HGA.out
              have hgb2 : IsR (wc.drewN nq) gb ⟨mn, mx, st, up, dn⟩ s2 := HGB.out
              have hb := Blk.below_drewN HB3.out nq
              clear HBX HBY HGA HGB HB3
              generalize wc.drewN nq = W at hbx hby hga2 hgb2 hb ⊢
              have x0 := blk_cell hbx 0
              have x1 := blk_cell hbx 1
              have x2 := blk_cell hbx 2
              have z0 := blk_cell hby 0
              have z1 := blk_cell hby 1
              have z2 := blk_cell hby 2
              have v5 := blk_cell hgb2 5
              have v6 := blk_cell hgb2 6
              have v7 := blk_cell hgb2 7
              simp [dcells, gcells] at x0 x1 x2 z0 z1 z2 v5 v6 v7
              have HGA := Lib.hid hga2; have HGB := Lib.hid hgb2; have HB := Lib.hid hb
              clear hbx hby hga2 hgb2 hb
              go_wp2_with fail
              go_quiet ((go_at_call 11; exact Calls.quiet_of_same ((count_gate ga ⟨mn, mx, st, up, dn⟩ s2 _ (by exact HGA.out) HRT2.out).mono fun _ _ h => ⟨h.1, h.2.symm⟩)))
              go_wp2_with fail
              go_roundw
              case rel => exact ⟨k + 1, by omega, by go_num, s2, HRT2.out, HORD2.out, blk_drewN HGA.out _, blk_drewN HGB.out _, Blk.below_drewN HB.out _, hga, hgb, hne⟩
              case measure => simp [intOf]; omega
        · have hkl : k = len := by omega
          have HB := Lib.hid hB; clear hB
          clear HEL
          go_wp2
          go_ret
          exact ⟨rfl, HB.out⟩
end Go.Proofs.Ytalefchapckcoaa.Rd
