/- The reference's Join, walked: it answers what dim.both answers. Conditions: as each theorem states. -/
import Derived.Test.YtdplfphgomckfaaDoorDk0
import Derived.Test.YtdplfphgomckfaaDoorDp
import Derived.Deep.RegionLaw
namespace Go.Proofs.YtdplfphgomckfaaDoor.Dk
set_option linter.unusedVariables false
set_option linter.unusedSimpArgs false
open Go.RowKit Go.Proofs.YtdplfphgomckfaaDoorW.PrintWords Go.Proofs.YtdplfphgomckfaaDoor.Dt Go.Proofs.YtdplfphgomckfaaDoor.Bn Go.Proofs.YtdplfphgomckfaaDoor.Bx Go.Proofs.YtdplfphgomckfaaDoor.Dj
theorem Jx.lt {w : World} {b : Nat} {A B D : List Int} {wx : World} (h : Jx w b A B D wx) : b + 3 < wx.heap.size := Blk.blk_lt h.2.2.2.2.1
/-- A number in its cell beside the four blocks. -/
def JB (w : World) (b : Nat) (A B D : List Int) (z : Bool) (l : List Int) (v : Value) (wx : World) : Prop := ∃ (q : Nat) (Ap : Option Addr) (cp : Nat), v = .pointer (some ⟨q, 0, none⟩) ∧ Hid (wx.heap[q]? = some (.cells #[.bool z, .slice Ap l.length cp] 59 (0, 0))) ∧ Hid (Jx w b A B D wx) ∧ Hid (BG wx Ap cp l) ∧ b + 3 < q
theorem box_first {X wn : World} {o : Obj} (hb : Below (X.alloc o).heap.size (X.alloc o) wn) : wn.heap[X.heap.size]? = some o := (hb.block _ (by simp)).trans (Blk.blk_new X o)
theorem box_firstd {X wn : World} {o : Obj} (hb : Below (X.alloc o).drew.heap.size (X.alloc o).drew wn) : wn.heap[X.heap.size]? = some o := (hb.block X.heap.size (show X.heap.size < (X.alloc o).heap.size by simp)).trans (Blk.blk_new X o)
theorem box_drew {W : World} {q : Nat} {o : Obj} (h : W.heap[q]? = some o) : W.drew.heap[q]? = some o := h
theorem JB_set {w : World} {b : Nat} {A B D : List Int} {z : Bool} {l : List Int} {wx : World} {q : Nat} {u0 u1 : Value} {Ap : Option Addr} {cp : Nat} (hx : wx.heap[q]? = some (.cells #[u0, u1] 59 (0, 0))) (hk : Jx w b A B D wx) (hg : BG wx Ap cp l) (hq : b + 3 < q) : JB w b A B D z l (.pointer (some ⟨q, 0, none⟩)) ((wx.setCell ⟨q, 0, none⟩ (.bool z)).setCell ⟨q, 1, none⟩ (.slice Ap l.length cp)) := by
  have h0 : (wx.setCell ⟨q, 0, none⟩ (.bool z)).heap[q]? = some (.cells #[.bool z, u1] 59 (0, 0)) := Blk.blk_set hx 0 _
  exact ⟨q, Ap, cp, rfl, Lib.hid (Blk.blk_set h0 1 _), Lib.hid (Jx.far (Jx.far hk hq 0 _) hq 1 _), Lib.hid (BG.set (BG.set hg hx 0 _) h0 1 _), hq⟩
theorem JB_new {w : World} {b : Nat} {A B D : List Int} {z : Bool} {l : List Int} {wx : World} {Ap : Option Addr} {cp : Nat} (hk : Jx w b A B D wx) (hg : BG wx Ap cp l) : JB w b A B D z l (.pointer (some ⟨wx.heap.size, 0, none⟩)) (wx.alloc (.cells #[.bool z, .slice Ap l.length cp] 59)) :=
  ⟨_, Ap, cp, rfl, Lib.hid (Blk.blk_new wx _), Lib.hid (Jx.alloc hk _), Lib.hid (BG.alloc hg _), Jx.lt hk⟩
set_option maxHeartbeats 16000000 in
set_option maxRecDepth 100000 in
theorem join_any (A B : List Int) (sg : Int) (x0 x1 x2 x3 x4 y0 y1 y2 y3 y4 : Int) (hA : A = [x0, x1, x2, x3, x4]) (hB : B = [y0, y1, y2, y3, y4]) (hbA : ∀ x ∈ A, I64 x) (hbB : ∀ x ∈ B, I64 x) (w : World) : Calls Tryd.prog 14 #[.agg #[.int .i64 x0, .int .i64 x1, .int .i64 x2, .int .i64 x3, .int .i64 x4], .agg #[.int .i64 y0, .int .i64 y1, .int .i64 y2, .int .i64 y3, .int .i64 y4], .int .i64 sg] w (JPost w (jF A B (decide (sg < 0)) 5 0 Z5)) := by
  obtain ⟨R, hR⟩ : ∃ R, jF A B (decide (sg < 0)) 5 0 Z5 = R := ⟨_, rfl⟩
  rw [hR]
  have HF := Lib.hid hR
  have HAB := Lib.hid hbA
  have HBB := Lib.hid hbB
  have hAl : A.length = 5 := by rw [hA]; rfl
  have hBl : B.length = 5 := by rw [hB]; rfl
  have HK0 := Lib.hid (show Jx w w.heap.size A B Z5 ((((w.alloc (.cells #[.int .i64 x0, .int .i64 x1, .int .i64 x2, .int .i64 x3, .int .i64 x4] 24)).alloc (.cells #[.int .i64 y0, .int .i64 y1, .int .i64 y2, .int .i64 y3, .int .i64 y4] 24)).alloc (.cells #[.int .i64 0, .int .i64 0, .int .i64 0, .int .i64 0, .int .i64 0] 24)).alloc (.cells #[.int .i64 0, .int .i64 0, .int .i64 0, .int .i64 0, .int .i64 0] 24)) from by
    subst hA hB
    exact ⟨((((Below.refl w.heap.size w).alloc (Nat.le_refl _) _).alloc (by simp) _).alloc (by simp; omega) _).alloc (by simp; omega) _, Blk.blk_alloc (Blk.blk_alloc (Blk.blk_alloc (Blk.blk_new w _) _) _) _, Blk.blk_alloc (Blk.blk_alloc (Blk.blk_at _ _ (w.heap.size + 1) (by simp)) _) _, Blk.blk_alloc (Blk.blk_at _ _ (w.heap.size + 2) (by simp)) _, Blk.blk_at _ _ (w.heap.size + 3) (by simp), Nat.le_refl _⟩)
  obtain ⟨b, hb⟩ : ∃ b, w.heap.size = b := ⟨_, rfl⟩
  rw [hb] at HK0
  clear hA hB hbA hbB hR
  go_enter Tryd.func14, Tryd.ntmps14
  go_wp2_with fail
  try simp only [hb, Nat.add_assoc, Nat.reduceAdd]
  clear hb
  go_loopg [9] 5 (fun gf v9 wx => ∃ (i : Nat) (D : List Int), v9 = .int .i64 i ∧ i + gf = 5 ∧ Hid (D.length = 5) ∧ Hid (jF A B (decide (sg < 0)) gf i D = R) ∧ Hid (Jx w b A B D wx))
  case atStart => exact ⟨0, Z5, rfl, by omega, Lib.hid rfl, HF, HK0⟩
  case round =>
    clear HK0 HF
    obtain ⟨i, D, rfl, hi, HDL, HF, HK⟩ := hrel
    have hDl : D.length = 5 := HDL.out
    by_cases hlt : i < 5
    · obtain ⟨g', rfl⟩ : ∃ g', gk = g' + 1 := ⟨gk - 1, by omega⟩
      have q0 : decide ((i : Int) < 5) = true := by simp; omega
      have hlt5 : (i : Int) < 5 := by omega
      have hx := HAB.out (A.getD i 0) (by rw [List.getD_eq_getElem?_getD, List.getElem?_eq_getElem (by omega : i < A.length)]; exact List.getElem_mem _)
      have hy := HBB.out (B.getD i 0) (by rw [List.getD_eq_getElem?_getD, List.getElem?_eq_getElem (by omega : i < B.length)]; exact List.getElem_mem _)
      have HTW := Lib.hid (show ∀ W, Jx w b A B D W → W.cell? ⟨b, i, none⟩ = some (.int .i64 (A.getD i 0)) ∧ W.cell? ⟨b + 1, i, none⟩ = some (.int .i64 (B.getD i 0)) from fun W h => h.two i (by omega) (by omega))
      have HJV := Lib.hid (show jv A B (decide (sg < 0)) i = if decide (sg < 0) = true then hold (A.getD i 0 - B.getD i 0) else hold (A.getD i 0 + B.getD i 0) from rfl)
      obtain ⟨x, hxe⟩ : ∃ x, A.getD i 0 = x := ⟨_, rfl⟩
      obtain ⟨y, hye⟩ : ∃ y, B.getD i 0 = y := ⟨_, rfl⟩
      rw [hxe] at hx HTW HJV
      rw [hye] at hy HTW HJV
      obtain ⟨la, ba, hla, ho1⟩ := of_any x hx
      obtain ⟨lb, bb, hlb, ho2⟩ := of_any y hy
      have HO1 := Lib.hid ho1
      have HO2 := Lib.hid ho2
      obtain ⟨z1, l1, bp, hlp, hpl⟩ := plus_any _ _ la lb x y ba bb (by omega) (by omega)
      obtain ⟨z2, l2, bm, hlm, hpm⟩ := plus_any _ _ la lb x (-y) ba (minus_is _ lb y bb).2 (by omega) (by omega)
      have HPL := Lib.hid hpl
      have HPM := Lib.hid hpm
      have HH1 := Lib.hid (held_any z1 l1 (x + y) bp (by split at hlp <;> omega))
      have HH2 := Lib.hid (held_any z2 l2 (x + -y) bm (by split at hlm <;> omega))
      have hb1 := hold_bd (x + y)
      have hb2 := hold_bd (x + -y)
      rw [Int.sub_eq_add_neg] at HJV
      obtain ⟨v1, hv1⟩ : ∃ v, hold (x + y) = v := ⟨_, rfl⟩
      obtain ⟨v2, hv2⟩ : ∃ v, hold (x + -y) = v := ⟨_, rfl⟩
      rw [hv1] at HH1 hb1 HJV
      rw [hv2] at HH2 hb2 HJV
      obtain ⟨sx, hsx⟩ : ∃ s, decide (x < 0) = s := ⟨_, rfl⟩
      obtain ⟨sy, hsy⟩ : ∃ s, decide (y < 0) = s := ⟨_, rfl⟩
      rw [hsx] at HO1 HPL HPM
      rw [hsy] at HO2 HPL HPM
      clear hxe hye hv1 hv2 hx hy ho1 ho2 hpl hpm ba bb bp bm hla hlb hlp hlm hsx hsy
      have HKn := HK.out
      obtain ⟨c0, c1⟩ := HTW.out _ HKn
      obtain ⟨d0, d1⟩ := HTW.out _ (Jx.alloc HKn (.cells #[.bool false, .slice none 0 0] 59))
      clear HK
      go_upto_region 5 with fail
      go_cut [10] (fun v10 wx => JB w b A B D z1 l1 v10 wx)
      case first =>
        go_region_law (first | (go_simp; go_wp2_with (first | (go_at_call 26; (with_reducible refine (HO1.out _).mono ?_); rintro e wx ⟨Aa, ca, rfl, HBa, hbx⟩; (have HKo := HKn); clear HKn; have HKn : Jx w b A B D wx := (by first | (with_reducible exact Jx.below HKo hbx) | (with_reducible exact Jx.below (Jx.drew HKo) hbx) | (with_reducible exact Jx.below (Jx.alloc HKo _) hbx) | (with_reducible exact Jx.below (Jx.alloc (Jx.drew HKo) _) hbx) | (with_reducible exact Jx.below (Jx.drew (Jx.alloc HKo _)) hbx)); (first | (have HX2 := Blk.blk_below HX hbx (Blk.blk_lt HX); clear HX; have HX := HX2; clear HX2) | (have HX2 := Blk.blk_below (box_drew HX) hbx (Blk.blk_lt (box_drew HX)); clear HX; have HX := HX2; clear HX2) | ((first | have HX9 := box_first hbx | have HX9 := box_firstd hbx); have HX : wx.heap[wr.heap.size]? = some (.cells #[.bool false, .slice none 0 0] 59 (0, 0)) := HX9; clear HX9; have HQ := Jx.lt HKo) | ((first | have HX9 := box_first hbx | have HX9 := box_firstd hbx); have HX : wx.heap[wx.heap.size]? = some (.cells #[.bool false, .slice none 0 0] 59 (0, 0)) := HX9; clear HX9; have HQ := Jx.lt HKo) | ((first | have HX9 := box_first hbx | have HX9 := box_firstd hbx); have HX : wx.heap[wy.heap.size]? = some (.cells #[.bool false, .slice none 0 0] 59 (0, 0)) := HX9; clear HX9; have HQ := Jx.lt HKo) | skip); clear HKo; (try (have HG2 : BG wx Ab cb lb := (by first | (with_reducible exact BG.below HBb hbx) | (with_reducible exact BG.below (BG.alloc HBb _) hbx)); clear HBb; have HBb := HG2; clear HG2)); clear hbx; (try clear c0 c1); (try clear d0 d1); obtain ⟨c0, c1⟩ := HTW.out _ HKn; obtain ⟨d0, d1⟩ := HTW.out _ (Jx.alloc HKn (.cells #[.bool false, .slice none 0 0] 59))) | (go_at_call 26; (with_reducible refine (HO2.out _).mono ?_); rintro e wy ⟨Ab, cb, rfl, HBb, hby⟩; (have HKo := HKn); clear HKn; have HKn : Jx w b A B D wy := (by first | (with_reducible exact Jx.below HKo hby) | (with_reducible exact Jx.below (Jx.drew HKo) hby) | (with_reducible exact Jx.below (Jx.alloc HKo _) hby) | (with_reducible exact Jx.below (Jx.alloc (Jx.drew HKo) _) hby) | (with_reducible exact Jx.below (Jx.drew (Jx.alloc HKo _)) hby)); (first | (have HX2 := Blk.blk_below HX hby (Blk.blk_lt HX); clear HX; have HX := HX2; clear HX2) | (have HX2 := Blk.blk_below (box_drew HX) hby (Blk.blk_lt (box_drew HX)); clear HX; have HX := HX2; clear HX2) | ((first | have HX9 := box_first hby | have HX9 := box_firstd hby); have HX : wy.heap[wr.heap.size]? = some (.cells #[.bool false, .slice none 0 0] 59 (0, 0)) := HX9; clear HX9; have HQ := Jx.lt HKo) | ((first | have HX9 := box_first hby | have HX9 := box_firstd hby); have HX : wy.heap[wx.heap.size]? = some (.cells #[.bool false, .slice none 0 0] 59 (0, 0)) := HX9; clear HX9; have HQ := Jx.lt HKo) | ((first | have HX9 := box_first hby | have HX9 := box_firstd hby); have HX : wy.heap[wy.heap.size]? = some (.cells #[.bool false, .slice none 0 0] 59 (0, 0)) := HX9; clear HX9; have HQ := Jx.lt HKo) | skip); clear HKo; (try (have HG2 : BG wy Aa ca la := (by first | (with_reducible exact BG.below HBa hby) | (with_reducible exact BG.below (BG.alloc HBa _) hby)); clear HBa; have HBa := HG2; clear HG2)); clear hby; (try clear c0 c1); (try clear d0 d1); obtain ⟨c0, c1⟩ := HTW.out _ HKn; obtain ⟨d0, d1⟩ := HTW.out _ (Jx.alloc HKn (.cells #[.bool false, .slice none 0 0] 59))) | (go_at_call 25; (with_reducible refine (HPL.out _ _ _ _ _ (by first | exact HBa | exact BG.alloc HBa _) (by first | exact HBb | exact BG.alloc HBb _)).mono ?_); rintro e wp ⟨Ap, cp, rfl, HBp, hbp⟩; (have HKo := HKn); clear HKn; have HKn : Jx w b A B D wp := (by first | (with_reducible exact Jx.below HKo hbp) | (with_reducible exact Jx.below (Jx.drew HKo) hbp) | (with_reducible exact Jx.below (Jx.alloc HKo _) hbp) | (with_reducible exact Jx.below (Jx.alloc (Jx.drew HKo) _) hbp) | (with_reducible exact Jx.below (Jx.drew (Jx.alloc HKo _)) hbp)); (first | (have HX2 := Blk.blk_below HX hbp (Blk.blk_lt HX); clear HX; have HX := HX2; clear HX2) | (have HX2 := Blk.blk_below (box_drew HX) hbp (Blk.blk_lt (box_drew HX)); clear HX; have HX := HX2; clear HX2) | ((first | have HX9 := box_first hbp | have HX9 := box_firstd hbp); have HX : wp.heap[wr.heap.size]? = some (.cells #[.bool false, .slice none 0 0] 59 (0, 0)) := HX9; clear HX9; have HQ := Jx.lt HKo) | ((first | have HX9 := box_first hbp | have HX9 := box_firstd hbp); have HX : wp.heap[wx.heap.size]? = some (.cells #[.bool false, .slice none 0 0] 59 (0, 0)) := HX9; clear HX9; have HQ := Jx.lt HKo) | ((first | have HX9 := box_first hbp | have HX9 := box_firstd hbp); have HX : wp.heap[wy.heap.size]? = some (.cells #[.bool false, .slice none 0 0] 59 (0, 0)) := HX9; clear HX9; have HQ := Jx.lt HKo) | skip); clear HKo; clear hbp; (try clear c0 c1); (try clear d0 d1); obtain ⟨c0, c1⟩ := HTW.out _ HKn; obtain ⟨d0, d1⟩ := HTW.out _ (Jx.alloc HKn (.cells #[.bool false, .slice none 0 0] 59)); (try (have K0 := (Blk.blk_cell HX 0).trans (show _ = some (.bool false) from rfl); have K1 := (Blk.blk_cell HX 1).trans (show _ = some (.slice none 0 0) from rfl); have F0 := Blk.blk_frozen HX 0; have F1 := Blk.blk_frozen HX 1))))))
        all_goals (try go_wp2)
        all_goals (go_meet; (first | exact JB_set HX HKn HBp HQ | exact JB_new HKn HBp))
      case rest =>
        clear HKn c0 c1 d0 d1
        by_cases hsg : sg < 0
        · have q2 : decide (sg < 0) = true := by simpa using hsg
          rw [q2, if_pos rfl] at HJV
          rw [q2] at HF
          obtain ⟨q, Ap0, cp0, rfl, HXq, HKq, HBq, HQ⟩ := hcut
          have HX := HXq.out
          have HKn := HKq.out
          obtain ⟨c0, c1⟩ := HTW.out _ HKn
          clear HXq HKq HBq
          go_upto_region 7 with fail
          go_cut [10] (fun v10 wx => JB w b A B D z2 l2 v10 wx)
          case first =>
            go_region_law (first | (go_simp; go_wp2_with (first | (go_at_call 26; (with_reducible refine (HO1.out _).mono ?_); rintro e wx ⟨Aa, ca, rfl, HBa, hbx⟩; (have HKo := HKn); clear HKn; have HKn : Jx w b A B D wx := (by first | (with_reducible exact Jx.below HKo hbx) | (with_reducible exact Jx.below (Jx.drew HKo) hbx) | (with_reducible exact Jx.below (Jx.alloc HKo _) hbx) | (with_reducible exact Jx.below (Jx.alloc (Jx.drew HKo) _) hbx) | (with_reducible exact Jx.below (Jx.drew (Jx.alloc HKo _)) hbx)); (first | (have HX2 := Blk.blk_below HX hbx (Blk.blk_lt HX); clear HX; have HX := HX2; clear HX2) | (have HX2 := Blk.blk_below (box_drew HX) hbx (Blk.blk_lt (box_drew HX)); clear HX; have HX := HX2; clear HX2) | ((first | have HX9 := box_first hbx | have HX9 := box_firstd hbx); have HX : wx.heap[wr.heap.size]? = some (.cells #[.bool false, .slice none 0 0] 59 (0, 0)) := HX9; clear HX9; have HQ := Jx.lt HKo) | ((first | have HX9 := box_first hbx | have HX9 := box_firstd hbx); have HX : wx.heap[wx.heap.size]? = some (.cells #[.bool false, .slice none 0 0] 59 (0, 0)) := HX9; clear HX9; have HQ := Jx.lt HKo) | ((first | have HX9 := box_first hbx | have HX9 := box_firstd hbx); have HX : wx.heap[wy.heap.size]? = some (.cells #[.bool false, .slice none 0 0] 59 (0, 0)) := HX9; clear HX9; have HQ := Jx.lt HKo) | skip); clear HKo; (try (have HG2 : BG wx Ab cb lb := (by first | (with_reducible exact BG.below HBb hbx) | (with_reducible exact BG.below (BG.alloc HBb _) hbx)); clear HBb; have HBb := HG2; clear HG2)); clear hbx; (try clear c0 c1); (try clear d0 d1); obtain ⟨c0, c1⟩ := HTW.out _ HKn; obtain ⟨d0, d1⟩ := HTW.out _ (Jx.alloc HKn (.cells #[.bool false, .slice none 0 0] 59))) | (go_at_call 26; (with_reducible refine (HO2.out _).mono ?_); rintro e wy ⟨Ab, cb, rfl, HBb, hby⟩; (have HKo := HKn); clear HKn; have HKn : Jx w b A B D wy := (by first | (with_reducible exact Jx.below HKo hby) | (with_reducible exact Jx.below (Jx.drew HKo) hby) | (with_reducible exact Jx.below (Jx.alloc HKo _) hby) | (with_reducible exact Jx.below (Jx.alloc (Jx.drew HKo) _) hby) | (with_reducible exact Jx.below (Jx.drew (Jx.alloc HKo _)) hby)); (first | (have HX2 := Blk.blk_below HX hby (Blk.blk_lt HX); clear HX; have HX := HX2; clear HX2) | (have HX2 := Blk.blk_below (box_drew HX) hby (Blk.blk_lt (box_drew HX)); clear HX; have HX := HX2; clear HX2) | ((first | have HX9 := box_first hby | have HX9 := box_firstd hby); have HX : wy.heap[wr.heap.size]? = some (.cells #[.bool false, .slice none 0 0] 59 (0, 0)) := HX9; clear HX9; have HQ := Jx.lt HKo) | ((first | have HX9 := box_first hby | have HX9 := box_firstd hby); have HX : wy.heap[wx.heap.size]? = some (.cells #[.bool false, .slice none 0 0] 59 (0, 0)) := HX9; clear HX9; have HQ := Jx.lt HKo) | ((first | have HX9 := box_first hby | have HX9 := box_firstd hby); have HX : wy.heap[wy.heap.size]? = some (.cells #[.bool false, .slice none 0 0] 59 (0, 0)) := HX9; clear HX9; have HQ := Jx.lt HKo) | skip); clear HKo; (try (have HG2 : BG wy Aa ca la := (by first | (with_reducible exact BG.below HBa hby) | (with_reducible exact BG.below (BG.alloc HBa _) hby)); clear HBa; have HBa := HG2; clear HG2)); clear hby; (try clear c0 c1); (try clear d0 d1); obtain ⟨c0, c1⟩ := HTW.out _ HKn; obtain ⟨d0, d1⟩ := HTW.out _ (Jx.alloc HKn (.cells #[.bool false, .slice none 0 0] 59))) | (go_at_call 27; (with_reducible refine (minus_any _ _ _ _ _).mono ?_); rintro e wm ⟨rfl, hbm⟩; (have HKo := HKn); clear HKn; have HKn : Jx w b A B D wm := (by first | (with_reducible exact Jx.below HKo hbm) | (with_reducible exact Jx.below (Jx.drew HKo) hbm) | (with_reducible exact Jx.below (Jx.alloc HKo _) hbm) | (with_reducible exact Jx.below (Jx.alloc (Jx.drew HKo) _) hbm) | (with_reducible exact Jx.below (Jx.drew (Jx.alloc HKo _)) hbm)); (first | (have HX2 := Blk.blk_below HX hbm (Blk.blk_lt HX); clear HX; have HX := HX2; clear HX2) | (have HX2 := Blk.blk_below (box_drew HX) hbm (Blk.blk_lt (box_drew HX)); clear HX; have HX := HX2; clear HX2) | ((first | have HX9 := box_first hbm | have HX9 := box_firstd hbm); have HX : wm.heap[wr.heap.size]? = some (.cells #[.bool false, .slice none 0 0] 59 (0, 0)) := HX9; clear HX9; have HQ := Jx.lt HKo) | ((first | have HX9 := box_first hbm | have HX9 := box_firstd hbm); have HX : wm.heap[wx.heap.size]? = some (.cells #[.bool false, .slice none 0 0] 59 (0, 0)) := HX9; clear HX9; have HQ := Jx.lt HKo) | ((first | have HX9 := box_first hbm | have HX9 := box_firstd hbm); have HX : wm.heap[wy.heap.size]? = some (.cells #[.bool false, .slice none 0 0] 59 (0, 0)) := HX9; clear HX9; have HQ := Jx.lt HKo) | skip); clear HKo; (try (have HG2 : BG wm Aa ca la := (by first | (with_reducible exact BG.below HBa hbm) | (with_reducible exact BG.below (BG.alloc HBa _) hbm)); clear HBa; have HBa := HG2; clear HG2)); (try (have HG2 : BG wm Ab cb lb := (by first | (with_reducible exact BG.below HBb hbm) | (with_reducible exact BG.below (BG.alloc HBb _) hbm)); clear HBb; have HBb := HG2; clear HG2)); clear hbm; (try clear c0 c1); (try clear d0 d1); obtain ⟨c0, c1⟩ := HTW.out _ HKn; obtain ⟨d0, d1⟩ := HTW.out _ (Jx.alloc HKn (.cells #[.bool false, .slice none 0 0] 59))) | (go_at_call 25; (with_reducible refine (HPM.out _ _ _ _ _ (by first | exact HBa | exact BG.alloc HBa _) (by first | exact HBb | exact BG.alloc HBb _)).mono ?_); rintro e wp ⟨Ap, cp, rfl, HBp, hbp⟩; (have HKo := HKn); clear HKn; have HKn : Jx w b A B D wp := (by first | (with_reducible exact Jx.below HKo hbp) | (with_reducible exact Jx.below (Jx.drew HKo) hbp) | (with_reducible exact Jx.below (Jx.alloc HKo _) hbp) | (with_reducible exact Jx.below (Jx.alloc (Jx.drew HKo) _) hbp) | (with_reducible exact Jx.below (Jx.drew (Jx.alloc HKo _)) hbp)); (first | (have HX2 := Blk.blk_below HX hbp (Blk.blk_lt HX); clear HX; have HX := HX2; clear HX2) | (have HX2 := Blk.blk_below (box_drew HX) hbp (Blk.blk_lt (box_drew HX)); clear HX; have HX := HX2; clear HX2) | ((first | have HX9 := box_first hbp | have HX9 := box_firstd hbp); have HX : wp.heap[wr.heap.size]? = some (.cells #[.bool false, .slice none 0 0] 59 (0, 0)) := HX9; clear HX9; have HQ := Jx.lt HKo) | ((first | have HX9 := box_first hbp | have HX9 := box_firstd hbp); have HX : wp.heap[wx.heap.size]? = some (.cells #[.bool false, .slice none 0 0] 59 (0, 0)) := HX9; clear HX9; have HQ := Jx.lt HKo) | ((first | have HX9 := box_first hbp | have HX9 := box_firstd hbp); have HX : wp.heap[wy.heap.size]? = some (.cells #[.bool false, .slice none 0 0] 59 (0, 0)) := HX9; clear HX9; have HQ := Jx.lt HKo) | skip); clear HKo; clear hbp; (try clear c0 c1); (try clear d0 d1); obtain ⟨c0, c1⟩ := HTW.out _ HKn; obtain ⟨d0, d1⟩ := HTW.out _ (Jx.alloc HKn (.cells #[.bool false, .slice none 0 0] 59)); (try (have K0 := (Blk.blk_cell HX 0).trans (show _ = some (.bool z1) from rfl); have K1 := (Blk.blk_cell HX 1).trans (show _ = some (.slice Ap0 l1.length cp0) from rfl); have F0 := Blk.blk_frozen HX 0; have F1 := Blk.blk_frozen HX 1))))))
            all_goals (try go_wp2)
            all_goals (go_meet; exact JB_set HX HKn HBp HQ)
          case rest =>
            clear HKn HX c0 c1 HQ HO1 HO2 HPL HPM HTW HH1
            have HV := Lib.hid HJV.out
            have HVB := Lib.hid hb2
            clear HJV hb1 hb2
            obtain ⟨q, Ap, cp, rfl, HXq, HKq, HBq, hbq⟩ := hcut
            have k0 := (Blk.blk_cell HXq.out 0).trans (show _ = some (.bool z2) from rfl)
            have k1 := (Blk.blk_cell HXq.out 1).trans (show _ = some (.slice Ap l2.length cp) from rfl)
            go_wp2_with fail
            refine (HH2.out _ _ _ HBq.out).mono ?_
            rintro e wh ⟨rfl, hbh⟩
            have HKn := Jx.below HKq.out hbh
            clear hbh HXq HKq HBq k0 k1 hbq
            have hvb : -9223372036854775808 ≤ v2 ∧ v2 ≤ 9223372036854775807 := HVB.out
            have hF := HF.out
            rw [jF, HV.out] at hF
            clear HF
            by_cases h1 : v2 > 8
            · have q3 : decide (v2 > 8) = true := by simp; omega
              rw [if_pos (.inl h1)] at hF
              subst hF
              obtain ⟨r0, r1, r2, r3, r4⟩ := HKn.outs
              obtain ⟨z0, z1, z2, z3, z4⟩ := HKn.outz
              go_wp2_with fail
              refine bodyPost_ret (v := .tuple #[.agg (dC Z5), .bool false]) ?_ rfl ?_
              · exact resD Tryd.f14 rfl (S5 wh (b + 2) 0 0 0 0 0) (b + 2) Z5 rfl false _ rfl rfl (HKn.put 0 0 0 0 0).1
              · exact ⟨rfl, (HKn.put 0 0 0 0 0).2⟩
            · have q3 : decide (v2 > 8) = false := by simp; omega
              by_cases h2 : v2 < -8
              · have q4 : decide (v2 < -8) = true := by simp; omega
                rw [if_pos (.inr h2)] at hF
                subst hF
                obtain ⟨r0, r1, r2, r3, r4⟩ := HKn.outs
                obtain ⟨z0, z1, z2, z3, z4⟩ := HKn.outz
                go_wp2_with fail
                refine bodyPost_ret (v := .tuple #[.agg (dC Z5), .bool false]) ?_ rfl ?_
                · exact resD Tryd.f14 rfl (S5 wh (b + 2) 0 0 0 0 0) (b + 2) Z5 rfl false _ rfl rfl (HKn.put 0 0 0 0 0).1
                · exact ⟨rfl, (HKn.put 0 0 0 0 0).2⟩
              · have q4 : decide (v2 < -8) = false := by simp; omega
                rw [if_neg (by rintro (h | h); exact h1 h; exact h2 h)] at hF
                have HF2 := Lib.hid hF
                clear hF
                have y3 := (Blk.blk_cell HKn.2.2.2.2.1 i).trans (dC_at D i (by omega))
                have y4 := Blk.blk_frozen HKn.2.2.2.2.1 i
                have HKs := Lib.hid (HKn.set i v2)
                have HLs := Lib.hid (show (D.set i v2).length = 5 by rw [List.length_set]; exact hDl)
                go_wp2_with fail
                go_roundg g'
                case measure => omega
                case rel => exact ⟨i + 1, D.set i v2, by go_num, by omega, HLs, (by rw [q2]; exact HF2), HKs⟩
        · have q2 : decide (sg < 0) = false := by simpa using hsg
          rw [q2, if_neg (by decide)] at HJV
          rw [q2] at HF
          clear HTW HO1 HO2 HPL HPM HH2
          have HV := Lib.hid HJV.out
          have HVB := Lib.hid hb1
          clear HJV hb1 hb2
          obtain ⟨q, Ap, cp, rfl, HXq, HKq, HBq, hbq⟩ := hcut
          have k0 := (Blk.blk_cell HXq.out 0).trans (show _ = some (.bool z1) from rfl)
          have k1 := (Blk.blk_cell HXq.out 1).trans (show _ = some (.slice Ap l1.length cp) from rfl)
          go_wp2_with fail
          refine (HH1.out _ _ _ HBq.out).mono ?_
          rintro e wh ⟨rfl, hbh⟩
          have HKn := Jx.below HKq.out hbh
          clear hbh HXq HKq HBq k0 k1 hbq
          have hvb : -9223372036854775808 ≤ v1 ∧ v1 ≤ 9223372036854775807 := HVB.out
          have hF := HF.out
          rw [jF, HV.out] at hF
          clear HF
          by_cases h1 : v1 > 8
          · have q3 : decide (v1 > 8) = true := by simp; omega
            rw [if_pos (.inl h1)] at hF
            subst hF
            obtain ⟨r0, r1, r2, r3, r4⟩ := HKn.outs
            obtain ⟨z0, z1, z2, z3, z4⟩ := HKn.outz
            go_wp2_with fail
            refine bodyPost_ret (v := .tuple #[.agg (dC Z5), .bool false]) ?_ rfl ?_
            · exact resD Tryd.f14 rfl (S5 wh (b + 2) 0 0 0 0 0) (b + 2) Z5 rfl false _ rfl rfl (HKn.put 0 0 0 0 0).1
            · exact ⟨rfl, (HKn.put 0 0 0 0 0).2⟩
          · have q3 : decide (v1 > 8) = false := by simp; omega
            by_cases h2 : v1 < -8
            · have q4 : decide (v1 < -8) = true := by simp; omega
              rw [if_pos (.inr h2)] at hF
              subst hF
              obtain ⟨r0, r1, r2, r3, r4⟩ := HKn.outs
              obtain ⟨z0, z1, z2, z3, z4⟩ := HKn.outz
              go_wp2_with fail
              refine bodyPost_ret (v := .tuple #[.agg (dC Z5), .bool false]) ?_ rfl ?_
              · exact resD Tryd.f14 rfl (S5 wh (b + 2) 0 0 0 0 0) (b + 2) Z5 rfl false _ rfl rfl (HKn.put 0 0 0 0 0).1
              · exact ⟨rfl, (HKn.put 0 0 0 0 0).2⟩
            · have q4 : decide (v1 < -8) = false := by simp; omega
              rw [if_neg (by rintro (h | h); exact h1 h; exact h2 h)] at hF
              have HF2 := Lib.hid hF
              clear hF
              have y3 := (Blk.blk_cell HKn.2.2.2.2.1 i).trans (dC_at D i (by omega))
              have y4 := Blk.blk_frozen HKn.2.2.2.2.1 i
              have HKs := Lib.hid (HKn.set i v1)
              have HLs := Lib.hid (show (D.set i v1).length = 5 by rw [List.length_set]; exact hDl)
              go_wp2_with fail
              go_roundg g'
              case measure => omega
              case rel => exact ⟨i + 1, D.set i v1, by go_num, by omega, HLs, (by rw [q2]; exact HF2), HKs⟩
    · obtain rfl : gk = 0 := by omega
      obtain rfl : i = 5 := by omega
      have q0 : decide (((5 : Nat) : Int) < 5) = false := by decide
      have hF := HF.out
      rw [jF] at hF
      subst hF
      obtain ⟨d0, d1, d2, d3, d4, rfl⟩ := len5d hDl
      have HKn := HK.out
      obtain ⟨r0, r1, r2, r3, r4⟩ := HKn.outs
      obtain ⟨z0, z1, z2, z3, z4⟩ := HKn.outz
      have s0 := (Blk.blk_cell HKn.2.2.2.2.1 0).trans (show _ = some (.int .i64 d0) from rfl)
      have s1 := (Blk.blk_cell HKn.2.2.2.2.1 1).trans (show _ = some (.int .i64 d1) from rfl)
      have s2 := (Blk.blk_cell HKn.2.2.2.2.1 2).trans (show _ = some (.int .i64 d2) from rfl)
      have s3 := (Blk.blk_cell HKn.2.2.2.2.1 3).trans (show _ = some (.int .i64 d3) from rfl)
      have s4 := (Blk.blk_cell HKn.2.2.2.2.1 4).trans (show _ = some (.int .i64 d4) from rfl)
      clear HK HF
      go_wp2_with fail
      refine bodyPost_ret (v := .tuple #[.agg (dC [d0, d1, d2, d3, d4]), .bool true]) ?_ rfl ?_
      · exact resD Tryd.f14 rfl (S5 wr (b + 2) d0 d1 d2 d3 d4) (b + 2) [d0, d1, d2, d3, d4] rfl true _ rfl rfl (HKn.put d0 d1 d2 d3 d4).1
      · exact ⟨rfl, (HKn.put d0 d1 d2 d3 d4).2⟩
end Go.Proofs.YtdplfphgomckfaaDoor.Dk
