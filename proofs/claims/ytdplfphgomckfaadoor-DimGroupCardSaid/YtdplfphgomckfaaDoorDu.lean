/- dim.Text, walked. Conditions: as each theorem states. -/
import Derived.Test.YtdplfphgomckfaaDoorDt
import Derived.Test.YtdplfphgomckfaaDoorWMore
import Derived.Deep.RegionLaw
import Derived.Deep.RegionHeld3
namespace Go.Proofs.YtdplfphgomckfaaDoor.Du
set_option linter.unusedVariables false
set_option linter.unusedSimpArgs false
open Go.RowKit Go.Proofs.YtdplfphgomckfaaDoorW.PrintWords Go.Proofs.YtdplfphgomckfaaDoor.Laid Go.Proofs.YtdplfphgomckfaaDoor.Da Go.Proofs.YtdplfphgomckfaaDoor.Db Go.Proofs.YtdplfphgomckfaaDoor.Dt
theorem info9 : (Tryd.prog.info? 9).map (fun i => (i.zero, i.size, i.bytes)) = some (some (.string ⟨#[]⟩), 1, 16) := by kernel_rfl
theorem ix (x0 x1 x2 x3 x4 : Int) (d : List Int) (hx : d = [x0, x1, x2, x3, x4]) (q : Nat) (hq : q < 5) (W : World) : (Instr.index 24 (.agg #[.int .i64 x0, .int .i64 x1, .int .i64 x2, .int .i64 x3, .int .i64 x4]) (.int .i64 q)).run Tryd.prog W = .ok (.int .i64 (d.getD q 0)) W := by
  subst hx
  have i0 : (Instr.index 24 (.agg #[.int .i64 x0, .int .i64 x1, .int .i64 x2, .int .i64 x3, .int .i64 x4]) (.int .i64 0)).run Tryd.prog W = .ok (.int .i64 x0) W := by kernel_rfl
  have i1 : (Instr.index 24 (.agg #[.int .i64 x0, .int .i64 x1, .int .i64 x2, .int .i64 x3, .int .i64 x4]) (.int .i64 1)).run Tryd.prog W = .ok (.int .i64 x1) W := by kernel_rfl
  have i2 : (Instr.index 24 (.agg #[.int .i64 x0, .int .i64 x1, .int .i64 x2, .int .i64 x3, .int .i64 x4]) (.int .i64 2)).run Tryd.prog W = .ok (.int .i64 x2) W := by kernel_rfl
  have i3 : (Instr.index 24 (.agg #[.int .i64 x0, .int .i64 x1, .int .i64 x2, .int .i64 x3, .int .i64 x4]) (.int .i64 3)).run Tryd.prog W = .ok (.int .i64 x3) W := by kernel_rfl
  have i4 : (Instr.index 24 (.agg #[.int .i64 x0, .int .i64 x1, .int .i64 x2, .int .i64 x3, .int .i64 x4]) (.int .i64 4)).run Tryd.prog W = .ok (.int .i64 x4) W := by kernel_rfl
  have h : q = 0 ∨ q = 1 ∨ q = 2 ∨ q = 3 ∨ q = 4 := by omega
  rcases h with rfl | rfl | rfl | rfl | rfl
  · exact i0
  · exact i1
  · exact i2
  · exact i3
  · exact i4
theorem lit_one {α : Type} {W : World} {k : Nat} {t : TypeId} {fr : Nat × Nat} {R : α → List Value → Prop} (x : α) (cs : List Value) (hR : R x cs) (h : W.heap[k]? = some (.cells cs.toArray t fr)) : ReadsRow R cs.length W (some ⟨k, 0, none⟩) 1 [x] := by
  refine ⟨rfl, by omega, fun _ => ⟨_, rfl, fun j p hj => ?_⟩⟩
  have hj0 : j = 0 := by
    have := (List.getElem?_eq_some_iff.1 hj).1
    simp at this; exact this
  rw [hj0] at hj ⊢
  simp only [List.getElem?_cons_zero, Option.some.injEq] at hj
  subst hj
  refine ⟨cs, rfl, hR, fun i u hu => ?_⟩
  have := Blk.blk_cell h i
  rw [show (⟨k, 0, none⟩ : Addr).add (0 * cs.length + i) = ⟨k, i, none⟩ from by simp [Addr.add]; omega, this]
  simpa using hu
theorem row_base {α : Type} {d : Kd α} {e B : Nat} {ok : Nat → Prop} {W : World} {v : Value} {l : List α} (h : d.R e W B ok v l) : ∀ k, v.ownBlock = some k → B ≤ k := by
  intro k hk
  obtain ⟨inner, hown, _⟩ := h.2
  exact own_base hown k hk
theorem below_app {w wz w1 : World} {b : Nat} {o : Obj} {row : Option Nat} (h : Below b w wz) (hb : b ≤ wz.heap.size) (hgr : (wz.alloc o).grownBy w1 row) (hr : ∀ k, row = some k → b ≤ k) : Below b w w1 :=
  (h.alloc hb _).grown hgr (by simp; omega) hr
theorem bas_at (k : Nat) (h : k < 5) : basC[k]? = some (.string (bs (nmB k))) := by
  have : k = 0 ∨ k = 1 ∨ k = 2 ∨ k = 3 ∨ k = 4 := by omega
  rcases this with rfl | rfl | rfl | rfl | rfl <;> rfl
theorem pcs_len (d : List Int) : ∀ k, (pcs d k).length ≤ k
  | 0 => Nat.le_refl _
  | k + 1 => by
    have := pcs_len d k
    unfold pcs
    split
    · omega
    · rw [List.length_append, List.length_singleton]; omega
def rw_ (d : List Int) (k : Nat) : List ByteArray := (pcs d k).map bs
theorem rw_zero (d : List Int) (k : Nat) (h : d.getD k 0 = 0) : rw_ d (k + 1) = rw_ d k := by unfold rw_; rw [pcs, if_pos h]
theorem rw_more (d : List Int) (k : Nat) (h : ¬ d.getD k 0 = 0) : rw_ d (k + 1) = rw_ d k ++ [bs (piece k (d.getD k 0))] := by unfold rw_; rw [pcs, if_neg h, List.map_append]; rfl
theorem row_form {w : World} {base : Nat} {ok : Nat → Prop} {v : Value} {xs : List ByteArray} (h : Kd.R Kd.string 9 w base ok v xs) (hn : 0 < xs.length) :
    ∃ g c, v = .slice (some ⟨g, 0, none⟩) xs.length c ∧ g < w.heap.size ∧ xs.length ≤ c ∧ ∀ (j : Nat) x, xs[j]? = some x → w.cell? ⟨g, 0 + j, none⟩ = some (.string x) := by
  obtain ⟨inner, hown, _⟩ := h.2
  obtain ⟨g, c, hv, _, hg⟩ := World.ownsRow.form hown hn
  obtain ⟨A, c2, hv2, hle, hC⟩ := Kd.R_reads h
  rw [hv] at hv2
  injection hv2 with e1 e2 e3
  subst e3
  refine ⟨g, c, hv, hg, hle, fun j x hx => ?_⟩
  obtain ⟨ad, hA, hcell⟩ := hC.2.2 hn
  rw [← e1] at hA
  injection hA with hA
  subst hA
  obtain ⟨cs, hl, hK, hcc⟩ := hcell j x hx
  have hcs : cs = [.string x] := hK
  subst hcs
  have := hcc 0 _ rfl
  rw [show (⟨g, 0, none⟩ : Addr).add (j * Kd.string.sz + 0) = ⟨g, 0 + j, none⟩ from by
    show (⟨g, 0, none⟩ : Addr).add (j * 1 + 0) = _
    cases j <;> simp [Addr.add]] at this
  exact this
theorem map_back (ps : List (List UInt8)) : (ps.map bs).map (·.data.toList) = ps := by
  rw [List.map_map]
  induction ps with
  | nil => rfl
  | cons a r ih => rw [List.map_cons, ih]; rfl
set_option maxHeartbeats 8000000 in
set_option maxRecDepth 100000 in
theorem text_any (d : List Int) (hd : OkD d) (x0 x1 x2 x3 x4 : Int) (hx : d = [x0, x1, x2, x3, x4]) (w : World) (hL : LaidB w) : Calls Tryd.prog 15 #[.agg #[.int .i64 x0, .int .i64 x1, .int .i64 x2, .int .i64 x3, .int .i64 x4]] w (XPost w (bs (textL d))) := by
  have HL := Lib.hid hL
  have HD := Lib.hid hd
  have hdl : d.length = 5 := hd.1
  have HIX := Lib.hid (ix x0 x1 x2 x3 x4 d hx)
  obtain ⟨b, hb⟩ : ∃ b, w.heap.size = b := ⟨_, rfl⟩
  have HB0 := Lib.hid ((Below.refl w.heap.size w).alloc (Nat.le_refl _) (.cells #[.int .i64 x0, .int .i64 x1, .int .i64 x2, .int .i64 x3, .int .i64 x4] 24))
  have HR0 := Lib.hid (Kd.R_nil (Kd.string) 9 (w.alloc (.cells #[.int .i64 x0, .int .i64 x1, .int .i64 x2, .int .i64 x3, .int .i64 x4] 24)) b (fun _ => True))
  clear hL hd hx
  go_enter Tryd.func15, Tryd.ntmps15
  go_wp2_with fail
  obtain ⟨AG, hAG⟩ : ∃ a : Array Value, #[.int .i64 x0, .int .i64 x1, .int .i64 x2, .int .i64 x3, .int .i64 x4] = a := ⟨_, rfl⟩
  simp only [hAG] at HIX HB0 HR0 ⊢
  clear hAG
  have HSZ := Lib.hid hb
  clear hb
  go_loopg [3, 7] 5 (fun gf v3 v7 wx => ∃ (q : Nat), v7 = .int .i64 q ∧ q + gf = 5 ∧ Hid (Kd.R Kd.string 9 wx b (fun _ => True) v3 (rw_ d q)) ∧ Hid (Below w.heap.size w wx))
  case atStart => exact ⟨0, rfl, by omega, HR0, HB0⟩
  case round =>
    clear HR0 HB0
    obtain ⟨q, rfl, hq, HR, HB⟩ := hrel
    obtain ⟨Af, cf, ef⟩ := Kd.R_slice HR.out
    subst ef
    have hrl : (rw_ d q).length ≤ q := by unfold rw_; rw [List.length_map]; exact pcs_len d q
    obtain ⟨XS, hXS⟩ : ∃ X, rw_ d q = X := ⟨_, rfl⟩
    rw [hXS] at HR hrl ⊢
    have HXS := Lib.hid hXS
    clear hXS
    by_cases hlt : q < 5
    · obtain ⟨g', rfl⟩ : ∃ g', gk = g' + 1 := ⟨gk - 1, by omega⟩
      have q0 : decide ((q : Int) < 5) = true := by simp; omega
      have hn := okD_at HD.out q hlt
      have hidx := HIX.out q hlt
      obtain ⟨n, hnn⟩ : ∃ n, d.getD q 0 = n := ⟨_, rfl⟩
      rw [hnn] at hidx hn
      have HNN := Lib.hid hnn
      clear hnn
      have hbl := HB.out.size
      by_cases h0 : n = 0
      · have HX := Lib.hid (rw_zero d q (by rw [HNN.out]; exact h0))
        have e0 : (n == 0) = true := by simpa using h0
        subst h0
        go_wp2_with fail
        go_roundg g'
        case measure => omega
        case rel => exact ⟨q + 1, by go_num, by omega, Lib.hid (by rw [HX.out, HXS.out]; exact HR.out), HB⟩
      · have e0 : (n == 0) = false := by simpa using h0
        have HX := Lib.hid (rw_more d q (by rw [HNN.out]; exact h0))
        have y2 := ((HL.out.below HB.out).bases_cell q).trans (bas_at q hlt)
        obtain ⟨N, hN⟩ : ∃ N, bs (nmB q) = N := ⟨_, rfl⟩
        have hNs : N.size ≤ 4 := by rw [← hN, bs_size]; exact nm_len q hlt
        rw [hN] at y2
        have HN := Lib.hid hN
        clear hN
        by_cases h1 : n = 1
        · have e1 : (n == 1) = true := by simpa using h1
          subst h1
          go_wp2_with (at_builtin; refine Kd.R_append Kd.string (w0 := w) b rfl (.tmp 26) (.tmp 30) 64 9 (.string ⟨#[]⟩) 16 rfl Tryd.underlying64 info9 rfl (by decide) (by omega) (.slice Af XS.length cf) XS N [.string N] (fun _ => True) (fun _ => False) rfl rfl ?_ (fun _ hk => hk.elim) (fun _ _ => trivial) HR.out (by rw [← HSZ.out]; exact HB.out) (by rw [← HSZ.out]; exact hbl) (by omega) ?_; (exact rfl); intro v1_ w1_ ho hb1 hgr hat; obtain ⟨A1, c1_, e1_⟩ := Kd.R_slice ho; subst e1_; have HO := Lib.hid ho; have HB1 := Lib.hid hb1; clear ho hb1 hgr hat)
          go_roundg g'
          case measure => omega
          case rel => exact ⟨q + 1, by go_num, by omega, Lib.hid (by rw [HX.out, HXS.out, HNN.out, show bs (piece q 1) = N from by unfold piece; rw [if_pos rfl]; exact HN.out]; have h := HO.out; simp only [List.length_append, List.length_cons, List.length_nil, Nat.zero_add] at h; exact h), Lib.hid (by rw [HSZ.out]; exact HB1.out)⟩
        · have e1 : (n == 1) = false := by simpa using h1
          have hI := itoa_any n hn.1 hn.2
          have hIl := Lib.itoa_length_le n hn.1 hn.2
          obtain ⟨I, hII⟩ : ∃ I, bs (Lib.itoa n) = I := ⟨_, rfl⟩
          have hIs : I.size ≤ 21 := by rw [← hII, bs_size]; exact hIl
          simp only [hII] at hI
          have HI := Lib.hid hI
          have HPC := Lib.hid (show bs (piece q n) = N ++ (⟨#[94]⟩ : ByteArray) ++ I from by
            unfold piece
            rw [if_neg h1, ← HN.out, ← hII, show (⟨#[94]⟩ : ByteArray) = bs [94] from rfl, bs_app, bs_app, List.append_assoc]; rfl)
          have HLD := Lib.hid ((HL.out.below HB.out).1.below (Below.refl wr.heap.size wr).drew)
          have HRD := Lib.hid (Kd.R_drew HR.out)
          have HBD := Lib.hid HB.out.drew
          have HBAS := Lib.hid (fun (W : World) (hb : Below wr.drew.heap.size wr.drew W) => (((HL.out.below HB.out).below ((Below.refl wr.heap.size wr).drew)).below hb).bases_cell q |>.trans ((bas_at q hlt).trans (by rw [HN.out])))
          have hqI : (q : Int) < 5 := by omega
          have hqJ : (0 : Int) ≤ (q : Int) := by omega
          have hc1 : (9223372036854775807 < N.size + 1) = False := eq_false (by omega)
          have hc2 : (9223372036854775807 < N.size + 1 + I.size) = False := eq_false (by omega)
          have hc3 : (N.size + 1 ≤ 9223372036854775807) = True := eq_true (by omega)
          have hc4 : (N.size + 1 + I.size ≤ 9223372036854775807) = True := eq_true (by omega)
          clear hI hIl hII
          go_wp2_with fail
          go_region_law (first | (refine Kd.R_append_rows_step Kd.string (Rr := (fun x cs => cs = [Value.string x])) (w0 := wz.alloc (.cells #[.string (N ++ (⟨#[94]⟩ : ByteArray) ++ I)] 9)) b (by rfl) (.tmp 12) (.tmp 20) 64 9 (.string ⟨#[]⟩) 16 (by rfl) Tryd.underlying64 info9 rfl ?_ ?_ (.slice Af XS.length cf) XS [N ++ (⟨#[94]⟩ : ByteArray) ++ I] (some ⟨wz.heap.size, 0, none⟩) 1 1 (fun _ => True) (fun _ => False) ?_ ?_ ?_ ?_ ?_ ?_ ?_ ?_ ?_ ?_ ?_; decide; decide; rfl; rfl; exact Kd.R_alloc HRZ.out _; exact lit_one _ [.string (N ++ (⟨#[94]⟩ : ByteArray) ++ I)] rfl (Blk.blk_new _ _); exact fun _ _ h => h; exact fun _ h => h.elim; exact fun _ _ => trivial; exact Below.refl _ _; (simp; omega); omega; intro v1_ w1_ ho hb1 hgr hown; obtain ⟨A1, c1_, e1_⟩ := Kd.R_slice ho; subst e1_; have HO := Lib.hid ho; have HB1 := Lib.hid (below_app HBZ.out hbz hgr (row_base HRZ.out)); clear ho hb1 hgr hown) | (go_simp; go_wp2_with (go_at_call 29; refine (HI.out _ ?_).mono ?_; (exact HLD.out); rintro e wz ⟨rfl, hb3⟩; have yz := HBAS.out _ hb3; have HRZ := Lib.hid (Kd.R_below HRD.out hb3); have HBZ := Lib.hid (show Below b w wz from by rw [← HSZ.out]; exact Blk.below_then HBD.out hb3 HBD.out.size); have hbz : b ≤ wz.heap.size := (by have h8 := HBZ.out.size; have h9 := HSZ.out; omega); clear hb3)))
          all_goals (try go_wp2)
          all_goals (go_roundg g'; (case measure => omega); (case rel => exact ⟨q + 1, by go_num, by omega, Lib.hid (by rw [HX.out, HXS.out, HNN.out, HPC.out]; have h := HO.out; simp only [List.length_append, List.length_cons, List.length_nil, Nat.zero_add] at h; exact h), Lib.hid (by rw [HSZ.out]; exact HB1.out)⟩))
    · obtain rfl : q = 5 := by omega
      have q0 : decide (((5 : Nat) : Int) < 5) = false := by decide
      clear hlt hq
      by_cases h0 : XS.length = 0
      · have e0 : ((XS.length : Int) == 0) = true := by rw [h0]; rfl
        have HE := Lib.hid (show textL d = [49] from by
          unfold textL
          rw [if_pos]
          have := HXS.out
          unfold rw_ at this
          have h2 : (pcs d 5).length = 0 := by rw [← List.length_map (f := bs), this]; exact h0
          exact List.length_eq_zero_iff.1 h2)
        have HZ := Lib.hid h0
        clear h0
        go_wp2_with fail
        go_ret
        exact ⟨by rw [HE.out]; rfl, HB.out⟩
      · obtain ⟨g, c, hv, hg, hle, hcells⟩ := row_form HR.out (by omega)
        injection hv with f1 f2 f3
        subst f1 f3
        have hj : Lib.join (XS.map (·.data.toList)) [42] = textL d := by
          rw [← HXS.out]
          unfold rw_ textL
          rw [map_back, if_neg (fun h => by have h3 := HXS.out; unfold rw_ at h3; rw [h] at h3; rw [← h3] at h0; exact h0 rfl)]
          rfl
        have hlen : (Lib.join (XS.map (·.data.toList)) [42]).length ≤ 140737488355328 := by
          rw [hj]
          have h4 := txt_len d HD.out 5 (by omega)
          unfold textL
          split
          · decide
          · omega
        have hjc := Tryd.strings_Join g 0 cf XS ⟨#[42]⟩ wr hcells hg (by omega) hle (by exact hlen)
        have hjj : (⟨(Lib.join (XS.map (·.data.toList)) (⟨#[42]⟩ : ByteArray).data.toList).toArray⟩ : ByteArray) = bs (textL d) := by
          show bs (Lib.join (XS.map (·.data.toList)) [42]) = _
          rw [hj]
        rw [hjj] at hjc
        have HJ := Lib.hid hjc
        have e0 : ((XS.length : Int) == 0) = false := beq_eq_false_iff_ne.mpr (by omega)
        clear h0 hjc hjj hlen hj hcells hle hg f2
        go_wp2_with fail
        refine HJ.out.mono ?_
        rintro e w3 ⟨rfl, hb3⟩
        have HB3 := Lib.hid (Blk.below_then HB.out hb3 HB.out.size)
        clear hb3
        obtain ⟨TT, hTT⟩ : ∃ T, bs (textL d) = T := ⟨_, rfl⟩
        simp only [hTT]
        have HTT := Lib.hid hTT
        clear hTT
        go_wp2_with fail
        go_ret
        exact ⟨by rw [HTT.out]; rfl, HB3.out⟩
end Go.Proofs.YtdplfphgomckfaaDoor.Du
