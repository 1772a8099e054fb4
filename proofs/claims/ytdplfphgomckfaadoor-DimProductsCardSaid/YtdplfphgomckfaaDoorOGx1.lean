/- Walks of functions, written by a program (wip/tools/own.py) over hand contracts; conditions: as each theorem states. -/
import Derived.ChangeKeysEq
import Derived.Test.YtdplfphgomckfaaDoorOGx0
namespace Go.Proofs.YtdplfphgomckfaaDoor.OG
open Go.RowKit Go.Proofs.YtdplfphgomckfaaDoorW.PrintWords Go.Proofs.YtdplfphgomckfaaDoorW.PrintLast Go.Proofs.YtdplfphgomckfaaDoorW.PrintMore
attribute [local go_sem] max2_int min2_int max_two min_two max_three min_three max_four min_four   -- for this text's walks alone
set_option linter.unusedVariables false
set_option linter.unusedSimpArgs false

section
variable {P : Program} {w : World} {d : Nat} {xs ys : Array Value} {e : TypeId} {n i : Nat} {is : List Nat} {a b : Value} {r s : Bool}
theorem eqi_nil : (Op.eqItems d e n xs ys []).run P w = .ok true w := by simp [Op.eqItems]
theorem eqi_cons (ha : (part e xs (i * n)).run P w = .ok a w) (hb : (part e ys (i * n)).run P w = .ok b w) (he : (Op.equalIn d e a b).run P w = .ok r w) (hr : (Op.eqItems d e n xs ys is).run P w = .ok s w) : (Op.eqItems d e n xs ys (i :: is)).run P w = .ok (r && s) w := by
  simp only [Op.eqItems, Sem.run_bind, ha, hb, he, Result.andThen_ok]
  cases r
  · simp
  · simpa using hr
end
set_option maxRecDepth 100000 in
theorem eqA24 (d : Nat) (w : World) (x0 y0 : Int) (x1 y1 : Int) (x2 y2 : Int) (x3 y3 : Int) (x4 y4 : Int) :
    (Op.equalIn (d + 2) 24 (.agg #[.int .i64 x0, .int .i64 x1, .int .i64 x2, .int .i64 x3, .int .i64 x4]) (.agg #[.int .i64 y0, .int .i64 y1, .int .i64 y2, .int .i64 y3, .int .i64 y4])).run Tryd.prog w = .ok (x0 == y0 && (x1 == y1 && (x2 == y2 && (x3 == y3 && (x4 == y4))))) w := by
  obtain ⟨i, hi⟩ : ∃ i, Tryd.prog.info? 3 = some i := Option.isSome_iff_exists.1 (by kernel_rfl)
  rw [run_equalIn_array (P := Tryd.prog) (w := w) (d + 1) _ _ Tryd.underlying24 hi, show Tryd.prog.cellsOf 3 = 1 from by kernel_rfl]
  have e5 : (x4 == y4) = (x4 == y4 && true) := by simp
  rw [show List.range 5 = [0, 1, 2, 3, 4] from rfl, e5]
  clear e5
  refine eqi_cons (by go_simp; rfl) (by go_simp; rfl) (by go_simp) ?_
  refine eqi_cons (by go_simp; rfl) (by go_simp; rfl) (by go_simp) ?_
  refine eqi_cons (by go_simp; rfl) (by go_simp; rfl) (by go_simp) ?_
  refine eqi_cons (by go_simp; rfl) (by go_simp; rfl) (by go_simp) ?_
  exact eqi_cons (a := .int .i64 x4) (b := .int .i64 y4) (r := x4 == y4) (s := true) (by go_simp) (by go_simp) (by go_simp) eqi_nil


theorem eqA26 (d : Nat) (w : World) (x0 y0 : Int) (x1 y1 : Int) (x2 y2 : Int) (x3 y3 : Int) (x4 y4 : Int) (x5 y5 : Int) (x6 y6 : Int) :
    (Op.equalIn (d + 3) 26 (.agg #[.int .i64 x0, .int .i64 x1, .int .i64 x2, .int .i64 x3, .int .i64 x4, .int .i64 x5, .int .i64 x6]) (.agg #[.int .i64 y0, .int .i64 y1, .int .i64 y2, .int .i64 y3, .int .i64 y4, .int .i64 y5, .int .i64 y6])).run Tryd.prog w = .ok (x0 == y0 && (x1 == y1 && ((x2 == y2 && (x3 == y3 && (x4 == y4 && (x5 == y5 && (x6 == y6)))))))) w := by
  refine eqA_of Tryd.underlying26 (by kernel_rfl) ?_
  refine eqf_cons (by rfl) (by go_simp; rfl) (by go_simp; rfl) (by go_simp) ?_
  refine eqf_cons (by rfl) (by go_simp; rfl) (by go_simp; rfl) (by go_simp) ?_
  exact eqf_last (by rfl) (by go_simp) (by go_simp) (eqA24 (d + 0) w _ _ _ _ _ _ _ _ _ _)


-- BY HAND: function 10 (De.Read)



attribute [local go_sem high] eqA26
/-! ### capstanlaw02_awake: function 9 -/
def capstanlaw02_awake.f (k : Nat)  : Option (Bool) := (De.Read.f k (⟨#[107, 114, 101, 113, 47, 109, 105, 110]⟩ : ByteArray)).bind fun bt101 => (if (bt101.1 == 50 && (bt101.2.1 == 3 && ((bt101.2.2.1 == (-1) && (bt101.2.2.2.1 == 1 && (bt101.2.2.2.2.1 == 0 && (bt101.2.2.2.2.2.1 == 0 && (bt101.2.2.2.2.2.2.1 == 0)))))))) = true then (if bt101.2.2.2.2.2.2.2.1 = 0 then (some (bt101.2.2.2.2.2.2.2.2 == 0)) else (some false)) else (some false))
theorem capstanlaw02_awake.mono : ∀ k, LeO (capstanlaw02_awake.f k ) (capstanlaw02_awake.f (k + 1) ) := by
  intro  k
  unfold capstanlaw02_awake.f
  repeat' first
      | (with_reducible exact De.Read.mono _ _)
      | (with_reducible exact LeO.refl _)
      | (with_reducible exact LeO.none _)
      | (with_reducible refine LeO.ite ?_ ?_)
      | (with_reducible refine LeO.bind ?_ (fun _ => ?_))
      | exact De.Read.mono _ _
      | exact LeO.none _
      | refine LeO.ite ?_ ?_
      | refine LeO.bind ?_ (fun _ => ?_)
set_option maxHeartbeats 8000000 in
set_option maxRecDepth 100000 in
theorem capstanlaw02_awake.calls (k : Nat)  (r : Bool) (w : World) (h : capstanlaw02_awake.f k  = some r) (hL_ : Go.Proofs.YtdplfphgomckfaaDoor.Laid.Laid w) :
    Calls Tryd.prog 9 #[] w fun e w' => e = .returned (.bool r) ∧ Below w.heap.size w w' := by
  have HL_ := Aside0.mk hL_
  clear hL_
  have hu26 := Tryd.underlying26
  have hu24 := Tryd.underlying24
  have HB := Aside0.mk (Below.refl w.heap.size w)
  have H : ((De.Read.f k (⟨#[107, 114, 101, 113, 47, 109, 105, 110]⟩ : ByteArray)).bind fun bt101 => (if (bt101.1 == 50 && (bt101.2.1 == 3 && ((bt101.2.2.1 == (-1) && (bt101.2.2.2.1 == 1 && (bt101.2.2.2.2.1 == 0 && (bt101.2.2.2.2.2.1 == 0 && (bt101.2.2.2.2.2.2.1 == 0)))))))) = true then (if bt101.2.2.2.2.2.2.2.1 = 0 then (some (bt101.2.2.2.2.2.2.2.2 == 0)) else (some false)) else (some false))) = some r := h
  clear h
  replace H := Option.bind_eq_some_iff.mp H
  obtain ⟨⟨t101, t102, t103, t104, t105, t106, t107, t108, t109⟩, A10, H⟩ := H
  replace H : (if (t101 == 50 && (t102 == 3 && ((t103 == (-1) && (t104 == 1 && (t105 == 0 && (t106 == 0 && (t107 == 0)))))))) = true then (if t108 = 0 then (some (t109 == 0)) else (some false)) else (some false)) = some r := H
  have A1 := Aside0.mk A10
  clear A10
  by_cases c2 : (t101 == 50 && (t102 == 3 && ((t103 == (-1) && (t104 == 1 && (t105 == 0 && (t106 == 0 && (t107 == 0)))))))) = true
  · rw [if_pos c2] at H
    have c2b0 : (t101 == 50 && (t102 == 3 && ((t103 == (-1) && (t104 == 1 && (t105 == 0 && (t106 == 0 && (t107 == 0)))))))) = true := c2
    (try (have c2b1 : decide (t101 = 50 && (t102 == 3 && ((t103 == (-1) && (t104 == 1 && (t105 == 0 && (t106 == 0 && (t107 == 0)))))))) = true := by simpa using c2))
    (try (have c2b2 : (t101 == 50 && (t102 == 3 && ((t103 == (-1) && (t104 == 1 && (t105 == 0 && (t106 == 0 && (t107 == 0)))))))) = true := by simpa using c2))
    clear c2
    by_cases c3 : t108 = 0
    · rw [if_pos c3] at H
      have c3b0 : (t108 == 0) = true := beq_iff_eq.mpr c3
      have c3b1 : (t108 != 0) = false := bne_eq_false_iff_eq.mpr c3
      clear c3
      obtain rfl := Option.some.inj H
      go_enter Tryd.func9, Tryd.ntmps9
      go_wp2_with (first | ((with_reducible refine gate_callee (f := 10) rfl ?_); refine goesL_ (some 5) rfl rfl Tryd.func10 (by kernel_rfl) rfl #[.string (⟨#[107, 114, 101, 113, 47, 109, 105, 110]⟩ : ByteArray)] rfl (by (try simp only [List.map_toArray, List.map_cons, List.map_nil]); first | done | rfl | (simp only [List.length_drop, List.length_take]; rfl)) ?_; (with_reducible refine (De.Read.calls k (⟨#[107, 114, 101, 113, 47, 109, 105, 110]⟩ : ByteArray) t101 t102 t103 t104 t105 t106 t107 t108 t109 _ A1.out (by first | exact HL_.out | exact Go.Proofs.YtdplfphgomckfaaDoor.Laid.Laid.below HL_.out (by repeat (first | (with_reducible first | exact HB.out | exact Below.refl _ _ | exact (‹Aside0 (Below _ _ _)›).out | apply below_alloc | apply pw_below_drewN | apply below_drew1 | refine Below.setCell ?_ (Aside0.out (by assumption)) _) | exact HB.out | exact (‹Aside0 (Below _ _ _)›).out)))).mono ?_); rintro e w4 ⟨rfl, hb⟩; refine ⟨_, rfl, ?_⟩; have n0_ := Aside0.mk (below_step (by repeat (first | (with_reducible first | exact HB.out | apply below_alloc | apply pw_below_drewN | apply below_drew1) | exact HB.out)) hb); clear HB; have HB := n0_; clear n0_; (try clear hb); (try clear hb2); (try clear hk); (try clear hi)) | ((with_reducible refine gate_dst (N := 1) rfl ?_); refine box_event ?hg (N := 1) ?hd (cs := #[.int .i64 0, .int .i64 0, .int .i64 0, .int .i64 0, .int .i64 0, .int .i64 0, .int .i64 0]) (t := 26) ?hr ?_; (case hd => rfl); (case hg => rfl); (case hr => first | (go_simp; done) | (go_simp; rfl)); intro gb110 hg w5 hbox hb; have n0_ := Aside0.mk (below_step (by repeat (first | (with_reducible first | exact HB.out | apply below_alloc | apply pw_below_drewN | apply below_drew1) | exact HB.out)) hb); have n1_ := Aside0.mk (hbox); have n2_ := Aside0.mk ((by rw [hg]; exact (below_size (by repeat (first | (with_reducible first | exact HB.out | apply below_alloc | apply pw_below_drewN | apply below_drew1) | exact HB.out))) : w.heap.size ≤ gb110)); have n3_ := Aside0.mk ((by rw [hg]; exact (below_size (by repeat (first | (with_reducible first | exact HB.out | apply below_alloc | apply pw_below_drewN | apply below_drew1) | exact HB.out))) : w.heap.size ≤ gb110)); clear HB; have HB := n0_; have BK110 := n1_; have GW110 := n2_; have GE110 := n3_; clear n0_ n1_ n2_ n3_; clear hb hbox hg; have hcz6_0 : w5.cell? ⟨gb110, 0, none⟩ = some (.int .i64 0) := (blk_cell BK110.out 0).trans rfl; have hcz6_1 : w5.cell? ⟨gb110, 1, none⟩ = some (.int .i64 0) := (blk_cell BK110.out 1).trans rfl; have hcz6_2 : w5.cell? ⟨gb110, 2, none⟩ = some (.int .i64 0) := (blk_cell BK110.out 2).trans rfl; have hcz6_3 : w5.cell? ⟨gb110, 3, none⟩ = some (.int .i64 0) := (blk_cell BK110.out 3).trans rfl; have hcz6_4 : w5.cell? ⟨gb110, 4, none⟩ = some (.int .i64 0) := (blk_cell BK110.out 4).trans rfl; have hcz6_5 : w5.cell? ⟨gb110, 5, none⟩ = some (.int .i64 0) := (blk_cell BK110.out 5).trans rfl; have hcz6_6 : w5.cell? ⟨gb110, 6, none⟩ = some (.int .i64 0) := (blk_cell BK110.out 6).trans rfl; have hfz6_0 := blk_frozen BK110.out 0; have hfz6_1 := blk_frozen BK110.out 1; have hfz6_2 := blk_frozen BK110.out 2; have hfz6_3 := blk_frozen BK110.out 3; have hfz6_4 := blk_frozen BK110.out 4; have hfz6_5 := blk_frozen BK110.out 5; have hfz6_6 := blk_frozen BK110.out 6))
      go_ret
      exact ⟨by first | rfl | (simp [errW_none, errW_some] <;> rfl) | (simp [*, errW_none, errW_some] <;> rfl), by repeat (first | (with_reducible first | exact HB.out | apply below_alloc | apply pw_below_drewN | apply below_drew1 | refine below_set ?_ GE110.out) | exact HB.out)⟩
    · rw [if_neg c3] at H
      have c3b0 : (t108 == 0) = false := beq_eq_false_iff_ne.mpr c3
      have c3b1 : (t108 != 0) = true := bne_iff_ne.mpr c3
      obtain rfl := Option.some.inj H
      go_enter Tryd.func9, Tryd.ntmps9
      go_wp2_with (first | ((with_reducible refine gate_callee (f := 10) rfl ?_); refine goesL_ (some 5) rfl rfl Tryd.func10 (by kernel_rfl) rfl #[.string (⟨#[107, 114, 101, 113, 47, 109, 105, 110]⟩ : ByteArray)] rfl (by (try simp only [List.map_toArray, List.map_cons, List.map_nil]); first | done | rfl | (simp only [List.length_drop, List.length_take]; rfl)) ?_; (with_reducible refine (De.Read.calls k (⟨#[107, 114, 101, 113, 47, 109, 105, 110]⟩ : ByteArray) t101 t102 t103 t104 t105 t106 t107 t108 t109 _ A1.out (by first | exact HL_.out | exact Go.Proofs.YtdplfphgomckfaaDoor.Laid.Laid.below HL_.out (by repeat (first | (with_reducible first | exact HB.out | exact Below.refl _ _ | exact (‹Aside0 (Below _ _ _)›).out | apply below_alloc | apply pw_below_drewN | apply below_drew1 | refine Below.setCell ?_ (Aside0.out (by assumption)) _) | exact HB.out | exact (‹Aside0 (Below _ _ _)›).out)))).mono ?_); rintro e w7 ⟨rfl, hb⟩; refine ⟨_, rfl, ?_⟩; have n0_ := Aside0.mk (below_step (by repeat (first | (with_reducible first | exact HB.out | apply below_alloc | apply pw_below_drewN | apply below_drew1) | exact HB.out)) hb); clear HB; have HB := n0_; clear n0_; (try clear hb); (try clear hb2); (try clear hk); (try clear hi)) | ((with_reducible refine gate_dst (N := 1) rfl ?_); refine box_event ?hg (N := 1) ?hd (cs := #[.int .i64 0, .int .i64 0, .int .i64 0, .int .i64 0, .int .i64 0, .int .i64 0, .int .i64 0]) (t := 26) ?hr ?_; (case hd => rfl); (case hg => rfl); (case hr => first | (go_simp; done) | (go_simp; rfl)); intro gb110 hg w8 hbox hb; have n0_ := Aside0.mk (below_step (by repeat (first | (with_reducible first | exact HB.out | apply below_alloc | apply pw_below_drewN | apply below_drew1) | exact HB.out)) hb); have n1_ := Aside0.mk (hbox); have n2_ := Aside0.mk ((by rw [hg]; exact (below_size (by repeat (first | (with_reducible first | exact HB.out | apply below_alloc | apply pw_below_drewN | apply below_drew1) | exact HB.out))) : w.heap.size ≤ gb110)); have n3_ := Aside0.mk ((by rw [hg]; exact (below_size (by repeat (first | (with_reducible first | exact HB.out | apply below_alloc | apply pw_below_drewN | apply below_drew1) | exact HB.out))) : w.heap.size ≤ gb110)); clear HB; have HB := n0_; have BK110 := n1_; have GW110 := n2_; have GE110 := n3_; clear n0_ n1_ n2_ n3_; clear hb hbox hg; have hcz9_0 : w8.cell? ⟨gb110, 0, none⟩ = some (.int .i64 0) := (blk_cell BK110.out 0).trans rfl; have hcz9_1 : w8.cell? ⟨gb110, 1, none⟩ = some (.int .i64 0) := (blk_cell BK110.out 1).trans rfl; have hcz9_2 : w8.cell? ⟨gb110, 2, none⟩ = some (.int .i64 0) := (blk_cell BK110.out 2).trans rfl; have hcz9_3 : w8.cell? ⟨gb110, 3, none⟩ = some (.int .i64 0) := (blk_cell BK110.out 3).trans rfl; have hcz9_4 : w8.cell? ⟨gb110, 4, none⟩ = some (.int .i64 0) := (blk_cell BK110.out 4).trans rfl; have hcz9_5 : w8.cell? ⟨gb110, 5, none⟩ = some (.int .i64 0) := (blk_cell BK110.out 5).trans rfl; have hcz9_6 : w8.cell? ⟨gb110, 6, none⟩ = some (.int .i64 0) := (blk_cell BK110.out 6).trans rfl; have hfz9_0 := blk_frozen BK110.out 0; have hfz9_1 := blk_frozen BK110.out 1; have hfz9_2 := blk_frozen BK110.out 2; have hfz9_3 := blk_frozen BK110.out 3; have hfz9_4 := blk_frozen BK110.out 4; have hfz9_5 := blk_frozen BK110.out 5; have hfz9_6 := blk_frozen BK110.out 6))
      go_ret
      exact ⟨by first | rfl | (simp [errW_none, errW_some] <;> rfl) | (simp [*, errW_none, errW_some] <;> rfl), by repeat (first | (with_reducible first | exact HB.out | apply below_alloc | apply pw_below_drewN | apply below_drew1 | refine below_set ?_ GE110.out) | exact HB.out)⟩
  · rw [if_neg c2] at H
    have c2b0 : (t101 == 50 && (t102 == 3 && ((t103 == (-1) && (t104 == 1 && (t105 == 0 && (t106 == 0 && (t107 == 0)))))))) = false := by simpa using c2
    (try (have c2b1 : decide (t101 = 50 && (t102 == 3 && ((t103 == (-1) && (t104 == 1 && (t105 == 0 && (t106 == 0 && (t107 == 0)))))))) = false := by simpa using c2))
    (try (have c2b2 : (t101 == 50 && (t102 == 3 && ((t103 == (-1) && (t104 == 1 && (t105 == 0 && (t106 == 0 && (t107 == 0)))))))) = false := by simpa using c2))
    (try (have c2b3 : ¬ (t101 = 50 && (t102 == 3 && ((t103 == (-1) && (t104 == 1 && (t105 == 0 && (t106 == 0 && (t107 == 0)))))))) := by simpa using c2))
    clear c2
    obtain rfl := Option.some.inj H
    go_enter Tryd.func9, Tryd.ntmps9
    go_wp2_with (first | ((with_reducible refine gate_callee (f := 10) rfl ?_); refine goesL_ (some 5) rfl rfl Tryd.func10 (by kernel_rfl) rfl #[.string (⟨#[107, 114, 101, 113, 47, 109, 105, 110]⟩ : ByteArray)] rfl (by (try simp only [List.map_toArray, List.map_cons, List.map_nil]); first | done | rfl | (simp only [List.length_drop, List.length_take]; rfl)) ?_; (with_reducible refine (De.Read.calls k (⟨#[107, 114, 101, 113, 47, 109, 105, 110]⟩ : ByteArray) t101 t102 t103 t104 t105 t106 t107 t108 t109 _ A1.out (by first | exact HL_.out | exact Go.Proofs.YtdplfphgomckfaaDoor.Laid.Laid.below HL_.out (by repeat (first | (with_reducible first | exact HB.out | exact Below.refl _ _ | exact (‹Aside0 (Below _ _ _)›).out | apply below_alloc | apply pw_below_drewN | apply below_drew1 | refine Below.setCell ?_ (Aside0.out (by assumption)) _) | exact HB.out | exact (‹Aside0 (Below _ _ _)›).out)))).mono ?_); rintro e w10 ⟨rfl, hb⟩; refine ⟨_, rfl, ?_⟩; have n0_ := Aside0.mk (below_step (by repeat (first | (with_reducible first | exact HB.out | apply below_alloc | apply pw_below_drewN | apply below_drew1) | exact HB.out)) hb); clear HB; have HB := n0_; clear n0_; (try clear hb); (try clear hb2); (try clear hk); (try clear hi)) | ((with_reducible refine gate_dst (N := 1) rfl ?_); refine box_event ?hg (N := 1) ?hd (cs := #[.int .i64 0, .int .i64 0, .int .i64 0, .int .i64 0, .int .i64 0, .int .i64 0, .int .i64 0]) (t := 26) ?hr ?_; (case hd => rfl); (case hg => rfl); (case hr => first | (go_simp; done) | (go_simp; rfl)); intro gb110 hg w11 hbox hb; have n0_ := Aside0.mk (below_step (by repeat (first | (with_reducible first | exact HB.out | apply below_alloc | apply pw_below_drewN | apply below_drew1) | exact HB.out)) hb); have n1_ := Aside0.mk (hbox); have n2_ := Aside0.mk ((by rw [hg]; exact (below_size (by repeat (first | (with_reducible first | exact HB.out | apply below_alloc | apply pw_below_drewN | apply below_drew1) | exact HB.out))) : w.heap.size ≤ gb110)); have n3_ := Aside0.mk ((by rw [hg]; exact (below_size (by repeat (first | (with_reducible first | exact HB.out | apply below_alloc | apply pw_below_drewN | apply below_drew1) | exact HB.out))) : w.heap.size ≤ gb110)); clear HB; have HB := n0_; have BK110 := n1_; have GW110 := n2_; have GE110 := n3_; clear n0_ n1_ n2_ n3_; clear hb hbox hg; have hcz12_0 : w11.cell? ⟨gb110, 0, none⟩ = some (.int .i64 0) := (blk_cell BK110.out 0).trans rfl; have hcz12_1 : w11.cell? ⟨gb110, 1, none⟩ = some (.int .i64 0) := (blk_cell BK110.out 1).trans rfl; have hcz12_2 : w11.cell? ⟨gb110, 2, none⟩ = some (.int .i64 0) := (blk_cell BK110.out 2).trans rfl; have hcz12_3 : w11.cell? ⟨gb110, 3, none⟩ = some (.int .i64 0) := (blk_cell BK110.out 3).trans rfl; have hcz12_4 : w11.cell? ⟨gb110, 4, none⟩ = some (.int .i64 0) := (blk_cell BK110.out 4).trans rfl; have hcz12_5 : w11.cell? ⟨gb110, 5, none⟩ = some (.int .i64 0) := (blk_cell BK110.out 5).trans rfl; have hcz12_6 : w11.cell? ⟨gb110, 6, none⟩ = some (.int .i64 0) := (blk_cell BK110.out 6).trans rfl; have hfz12_0 := blk_frozen BK110.out 0; have hfz12_1 := blk_frozen BK110.out 1; have hfz12_2 := blk_frozen BK110.out 2; have hfz12_3 := blk_frozen BK110.out 3; have hfz12_4 := blk_frozen BK110.out 4; have hfz12_5 := blk_frozen BK110.out 5; have hfz12_6 := blk_frozen BK110.out 6))
    go_ret
    exact ⟨by first | rfl | (simp [errW_none, errW_some] <;> rfl) | (simp [*, errW_none, errW_some] <;> rfl), by repeat (first | (with_reducible first | exact HB.out | apply below_alloc | apply pw_below_drewN | apply below_drew1 | refine below_set ?_ GE110.out) | exact HB.out)⟩



-- BY HAND: function 24 (Dj.both)

/-! ### dim_Mul: function 12 -/
def dim_Mul.f (a0_0 : Int) (a0_1 : Int) (a0_2 : Int) (a0_3 : Int) (a0_4 : Int) (a1_0 : Int) (a1_1 : Int) (a1_2 : Int) (a1_3 : Int) (a1_4 : Int) : Option (Int × Int × Int × Int × Int × Bool) := (Dj.both.f a0_0 a0_1 a0_2 a0_3 a0_4 a1_0 a1_1 a1_2 a1_3 a1_4 1).bind fun bt114 => (some (bt114.1, bt114.2.1, bt114.2.2.1, bt114.2.2.2.1, bt114.2.2.2.2.1, bt114.2.2.2.2.2))
set_option maxHeartbeats 8000000 in
set_option maxRecDepth 100000 in
theorem dim_Mul.calls (a0_0 : Int) (a0_1 : Int) (a0_2 : Int) (a0_3 : Int) (a0_4 : Int) (a1_0 : Int) (a1_1 : Int) (a1_2 : Int) (a1_3 : Int) (a1_4 : Int) (r1 : Int) (r2 : Int) (r3 : Int) (r4 : Int) (r5 : Int) (r6 : Bool) (w : World) (h : dim_Mul.f a0_0 a0_1 a0_2 a0_3 a0_4 a1_0 a1_1 a1_2 a1_3 a1_4 = some (r1, r2, r3, r4, r5, r6)) :
    Calls Tryd.prog 12 #[.agg #[.int .i64 a0_0, .int .i64 a0_1, .int .i64 a0_2, .int .i64 a0_3, .int .i64 a0_4], .agg #[.int .i64 a1_0, .int .i64 a1_1, .int .i64 a1_2, .int .i64 a1_3, .int .i64 a1_4]] w fun e w' => e = .returned (.tuple #[.agg #[.int .i64 r1, .int .i64 r2, .int .i64 r3, .int .i64 r4, .int .i64 r5], .bool r6]) ∧ Below w.heap.size w w' := by
  have hu24 := Tryd.underlying24
  have HB := Aside0.mk (Below.refl w.heap.size w)
  have H : ((Dj.both.f a0_0 a0_1 a0_2 a0_3 a0_4 a1_0 a1_1 a1_2 a1_3 a1_4 1).bind fun bt114 => (some (bt114.1, bt114.2.1, bt114.2.2.1, bt114.2.2.2.1, bt114.2.2.2.2.1, bt114.2.2.2.2.2))) = some (r1, r2, r3, r4, r5, r6) := h
  clear h
  replace H := Option.bind_eq_some_iff.mp H
  obtain ⟨⟨t114, t115, t116, t117, t118, t119⟩, A30, H⟩ := H
  replace H : (some (t114, t115, t116, t117, t118, t119)) = some (r1, r2, r3, r4, r5, r6) := H
  have A3 := Aside0.mk A30
  clear A30
  simp only [Option.some.injEq, Prod.mk.injEq] at H
  obtain ⟨rfl, rfl, rfl, rfl, rfl, rfl⟩ := H
  go_enter Tryd.func12, Tryd.ntmps12
  go_wp2_with (first | ((with_reducible refine gate_dst (N := 2) rfl ?_); refine box_event ?hg (N := 2) ?hd (cs := #[.int .i64 a0_0, .int .i64 a0_1, .int .i64 a0_2, .int .i64 a0_3, .int .i64 a0_4]) (t := 24) ?hr ?_; (case hd => rfl); (case hg => rfl); (case hr => first | (go_simp; done) | (go_simp; rfl)); intro gb111 hg w4 hbox hb; have n0_ := Aside0.mk (below_step (by repeat (first | (with_reducible first | exact HB.out | apply below_alloc | apply pw_below_drewN | apply below_drew1) | exact HB.out)) hb); have n1_ := Aside0.mk (hbox); have n2_ := Aside0.mk ((by rw [hg]; exact (below_size (by repeat (first | (with_reducible first | exact HB.out | apply below_alloc | apply pw_below_drewN | apply below_drew1) | exact HB.out))) : w.heap.size ≤ gb111)); have n3_ := Aside0.mk ((by rw [hg]; exact (below_size (by repeat (first | (with_reducible first | exact HB.out | apply below_alloc | apply pw_below_drewN | apply below_drew1) | exact HB.out))) : w.heap.size ≤ gb111)); clear HB; have HB := n0_; have BK111 := n1_; have GW111 := n2_; have GE111 := n3_; clear n0_ n1_ n2_ n3_; clear hb hbox hg) | ((with_reducible refine gate_dst (N := 3) rfl ?_); refine box_event ?hg (N := 3) ?hd (cs := #[.int .i64 a1_0, .int .i64 a1_1, .int .i64 a1_2, .int .i64 a1_3, .int .i64 a1_4]) (t := 24) ?hr ?_; (case hd => rfl); (case hg => rfl); (case hr => first | (go_simp; done) | (go_simp; rfl)); intro gb112 hg w5 hbox hb; have n0_ := Aside0.mk (blk_below (g := gb111) (o := .cells #[.int .i64 a0_0, .int .i64 a0_1, .int .i64 a0_2, .int .i64 a0_3, .int .i64 a0_4] 24 (0, 0)) (by (with_reducible repeat (first | refine blk_drewN ?_ _ | refine blk_drew ?_ | refine blk_alloc ?_ _)); exact BK111.out) hb); have n1_ := Aside0.mk (below_step (by repeat (first | (with_reducible first | exact HB.out | apply below_alloc | apply pw_below_drewN | apply below_drew1 | refine below_set ?_ GE111.out) | exact HB.out)) hb); have n2_ := Aside0.mk (hbox); have n3_ := Aside0.mk ((by rw [hg]; exact (below_size (by repeat (first | (with_reducible first | exact HB.out | apply below_alloc | apply pw_below_drewN | apply below_drew1 | refine below_set ?_ GE111.out) | exact HB.out))) : w.heap.size ≤ gb112)); have n4_ := Aside0.mk ((by rw [hg]; exact (below_size (by repeat (first | (with_reducible first | exact HB.out | apply below_alloc | apply pw_below_drewN | apply below_drew1 | refine below_set ?_ GE111.out) | exact HB.out))) : w.heap.size ≤ gb112)); have n5_ := Aside0.mk ((by rw [hg]; exact Nat.ne_of_lt (blk_lt (g := gb111) (o := .cells #[.int .i64 a0_0, .int .i64 a0_1, .int .i64 a0_2, .int .i64 a0_3, .int .i64 a0_4] 24 (0, 0)) (by (with_reducible repeat (first | refine blk_drewN ?_ _ | refine blk_drew ?_ | refine blk_alloc ?_ _)); exact BK111.out)) : gb111 ≠ gb112)); have n6_ := Aside0.mk ((by rw [hg]; exact Nat.ne_of_gt (blk_lt (g := gb111) (o := .cells #[.int .i64 a0_0, .int .i64 a0_1, .int .i64 a0_2, .int .i64 a0_3, .int .i64 a0_4] 24 (0, 0)) (by (with_reducible repeat (first | refine blk_drewN ?_ _ | refine blk_drew ?_ | refine blk_alloc ?_ _)); exact BK111.out)) : gb112 ≠ gb111)); clear BK111; clear HB; have BK111 := n0_; have HB := n1_; have BK112 := n2_; have GW112 := n3_; have GE112 := n4_; have NB111_112 := n5_; have NB112_111 := n6_; clear n0_ n1_ n2_ n3_ n4_ n5_ n6_; clear hb hbox hg) | ((with_reducible refine gate_dst (N := 4) rfl ?_); refine box_event ?hg (N := 4) ?hd (cs := #[.int .i64 0, .int .i64 0, .int .i64 0, .int .i64 0, .int .i64 0]) (t := 24) ?hr ?_; (case hd => rfl); (case hg => rfl); (case hr => first | (go_simp; done) | (go_simp; rfl)); intro gb113 hg w6 hbox hb; have n0_ := Aside0.mk (blk_below (g := gb111) (o := .cells #[.int .i64 a0_0, .int .i64 a0_1, .int .i64 a0_2, .int .i64 a0_3, .int .i64 a0_4] 24 (0, 0)) (by (with_reducible repeat (first | refine blk_drewN ?_ _ | refine blk_drew ?_ | refine blk_alloc ?_ _)); exact BK111.out) hb); have n1_ := Aside0.mk (blk_below (g := gb112) (o := .cells #[.int .i64 a1_0, .int .i64 a1_1, .int .i64 a1_2, .int .i64 a1_3, .int .i64 a1_4] 24 (0, 0)) (by (with_reducible repeat (first | refine blk_drewN ?_ _ | refine blk_drew ?_ | refine blk_alloc ?_ _)); exact BK112.out) hb); have n2_ := Aside0.mk (below_step (by repeat (first | (with_reducible first | exact HB.out | apply below_alloc | apply pw_below_drewN | apply below_drew1 | refine below_set ?_ GE111.out | refine below_set ?_ GE112.out) | exact HB.out)) hb); have n3_ := Aside0.mk (hbox); have n4_ := Aside0.mk ((by rw [hg]; exact (below_size (by repeat (first | (with_reducible first | exact HB.out | apply below_alloc | apply pw_below_drewN | apply below_drew1 | refine below_set ?_ GE111.out | refine below_set ?_ GE112.out) | exact HB.out))) : w.heap.size ≤ gb113)); have n5_ := Aside0.mk ((by rw [hg]; exact (below_size (by repeat (first | (with_reducible first | exact HB.out | apply below_alloc | apply pw_below_drewN | apply below_drew1 | refine below_set ?_ GE111.out | refine below_set ?_ GE112.out) | exact HB.out))) : w.heap.size ≤ gb113)); have n6_ := Aside0.mk ((by rw [hg]; exact Nat.ne_of_lt (blk_lt (g := gb111) (o := .cells #[.int .i64 a0_0, .int .i64 a0_1, .int .i64 a0_2, .int .i64 a0_3, .int .i64 a0_4] 24 (0, 0)) (by (with_reducible repeat (first | refine blk_drewN ?_ _ | refine blk_drew ?_ | refine blk_alloc ?_ _)); exact BK111.out)) : gb111 ≠ gb113)); have n7_ := Aside0.mk ((by rw [hg]; exact Nat.ne_of_gt (blk_lt (g := gb111) (o := .cells #[.int .i64 a0_0, .int .i64 a0_1, .int .i64 a0_2, .int .i64 a0_3, .int .i64 a0_4] 24 (0, 0)) (by (with_reducible repeat (first | refine blk_drewN ?_ _ | refine blk_drew ?_ | refine blk_alloc ?_ _)); exact BK111.out)) : gb113 ≠ gb111)); have n8_ := Aside0.mk ((by rw [hg]; exact Nat.ne_of_lt (blk_lt (g := gb112) (o := .cells #[.int .i64 a1_0, .int .i64 a1_1, .int .i64 a1_2, .int .i64 a1_3, .int .i64 a1_4] 24 (0, 0)) (by (with_reducible repeat (first | refine blk_drewN ?_ _ | refine blk_drew ?_ | refine blk_alloc ?_ _)); exact BK112.out)) : gb112 ≠ gb113)); have n9_ := Aside0.mk ((by rw [hg]; exact Nat.ne_of_gt (blk_lt (g := gb112) (o := .cells #[.int .i64 a1_0, .int .i64 a1_1, .int .i64 a1_2, .int .i64 a1_3, .int .i64 a1_4] 24 (0, 0)) (by (with_reducible repeat (first | refine blk_drewN ?_ _ | refine blk_drew ?_ | refine blk_alloc ?_ _)); exact BK112.out)) : gb113 ≠ gb112)); clear BK111; clear BK112; clear HB; have BK111 := n0_; have BK112 := n1_; have HB := n2_; have BK113 := n3_; have GW113 := n4_; have GE113 := n5_; have NB111_113 := n6_; have NB113_111 := n7_; have NB112_113 := n8_; have NB113_112 := n9_; clear n0_ n1_ n2_ n3_ n4_ n5_ n6_ n7_ n8_ n9_; clear hb hbox hg; have hnb7 := NB111_112.out; have hnc7 := NB112_111.out; have hnb8 := NB111_113.out; have hnc8 := NB113_111.out; have hcz9_0 : w6.cell? ⟨gb111, 0, none⟩ = some (.int .i64 a0_0) := (blk_cell BK111.out 0).trans rfl; have hcz9_1 : w6.cell? ⟨gb111, 1, none⟩ = some (.int .i64 a0_1) := (blk_cell BK111.out 1).trans rfl; have hcz9_2 : w6.cell? ⟨gb111, 2, none⟩ = some (.int .i64 a0_2) := (blk_cell BK111.out 2).trans rfl; have hcz9_3 : w6.cell? ⟨gb111, 3, none⟩ = some (.int .i64 a0_3) := (blk_cell BK111.out 3).trans rfl; have hcz9_4 : w6.cell? ⟨gb111, 4, none⟩ = some (.int .i64 a0_4) := (blk_cell BK111.out 4).trans rfl; have hfz9_0 := blk_frozen BK111.out 0; have hfz9_1 := blk_frozen BK111.out 1; have hfz9_2 := blk_frozen BK111.out 2; have hfz9_3 := blk_frozen BK111.out 3; have hfz9_4 := blk_frozen BK111.out 4; have hnb10 := NB112_113.out; have hnc10 := NB113_112.out; have hcz11_0 : w6.cell? ⟨gb112, 0, none⟩ = some (.int .i64 a1_0) := (blk_cell BK112.out 0).trans rfl; have hcz11_1 : w6.cell? ⟨gb112, 1, none⟩ = some (.int .i64 a1_1) := (blk_cell BK112.out 1).trans rfl; have hcz11_2 : w6.cell? ⟨gb112, 2, none⟩ = some (.int .i64 a1_2) := (blk_cell BK112.out 2).trans rfl; have hcz11_3 : w6.cell? ⟨gb112, 3, none⟩ = some (.int .i64 a1_3) := (blk_cell BK112.out 3).trans rfl; have hcz11_4 : w6.cell? ⟨gb112, 4, none⟩ = some (.int .i64 a1_4) := (blk_cell BK112.out 4).trans rfl; have hfz11_0 := blk_frozen BK112.out 0; have hfz11_1 := blk_frozen BK112.out 1; have hfz11_2 := blk_frozen BK112.out 2; have hfz11_3 := blk_frozen BK112.out 3; have hfz11_4 := blk_frozen BK112.out 4) | ((with_reducible refine gate_callee (f := 24) rfl ?_); refine goesL_ (some 8) rfl rfl Tryd.func24 (by kernel_rfl) rfl #[.agg #[.int .i64 a0_0, .int .i64 a0_1, .int .i64 a0_2, .int .i64 a0_3, .int .i64 a0_4], .agg #[.int .i64 a1_0, .int .i64 a1_1, .int .i64 a1_2, .int .i64 a1_3, .int .i64 a1_4], .int .i64 1] rfl (by (try simp only [List.map_toArray, List.map_cons, List.map_nil]); first | done | rfl | (simp only [List.length_drop, List.length_take]; rfl)) ?_; (with_reducible refine (Dj.both.calls a0_0 a0_1 a0_2 a0_3 a0_4 a1_0 a1_1 a1_2 a1_3 a1_4 1 t114 t115 t116 t117 t118 t119 _ A3.out).mono ?_); rintro e w12 ⟨rfl, hb⟩; refine ⟨_, rfl, ?_⟩; have n0_ := Aside0.mk (blk_below (g := gb111) (o := .cells #[.int .i64 a0_0, .int .i64 a0_1, .int .i64 a0_2, .int .i64 a0_3, .int .i64 a0_4] 24 (0, 0)) (by (with_reducible repeat (first | refine blk_drewN ?_ _ | refine blk_drew ?_ | refine blk_alloc ?_ _)); exact BK111.out) hb); have n1_ := Aside0.mk (blk_below (g := gb112) (o := .cells #[.int .i64 a1_0, .int .i64 a1_1, .int .i64 a1_2, .int .i64 a1_3, .int .i64 a1_4] 24 (0, 0)) (by (with_reducible repeat (first | refine blk_drewN ?_ _ | refine blk_drew ?_ | refine blk_alloc ?_ _)); exact BK112.out) hb); have n2_ := Aside0.mk (blk_below (g := gb113) (o := .cells #[.int .i64 0, .int .i64 0, .int .i64 0, .int .i64 0, .int .i64 0] 24 (0, 0)) (by (with_reducible repeat (first | refine blk_drewN ?_ _ | refine blk_drew ?_ | refine blk_alloc ?_ _)); exact BK113.out) hb); have n3_ := Aside0.mk (below_step (by repeat (first | (with_reducible first | exact HB.out | apply below_alloc | apply pw_below_drewN | apply below_drew1 | refine below_set ?_ GE111.out | refine below_set ?_ GE112.out | refine below_set ?_ GE113.out) | exact HB.out)) hb); clear BK111; clear BK112; clear BK113; clear HB; have BK111 := n0_; have BK112 := n1_; have BK113 := n2_; have HB := n3_; clear n0_ n1_ n2_ n3_; (try clear hb); (try clear hb2); (try clear hk); (try clear hi); have hcz13_0 : w12.cell? ⟨gb113, 0, none⟩ = some (.int .i64 0) := (blk_cell BK113.out 0).trans rfl; have hcz13_1 : w12.cell? ⟨gb113, 1, none⟩ = some (.int .i64 0) := (blk_cell BK113.out 1).trans rfl; have hcz13_2 : w12.cell? ⟨gb113, 2, none⟩ = some (.int .i64 0) := (blk_cell BK113.out 2).trans rfl; have hcz13_3 : w12.cell? ⟨gb113, 3, none⟩ = some (.int .i64 0) := (blk_cell BK113.out 3).trans rfl; have hcz13_4 : w12.cell? ⟨gb113, 4, none⟩ = some (.int .i64 0) := (blk_cell BK113.out 4).trans rfl; have hfz13_0 := blk_frozen BK113.out 0; have hfz13_1 := blk_frozen BK113.out 1; have hfz13_2 := blk_frozen BK113.out 2; have hfz13_3 := blk_frozen BK113.out 3; have hfz13_4 := blk_frozen BK113.out 4))
  refine bodyPost_ret (results_ct rfl _ _ gb113 24 #[.int .i64 t114, .int .i64 t115, .int .i64 t116, .int .i64 t117, .int .i64 t118] (0, 0) _ rfl (by (with_reducible repeat (first | refine blk_drewN ?_ _ | refine blk_drew ?_ | refine blk_alloc ?_ _)); refine blk_put (cs := #[.int .i64 t114, .int .i64 t115, .int .i64 t116, .int .i64 t117, .int .i64 0]) ?_ 4 _ rfl; (with_reducible repeat (first | refine blk_drewN ?_ _ | refine blk_drew ?_ | refine blk_alloc ?_ _)); refine blk_put (cs := #[.int .i64 t114, .int .i64 t115, .int .i64 t116, .int .i64 0, .int .i64 0]) ?_ 3 _ rfl; (with_reducible repeat (first | refine blk_drewN ?_ _ | refine blk_drew ?_ | refine blk_alloc ?_ _)); refine blk_put (cs := #[.int .i64 t114, .int .i64 t115, .int .i64 0, .int .i64 0, .int .i64 0]) ?_ 2 _ rfl; (with_reducible repeat (first | refine blk_drewN ?_ _ | refine blk_drew ?_ | refine blk_alloc ?_ _)); refine blk_put (cs := #[.int .i64 t114, .int .i64 0, .int .i64 0, .int .i64 0, .int .i64 0]) ?_ 1 _ rfl; (with_reducible repeat (first | refine blk_drewN ?_ _ | refine blk_drew ?_ | refine blk_alloc ?_ _)); refine blk_put (cs := #[.int .i64 0, .int .i64 0, .int .i64 0, .int .i64 0, .int .i64 0]) ?_ 0 _ rfl; (with_reducible repeat (first | refine blk_drewN ?_ _ | refine blk_drew ?_ | refine blk_alloc ?_ _)); exact BK113.out) Tryd.underlying24 rfl (by kernel_rfl)) rfl ?_
  exact ⟨by first | rfl | (simp [errW_none, errW_some] <;> rfl) | (simp [*, errW_none, errW_some] <;> rfl), by repeat (first | (with_reducible first | exact HB.out | apply below_alloc | apply pw_below_drewN | apply below_drew1 | refine below_set ?_ GE111.out | refine below_set ?_ GE112.out | refine below_set ?_ GE113.out) | exact HB.out)⟩

-- BY HAND: function 31 (OW.fix_Scale)

/-! ### dim_Value: function 17 -/
def dim_Value.f (k : Nat) (a0_0 : Int) (a0_1 : Int) (a0_2 : Int) (a0_3 : Int) (a0_4 : Int) (a0_5 : Int) (a0_6 : Int) (a1 : Int) : Option (Int) := (OW.fix_Scale.f k a1 a0_0 a0_1).bind fun t121 => (some t121)
theorem dim_Value.mono : ∀ a0 a1 a2 a3 a4 a5 a6 a7 k, LeO (dim_Value.f k a0 a1 a2 a3 a4 a5 a6 a7) (dim_Value.f (k + 1) a0 a1 a2 a3 a4 a5 a6 a7) := by
  intro a0 a1 a2 a3 a4 a5 a6 a7 k
  unfold dim_Value.f
  repeat' first
      | (with_reducible exact OW.fix_Scale.mono _ _ _ _)
      | (with_reducible exact LeO.refl _)
      | (with_reducible exact LeO.none _)
      | (with_reducible refine LeO.ite ?_ ?_)
      | (with_reducible refine LeO.bind ?_ (fun _ => ?_))
      | exact OW.fix_Scale.mono _ _ _ _
      | exact LeO.none _
      | refine LeO.ite ?_ ?_
      | refine LeO.bind ?_ (fun _ => ?_)
set_option maxHeartbeats 8000000 in
set_option maxRecDepth 100000 in
theorem dim_Value.calls (k : Nat) (a0_0 : Int) (a0_1 : Int) (a0_2 : Int) (a0_3 : Int) (a0_4 : Int) (a0_5 : Int) (a0_6 : Int) (a1 : Int) (r : Int) (w : World) (h : dim_Value.f k a0_0 a0_1 a0_2 a0_3 a0_4 a0_5 a0_6 a1 = some r) :
    Calls Tryd.prog 17 #[.agg #[.int .i64 a0_0, .int .i64 a0_1, .int .i64 a0_2, .int .i64 a0_3, .int .i64 a0_4, .int .i64 a0_5, .int .i64 a0_6], .int .i64 a1] w fun e w' => e = .returned (.int .i64 r) ∧ Below w.heap.size w w' := by
  have hu26 := Tryd.underlying26
  have HB := Aside0.mk (Below.refl w.heap.size w)
  have H : ((OW.fix_Scale.f k a1 a0_0 a0_1).bind fun t121 => (some t121)) = some r := h
  clear h
  replace H := Option.bind_eq_some_iff.mp H
  obtain ⟨t121, A30, H⟩ := H
  replace H : (some t121) = some r := H
  have A3 := Aside0.mk A30
  clear A30
  obtain rfl := Option.some.inj H
  go_enter Tryd.func17, Tryd.ntmps17
  go_wp2_with (first | ((with_reducible refine gate_dst (N := 2) rfl ?_); refine box_event ?hg (N := 2) ?hd (cs := #[.int .i64 a0_0, .int .i64 a0_1, .int .i64 a0_2, .int .i64 a0_3, .int .i64 a0_4, .int .i64 a0_5, .int .i64 a0_6]) (t := 26) ?hr ?_; (case hd => rfl); (case hg => rfl); (case hr => first | (go_simp; done) | (go_simp; rfl)); intro gb120 hg w4 hbox hb; have n0_ := Aside0.mk (below_step (by repeat (first | (with_reducible first | exact HB.out | apply below_alloc | apply pw_below_drewN | apply below_drew1) | exact HB.out)) hb); have n1_ := Aside0.mk (hbox); have n2_ := Aside0.mk ((by rw [hg]; exact (below_size (by repeat (first | (with_reducible first | exact HB.out | apply below_alloc | apply pw_below_drewN | apply below_drew1) | exact HB.out))) : w.heap.size ≤ gb120)); have n3_ := Aside0.mk ((by rw [hg]; exact (below_size (by repeat (first | (with_reducible first | exact HB.out | apply below_alloc | apply pw_below_drewN | apply below_drew1) | exact HB.out))) : w.heap.size ≤ gb120)); clear HB; have HB := n0_; have BK120 := n1_; have GW120 := n2_; have GE120 := n3_; clear n0_ n1_ n2_ n3_; clear hb hbox hg; have hcz5_0 : w4.cell? ⟨gb120, 0, none⟩ = some (.int .i64 a0_0) := (blk_cell BK120.out 0).trans rfl; have hcz5_1 : w4.cell? ⟨gb120, 1, none⟩ = some (.int .i64 a0_1) := (blk_cell BK120.out 1).trans rfl; have hcz5_2 : w4.cell? ⟨gb120, 2, none⟩ = some (.int .i64 a0_2) := (blk_cell BK120.out 2).trans rfl; have hcz5_3 : w4.cell? ⟨gb120, 3, none⟩ = some (.int .i64 a0_3) := (blk_cell BK120.out 3).trans rfl; have hcz5_4 : w4.cell? ⟨gb120, 4, none⟩ = some (.int .i64 a0_4) := (blk_cell BK120.out 4).trans rfl; have hcz5_5 : w4.cell? ⟨gb120, 5, none⟩ = some (.int .i64 a0_5) := (blk_cell BK120.out 5).trans rfl; have hcz5_6 : w4.cell? ⟨gb120, 6, none⟩ = some (.int .i64 a0_6) := (blk_cell BK120.out 6).trans rfl; have hfz5_0 := blk_frozen BK120.out 0; have hfz5_1 := blk_frozen BK120.out 1; have hfz5_2 := blk_frozen BK120.out 2; have hfz5_3 := blk_frozen BK120.out 3; have hfz5_4 := blk_frozen BK120.out 4; have hfz5_5 := blk_frozen BK120.out 5; have hfz5_6 := blk_frozen BK120.out 6) | ((with_reducible refine gate_callee (f := 31) rfl ?_); refine goesL_ (some 10) rfl rfl Tryd.func31 (by kernel_rfl) rfl #[.int .i64 a1, .int .i64 a0_0, .int .i64 a0_1] rfl (by (try simp only [List.map_toArray, List.map_cons, List.map_nil]); first | done | rfl | (simp only [List.length_drop, List.length_take]; rfl)) ?_; (with_reducible refine (OW.fix_Scale.calls k a1 a0_0 a0_1 t121 _ A3.out).mono ?_); rintro e w6 ⟨rfl, hb⟩; refine ⟨_, rfl, ?_⟩; have n0_ := Aside0.mk (blk_below (g := gb120) (o := .cells #[.int .i64 a0_0, .int .i64 a0_1, .int .i64 a0_2, .int .i64 a0_3, .int .i64 a0_4, .int .i64 a0_5, .int .i64 a0_6] 26 (0, 0)) (by (with_reducible repeat (first | refine blk_drewN ?_ _ | refine blk_drew ?_ | refine blk_alloc ?_ _)); exact BK120.out) hb); have n1_ := Aside0.mk (below_step (by repeat (first | (with_reducible first | exact HB.out | apply below_alloc | apply pw_below_drewN | apply below_drew1 | refine below_set ?_ GE120.out) | exact HB.out)) hb); clear BK120; clear HB; have BK120 := n0_; have HB := n1_; clear n0_ n1_; (try clear hb); (try clear hb2); (try clear hk); (try clear hi)))
  go_ret
  exact ⟨by first | rfl | (simp [errW_none, errW_some] <;> rfl) | (simp [*, errW_none, errW_some] <;> rfl), by repeat (first | (with_reducible first | exact HB.out | apply below_alloc | apply pw_below_drewN | apply below_drew1 | refine below_set ?_ GE120.out) | exact HB.out)⟩



attribute [local go_sem high] eqA24
/-! ### capstanlaw02_DimProducts: function 8 -/
mutual
def capstanlaw02_DimProducts.j0 : Nat → Int → Int → Int → Bool → Int → Int → Int → Int → Int → Int → Int → Int → Int → Int → Int → Int → Int → Int → Int → Int → Int → Int → Int → Int → Int → Option (Bool)
 | 0, _, _, _, _, _, _, _, _, _, _, _, _, _, _, _, _, _, _, _, _, _, _, _, _, _ => none
 | k + 1, x7, x10, x13, x52, x133000, x133001, x133002, x133003, x133004, x133005, x133006, x143000, x143001, x143002, x143003, x143004, x143005, x143006, x153000, x153001, x153002, x153003, x153004, x153005, x153006 => if x52 = true then (some false) else (if x7 = 20 then (if x13 = 20 then (some true) else (some (x13 == 2))) else (if x7 = 0 then (if x10 = 0 then (capstanlaw02_DimProducts.j1 k (x13 != 0) x133000 x133001 x133002 x133003 x133004 x133005 x133006 x143000 x143001 x143002 x143003 x143004 x143005 x143006 x153000 x153001 x153002 x153003 x153004 x153005 x153006) else (capstanlaw02_DimProducts.j1 k true x133000 x133001 x133002 x133003 x133004 x133005 x133006 x143000 x143001 x143002 x143003 x143004 x143005 x143006 x153000 x153001 x153002 x153003 x153004 x153005 x153006)) else (capstanlaw02_DimProducts.j1 k true x133000 x133001 x133002 x133003 x133004 x133005 x133006 x143000 x143001 x143002 x143003 x143004 x143005 x143006 x153000 x153001 x153002 x153003 x153004 x153005 x153006)))
def capstanlaw02_DimProducts.j1 : Nat → Bool → Int → Int → Int → Int → Int → Int → Int → Int → Int → Int → Int → Int → Int → Int → Int → Int → Int → Int → Int → Int → Int → Option (Bool)
 | 0, _, _, _, _, _, _, _, _, _, _, _, _, _, _, _, _, _, _, _, _, _, _ => none
 | k + 1, x70, x133000, x133001, x133002, x133003, x133004, x133005, x133006, x143000, x143001, x143002, x143003, x143004, x143005, x143006, x153000, x153001, x153002, x153003, x153004, x153005, x153006 => if x70 = true then (some true) else ((dim_Mul.f x133002 x133003 x133004 x133005 x133006 x143002 x143003 x143004 x143005 x143006).bind fun bt153 => (if bt153.2.2.2.2.2 = true then (capstanlaw02_DimProducts.j2 k (!(bt153.1 == x153002) || (!(bt153.2.1 == x153003) || (!(bt153.2.2.1 == x153004) || (!(bt153.2.2.2.1 == x153005) || (!(bt153.2.2.2.2.1 == x153006)))))) x133000 x133001 x133002 x133003 x133004 x133005 x133006 x143000 x143001 x143002 x143003 x143004 x143005 x143006 x153000 x153001 x153002 x153003 x153004 x153005 x153006) else (capstanlaw02_DimProducts.j2 k true x133000 x133001 x133002 x133003 x133004 x133005 x133006 x143000 x143001 x143002 x143003 x143004 x143005 x143006 x153000 x153001 x153002 x153003 x153004 x153005 x153006)))
def capstanlaw02_DimProducts.j2 : Nat → Bool → Int → Int → Int → Int → Int → Int → Int → Int → Int → Int → Int → Int → Int → Int → Int → Int → Int → Int → Int → Int → Int → Option (Bool)
 | 0, _, _, _, _, _, _, _, _, _, _, _, _, _, _, _, _, _, _, _, _, _, _ => none
 | k + 1, x86, x133000, x133001, x133002, x133003, x133004, x133005, x133006, x143000, x143001, x143002, x143003, x143004, x143005, x143006, x153000, x153001, x153002, x153003, x153004, x153005, x153006 => if x86 = true then (some false) else ((dim_Value.f k x153000 x153001 x153002 x153003 x153004 x153005 x153006 1000000000).bind fun t160 => ((dim_Value.f k x133000 x133001 x133002 x133003 x133004 x133005 x133006 1000000000).bind fun t161 => ((dim_Value.f k x143000 x143001 x143002 x143003 x143004 x143005 x143006 t161).bind fun t162 => (if x153000 ≥ 1 then (if x153001 ≥ 1 then (if x153000 ≤ 1000000000000000 then (if x153001 ≤ 1000000000000000 then (if x133001 = 1 then (if x143001 = 1 then (some (t160 == t162)) else (some true)) else (some true)) else (some false)) else (some false)) else (some false)) else (some false)))))
end
def capstanlaw02_DimProducts.f (k : Nat) (a0 : ByteArray) (a1 : ByteArray) : Option (Bool) := (capstanlaw02_awake.f k).bind fun t122 => (if t122 = true then ((De.Read.f k a0).bind fun bt123 => ((De.Read.f k a1).bind fun bt133 => (if a0.size + 1 ≤ 9223372036854775807 then (if (a0 ++ (⟨#[42]⟩ : ByteArray)).size + a1.size ≤ 9223372036854775807 then ((De.Read.f k ((a0 ++ (⟨#[42]⟩ : ByteArray)) ++ a1)).bind fun bt143 => (if bt143.2.2.2.2.2.2.2.1 < 0 then (capstanlaw02_DimProducts.j0 k bt123.2.2.2.2.2.2.2.2 bt133.2.2.2.2.2.2.2.2 bt143.2.2.2.2.2.2.2.2 true bt123.1 bt123.2.1 bt123.2.2.1 bt123.2.2.2.1 bt123.2.2.2.2.1 bt123.2.2.2.2.2.1 bt123.2.2.2.2.2.2.1 bt133.1 bt133.2.1 bt133.2.2.1 bt133.2.2.2.1 bt133.2.2.2.2.1 bt133.2.2.2.2.2.1 bt133.2.2.2.2.2.2.1 bt143.1 bt143.2.1 bt143.2.2.1 bt143.2.2.2.1 bt143.2.2.2.2.1 bt143.2.2.2.2.2.1 bt143.2.2.2.2.2.2.1) else (capstanlaw02_DimProducts.j0 k bt123.2.2.2.2.2.2.2.2 bt133.2.2.2.2.2.2.2.2 bt143.2.2.2.2.2.2.2.2 (decide (bt143.2.2.2.2.2.2.2.1 > (wrap64 ((wrap64 ((a0.size : Int) + 1)) + (a1.size : Int))))) bt123.1 bt123.2.1 bt123.2.2.1 bt123.2.2.2.1 bt123.2.2.2.2.1 bt123.2.2.2.2.2.1 bt123.2.2.2.2.2.2.1 bt133.1 bt133.2.1 bt133.2.2.1 bt133.2.2.2.1 bt133.2.2.2.2.1 bt133.2.2.2.2.2.1 bt133.2.2.2.2.2.2.1 bt143.1 bt143.2.1 bt143.2.2.1 bt143.2.2.2.1 bt143.2.2.2.2.1 bt143.2.2.2.2.2.1 bt143.2.2.2.2.2.2.1))) else (none)) else (none)))) else (some false))
theorem capstanlaw02_DimProducts.mono_l : ∀ k, (∀ y0 y1 y2 y3 y4 y5 y6 y7 y8 y9 y10 y11 y12 y13 y14 y15 y16 y17 y18 y19 y20 y21 y22 y23 y24, LeO (capstanlaw02_DimProducts.j0 k y0 y1 y2 y3 y4 y5 y6 y7 y8 y9 y10 y11 y12 y13 y14 y15 y16 y17 y18 y19 y20 y21 y22 y23 y24) (capstanlaw02_DimProducts.j0 (k + 1) y0 y1 y2 y3 y4 y5 y6 y7 y8 y9 y10 y11 y12 y13 y14 y15 y16 y17 y18 y19 y20 y21 y22 y23 y24)) ∧ (∀ y0 y1 y2 y3 y4 y5 y6 y7 y8 y9 y10 y11 y12 y13 y14 y15 y16 y17 y18 y19 y20 y21, LeO (capstanlaw02_DimProducts.j1 k y0 y1 y2 y3 y4 y5 y6 y7 y8 y9 y10 y11 y12 y13 y14 y15 y16 y17 y18 y19 y20 y21) (capstanlaw02_DimProducts.j1 (k + 1) y0 y1 y2 y3 y4 y5 y6 y7 y8 y9 y10 y11 y12 y13 y14 y15 y16 y17 y18 y19 y20 y21)) ∧ (∀ y0 y1 y2 y3 y4 y5 y6 y7 y8 y9 y10 y11 y12 y13 y14 y15 y16 y17 y18 y19 y20 y21, LeO (capstanlaw02_DimProducts.j2 k y0 y1 y2 y3 y4 y5 y6 y7 y8 y9 y10 y11 y12 y13 y14 y15 y16 y17 y18 y19 y20 y21) (capstanlaw02_DimProducts.j2 (k + 1) y0 y1 y2 y3 y4 y5 y6 y7 y8 y9 y10 y11 y12 y13 y14 y15 y16 y17 y18 y19 y20 y21))
 | 0 => ⟨fun _ _ _ _ _ _ _ _ _ _ _ _ _ _ _ _ _ _ _ _ _ _ _ _ _ r h => by simp [capstanlaw02_DimProducts.j0] at h, fun _ _ _ _ _ _ _ _ _ _ _ _ _ _ _ _ _ _ _ _ _ _ r h => by simp [capstanlaw02_DimProducts.j1] at h, fun _ _ _ _ _ _ _ _ _ _ _ _ _ _ _ _ _ _ _ _ _ _ r h => by simp [capstanlaw02_DimProducts.j2] at h⟩
 | k + 1 => by
  obtain ⟨ih0, ih1, ih2⟩ := capstanlaw02_DimProducts.mono_l k
  refine ⟨?_, ?_, ?_⟩
  ·intro y0 y1 y2 y3 y4 y5 y6 y7 y8 y9 y10 y11 y12 y13 y14 y15 y16 y17 y18 y19 y20 y21 y22 y23 y24
   unfold capstanlaw02_DimProducts.j0
   repeat' first
   | (with_reducible exact ih0 _ _ _ _ _ _ _ _ _ _ _ _ _ _ _ _ _ _ _ _ _ _ _ _ _)
   | (with_reducible exact ih1 _ _ _ _ _ _ _ _ _ _ _ _ _ _ _ _ _ _ _ _ _ _)
   | (with_reducible exact ih2 _ _ _ _ _ _ _ _ _ _ _ _ _ _ _ _ _ _ _ _ _ _)
   | (with_reducible exact De.Read.mono _ _)
   | (with_reducible exact capstanlaw02_awake.mono _)
   | (with_reducible exact dim_Value.mono _ _ _ _ _ _ _ _ _)
   | (with_reducible exact LeO.refl _)
   | (with_reducible exact LeO.none _)
   | (with_reducible refine LeO.ite ?_ ?_)
   | (with_reducible refine LeO.bind ?_ (fun _ => ?_))
   | exact ih0 _ _ _ _ _ _ _ _ _ _ _ _ _ _ _ _ _ _ _ _ _ _ _ _ _
   | exact ih1 _ _ _ _ _ _ _ _ _ _ _ _ _ _ _ _ _ _ _ _ _ _
   | exact ih2 _ _ _ _ _ _ _ _ _ _ _ _ _ _ _ _ _ _ _ _ _ _
   | exact De.Read.mono _ _
   | exact capstanlaw02_awake.mono _
   | exact dim_Value.mono _ _ _ _ _ _ _ _ _
   | exact LeO.none _
   | refine LeO.ite ?_ ?_
   | refine LeO.bind ?_ (fun _ => ?_)
  ·intro y0 y1 y2 y3 y4 y5 y6 y7 y8 y9 y10 y11 y12 y13 y14 y15 y16 y17 y18 y19 y20 y21
   unfold capstanlaw02_DimProducts.j1
   repeat' first
   | (with_reducible exact ih0 _ _ _ _ _ _ _ _ _ _ _ _ _ _ _ _ _ _ _ _ _ _ _ _ _)
   | (with_reducible exact ih1 _ _ _ _ _ _ _ _ _ _ _ _ _ _ _ _ _ _ _ _ _ _)
   | (with_reducible exact ih2 _ _ _ _ _ _ _ _ _ _ _ _ _ _ _ _ _ _ _ _ _ _)
   | (with_reducible exact De.Read.mono _ _)
   | (with_reducible exact capstanlaw02_awake.mono _)
   | (with_reducible exact dim_Value.mono _ _ _ _ _ _ _ _ _)
   | (with_reducible exact LeO.refl _)
   | (with_reducible exact LeO.none _)
   | (with_reducible refine LeO.ite ?_ ?_)
   | (with_reducible refine LeO.bind ?_ (fun _ => ?_))
   | exact ih0 _ _ _ _ _ _ _ _ _ _ _ _ _ _ _ _ _ _ _ _ _ _ _ _ _
   | exact ih1 _ _ _ _ _ _ _ _ _ _ _ _ _ _ _ _ _ _ _ _ _ _
   | exact ih2 _ _ _ _ _ _ _ _ _ _ _ _ _ _ _ _ _ _ _ _ _ _
   | exact De.Read.mono _ _
   | exact capstanlaw02_awake.mono _
   | exact dim_Value.mono _ _ _ _ _ _ _ _ _
   | exact LeO.none _
   | refine LeO.ite ?_ ?_
   | refine LeO.bind ?_ (fun _ => ?_)
  ·intro y0 y1 y2 y3 y4 y5 y6 y7 y8 y9 y10 y11 y12 y13 y14 y15 y16 y17 y18 y19 y20 y21
   unfold capstanlaw02_DimProducts.j2
   repeat' first
   | (with_reducible exact ih0 _ _ _ _ _ _ _ _ _ _ _ _ _ _ _ _ _ _ _ _ _ _ _ _ _)
   | (with_reducible exact ih1 _ _ _ _ _ _ _ _ _ _ _ _ _ _ _ _ _ _ _ _ _ _)
   | (with_reducible exact ih2 _ _ _ _ _ _ _ _ _ _ _ _ _ _ _ _ _ _ _ _ _ _)
   | (with_reducible exact De.Read.mono _ _)
   | (with_reducible exact capstanlaw02_awake.mono _)
   | (with_reducible exact dim_Value.mono _ _ _ _ _ _ _ _ _)
   | (with_reducible exact LeO.refl _)
   | (with_reducible exact LeO.none _)
   | (with_reducible refine LeO.ite ?_ ?_)
   | (with_reducible refine LeO.bind ?_ (fun _ => ?_))
   | exact ih0 _ _ _ _ _ _ _ _ _ _ _ _ _ _ _ _ _ _ _ _ _ _ _ _ _
   | exact ih1 _ _ _ _ _ _ _ _ _ _ _ _ _ _ _ _ _ _ _ _ _ _
   | exact ih2 _ _ _ _ _ _ _ _ _ _ _ _ _ _ _ _ _ _ _ _ _ _
   | exact De.Read.mono _ _
   | exact capstanlaw02_awake.mono _
   | exact dim_Value.mono _ _ _ _ _ _ _ _ _
   | exact LeO.none _
   | refine LeO.ite ?_ ?_
   | refine LeO.bind ?_ (fun _ => ?_)
theorem capstanlaw02_DimProducts.mono : ∀ a0 a1 k, LeO (capstanlaw02_DimProducts.f k a0 a1) (capstanlaw02_DimProducts.f (k + 1) a0 a1) := by
 intro a0 a1 k
 obtain ⟨ih0, ih1, ih2⟩ := capstanlaw02_DimProducts.mono_l k
 unfold capstanlaw02_DimProducts.f
 repeat' first
   | (with_reducible exact ih0 _ _ _ _ _ _ _ _ _ _ _ _ _ _ _ _ _ _ _ _ _ _ _ _ _)
   | (with_reducible exact ih1 _ _ _ _ _ _ _ _ _ _ _ _ _ _ _ _ _ _ _ _ _ _)
   | (with_reducible exact ih2 _ _ _ _ _ _ _ _ _ _ _ _ _ _ _ _ _ _ _ _ _ _)
   | (with_reducible exact De.Read.mono _ _)
   | (with_reducible exact capstanlaw02_awake.mono _)
   | (with_reducible exact dim_Value.mono _ _ _ _ _ _ _ _ _)
   | (with_reducible exact LeO.refl _)
   | (with_reducible exact LeO.none _)
   | (with_reducible refine LeO.ite ?_ ?_)
   | (with_reducible refine LeO.bind ?_ (fun _ => ?_))
   | exact ih0 _ _ _ _ _ _ _ _ _ _ _ _ _ _ _ _ _ _ _ _ _ _ _ _ _
   | exact ih1 _ _ _ _ _ _ _ _ _ _ _ _ _ _ _ _ _ _ _ _ _ _
   | exact ih2 _ _ _ _ _ _ _ _ _ _ _ _ _ _ _ _ _ _ _ _ _ _
   | exact De.Read.mono _ _
   | exact capstanlaw02_awake.mono _
   | exact dim_Value.mono _ _ _ _ _ _ _ _ _
   | exact LeO.none _
   | refine LeO.ite ?_ ?_
   | refine LeO.bind ?_ (fun _ => ?_)
set_option maxHeartbeats 8000000 in
set_option maxRecDepth 100000 in
theorem capstanlaw02_DimProducts.calls (k : Nat) (a0 : ByteArray) (a1 : ByteArray) (r : Bool) (w : World) (h : capstanlaw02_DimProducts.f k a0 a1 = some r) (hL_ : Go.Proofs.YtdplfphgomckfaaDoor.Laid.Laid w) :
  Calls Tryd.prog 8 #[.string a0, .string a1] w fun e w' => e = .returned (.bool r) ∧ Below w.heap.size w w' := by
 have HL_ := Aside0.mk hL_
 clear hL_
 have hu26 := Tryd.underlying26
 have hu24 := Tryd.underlying24
 have HB := Aside0.mk (Below.refl w.heap.size w)
 have H : ((capstanlaw02_awake.f k).bind fun t122 => (if t122 = true then ((De.Read.f k a0).bind fun bt123 => ((De.Read.f k a1).bind fun bt133 => (if a0.size + 1 ≤ 9223372036854775807 then (if (a0 ++ (⟨#[42]⟩ : ByteArray)).size + a1.size ≤ 9223372036854775807 then ((De.Read.f k ((a0 ++ (⟨#[42]⟩ : ByteArray)) ++ a1)).bind fun bt143 => (if bt143.2.2.2.2.2.2.2.1 < 0 then (capstanlaw02_DimProducts.j0 k bt123.2.2.2.2.2.2.2.2 bt133.2.2.2.2.2.2.2.2 bt143.2.2.2.2.2.2.2.2 true bt123.1 bt123.2.1 bt123.2.2.1 bt123.2.2.2.1 bt123.2.2.2.2.1 bt123.2.2.2.2.2.1 bt123.2.2.2.2.2.2.1 bt133.1 bt133.2.1 bt133.2.2.1 bt133.2.2.2.1 bt133.2.2.2.2.1 bt133.2.2.2.2.2.1 bt133.2.2.2.2.2.2.1 bt143.1 bt143.2.1 bt143.2.2.1 bt143.2.2.2.1 bt143.2.2.2.2.1 bt143.2.2.2.2.2.1 bt143.2.2.2.2.2.2.1) else (capstanlaw02_DimProducts.j0 k bt123.2.2.2.2.2.2.2.2 bt133.2.2.2.2.2.2.2.2 bt143.2.2.2.2.2.2.2.2 (decide (bt143.2.2.2.2.2.2.2.1 > (wrap64 ((wrap64 ((a0.size : Int) + 1)) + (a1.size : Int))))) bt123.1 bt123.2.1 bt123.2.2.1 bt123.2.2.2.1 bt123.2.2.2.2.1 bt123.2.2.2.2.2.1 bt123.2.2.2.2.2.2.1 bt133.1 bt133.2.1 bt133.2.2.1 bt133.2.2.2.1 bt133.2.2.2.2.1 bt133.2.2.2.2.2.1 bt133.2.2.2.2.2.2.1 bt143.1 bt143.2.1 bt143.2.2.1 bt143.2.2.2.1 bt143.2.2.2.2.1 bt143.2.2.2.2.2.1 bt143.2.2.2.2.2.2.1))) else (none)) else (none)))) else (some false))) = some r := h
 clear h
 replace H := Option.bind_eq_some_iff.mp H
 obtain ⟨t122, A30, H⟩ := H
 replace H : (if t122 = true then ((De.Read.f k a0).bind fun bt123 => ((De.Read.f k a1).bind fun bt133 => (if a0.size + 1 ≤ 9223372036854775807 then (if (a0 ++ (⟨#[42]⟩ : ByteArray)).size + a1.size ≤ 9223372036854775807 then ((De.Read.f k ((a0 ++ (⟨#[42]⟩ : ByteArray)) ++ a1)).bind fun bt143 => (if bt143.2.2.2.2.2.2.2.1 < 0 then (capstanlaw02_DimProducts.j0 k bt123.2.2.2.2.2.2.2.2 bt133.2.2.2.2.2.2.2.2 bt143.2.2.2.2.2.2.2.2 true bt123.1 bt123.2.1 bt123.2.2.1 bt123.2.2.2.1 bt123.2.2.2.2.1 bt123.2.2.2.2.2.1 bt123.2.2.2.2.2.2.1 bt133.1 bt133.2.1 bt133.2.2.1 bt133.2.2.2.1 bt133.2.2.2.2.1 bt133.2.2.2.2.2.1 bt133.2.2.2.2.2.2.1 bt143.1 bt143.2.1 bt143.2.2.1 bt143.2.2.2.1 bt143.2.2.2.2.1 bt143.2.2.2.2.2.1 bt143.2.2.2.2.2.2.1) else (capstanlaw02_DimProducts.j0 k bt123.2.2.2.2.2.2.2.2 bt133.2.2.2.2.2.2.2.2 bt143.2.2.2.2.2.2.2.2 (decide (bt143.2.2.2.2.2.2.2.1 > (wrap64 ((wrap64 ((a0.size : Int) + 1)) + (a1.size : Int))))) bt123.1 bt123.2.1 bt123.2.2.1 bt123.2.2.2.1 bt123.2.2.2.2.1 bt123.2.2.2.2.2.1 bt123.2.2.2.2.2.2.1 bt133.1 bt133.2.1 bt133.2.2.1 bt133.2.2.2.1 bt133.2.2.2.2.1 bt133.2.2.2.2.2.1 bt133.2.2.2.2.2.2.1 bt143.1 bt143.2.1 bt143.2.2.1 bt143.2.2.2.1 bt143.2.2.2.2.1 bt143.2.2.2.2.2.1 bt143.2.2.2.2.2.2.1))) else (none)) else (none)))) else (some false)) = some r := H
 have A3 := Aside0.mk A30
 clear A30
 by_cases c4 : t122 = true
 ·subst c4
  have H1 : ((De.Read.f k a0).bind fun bt123 => ((De.Read.f k a1).bind fun bt133 => (if a0.size + 1 ≤ 9223372036854775807 then (if (a0 ++ (⟨#[42]⟩ : ByteArray)).size + a1.size ≤ 9223372036854775807 then ((De.Read.f k ((a0 ++ (⟨#[42]⟩ : ByteArray)) ++ a1)).bind fun bt143 => (if bt143.2.2.2.2.2.2.2.1 < 0 then (capstanlaw02_DimProducts.j0 k bt123.2.2.2.2.2.2.2.2 bt133.2.2.2.2.2.2.2.2 bt143.2.2.2.2.2.2.2.2 true bt123.1 bt123.2.1 bt123.2.2.1 bt123.2.2.2.1 bt123.2.2.2.2.1 bt123.2.2.2.2.2.1 bt123.2.2.2.2.2.2.1 bt133.1 bt133.2.1 bt133.2.2.1 bt133.2.2.2.1 bt133.2.2.2.2.1 bt133.2.2.2.2.2.1 bt133.2.2.2.2.2.2.1 bt143.1 bt143.2.1 bt143.2.2.1 bt143.2.2.2.1 bt143.2.2.2.2.1 bt143.2.2.2.2.2.1 bt143.2.2.2.2.2.2.1) else (capstanlaw02_DimProducts.j0 k bt123.2.2.2.2.2.2.2.2 bt133.2.2.2.2.2.2.2.2 bt143.2.2.2.2.2.2.2.2 (decide (bt143.2.2.2.2.2.2.2.1 > (wrap64 ((wrap64 ((a0.size : Int) + 1)) + (a1.size : Int))))) bt123.1 bt123.2.1 bt123.2.2.1 bt123.2.2.2.1 bt123.2.2.2.2.1 bt123.2.2.2.2.2.1 bt123.2.2.2.2.2.2.1 bt133.1 bt133.2.1 bt133.2.2.1 bt133.2.2.2.1 bt133.2.2.2.2.1 bt133.2.2.2.2.2.1 bt133.2.2.2.2.2.2.1 bt143.1 bt143.2.1 bt143.2.2.1 bt143.2.2.2.1 bt143.2.2.2.2.1 bt143.2.2.2.2.2.1 bt143.2.2.2.2.2.2.1))) else (none)) else (none)))) = some r := by rw [if_pos rfl] at H; exact H
  clear H
  have H := H1
  clear H1
  replace H := Option.bind_eq_some_iff.mp H
  obtain ⟨⟨t123, t124, t125, t126, t127, t128, t129, t130, t131⟩, A50, H⟩ := H
  replace H : ((De.Read.f k a1).bind fun bt133 => (if a0.size + 1 ≤ 9223372036854775807 then (if (a0 ++ (⟨#[42]⟩ : ByteArray)).size + a1.size ≤ 9223372036854775807 then ((De.Read.f k ((a0 ++ (⟨#[42]⟩ : ByteArray)) ++ a1)).bind fun bt143 => (if bt143.2.2.2.2.2.2.2.1 < 0 then (capstanlaw02_DimProducts.j0 k t131 bt133.2.2.2.2.2.2.2.2 bt143.2.2.2.2.2.2.2.2 true t123 t124 t125 t126 t127 t128 t129 bt133.1 bt133.2.1 bt133.2.2.1 bt133.2.2.2.1 bt133.2.2.2.2.1 bt133.2.2.2.2.2.1 bt133.2.2.2.2.2.2.1 bt143.1 bt143.2.1 bt143.2.2.1 bt143.2.2.2.1 bt143.2.2.2.2.1 bt143.2.2.2.2.2.1 bt143.2.2.2.2.2.2.1) else (capstanlaw02_DimProducts.j0 k t131 bt133.2.2.2.2.2.2.2.2 bt143.2.2.2.2.2.2.2.2 (decide (bt143.2.2.2.2.2.2.2.1 > (wrap64 ((wrap64 ((a0.size : Int) + 1)) + (a1.size : Int))))) t123 t124 t125 t126 t127 t128 t129 bt133.1 bt133.2.1 bt133.2.2.1 bt133.2.2.2.1 bt133.2.2.2.2.1 bt133.2.2.2.2.2.1 bt133.2.2.2.2.2.2.1 bt143.1 bt143.2.1 bt143.2.2.1 bt143.2.2.2.1 bt143.2.2.2.2.1 bt143.2.2.2.2.2.1 bt143.2.2.2.2.2.2.1))) else (none)) else (none))) = some r := H
  have A5 := Aside0.mk A50
  clear A50
  replace H := Option.bind_eq_some_iff.mp H
  obtain ⟨⟨t133, t134, t135, t136, t137, t138, t139, t140, t141⟩, A60, H⟩ := H
  replace H : (if a0.size + 1 ≤ 9223372036854775807 then (if (a0 ++ (⟨#[42]⟩ : ByteArray)).size + a1.size ≤ 9223372036854775807 then ((De.Read.f k ((a0 ++ (⟨#[42]⟩ : ByteArray)) ++ a1)).bind fun bt143 => (if bt143.2.2.2.2.2.2.2.1 < 0 then (capstanlaw02_DimProducts.j0 k t131 t141 bt143.2.2.2.2.2.2.2.2 true t123 t124 t125 t126 t127 t128 t129 t133 t134 t135 t136 t137 t138 t139 bt143.1 bt143.2.1 bt143.2.2.1 bt143.2.2.2.1 bt143.2.2.2.2.1 bt143.2.2.2.2.2.1 bt143.2.2.2.2.2.2.1) else (capstanlaw02_DimProducts.j0 k t131 t141 bt143.2.2.2.2.2.2.2.2 (decide (bt143.2.2.2.2.2.2.2.1 > (wrap64 ((wrap64 ((a0.size : Int) + 1)) + (a1.size : Int))))) t123 t124 t125 t126 t127 t128 t129 t133 t134 t135 t136 t137 t138 t139 bt143.1 bt143.2.1 bt143.2.2.1 bt143.2.2.2.1 bt143.2.2.2.2.1 bt143.2.2.2.2.2.1 bt143.2.2.2.2.2.2.1))) else (none)) else (none)) = some r := H
  have A6 := Aside0.mk A60
  clear A60
  by_cases c7 : a0.size + 1 ≤ 9223372036854775807
  ·rw [if_pos c7] at H
   have c7b0 := eq_true c7
   have c7b1 : decide (a0.size + 1 ≤ 9223372036854775807) = true := decide_eq_true c7
   try have c7b2 : (9223372036854775807 < a0.size + 1) = False := eq_false (Nat.not_lt.2 c7)
   by_cases c8 : (a0 ++ (⟨#[42]⟩ : ByteArray)).size + a1.size ≤ 9223372036854775807
   ·rw [if_pos c8] at H
    have c8b0 := eq_true c8
    have c8b1 : decide ((a0 ++ (⟨#[42]⟩ : ByteArray)).size + a1.size ≤ 9223372036854775807) = true := decide_eq_true c8
    try have c8b2 : (9223372036854775807 < (a0 ++ (⟨#[42]⟩ : ByteArray)).size + a1.size) = False := eq_false (Nat.not_lt.2 c8)
    replace H := Option.bind_eq_some_iff.mp H
    obtain ⟨⟨t143, t144, t145, t146, t147, t148, t149, t150, t151⟩, A90, H⟩ := H
    replace H : (if t150 < 0 then (capstanlaw02_DimProducts.j0 k t131 t141 t151 true t123 t124 t125 t126 t127 t128 t129 t133 t134 t135 t136 t137 t138 t139 t143 t144 t145 t146 t147 t148 t149) else (capstanlaw02_DimProducts.j0 k t131 t141 t151 (decide (t150 > (wrap64 ((wrap64 ((a0.size : Int) + 1)) + (a1.size : Int))))) t123 t124 t125 t126 t127 t128 t129 t133 t134 t135 t136 t137 t138 t139 t143 t144 t145 t146 t147 t148 t149)) = some r := H
    have A9 := Aside0.mk A90
    clear A90
    have HC10 := Aside0.mk H
    clear H
    go_enter Tryd.func8, Tryd.ntmps8
    go_upto_region 6 with (first | ((with_reducible refine gate_callee (f := 9) rfl ?_); refine goesL_ (some 18) rfl rfl Tryd.func9 (by kernel_rfl) rfl #[] rfl (by (try simp only [List.map_toArray, List.map_cons, List.map_nil]); first | done | rfl | (simp only [List.length_drop, List.length_take]; rfl)) ?_; (with_reducible refine (capstanlaw02_awake.calls k  true _ A3.out (by first | exact HL_.out | exact Go.Proofs.YtdplfphgomckfaaDoor.Laid.Laid.below HL_.out (by repeat (first | (with_reducible first | exact HB.out | exact Below.refl _ _ | exact (‹Aside0 (Below _ _ _)›).out | apply below_alloc | apply pw_below_drewN | apply below_drew1 | refine Below.setCell ?_ (Aside0.out (by assumption)) _) | exact HB.out | exact (‹Aside0 (Below _ _ _)›).out)))).mono ?_); rintro e w11 ⟨rfl, hb⟩; refine ⟨_, rfl, ?_⟩; have n0_ := Aside0.mk (below_step (by repeat (first | (with_reducible first | exact HB.out | apply below_alloc | apply pw_below_drewN | apply below_drew1) | exact HB.out)) hb); clear HB; have HB := n0_; clear n0_; (try clear hb); (try clear hb2); (try clear hk); (try clear hi)) | ((with_reducible refine gate_callee (f := 10) rfl ?_); refine goesL_ (some 22) rfl rfl Tryd.func10 (by kernel_rfl) rfl #[.string a0] rfl (by (try simp only [List.map_toArray, List.map_cons, List.map_nil]); first | done | rfl | (simp only [List.length_drop, List.length_take]; rfl)) ?_; (with_reducible refine (De.Read.calls k a0 t123 t124 t125 t126 t127 t128 t129 t130 t131 _ A5.out (by first | exact HL_.out | exact Go.Proofs.YtdplfphgomckfaaDoor.Laid.Laid.below HL_.out (by repeat (first | (with_reducible first | exact HB.out | exact Below.refl _ _ | exact (‹Aside0 (Below _ _ _)›).out | apply below_alloc | apply pw_below_drewN | apply below_drew1 | refine Below.setCell ?_ (Aside0.out (by assumption)) _) | exact HB.out | exact (‹Aside0 (Below _ _ _)›).out)))).mono ?_); rintro e w12 ⟨rfl, hb⟩; refine ⟨_, rfl, ?_⟩; have n0_ := Aside0.mk (below_step (by repeat (first | (with_reducible first | exact HB.out | apply below_alloc | apply pw_below_drewN | apply below_drew1) | exact HB.out)) hb); clear HB; have HB := n0_; clear n0_; (try clear hb); (try clear hb2); (try clear hk); (try clear hi)) | ((with_reducible refine gate_dst (N := 5) rfl ?_); (try (refine gate_guard (by rfl) ?_; dsimp only)); refine box_event ?hg (N := 5) ?hd (cs := #[.int .i64 0, .int .i64 0, .int .i64 0, .int .i64 0, .int .i64 0, .int .i64 0, .int .i64 0]) (t := 26) ?hr ?_; (case hd => rfl); (case hg => rfl); (case hr => first | (go_simp; done) | (go_simp; rfl)); intro gb132 hg w13 hbox hb; have n0_ := Aside0.mk (below_step (by repeat (first | (with_reducible first | exact HB.out | apply below_alloc | apply pw_below_drewN | apply below_drew1) | exact HB.out)) hb); have n1_ := Aside0.mk (hbox); have n2_ := Aside0.mk ((by rw [hg]; exact (below_size (by repeat (first | (with_reducible first | exact HB.out | apply below_alloc | apply pw_below_drewN | apply below_drew1) | exact HB.out))) : w.heap.size ≤ gb132)); have n3_ := Aside0.mk ((by rw [hg]; exact (below_size (by repeat (first | (with_reducible first | exact HB.out | apply below_alloc | apply pw_below_drewN | apply below_drew1) | exact HB.out))) : w.heap.size ≤ gb132)); clear HB; have HB := n0_; have BK132 := n1_; have GW132 := n2_; have GE132 := n3_; clear n0_ n1_ n2_ n3_; clear hb hbox hg; have hcz14_0 : w13.cell? ⟨gb132, 0, none⟩ = some (.int .i64 0) := (blk_cell BK132.out 0).trans rfl; have hcz14_1 : w13.cell? ⟨gb132, 1, none⟩ = some (.int .i64 0) := (blk_cell BK132.out 1).trans rfl; have hcz14_2 : w13.cell? ⟨gb132, 2, none⟩ = some (.int .i64 0) := (blk_cell BK132.out 2).trans rfl; have hcz14_3 : w13.cell? ⟨gb132, 3, none⟩ = some (.int .i64 0) := (blk_cell BK132.out 3).trans rfl; have hcz14_4 : w13.cell? ⟨gb132, 4, none⟩ = some (.int .i64 0) := (blk_cell BK132.out 4).trans rfl; have hcz14_5 : w13.cell? ⟨gb132, 5, none⟩ = some (.int .i64 0) := (blk_cell BK132.out 5).trans rfl; have hcz14_6 : w13.cell? ⟨gb132, 6, none⟩ = some (.int .i64 0) := (blk_cell BK132.out 6).trans rfl; have hfz14_0 := blk_frozen BK132.out 0; have hfz14_1 := blk_frozen BK132.out 1; have hfz14_2 := blk_frozen BK132.out 2; have hfz14_3 := blk_frozen BK132.out 3; have hfz14_4 := blk_frozen BK132.out 4; have hfz14_5 := blk_frozen BK132.out 5; have hfz14_6 := blk_frozen BK132.out 6) | ((with_reducible refine gate_callee (f := 10) rfl ?_); refine goesL_ (some 28) rfl rfl Tryd.func10 (by kernel_rfl) rfl #[.string a1] rfl (by (try simp only [List.map_toArray, List.map_cons, List.map_nil]); first | done | rfl | (simp only [List.length_drop, List.length_take]; rfl)) ?_; (with_reducible refine (De.Read.calls k a1 t133 t134 t135 t136 t137 t138 t139 t140 t141 _ A6.out (by first | exact HL_.out | exact Go.Proofs.YtdplfphgomckfaaDoor.Laid.Laid.below HL_.out (by repeat (first | (with_reducible first | exact HB.out | exact Below.refl _ _ | exact (‹Aside0 (Below _ _ _)›).out | apply below_alloc | apply pw_below_drewN | apply below_drew1 | refine Below.setCell ?_ (Aside0.out (by assumption)) _) | exact HB.out | exact (‹Aside0 (Below _ _ _)›).out)))).mono ?_); rintro e w15 ⟨rfl, hb⟩; refine ⟨_, rfl, ?_⟩; have n0_ := Aside0.mk (blk_below (g := gb132) (o := .cells #[.int .i64 t123, .int .i64 t124, .int .i64 t125, .int .i64 t126, .int .i64 t127, .int .i64 t128, .int .i64 t129] 26 (0, 0)) (by (with_reducible repeat (first | refine blk_drewN ?_ _ | refine blk_drew ?_ | refine blk_alloc ?_ _)); refine blk_put (cs := #[.int .i64 t123, .int .i64 t124, .int .i64 t125, .int .i64 t126, .int .i64 t127, .int .i64 t128, .int .i64 0]) ?_ 6 _ rfl; (with_reducible repeat (first | refine blk_drewN ?_ _ | refine blk_drew ?_ | refine blk_alloc ?_ _)); refine blk_put (cs := #[.int .i64 t123, .int .i64 t124, .int .i64 t125, .int .i64 t126, .int .i64 t127, .int .i64 0, .int .i64 0]) ?_ 5 _ rfl; (with_reducible repeat (first | refine blk_drewN ?_ _ | refine blk_drew ?_ | refine blk_alloc ?_ _)); refine blk_put (cs := #[.int .i64 t123, .int .i64 t124, .int .i64 t125, .int .i64 t126, .int .i64 0, .int .i64 0, .int .i64 0]) ?_ 4 _ rfl; (with_reducible repeat (first | refine blk_drewN ?_ _ | refine blk_drew ?_ | refine blk_alloc ?_ _)); refine blk_put (cs := #[.int .i64 t123, .int .i64 t124, .int .i64 t125, .int .i64 0, .int .i64 0, .int .i64 0, .int .i64 0]) ?_ 3 _ rfl; (with_reducible repeat (first | refine blk_drewN ?_ _ | refine blk_drew ?_ | refine blk_alloc ?_ _)); refine blk_put (cs := #[.int .i64 t123, .int .i64 t124, .int .i64 0, .int .i64 0, .int .i64 0, .int .i64 0, .int .i64 0]) ?_ 2 _ rfl; (with_reducible repeat (first | refine blk_drewN ?_ _ | refine blk_drew ?_ | refine blk_alloc ?_ _)); refine blk_put (cs := #[.int .i64 t123, .int .i64 0, .int .i64 0, .int .i64 0, .int .i64 0, .int .i64 0, .int .i64 0]) ?_ 1 _ rfl; (with_reducible repeat (first | refine blk_drewN ?_ _ | refine blk_drew ?_ | refine blk_alloc ?_ _)); refine blk_put (cs := #[.int .i64 0, .int .i64 0, .int .i64 0, .int .i64 0, .int .i64 0, .int .i64 0, .int .i64 0]) ?_ 0 _ rfl; (with_reducible repeat (first | refine blk_drewN ?_ _ | refine blk_drew ?_ | refine blk_alloc ?_ _)); exact BK132.out) hb); have n1_ := Aside0.mk (below_step (by repeat (first | (with_reducible first | exact HB.out | apply below_alloc | apply pw_below_drewN | apply below_drew1 | refine below_set ?_ GE132.out) | exact HB.out)) hb); clear BK132; clear HB; have BK132 := n0_; have HB := n1_; clear n0_ n1_; (try clear hb); (try clear hb2); (try clear hk); (try clear hi)) | ((with_reducible refine gate_dst (N := 8) rfl ?_); (try (refine gate_guard (by rfl) ?_; dsimp only)); refine box_event ?hg (N := 8) ?hd (cs := #[.int .i64 0, .int .i64 0, .int .i64 0, .int .i64 0, .int .i64 0, .int .i64 0, .int .i64 0]) (t := 26) ?hr ?_; (case hd => rfl); (case hg => rfl); (case hr => first | (go_simp; done) | (go_simp; rfl)); intro gb142 hg w16 hbox hb; have n0_ := Aside0.mk (blk_below (g := gb132) (o := .cells #[.int .i64 t123, .int .i64 t124, .int .i64 t125, .int .i64 t126, .int .i64 t127, .int .i64 t128, .int .i64 t129] 26 (0, 0)) (by (with_reducible repeat (first | refine blk_drewN ?_ _ | refine blk_drew ?_ | refine blk_alloc ?_ _)); exact BK132.out) hb); have n1_ := Aside0.mk (below_step (by repeat (first | (with_reducible first | exact HB.out | apply below_alloc | apply pw_below_drewN | apply below_drew1 | refine below_set ?_ GE132.out) | exact HB.out)) hb); have n2_ := Aside0.mk (hbox); have n3_ := Aside0.mk ((by rw [hg]; exact (below_size (by repeat (first | (with_reducible first | exact HB.out | apply below_alloc | apply pw_below_drewN | apply below_drew1 | refine below_set ?_ GE132.out) | exact HB.out))) : w.heap.size ≤ gb142)); have n4_ := Aside0.mk ((by rw [hg]; exact (below_size (by repeat (first | (with_reducible first | exact HB.out | apply below_alloc | apply pw_below_drewN | apply below_drew1 | refine below_set ?_ GE132.out) | exact HB.out))) : w.heap.size ≤ gb142)); have n5_ := Aside0.mk ((by rw [hg]; exact Nat.ne_of_lt (blk_lt (g := gb132) (o := .cells #[.int .i64 t123, .int .i64 t124, .int .i64 t125, .int .i64 t126, .int .i64 t127, .int .i64 t128, .int .i64 t129] 26 (0, 0)) (by (with_reducible repeat (first | refine blk_drewN ?_ _ | refine blk_drew ?_ | refine blk_alloc ?_ _)); exact BK132.out)) : gb132 ≠ gb142)); have n6_ := Aside0.mk ((by rw [hg]; exact Nat.ne_of_gt (blk_lt (g := gb132) (o := .cells #[.int .i64 t123, .int .i64 t124, .int .i64 t125, .int .i64 t126, .int .i64 t127, .int .i64 t128, .int .i64 t129] 26 (0, 0)) (by (with_reducible repeat (first | refine blk_drewN ?_ _ | refine blk_drew ?_ | refine blk_alloc ?_ _)); exact BK132.out)) : gb142 ≠ gb132)); clear BK132; clear HB; have BK132 := n0_; have HB := n1_; have BK142 := n2_; have GW142 := n3_; have GE142 := n4_; have NB132_142 := n5_; have NB142_132 := n6_; clear n0_ n1_ n2_ n3_ n4_ n5_ n6_; clear hb hbox hg; have hnb17 := NB142_132.out; have hnc17 := NB132_142.out; have hcz18_0 : w16.cell? ⟨gb142, 0, none⟩ = some (.int .i64 0) := (blk_cell BK142.out 0).trans rfl; have hcz18_1 : w16.cell? ⟨gb142, 1, none⟩ = some (.int .i64 0) := (blk_cell BK142.out 1).trans rfl; have hcz18_2 : w16.cell? ⟨gb142, 2, none⟩ = some (.int .i64 0) := (blk_cell BK142.out 2).trans rfl; have hcz18_3 : w16.cell? ⟨gb142, 3, none⟩ = some (.int .i64 0) := (blk_cell BK142.out 3).trans rfl; have hcz18_4 : w16.cell? ⟨gb142, 4, none⟩ = some (.int .i64 0) := (blk_cell BK142.out 4).trans rfl; have hcz18_5 : w16.cell? ⟨gb142, 5, none⟩ = some (.int .i64 0) := (blk_cell BK142.out 5).trans rfl; have hcz18_6 : w16.cell? ⟨gb142, 6, none⟩ = some (.int .i64 0) := (blk_cell BK142.out 6).trans rfl; have hfz18_0 := blk_frozen BK142.out 0; have hfz18_1 := blk_frozen BK142.out 1; have hfz18_2 := blk_frozen BK142.out 2; have hfz18_3 := blk_frozen BK142.out 3; have hfz18_4 := blk_frozen BK142.out 4; have hfz18_5 := blk_frozen BK142.out 5; have hfz18_6 := blk_frozen BK142.out 6) | ((with_reducible refine gate_callee (f := 10) rfl ?_); refine goesL_ (some 37) rfl rfl Tryd.func10 (by kernel_rfl) rfl #[.string ((a0 ++ (⟨#[42]⟩ : ByteArray)) ++ a1)] rfl (by (try simp only [List.map_toArray, List.map_cons, List.map_nil]); first | done | rfl | (simp only [List.length_drop, List.length_take]; rfl)) ?_; (with_reducible refine (De.Read.calls k ((a0 ++ (⟨#[42]⟩ : ByteArray)) ++ a1) t143 t144 t145 t146 t147 t148 t149 t150 t151 _ A9.out (by first | exact HL_.out | exact Go.Proofs.YtdplfphgomckfaaDoor.Laid.Laid.below HL_.out (by repeat (first | (with_reducible first | exact HB.out | exact Below.refl _ _ | exact (‹Aside0 (Below _ _ _)›).out | apply below_alloc | apply pw_below_drewN | apply below_drew1 | refine Below.setCell ?_ (Aside0.out (by assumption)) _) | exact HB.out | exact (‹Aside0 (Below _ _ _)›).out)))).mono ?_); rintro e w19 ⟨rfl, hb⟩; refine ⟨_, rfl, ?_⟩; have n0_ := Aside0.mk (blk_below (g := gb132) (o := .cells #[.int .i64 t123, .int .i64 t124, .int .i64 t125, .int .i64 t126, .int .i64 t127, .int .i64 t128, .int .i64 t129] 26 (0, 0)) (by (with_reducible repeat (first | refine blk_drewN ?_ _ | refine blk_drew ?_ | refine blk_alloc ?_ _)); refine blk_far ?_ NB132_142.out _; (with_reducible repeat (first | refine blk_drewN ?_ _ | refine blk_drew ?_ | refine blk_alloc ?_ _)); refine blk_far ?_ NB132_142.out _; (with_reducible repeat (first | refine blk_drewN ?_ _ | refine blk_drew ?_ | refine blk_alloc ?_ _)); refine blk_far ?_ NB132_142.out _; (with_reducible repeat (first | refine blk_drewN ?_ _ | refine blk_drew ?_ | refine blk_alloc ?_ _)); refine blk_far ?_ NB132_142.out _; (with_reducible repeat (first | refine blk_drewN ?_ _ | refine blk_drew ?_ | refine blk_alloc ?_ _)); refine blk_far ?_ NB132_142.out _; (with_reducible repeat (first | refine blk_drewN ?_ _ | refine blk_drew ?_ | refine blk_alloc ?_ _)); refine blk_far ?_ NB132_142.out _; (with_reducible repeat (first | refine blk_drewN ?_ _ | refine blk_drew ?_ | refine blk_alloc ?_ _)); refine blk_far ?_ NB132_142.out _; (with_reducible repeat (first | refine blk_drewN ?_ _ | refine blk_drew ?_ | refine blk_alloc ?_ _)); exact BK132.out) hb); have n1_ := Aside0.mk (blk_below (g := gb142) (o := .cells #[.int .i64 t133, .int .i64 t134, .int .i64 t135, .int .i64 t136, .int .i64 t137, .int .i64 t138, .int .i64 t139] 26 (0, 0)) (by (with_reducible repeat (first | refine blk_drewN ?_ _ | refine blk_drew ?_ | refine blk_alloc ?_ _)); refine blk_put (cs := #[.int .i64 t133, .int .i64 t134, .int .i64 t135, .int .i64 t136, .int .i64 t137, .int .i64 t138, .int .i64 0]) ?_ 6 _ rfl; (with_reducible repeat (first | refine blk_drewN ?_ _ | refine blk_drew ?_ | refine blk_alloc ?_ _)); refine blk_put (cs := #[.int .i64 t133, .int .i64 t134, .int .i64 t135, .int .i64 t136, .int .i64 t137, .int .i64 0, .int .i64 0]) ?_ 5 _ rfl; (with_reducible repeat (first | refine blk_drewN ?_ _ | refine blk_drew ?_ | refine blk_alloc ?_ _)); refine blk_put (cs := #[.int .i64 t133, .int .i64 t134, .int .i64 t135, .int .i64 t136, .int .i64 0, .int .i64 0, .int .i64 0]) ?_ 4 _ rfl; (with_reducible repeat (first | refine blk_drewN ?_ _ | refine blk_drew ?_ | refine blk_alloc ?_ _)); refine blk_put (cs := #[.int .i64 t133, .int .i64 t134, .int .i64 t135, .int .i64 0, .int .i64 0, .int .i64 0, .int .i64 0]) ?_ 3 _ rfl; (with_reducible repeat (first | refine blk_drewN ?_ _ | refine blk_drew ?_ | refine blk_alloc ?_ _)); refine blk_put (cs := #[.int .i64 t133, .int .i64 t134, .int .i64 0, .int .i64 0, .int .i64 0, .int .i64 0, .int .i64 0]) ?_ 2 _ rfl; (with_reducible repeat (first | refine blk_drewN ?_ _ | refine blk_drew ?_ | refine blk_alloc ?_ _)); refine blk_put (cs := #[.int .i64 t133, .int .i64 0, .int .i64 0, .int .i64 0, .int .i64 0, .int .i64 0, .int .i64 0]) ?_ 1 _ rfl; (with_reducible repeat (first | refine blk_drewN ?_ _ | refine blk_drew ?_ | refine blk_alloc ?_ _)); refine blk_put (cs := #[.int .i64 0, .int .i64 0, .int .i64 0, .int .i64 0, .int .i64 0, .int .i64 0, .int .i64 0]) ?_ 0 _ rfl; (with_reducible repeat (first | refine blk_drewN ?_ _ | refine blk_drew ?_ | refine blk_alloc ?_ _)); exact BK142.out) hb); have n2_ := Aside0.mk (below_step (by repeat (first | (with_reducible first | exact HB.out | apply below_alloc | apply pw_below_drewN | apply below_drew1 | refine below_set ?_ GE132.out | refine below_set ?_ GE142.out) | exact HB.out)) hb); clear BK132; clear BK142; clear HB; have BK132 := n0_; have BK142 := n1_; have HB := n2_; clear n0_ n1_ n2_; (try clear hb); (try clear hb2); (try clear hk); (try clear hi)) | ((with_reducible refine gate_dst (N := 11) rfl ?_); (try (refine gate_guard (by rfl) ?_; dsimp only)); refine box_event ?hg (N := 11) ?hd (cs := #[.int .i64 0, .int .i64 0, .int .i64 0, .int .i64 0, .int .i64 0, .int .i64 0, .int .i64 0]) (t := 26) ?hr ?_; (case hd => rfl); (case hg => rfl); (case hr => first | (go_simp; done) | (go_simp; rfl)); intro gb152 hg w20 hbox hb; have n0_ := Aside0.mk (blk_below (g := gb132) (o := .cells #[.int .i64 t123, .int .i64 t124, .int .i64 t125, .int .i64 t126, .int .i64 t127, .int .i64 t128, .int .i64 t129] 26 (0, 0)) (by (with_reducible repeat (first | refine blk_drewN ?_ _ | refine blk_drew ?_ | refine blk_alloc ?_ _)); exact BK132.out) hb); have n1_ := Aside0.mk (blk_below (g := gb142) (o := .cells #[.int .i64 t133, .int .i64 t134, .int .i64 t135, .int .i64 t136, .int .i64 t137, .int .i64 t138, .int .i64 t139] 26 (0, 0)) (by (with_reducible repeat (first | refine blk_drewN ?_ _ | refine blk_drew ?_ | refine blk_alloc ?_ _)); exact BK142.out) hb); have n2_ := Aside0.mk (below_step (by repeat (first | (with_reducible first | exact HB.out | apply below_alloc | apply pw_below_drewN | apply below_drew1 | refine below_set ?_ GE132.out | refine below_set ?_ GE142.out) | exact HB.out)) hb); have n3_ := Aside0.mk (hbox); have n4_ := Aside0.mk ((by rw [hg]; exact (below_size (by repeat (first | (with_reducible first | exact HB.out | apply below_alloc | apply pw_below_drewN | apply below_drew1 | refine below_set ?_ GE132.out | refine below_set ?_ GE142.out) | exact HB.out))) : w.heap.size ≤ gb152)); have n5_ := Aside0.mk ((by rw [hg]; exact (below_size (by repeat (first | (with_reducible first | exact HB.out | apply below_alloc | apply pw_below_drewN | apply below_drew1 | refine below_set ?_ GE132.out | refine below_set ?_ GE142.out) | exact HB.out))) : w.heap.size ≤ gb152)); have n6_ := Aside0.mk ((by rw [hg]; exact Nat.ne_of_lt (blk_lt (g := gb132) (o := .cells #[.int .i64 t123, .int .i64 t124, .int .i64 t125, .int .i64 t126, .int .i64 t127, .int .i64 t128, .int .i64 t129] 26 (0, 0)) (by (with_reducible repeat (first | refine blk_drewN ?_ _ | refine blk_drew ?_ | refine blk_alloc ?_ _)); exact BK132.out)) : gb132 ≠ gb152)); have n7_ := Aside0.mk ((by rw [hg]; exact Nat.ne_of_gt (blk_lt (g := gb132) (o := .cells #[.int .i64 t123, .int .i64 t124, .int .i64 t125, .int .i64 t126, .int .i64 t127, .int .i64 t128, .int .i64 t129] 26 (0, 0)) (by (with_reducible repeat (first | refine blk_drewN ?_ _ | refine blk_drew ?_ | refine blk_alloc ?_ _)); exact BK132.out)) : gb152 ≠ gb132)); have n8_ := Aside0.mk ((by rw [hg]; exact Nat.ne_of_lt (blk_lt (g := gb142) (o := .cells #[.int .i64 t133, .int .i64 t134, .int .i64 t135, .int .i64 t136, .int .i64 t137, .int .i64 t138, .int .i64 t139] 26 (0, 0)) (by (with_reducible repeat (first | refine blk_drewN ?_ _ | refine blk_drew ?_ | refine blk_alloc ?_ _)); exact BK142.out)) : gb142 ≠ gb152)); have n9_ := Aside0.mk ((by rw [hg]; exact Nat.ne_of_gt (blk_lt (g := gb142) (o := .cells #[.int .i64 t133, .int .i64 t134, .int .i64 t135, .int .i64 t136, .int .i64 t137, .int .i64 t138, .int .i64 t139] 26 (0, 0)) (by (with_reducible repeat (first | refine blk_drewN ?_ _ | refine blk_drew ?_ | refine blk_alloc ?_ _)); exact BK142.out)) : gb152 ≠ gb142)); clear BK132; clear BK142; clear HB; have BK132 := n0_; have BK142 := n1_; have HB := n2_; have BK152 := n3_; have GW152 := n4_; have GE152 := n5_; have NB132_152 := n6_; have NB152_132 := n7_; have NB142_152 := n8_; have NB152_142 := n9_; clear n0_ n1_ n2_ n3_ n4_ n5_ n6_ n7_ n8_ n9_; clear hb hbox hg; have hnb21 := NB152_132.out; have hnc21 := NB132_152.out; have hnb22 := NB152_142.out; have hnc22 := NB142_152.out; have hcz23_0 : w20.cell? ⟨gb152, 0, none⟩ = some (.int .i64 0) := (blk_cell BK152.out 0).trans rfl; have hcz23_1 : w20.cell? ⟨gb152, 1, none⟩ = some (.int .i64 0) := (blk_cell BK152.out 1).trans rfl; have hcz23_2 : w20.cell? ⟨gb152, 2, none⟩ = some (.int .i64 0) := (blk_cell BK152.out 2).trans rfl; have hcz23_3 : w20.cell? ⟨gb152, 3, none⟩ = some (.int .i64 0) := (blk_cell BK152.out 3).trans rfl; have hcz23_4 : w20.cell? ⟨gb152, 4, none⟩ = some (.int .i64 0) := (blk_cell BK152.out 4).trans rfl; have hcz23_5 : w20.cell? ⟨gb152, 5, none⟩ = some (.int .i64 0) := (blk_cell BK152.out 5).trans rfl; have hcz23_6 : w20.cell? ⟨gb152, 6, none⟩ = some (.int .i64 0) := (blk_cell BK152.out 6).trans rfl; have hfz23_0 := blk_frozen BK152.out 0; have hfz23_1 := blk_frozen BK152.out 1; have hfz23_2 := blk_frozen BK152.out 2; have hfz23_3 := blk_frozen BK152.out 3; have hfz23_4 := blk_frozen BK152.out 4; have hfz23_5 := blk_frozen BK152.out 5; have hfz23_6 := blk_frozen BK152.out 6))
    (try simp only [Act.put, List.setIfInBounds_toArray, List.set_cons_zero, List.set_cons_succ])
    go_cut [52] (fun v52 wc => ∃ (kq : Nat) (x52_9 : Bool), v52 = .bool x52_9 ∧ Aside0 (capstanlaw02_DimProducts.j0 kq t131 t141 t151 x52_9 t123 t124 t125 t126 t127 t128 t129 t133 t134 t135 t136 t137 t138 t139 t143 t144 t145 t146 t147 t148 t149 = some r) ∧ Aside0 (kq ≤ k) ∧ Aside0 (wc.heap[gb132]? = some (.cells #[.int .i64 t123, .int .i64 t124, .int .i64 t125, .int .i64 t126, .int .i64 t127, .int .i64 t128, .int .i64 t129] 26 (0, 0))) ∧ Aside0 (wc.heap[gb142]? = some (.cells #[.int .i64 t133, .int .i64 t134, .int .i64 t135, .int .i64 t136, .int .i64 t137, .int .i64 t138, .int .i64 t139] 26 (0, 0))) ∧ Aside0 (wc.heap[gb152]? = some (.cells #[.int .i64 t143, .int .i64 t144, .int .i64 t145, .int .i64 t146, .int .i64 t147, .int .i64 t148, .int .i64 t149] 26 (0, 0))) ∧ Aside0 (Below w.heap.size w wc))
    case first =>
     have H := HC10.out
     clear HC10
     by_cases c24 : t150 < 0
     ·rw [if_pos c24] at H
      have c24b0 : decide (t150 < 0) = true := decide_eq_true c24
      clear c24
      (first | rw [c24b0] | (simp only [i64_w, i32_w]; rw [c24b0]) | skip)
      have H' := Aside0.mk H
      clear H
      go_wp2
      go_meet
      case rel => exact ⟨_, (true), (by first | rfl | (simp; done) | (simp [*]; done)), H', ⟨by first | omega | exact Nat.le_refl _⟩, ⟨by (with_reducible repeat (first | refine blk_drewN ?_ _ | refine blk_drew ?_ | refine blk_alloc ?_ _)); refine blk_far ?_ NB132_152.out _; (with_reducible repeat (first | refine blk_drewN ?_ _ | refine blk_drew ?_ | refine blk_alloc ?_ _)); refine blk_far ?_ NB132_152.out _; (with_reducible repeat (first | refine blk_drewN ?_ _ | refine blk_drew ?_ | refine blk_alloc ?_ _)); refine blk_far ?_ NB132_152.out _; (with_reducible repeat (first | refine blk_drewN ?_ _ | refine blk_drew ?_ | refine blk_alloc ?_ _)); refine blk_far ?_ NB132_152.out _; (with_reducible repeat (first | refine blk_drewN ?_ _ | refine blk_drew ?_ | refine blk_alloc ?_ _)); refine blk_far ?_ NB132_152.out _; (with_reducible repeat (first | refine blk_drewN ?_ _ | refine blk_drew ?_ | refine blk_alloc ?_ _)); refine blk_far ?_ NB132_152.out _; (with_reducible repeat (first | refine blk_drewN ?_ _ | refine blk_drew ?_ | refine blk_alloc ?_ _)); refine blk_far ?_ NB132_152.out _; (with_reducible repeat (first | refine blk_drewN ?_ _ | refine blk_drew ?_ | refine blk_alloc ?_ _)); exact BK132.out⟩, ⟨by (with_reducible repeat (first | refine blk_drewN ?_ _ | refine blk_drew ?_ | refine blk_alloc ?_ _)); refine blk_far ?_ NB142_152.out _; (with_reducible repeat (first | refine blk_drewN ?_ _ | refine blk_drew ?_ | refine blk_alloc ?_ _)); refine blk_far ?_ NB142_152.out _; (with_reducible repeat (first | refine blk_drewN ?_ _ | refine blk_drew ?_ | refine blk_alloc ?_ _)); refine blk_far ?_ NB142_152.out _; (with_reducible repeat (first | refine blk_drewN ?_ _ | refine blk_drew ?_ | refine blk_alloc ?_ _)); refine blk_far ?_ NB142_152.out _; (with_reducible repeat (first | refine blk_drewN ?_ _ | refine blk_drew ?_ | refine blk_alloc ?_ _)); refine blk_far ?_ NB142_152.out _; (with_reducible repeat (first | refine blk_drewN ?_ _ | refine blk_drew ?_ | refine blk_alloc ?_ _)); refine blk_far ?_ NB142_152.out _; (with_reducible repeat (first | refine blk_drewN ?_ _ | refine blk_drew ?_ | refine blk_alloc ?_ _)); refine blk_far ?_ NB142_152.out _; (with_reducible repeat (first | refine blk_drewN ?_ _ | refine blk_drew ?_ | refine blk_alloc ?_ _)); exact BK142.out⟩, ⟨by (with_reducible repeat (first | refine blk_drewN ?_ _ | refine blk_drew ?_ | refine blk_alloc ?_ _)); refine blk_put (cs := #[.int .i64 t143, .int .i64 t144, .int .i64 t145, .int .i64 t146, .int .i64 t147, .int .i64 t148, .int .i64 0]) ?_ 6 _ rfl; (with_reducible repeat (first | refine blk_drewN ?_ _ | refine blk_drew ?_ | refine blk_alloc ?_ _)); refine blk_put (cs := #[.int .i64 t143, .int .i64 t144, .int .i64 t145, .int .i64 t146, .int .i64 t147, .int .i64 0, .int .i64 0]) ?_ 5 _ rfl; (with_reducible repeat (first | refine blk_drewN ?_ _ | refine blk_drew ?_ | refine blk_alloc ?_ _)); refine blk_put (cs := #[.int .i64 t143, .int .i64 t144, .int .i64 t145, .int .i64 t146, .int .i64 0, .int .i64 0, .int .i64 0]) ?_ 4 _ rfl; (with_reducible repeat (first | refine blk_drewN ?_ _ | refine blk_drew ?_ | refine blk_alloc ?_ _)); refine blk_put (cs := #[.int .i64 t143, .int .i64 t144, .int .i64 t145, .int .i64 0, .int .i64 0, .int .i64 0, .int .i64 0]) ?_ 3 _ rfl; (with_reducible repeat (first | refine blk_drewN ?_ _ | refine blk_drew ?_ | refine blk_alloc ?_ _)); refine blk_put (cs := #[.int .i64 t143, .int .i64 t144, .int .i64 0, .int .i64 0, .int .i64 0, .int .i64 0, .int .i64 0]) ?_ 2 _ rfl; (with_reducible repeat (first | refine blk_drewN ?_ _ | refine blk_drew ?_ | refine blk_alloc ?_ _)); refine blk_put (cs := #[.int .i64 t143, .int .i64 0, .int .i64 0, .int .i64 0, .int .i64 0, .int .i64 0, .int .i64 0]) ?_ 1 _ rfl; (with_reducible repeat (first | refine blk_drewN ?_ _ | refine blk_drew ?_ | refine blk_alloc ?_ _)); refine blk_put (cs := #[.int .i64 0, .int .i64 0, .int .i64 0, .int .i64 0, .int .i64 0, .int .i64 0, .int .i64 0]) ?_ 0 _ rfl; (with_reducible repeat (first | refine blk_drewN ?_ _ | refine blk_drew ?_ | refine blk_alloc ?_ _)); exact BK152.out⟩, ⟨by repeat (first | (with_reducible first | exact HB.out | apply below_alloc | apply pw_below_drewN | apply below_drew1 | refine below_set ?_ GE132.out | refine below_set ?_ GE142.out | refine below_set ?_ GE152.out) | exact HB.out)⟩⟩
     ·rw [if_neg c24] at H
      have c24b0 : decide (t150 < 0) = false := decide_eq_false c24
      clear c24
      (first | rw [c24b0] | (simp only [i64_w, i32_w]; rw [c24b0]) | skip)
      have H' := Aside0.mk H
      clear H
      go_wp2
      go_meet
      case rel => exact ⟨_, (decide (t150 > (wrap64 ((wrap64 ((a0.size : Int) + 1)) + (a1.size : Int))))), (by first | rfl | (simp; done) | (simp [*]; done) | (rw [show wrap64 ((a0.size : Int) + 1) = (a0.size : Int) + 1 from by unfold wrap64; omega]; done) | (rw [show wrap64 ((a0.size : Int) + 1) = (a0.size : Int) + 1 from by unfold wrap64; omega])), H', ⟨by first | omega | exact Nat.le_refl _⟩, ⟨by (with_reducible repeat (first | refine blk_drewN ?_ _ | refine blk_drew ?_ | refine blk_alloc ?_ _)); refine blk_far ?_ NB132_152.out _; (with_reducible repeat (first | refine blk_drewN ?_ _ | refine blk_drew ?_ | refine blk_alloc ?_ _)); refine blk_far ?_ NB132_152.out _; (with_reducible repeat (first | refine blk_drewN ?_ _ | refine blk_drew ?_ | refine blk_alloc ?_ _)); refine blk_far ?_ NB132_152.out _; (with_reducible repeat (first | refine blk_drewN ?_ _ | refine blk_drew ?_ | refine blk_alloc ?_ _)); refine blk_far ?_ NB132_152.out _; (with_reducible repeat (first | refine blk_drewN ?_ _ | refine blk_drew ?_ | refine blk_alloc ?_ _)); refine blk_far ?_ NB132_152.out _; (with_reducible repeat (first | refine blk_drewN ?_ _ | refine blk_drew ?_ | refine blk_alloc ?_ _)); refine blk_far ?_ NB132_152.out _; (with_reducible repeat (first | refine blk_drewN ?_ _ | refine blk_drew ?_ | refine blk_alloc ?_ _)); refine blk_far ?_ NB132_152.out _; (with_reducible repeat (first | refine blk_drewN ?_ _ | refine blk_drew ?_ | refine blk_alloc ?_ _)); exact BK132.out⟩, ⟨by (with_reducible repeat (first | refine blk_drewN ?_ _ | refine blk_drew ?_ | refine blk_alloc ?_ _)); refine blk_far ?_ NB142_152.out _; (with_reducible repeat (first | refine blk_drewN ?_ _ | refine blk_drew ?_ | refine blk_alloc ?_ _)); refine blk_far ?_ NB142_152.out _; (with_reducible repeat (first | refine blk_drewN ?_ _ | refine blk_drew ?_ | refine blk_alloc ?_ _)); refine blk_far ?_ NB142_152.out _; (with_reducible repeat (first | refine blk_drewN ?_ _ | refine blk_drew ?_ | refine blk_alloc ?_ _)); refine blk_far ?_ NB142_152.out _; (with_reducible repeat (first | refine blk_drewN ?_ _ | refine blk_drew ?_ | refine blk_alloc ?_ _)); refine blk_far ?_ NB142_152.out _; (with_reducible repeat (first | refine blk_drewN ?_ _ | refine blk_drew ?_ | refine blk_alloc ?_ _)); refine blk_far ?_ NB142_152.out _; (with_reducible repeat (first | refine blk_drewN ?_ _ | refine blk_drew ?_ | refine blk_alloc ?_ _)); refine blk_far ?_ NB142_152.out _; (with_reducible repeat (first | refine blk_drewN ?_ _ | refine blk_drew ?_ | refine blk_alloc ?_ _)); exact BK142.out⟩, ⟨by (with_reducible repeat (first | refine blk_drewN ?_ _ | refine blk_drew ?_ | refine blk_alloc ?_ _)); refine blk_put (cs := #[.int .i64 t143, .int .i64 t144, .int .i64 t145, .int .i64 t146, .int .i64 t147, .int .i64 t148, .int .i64 0]) ?_ 6 _ rfl; (with_reducible repeat (first | refine blk_drewN ?_ _ | refine blk_drew ?_ | refine blk_alloc ?_ _)); refine blk_put (cs := #[.int .i64 t143, .int .i64 t144, .int .i64 t145, .int .i64 t146, .int .i64 t147, .int .i64 0, .int .i64 0]) ?_ 5 _ rfl; (with_reducible repeat (first | refine blk_drewN ?_ _ | refine blk_drew ?_ | refine blk_alloc ?_ _)); refine blk_put (cs := #[.int .i64 t143, .int .i64 t144, .int .i64 t145, .int .i64 t146, .int .i64 0, .int .i64 0, .int .i64 0]) ?_ 4 _ rfl; (with_reducible repeat (first | refine blk_drewN ?_ _ | refine blk_drew ?_ | refine blk_alloc ?_ _)); refine blk_put (cs := #[.int .i64 t143, .int .i64 t144, .int .i64 t145, .int .i64 0, .int .i64 0, .int .i64 0, .int .i64 0]) ?_ 3 _ rfl; (with_reducible repeat (first | refine blk_drewN ?_ _ | refine blk_drew ?_ | refine blk_alloc ?_ _)); refine blk_put (cs := #[.int .i64 t143, .int .i64 t144, .int .i64 0, .int .i64 0, .int .i64 0, .int .i64 0, .int .i64 0]) ?_ 2 _ rfl; (with_reducible repeat (first | refine blk_drewN ?_ _ | refine blk_drew ?_ | refine blk_alloc ?_ _)); refine blk_put (cs := #[.int .i64 t143, .int .i64 0, .int .i64 0, .int .i64 0, .int .i64 0, .int .i64 0, .int .i64 0]) ?_ 1 _ rfl; (with_reducible repeat (first | refine blk_drewN ?_ _ | refine blk_drew ?_ | refine blk_alloc ?_ _)); refine blk_put (cs := #[.int .i64 0, .int .i64 0, .int .i64 0, .int .i64 0, .int .i64 0, .int .i64 0, .int .i64 0]) ?_ 0 _ rfl; (with_reducible repeat (first | refine blk_drewN ?_ _ | refine blk_drew ?_ | refine blk_alloc ?_ _)); exact BK152.out⟩, ⟨by repeat (first | (with_reducible first | exact HB.out | apply below_alloc | apply pw_below_drewN | apply below_drew1 | refine below_set ?_ GE132.out | refine below_set ?_ GE142.out | refine below_set ?_ GE152.out) | exact HB.out)⟩⟩
    case rest =>
     clear HC10
     try clear c4
     try clear c7
     try clear c7b0
     try clear c7b1
     try clear c7b2
     try clear c8
     try clear c8b0
     try clear c8b1
     try clear c8b2
     obtain ⟨kq, x52_9, rfl, HA, HJ9, BK132, BK142, BK152, HB⟩ := hcut
     cases kq with
     | zero => exact absurd HA.out (by simp [capstanlaw02_DimProducts.j0])
     | succ kj9 =>
      have H := HA.out
      clear HA
      simp only [capstanlaw02_DimProducts.j0] at H
      by_cases c25 : x52_9 = true
      ·subst c25
       have H1 : (some false) = some r := by rw [if_pos rfl] at H; exact H
       clear H
       have H := H1
       clear H1
       obtain rfl := Option.some.inj H
       go_wp2
       go_ret
       exact ⟨by first | rfl | (simp [errW_none, errW_some] <;> rfl) | (simp [*, errW_none, errW_some] <;> rfl), by repeat (first | (with_reducible first | exact HB.out | apply below_alloc | apply pw_below_drewN | apply below_drew1 | refine below_set ?_ GE132.out | refine below_set ?_ GE142.out | refine below_set ?_ GE152.out) | exact HB.out)⟩
      ·replace c25 := Bool.eq_false_iff.mpr c25
       subst c25
       have H1 : (if t131 = 20 then (if t151 = 20 then (some true) else (some (t151 == 2))) else (if t131 = 0 then (if t141 = 0 then (capstanlaw02_DimProducts.j1 kj9 (t151 != 0) t123 t124 t125 t126 t127 t128 t129 t133 t134 t135 t136 t137 t138 t139 t143 t144 t145 t146 t147 t148 t149) else (capstanlaw02_DimProducts.j1 kj9 true t123 t124 t125 t126 t127 t128 t129 t133 t134 t135 t136 t137 t138 t139 t143 t144 t145 t146 t147 t148 t149)) else (capstanlaw02_DimProducts.j1 kj9 true t123 t124 t125 t126 t127 t128 t129 t133 t134 t135 t136 t137 t138 t139 t143 t144 t145 t146 t147 t148 t149))) = some r := by rw [if_neg (show ¬ (false = true) by decide)] at H; exact H
       clear H
       have H := H1
       clear H1
       by_cases c26 : t131 = 20
       ·rw [if_pos c26] at H
        have c26b0 : (t131 == 20) = true := beq_iff_eq.mpr c26
        have c26b1 : (t131 != 20) = false := bne_eq_false_iff_eq.mpr c26
        clear c26
        by_cases c27 : t151 = 20
        ·rw [if_pos c27] at H
         have c27b0 : (t151 == 20) = true := beq_iff_eq.mpr c27
         have c27b1 : (t151 != 20) = false := bne_eq_false_iff_eq.mpr c27
         clear c27
         obtain rfl := Option.some.inj H
         go_wp2
         go_ret
         exact ⟨by first | rfl | (simp [errW_none, errW_some] <;> rfl) | (simp [*, errW_none, errW_some] <;> rfl), by repeat (first | (with_reducible first | exact HB.out | apply below_alloc | apply pw_below_drewN | apply below_drew1 | refine below_set ?_ GE132.out | refine below_set ?_ GE142.out | refine below_set ?_ GE152.out) | exact HB.out)⟩
        ·rw [if_neg c27] at H
         have c27b0 : (t151 == 20) = false := beq_eq_false_iff_ne.mpr c27
         have c27b1 : (t151 != 20) = true := bne_iff_ne.mpr c27
         obtain rfl := Option.some.inj H
         go_wp2
         go_ret
         exact ⟨by first | rfl | (simp [errW_none, errW_some] <;> rfl) | (simp [*, errW_none, errW_some] <;> rfl), by repeat (first | (with_reducible first | exact HB.out | apply below_alloc | apply pw_below_drewN | apply below_drew1 | refine below_set ?_ GE132.out | refine below_set ?_ GE142.out | refine below_set ?_ GE152.out) | exact HB.out)⟩
       ·rw [if_neg c26] at H
        have c26b0 : (t131 == 20) = false := beq_eq_false_iff_ne.mpr c26
        have c26b1 : (t131 != 20) = true := bne_iff_ne.mpr c26
        have HC28 := Aside0.mk H
        clear H
        go_upto_region 10 with (fail)
        go_cut [70] (fun v70 wc => ∃ (kq : Nat) (x70_27 : Bool), v70 = .bool x70_27 ∧ Aside0 (capstanlaw02_DimProducts.j1 kq x70_27 t123 t124 t125 t126 t127 t128 t129 t133 t134 t135 t136 t137 t138 t139 t143 t144 t145 t146 t147 t148 t149 = some r) ∧ Aside0 (kq ≤ kj9) ∧ Aside0 (wc.heap[gb132]? = some (.cells #[.int .i64 t123, .int .i64 t124, .int .i64 t125, .int .i64 t126, .int .i64 t127, .int .i64 t128, .int .i64 t129] 26 (0, 0))) ∧ Aside0 (wc.heap[gb142]? = some (.cells #[.int .i64 t133, .int .i64 t134, .int .i64 t135, .int .i64 t136, .int .i64 t137, .int .i64 t138, .int .i64 t139] 26 (0, 0))) ∧ Aside0 (wc.heap[gb152]? = some (.cells #[.int .i64 t143, .int .i64 t144, .int .i64 t145, .int .i64 t146, .int .i64 t147, .int .i64 t148, .int .i64 t149] 26 (0, 0))) ∧ Aside0 (Below w.heap.size w wc))
        case first =>
         have H := HC28.out
         clear HC28
         by_cases c29 : t131 = 0
         ·rw [if_pos c29] at H
          have c29b0 : (t131 == 0) = true := beq_iff_eq.mpr c29
          have c29b1 : (t131 != 0) = false := bne_eq_false_iff_eq.mpr c29
          clear c29
          (first | rw [c29b0] | (simp only [i64_w, i32_w]; rw [c29b0]) | skip)
          by_cases c30 : t141 = 0
          ·rw [if_pos c30] at H
           have c30b0 : (t141 == 0) = true := beq_iff_eq.mpr c30
           have c30b1 : (t141 != 0) = false := bne_eq_false_iff_eq.mpr c30
           clear c30
           have H' := Aside0.mk H
           clear H
           go_wp2
           go_meet
           case rel => exact ⟨_, ((t151 != 0)), (by first | rfl | (simp; done) | (simp [*]; done)), H', ⟨by have := HJ9.out; first | omega | exact Nat.le_refl _⟩, ⟨by (with_reducible repeat (first | refine blk_drewN ?_ _ | refine blk_drew ?_ | refine blk_alloc ?_ _)); exact BK132.out⟩, ⟨by (with_reducible repeat (first | refine blk_drewN ?_ _ | refine blk_drew ?_ | refine blk_alloc ?_ _)); exact BK142.out⟩, ⟨by (with_reducible repeat (first | refine blk_drewN ?_ _ | refine blk_drew ?_ | refine blk_alloc ?_ _)); exact BK152.out⟩, ⟨by repeat (first | (with_reducible first | exact HB.out | apply below_alloc | apply pw_below_drewN | apply below_drew1 | refine below_set ?_ GE132.out | refine below_set ?_ GE142.out | refine below_set ?_ GE152.out) | exact HB.out)⟩⟩
          ·rw [if_neg c30] at H
           have c30b0 : (t141 == 0) = false := beq_eq_false_iff_ne.mpr c30
           have c30b1 : (t141 != 0) = true := bne_iff_ne.mpr c30
           have H' := Aside0.mk H
           clear H
           go_wp2
           go_meet
           case rel => exact ⟨_, (true), (by first | rfl | (simp; done) | (simp [*]; done)), H', ⟨by have := HJ9.out; first | omega | exact Nat.le_refl _⟩, ⟨by (with_reducible repeat (first | refine blk_drewN ?_ _ | refine blk_drew ?_ | refine blk_alloc ?_ _)); exact BK132.out⟩, ⟨by (with_reducible repeat (first | refine blk_drewN ?_ _ | refine blk_drew ?_ | refine blk_alloc ?_ _)); exact BK142.out⟩, ⟨by (with_reducible repeat (first | refine blk_drewN ?_ _ | refine blk_drew ?_ | refine blk_alloc ?_ _)); exact BK152.out⟩, ⟨by repeat (first | (with_reducible first | exact HB.out | apply below_alloc | apply pw_below_drewN | apply below_drew1 | refine below_set ?_ GE132.out | refine below_set ?_ GE142.out | refine below_set ?_ GE152.out) | exact HB.out)⟩⟩
         ·rw [if_neg c29] at H
          have c29b0 : (t131 == 0) = false := beq_eq_false_iff_ne.mpr c29
          have c29b1 : (t131 != 0) = true := bne_iff_ne.mpr c29
          (first | rw [c29b0] | (simp only [i64_w, i32_w]; rw [c29b0]) | skip)
          have H' := Aside0.mk H
          clear H
          go_wp2
          go_meet
          case rel => exact ⟨_, (true), (by first | rfl | (simp; done) | (simp [*]; done)), H', ⟨by have := HJ9.out; first | omega | exact Nat.le_refl _⟩, ⟨by (with_reducible repeat (first | refine blk_drewN ?_ _ | refine blk_drew ?_ | refine blk_alloc ?_ _)); exact BK132.out⟩, ⟨by (with_reducible repeat (first | refine blk_drewN ?_ _ | refine blk_drew ?_ | refine blk_alloc ?_ _)); exact BK142.out⟩, ⟨by (with_reducible repeat (first | refine blk_drewN ?_ _ | refine blk_drew ?_ | refine blk_alloc ?_ _)); exact BK152.out⟩, ⟨by repeat (first | (with_reducible first | exact HB.out | apply below_alloc | apply pw_below_drewN | apply below_drew1 | refine below_set ?_ GE132.out | refine below_set ?_ GE142.out | refine below_set ?_ GE152.out) | exact HB.out)⟩⟩
        case rest =>
         clear HC28
         try clear c4
         try clear c7
         try clear c7b0
         try clear c7b1
         try clear c7b2
         try clear c8
         try clear c8b0
         try clear c8b1
         try clear c8b2
         try clear c25
         try clear c26
         try clear c26b0
         try clear c26b1
         obtain ⟨kq, x70_27, rfl, HA, HJ27, BK132, BK142, BK152, HB⟩ := hcut
         cases kq with
         | zero => exact absurd HA.out (by simp [capstanlaw02_DimProducts.j1])
         | succ kj27 =>
          have H := HA.out
          clear HA
          simp only [capstanlaw02_DimProducts.j1] at H
          by_cases c31 : x70_27 = true
          ·subst c31
           have H1 : (some true) = some r := by rw [if_pos rfl] at H; exact H
           clear H
           have H := H1
           clear H1
           obtain rfl := Option.some.inj H
           go_wp2
           go_ret
           exact ⟨by first | rfl | (simp [errW_none, errW_some] <;> rfl) | (simp [*, errW_none, errW_some] <;> rfl), by repeat (first | (with_reducible first | exact HB.out | apply below_alloc | apply pw_below_drewN | apply below_drew1 | refine below_set ?_ GE132.out | refine below_set ?_ GE142.out | refine below_set ?_ GE152.out) | exact HB.out)⟩
          ·replace c31 := Bool.eq_false_iff.mpr c31
           subst c31
           have H1 : ((dim_Mul.f t125 t126 t127 t128 t129 t135 t136 t137 t138 t139).bind fun bt153 => (if bt153.2.2.2.2.2 = true then (capstanlaw02_DimProducts.j2 kj27 (!(bt153.1 == t145) || (!(bt153.2.1 == t146) || (!(bt153.2.2.1 == t147) || (!(bt153.2.2.2.1 == t148) || (!(bt153.2.2.2.2.1 == t149)))))) t123 t124 t125 t126 t127 t128 t129 t133 t134 t135 t136 t137 t138 t139 t143 t144 t145 t146 t147 t148 t149) else (capstanlaw02_DimProducts.j2 kj27 true t123 t124 t125 t126 t127 t128 t129 t133 t134 t135 t136 t137 t138 t139 t143 t144 t145 t146 t147 t148 t149))) = some r := by rw [if_neg (show ¬ (false = true) by decide)] at H; exact H
           clear H
           have H := H1
           clear H1
           replace H := Option.bind_eq_some_iff.mp H
           obtain ⟨⟨t153, t154, t155, t156, t157, t158⟩, A320, H⟩ := H
           replace H : (if t158 = true then (capstanlaw02_DimProducts.j2 kj27 (!(t153 == t145) || (!(t154 == t146) || (!(t155 == t147) || (!(t156 == t148) || (!(t157 == t149)))))) t123 t124 t125 t126 t127 t128 t129 t133 t134 t135 t136 t137 t138 t139 t143 t144 t145 t146 t147 t148 t149) else (capstanlaw02_DimProducts.j2 kj27 true t123 t124 t125 t126 t127 t128 t129 t133 t134 t135 t136 t137 t138 t139 t143 t144 t145 t146 t147 t148 t149)) = some r := H
           have A32 := Aside0.mk A320
           clear A320
           have HC33 := Aside0.mk H
           clear H
           have hnb34 := NB132_142.out
           have hnc34 := NB142_132.out
           have hnb35 := NB132_152.out
           have hnc35 := NB152_132.out
           have hcz36_0 : wc.cell? ⟨gb132, 0, none⟩ = some (.int .i64 t123) := (blk_cell BK132.out 0).trans rfl
           have hcz36_1 : wc.cell? ⟨gb132, 1, none⟩ = some (.int .i64 t124) := (blk_cell BK132.out 1).trans rfl
           have hcz36_2 : wc.cell? ⟨gb132, 2, none⟩ = some (.int .i64 t125) := (blk_cell BK132.out 2).trans rfl
           have hcz36_3 : wc.cell? ⟨gb132, 3, none⟩ = some (.int .i64 t126) := (blk_cell BK132.out 3).trans rfl
           have hcz36_4 : wc.cell? ⟨gb132, 4, none⟩ = some (.int .i64 t127) := (blk_cell BK132.out 4).trans rfl
           have hcz36_5 : wc.cell? ⟨gb132, 5, none⟩ = some (.int .i64 t128) := (blk_cell BK132.out 5).trans rfl
           have hcz36_6 : wc.cell? ⟨gb132, 6, none⟩ = some (.int .i64 t129) := (blk_cell BK132.out 6).trans rfl
           have hfz36_0 := blk_frozen BK132.out 0
           have hfz36_1 := blk_frozen BK132.out 1
           have hfz36_2 := blk_frozen BK132.out 2
           have hfz36_3 := blk_frozen BK132.out 3
           have hfz36_4 := blk_frozen BK132.out 4
           have hfz36_5 := blk_frozen BK132.out 5
           have hfz36_6 := blk_frozen BK132.out 6
           have hnb37 := NB142_152.out
           have hnc37 := NB152_142.out
           have hcz38_0 : wc.cell? ⟨gb142, 0, none⟩ = some (.int .i64 t133) := (blk_cell BK142.out 0).trans rfl
           have hcz38_1 : wc.cell? ⟨gb142, 1, none⟩ = some (.int .i64 t134) := (blk_cell BK142.out 1).trans rfl
           have hcz38_2 : wc.cell? ⟨gb142, 2, none⟩ = some (.int .i64 t135) := (blk_cell BK142.out 2).trans rfl
           have hcz38_3 : wc.cell? ⟨gb142, 3, none⟩ = some (.int .i64 t136) := (blk_cell BK142.out 3).trans rfl
           have hcz38_4 : wc.cell? ⟨gb142, 4, none⟩ = some (.int .i64 t137) := (blk_cell BK142.out 4).trans rfl
           have hcz38_5 : wc.cell? ⟨gb142, 5, none⟩ = some (.int .i64 t138) := (blk_cell BK142.out 5).trans rfl
           have hcz38_6 : wc.cell? ⟨gb142, 6, none⟩ = some (.int .i64 t139) := (blk_cell BK142.out 6).trans rfl
           have hfz38_0 := blk_frozen BK142.out 0
           have hfz38_1 := blk_frozen BK142.out 1
           have hfz38_2 := blk_frozen BK142.out 2
           have hfz38_3 := blk_frozen BK142.out 3
           have hfz38_4 := blk_frozen BK142.out 4
           have hfz38_5 := blk_frozen BK142.out 5
           have hfz38_6 := blk_frozen BK142.out 6
           go_upto_region 13 with (first | ((with_reducible refine gate_callee (f := 12) rfl ?_); refine goesL_ (some 76) rfl rfl Tryd.func12 (by kernel_rfl) rfl #[.agg #[.int .i64 t125, .int .i64 t126, .int .i64 t127, .int .i64 t128, .int .i64 t129], .agg #[.int .i64 t135, .int .i64 t136, .int .i64 t137, .int .i64 t138, .int .i64 t139]] rfl (by (try simp only [List.map_toArray, List.map_cons, List.map_nil]); first | done | rfl | (simp only [List.length_drop, List.length_take]; rfl)) ?_; (with_reducible refine (dim_Mul.calls t125 t126 t127 t128 t129 t135 t136 t137 t138 t139 t153 t154 t155 t156 t157 t158 _ A32.out).mono ?_); rintro e w39 ⟨rfl, hb⟩; refine ⟨_, rfl, ?_⟩; have n0_ := Aside0.mk (blk_below (g := gb132) (o := .cells #[.int .i64 t123, .int .i64 t124, .int .i64 t125, .int .i64 t126, .int .i64 t127, .int .i64 t128, .int .i64 t129] 26 (0, 0)) (by (with_reducible repeat (first | refine blk_drewN ?_ _ | refine blk_drew ?_ | refine blk_alloc ?_ _)); exact BK132.out) hb); have n1_ := Aside0.mk (blk_below (g := gb142) (o := .cells #[.int .i64 t133, .int .i64 t134, .int .i64 t135, .int .i64 t136, .int .i64 t137, .int .i64 t138, .int .i64 t139] 26 (0, 0)) (by (with_reducible repeat (first | refine blk_drewN ?_ _ | refine blk_drew ?_ | refine blk_alloc ?_ _)); exact BK142.out) hb); have n2_ := Aside0.mk (blk_below (g := gb152) (o := .cells #[.int .i64 t143, .int .i64 t144, .int .i64 t145, .int .i64 t146, .int .i64 t147, .int .i64 t148, .int .i64 t149] 26 (0, 0)) (by (with_reducible repeat (first | refine blk_drewN ?_ _ | refine blk_drew ?_ | refine blk_alloc ?_ _)); exact BK152.out) hb); have n3_ := Aside0.mk (below_step (by repeat (first | (with_reducible first | exact HB.out | apply below_alloc | apply pw_below_drewN | apply below_drew1 | refine below_set ?_ GE132.out | refine below_set ?_ GE142.out | refine below_set ?_ GE152.out) | exact HB.out)) hb); clear BK132; clear BK142; clear BK152; clear HB; have BK132 := n0_; have BK142 := n1_; have BK152 := n2_; have HB := n3_; clear n0_ n1_ n2_ n3_; (try clear hb); (try clear hb2); (try clear hk); (try clear hi)) | ((with_reducible refine gate_dst (N := 14) rfl ?_); (try (refine gate_guard (by rfl) ?_; dsimp only)); refine box_event ?hg (N := 14) ?hd (cs := #[.int .i64 0, .int .i64 0, .int .i64 0, .int .i64 0, .int .i64 0]) (t := 24) ?hr ?_; (case hd => rfl); (case hg => rfl); (case hr => first | (go_simp; done) | (go_simp; rfl)); intro gb159 hg w40 hbox hb; have n0_ := Aside0.mk (blk_below (g := gb132) (o := .cells #[.int .i64 t123, .int .i64 t124, .int .i64 t125, .int .i64 t126, .int .i64 t127, .int .i64 t128, .int .i64 t129] 26 (0, 0)) (by (with_reducible repeat (first | refine blk_drewN ?_ _ | refine blk_drew ?_ | refine blk_alloc ?_ _)); exact BK132.out) hb); have n1_ := Aside0.mk (blk_below (g := gb142) (o := .cells #[.int .i64 t133, .int .i64 t134, .int .i64 t135, .int .i64 t136, .int .i64 t137, .int .i64 t138, .int .i64 t139] 26 (0, 0)) (by (with_reducible repeat (first | refine blk_drewN ?_ _ | refine blk_drew ?_ | refine blk_alloc ?_ _)); exact BK142.out) hb); have n2_ := Aside0.mk (blk_below (g := gb152) (o := .cells #[.int .i64 t143, .int .i64 t144, .int .i64 t145, .int .i64 t146, .int .i64 t147, .int .i64 t148, .int .i64 t149] 26 (0, 0)) (by (with_reducible repeat (first | refine blk_drewN ?_ _ | refine blk_drew ?_ | refine blk_alloc ?_ _)); exact BK152.out) hb); have n3_ := Aside0.mk (below_step (by repeat (first | (with_reducible first | exact HB.out | apply below_alloc | apply pw_below_drewN | apply below_drew1 | refine below_set ?_ GE132.out | refine below_set ?_ GE142.out | refine below_set ?_ GE152.out) | exact HB.out)) hb); have n4_ := Aside0.mk (hbox); have n5_ := Aside0.mk ((by rw [hg]; exact (below_size (by repeat (first | (with_reducible first | exact HB.out | apply below_alloc | apply pw_below_drewN | apply below_drew1 | refine below_set ?_ GE132.out | refine below_set ?_ GE142.out | refine below_set ?_ GE152.out) | exact HB.out))) : w.heap.size ≤ gb159)); have n6_ := Aside0.mk ((by rw [hg]; exact (below_size (by repeat (first | (with_reducible first | exact HB.out | apply below_alloc | apply pw_below_drewN | apply below_drew1 | refine below_set ?_ GE132.out | refine below_set ?_ GE142.out | refine below_set ?_ GE152.out) | exact HB.out))) : w.heap.size ≤ gb159)); have n7_ := Aside0.mk ((by rw [hg]; exact Nat.ne_of_lt (blk_lt (g := gb132) (o := .cells #[.int .i64 t123, .int .i64 t124, .int .i64 t125, .int .i64 t126, .int .i64 t127, .int .i64 t128, .int .i64 t129] 26 (0, 0)) (by (with_reducible repeat (first | refine blk_drewN ?_ _ | refine blk_drew ?_ | refine blk_alloc ?_ _)); exact BK132.out)) : gb132 ≠ gb159)); have n8_ := Aside0.mk ((by rw [hg]; exact Nat.ne_of_gt (blk_lt (g := gb132) (o := .cells #[.int .i64 t123, .int .i64 t124, .int .i64 t125, .int .i64 t126, .int .i64 t127, .int .i64 t128, .int .i64 t129] 26 (0, 0)) (by (with_reducible repeat (first | refine blk_drewN ?_ _ | refine blk_drew ?_ | refine blk_alloc ?_ _)); exact BK132.out)) : gb159 ≠ gb132)); have n9_ := Aside0.mk ((by rw [hg]; exact Nat.ne_of_lt (blk_lt (g := gb142) (o := .cells #[.int .i64 t133, .int .i64 t134, .int .i64 t135, .int .i64 t136, .int .i64 t137, .int .i64 t138, .int .i64 t139] 26 (0, 0)) (by (with_reducible repeat (first | refine blk_drewN ?_ _ | refine blk_drew ?_ | refine blk_alloc ?_ _)); exact BK142.out)) : gb142 ≠ gb159)); have n10_ := Aside0.mk ((by rw [hg]; exact Nat.ne_of_gt (blk_lt (g := gb142) (o := .cells #[.int .i64 t133, .int .i64 t134, .int .i64 t135, .int .i64 t136, .int .i64 t137, .int .i64 t138, .int .i64 t139] 26 (0, 0)) (by (with_reducible repeat (first | refine blk_drewN ?_ _ | refine blk_drew ?_ | refine blk_alloc ?_ _)); exact BK142.out)) : gb159 ≠ gb142)); have n11_ := Aside0.mk ((by rw [hg]; exact Nat.ne_of_lt (blk_lt (g := gb152) (o := .cells #[.int .i64 t143, .int .i64 t144, .int .i64 t145, .int .i64 t146, .int .i64 t147, .int .i64 t148, .int .i64 t149] 26 (0, 0)) (by (with_reducible repeat (first | refine blk_drewN ?_ _ | refine blk_drew ?_ | refine blk_alloc ?_ _)); exact BK152.out)) : gb152 ≠ gb159)); have n12_ := Aside0.mk ((by rw [hg]; exact Nat.ne_of_gt (blk_lt (g := gb152) (o := .cells #[.int .i64 t143, .int .i64 t144, .int .i64 t145, .int .i64 t146, .int .i64 t147, .int .i64 t148, .int .i64 t149] 26 (0, 0)) (by (with_reducible repeat (first | refine blk_drewN ?_ _ | refine blk_drew ?_ | refine blk_alloc ?_ _)); exact BK152.out)) : gb159 ≠ gb152)); clear BK132; clear BK142; clear BK152; clear HB; have BK132 := n0_; have BK142 := n1_; have BK152 := n2_; have HB := n3_; have BK159 := n4_; have GW159 := n5_; have GE159 := n6_; have NB132_159 := n7_; have NB159_132 := n8_; have NB142_159 := n9_; have NB159_142 := n10_; have NB152_159 := n11_; have NB159_152 := n12_; clear n0_ n1_ n2_ n3_ n4_ n5_ n6_ n7_ n8_ n9_ n10_ n11_ n12_; clear hb hbox hg; have hnb41 := NB159_132.out; have hnc41 := NB132_159.out; have hnb42 := NB159_142.out; have hnc42 := NB142_159.out; have hnb43 := NB159_152.out; have hnc43 := NB152_159.out; have hcz44_0 : w40.cell? ⟨gb159, 0, none⟩ = some (.int .i64 0) := (blk_cell BK159.out 0).trans rfl; have hcz44_1 : w40.cell? ⟨gb159, 1, none⟩ = some (.int .i64 0) := (blk_cell BK159.out 1).trans rfl; have hcz44_2 : w40.cell? ⟨gb159, 2, none⟩ = some (.int .i64 0) := (blk_cell BK159.out 2).trans rfl; have hcz44_3 : w40.cell? ⟨gb159, 3, none⟩ = some (.int .i64 0) := (blk_cell BK159.out 3).trans rfl; have hcz44_4 : w40.cell? ⟨gb159, 4, none⟩ = some (.int .i64 0) := (blk_cell BK159.out 4).trans rfl; have hfz44_0 := blk_frozen BK159.out 0; have hfz44_1 := blk_frozen BK159.out 1; have hfz44_2 := blk_frozen BK159.out 2; have hfz44_3 := blk_frozen BK159.out 3; have hfz44_4 := blk_frozen BK159.out 4))
           (try simp only [Act.put, List.setIfInBounds_toArray, List.set_cons_zero, List.set_cons_succ])
           go_cut [86] (fun v86 wc => ∃ (kq : Nat) (x86_32 : Bool), v86 = .bool x86_32 ∧ Aside0 (capstanlaw02_DimProducts.j2 kq x86_32 t123 t124 t125 t126 t127 t128 t129 t133 t134 t135 t136 t137 t138 t139 t143 t144 t145 t146 t147 t148 t149 = some r) ∧ Aside0 (kq ≤ kj27) ∧ Aside0 (wc.heap[gb132]? = some (.cells #[.int .i64 t123, .int .i64 t124, .int .i64 t125, .int .i64 t126, .int .i64 t127, .int .i64 t128, .int .i64 t129] 26 (0, 0))) ∧ Aside0 (wc.heap[gb142]? = some (.cells #[.int .i64 t133, .int .i64 t134, .int .i64 t135, .int .i64 t136, .int .i64 t137, .int .i64 t138, .int .i64 t139] 26 (0, 0))) ∧ Aside0 (wc.heap[gb152]? = some (.cells #[.int .i64 t143, .int .i64 t144, .int .i64 t145, .int .i64 t146, .int .i64 t147, .int .i64 t148, .int .i64 t149] 26 (0, 0))) ∧ Aside0 (wc.heap[gb159]? = some (.cells #[.int .i64 t153, .int .i64 t154, .int .i64 t155, .int .i64 t156, .int .i64 t157] 24 (0, 0))) ∧ Aside0 (Below w.heap.size w wc))
           case first =>
            have H := HC33.out
            clear HC33
            by_cases c45 : t158 = true
            ·subst c45
             have H1 : (capstanlaw02_DimProducts.j2 kj27 (!(t153 == t145) || (!(t154 == t146) || (!(t155 == t147) || (!(t156 == t148) || (!(t157 == t149)))))) t123 t124 t125 t126 t127 t128 t129 t133 t134 t135 t136 t137 t138 t139 t143 t144 t145 t146 t147 t148 t149) = some r := by rw [if_pos rfl] at H; exact H
             clear H
             have H := H1
             clear H1
             have H' := Aside0.mk H
             clear H
             have hnb46 := NB159_132.out
             have hnc46 := NB132_159.out
             have hnb47 := NB159_142.out
             have hnc47 := NB142_159.out
             have hnb48 := NB159_152.out
             have hnc48 := NB152_159.out
             have hcz49_0 : w40.cell? ⟨gb159, 0, none⟩ = some (.int .i64 0) := (blk_cell BK159.out 0).trans rfl
             have hcz49_1 : w40.cell? ⟨gb159, 1, none⟩ = some (.int .i64 0) := (blk_cell BK159.out 1).trans rfl
             have hcz49_2 : w40.cell? ⟨gb159, 2, none⟩ = some (.int .i64 0) := (blk_cell BK159.out 2).trans rfl
             have hcz49_3 : w40.cell? ⟨gb159, 3, none⟩ = some (.int .i64 0) := (blk_cell BK159.out 3).trans rfl
             have hcz49_4 : w40.cell? ⟨gb159, 4, none⟩ = some (.int .i64 0) := (blk_cell BK159.out 4).trans rfl
             have hfz49_0 := blk_frozen BK159.out 0
             have hfz49_1 := blk_frozen BK159.out 1
             have hfz49_2 := blk_frozen BK159.out 2
             have hfz49_3 := blk_frozen BK159.out 3
             have hfz49_4 := blk_frozen BK159.out 4
             have hnb50 := NB152_132.out
             have hnc50 := NB132_152.out
             have hnb51 := NB152_142.out
             have hnc51 := NB142_152.out
             have hcz52_0 : w40.cell? ⟨gb152, 0, none⟩ = some (.int .i64 t143) := (blk_cell BK152.out 0).trans rfl
             have hcz52_1 : w40.cell? ⟨gb152, 1, none⟩ = some (.int .i64 t144) := (blk_cell BK152.out 1).trans rfl
             have hcz52_2 : w40.cell? ⟨gb152, 2, none⟩ = some (.int .i64 t145) := (blk_cell BK152.out 2).trans rfl
             have hcz52_3 : w40.cell? ⟨gb152, 3, none⟩ = some (.int .i64 t146) := (blk_cell BK152.out 3).trans rfl
             have hcz52_4 : w40.cell? ⟨gb152, 4, none⟩ = some (.int .i64 t147) := (blk_cell BK152.out 4).trans rfl
             have hcz52_5 : w40.cell? ⟨gb152, 5, none⟩ = some (.int .i64 t148) := (blk_cell BK152.out 5).trans rfl
             have hcz52_6 : w40.cell? ⟨gb152, 6, none⟩ = some (.int .i64 t149) := (blk_cell BK152.out 6).trans rfl
             have hfz52_0 := blk_frozen BK152.out 0
             have hfz52_1 := blk_frozen BK152.out 1
             have hfz52_2 := blk_frozen BK152.out 2
             have hfz52_3 := blk_frozen BK152.out 3
             have hfz52_4 := blk_frozen BK152.out 4
             have hfz52_5 := blk_frozen BK152.out 5
             have hfz52_6 := blk_frozen BK152.out 6
             go_wp2
             go_meet
             case rel => exact ⟨_, ((!(t153 == t145) || (!(t154 == t146) || (!(t155 == t147) || (!(t156 == t148) || (!(t157 == t149))))))), (by first | rfl | (simp; done) | (simp [*]; done)), H', ⟨by have := HJ9.out; have := HJ27.out; first | omega | exact Nat.le_refl _⟩, ⟨by (with_reducible repeat (first | refine blk_drewN ?_ _ | refine blk_drew ?_ | refine blk_alloc ?_ _)); refine blk_far ?_ NB132_159.out _; (with_reducible repeat (first | refine blk_drewN ?_ _ | refine blk_drew ?_ | refine blk_alloc ?_ _)); refine blk_far ?_ NB132_159.out _; (with_reducible repeat (first | refine blk_drewN ?_ _ | refine blk_drew ?_ | refine blk_alloc ?_ _)); refine blk_far ?_ NB132_159.out _; (with_reducible repeat (first | refine blk_drewN ?_ _ | refine blk_drew ?_ | refine blk_alloc ?_ _)); refine blk_far ?_ NB132_159.out _; (with_reducible repeat (first | refine blk_drewN ?_ _ | refine blk_drew ?_ | refine blk_alloc ?_ _)); refine blk_far ?_ NB132_159.out _; (with_reducible repeat (first | refine blk_drewN ?_ _ | refine blk_drew ?_ | refine blk_alloc ?_ _)); exact BK132.out⟩, ⟨by (with_reducible repeat (first | refine blk_drewN ?_ _ | refine blk_drew ?_ | refine blk_alloc ?_ _)); refine blk_far ?_ NB142_159.out _; (with_reducible repeat (first | refine blk_drewN ?_ _ | refine blk_drew ?_ | refine blk_alloc ?_ _)); refine blk_far ?_ NB142_159.out _; (with_reducible repeat (first | refine blk_drewN ?_ _ | refine blk_drew ?_ | refine blk_alloc ?_ _)); refine blk_far ?_ NB142_159.out _; (with_reducible repeat (first | refine blk_drewN ?_ _ | refine blk_drew ?_ | refine blk_alloc ?_ _)); refine blk_far ?_ NB142_159.out _; (with_reducible repeat (first | refine blk_drewN ?_ _ | refine blk_drew ?_ | refine blk_alloc ?_ _)); refine blk_far ?_ NB142_159.out _; (with_reducible repeat (first | refine blk_drewN ?_ _ | refine blk_drew ?_ | refine blk_alloc ?_ _)); exact BK142.out⟩, ⟨by (with_reducible repeat (first | refine blk_drewN ?_ _ | refine blk_drew ?_ | refine blk_alloc ?_ _)); refine blk_far ?_ NB152_159.out _; (with_reducible repeat (first | refine blk_drewN ?_ _ | refine blk_drew ?_ | refine blk_alloc ?_ _)); refine blk_far ?_ NB152_159.out _; (with_reducible repeat (first | refine blk_drewN ?_ _ | refine blk_drew ?_ | refine blk_alloc ?_ _)); refine blk_far ?_ NB152_159.out _; (with_reducible repeat (first | refine blk_drewN ?_ _ | refine blk_drew ?_ | refine blk_alloc ?_ _)); refine blk_far ?_ NB152_159.out _; (with_reducible repeat (first | refine blk_drewN ?_ _ | refine blk_drew ?_ | refine blk_alloc ?_ _)); refine blk_far ?_ NB152_159.out _; (with_reducible repeat (first | refine blk_drewN ?_ _ | refine blk_drew ?_ | refine blk_alloc ?_ _)); exact BK152.out⟩, ⟨by (with_reducible repeat (first | refine blk_drewN ?_ _ | refine blk_drew ?_ | refine blk_alloc ?_ _)); refine blk_put (cs := #[.int .i64 t153, .int .i64 t154, .int .i64 t155, .int .i64 t156, .int .i64 0]) ?_ 4 _ rfl; (with_reducible repeat (first | refine blk_drewN ?_ _ | refine blk_drew ?_ | refine blk_alloc ?_ _)); refine blk_put (cs := #[.int .i64 t153, .int .i64 t154, .int .i64 t155, .int .i64 0, .int .i64 0]) ?_ 3 _ rfl; (with_reducible repeat (first | refine blk_drewN ?_ _ | refine blk_drew ?_ | refine blk_alloc ?_ _)); refine blk_put (cs := #[.int .i64 t153, .int .i64 t154, .int .i64 0, .int .i64 0, .int .i64 0]) ?_ 2 _ rfl; (with_reducible repeat (first | refine blk_drewN ?_ _ | refine blk_drew ?_ | refine blk_alloc ?_ _)); refine blk_put (cs := #[.int .i64 t153, .int .i64 0, .int .i64 0, .int .i64 0, .int .i64 0]) ?_ 1 _ rfl; (with_reducible repeat (first | refine blk_drewN ?_ _ | refine blk_drew ?_ | refine blk_alloc ?_ _)); refine blk_put (cs := #[.int .i64 0, .int .i64 0, .int .i64 0, .int .i64 0, .int .i64 0]) ?_ 0 _ rfl; (with_reducible repeat (first | refine blk_drewN ?_ _ | refine blk_drew ?_ | refine blk_alloc ?_ _)); exact BK159.out⟩, ⟨by repeat (first | (with_reducible first | exact HB.out | apply below_alloc | apply pw_below_drewN | apply below_drew1 | refine below_set ?_ GE132.out | refine below_set ?_ GE142.out | refine below_set ?_ GE152.out | refine below_set ?_ GE159.out) | exact HB.out)⟩⟩
            ·replace c45 := Bool.eq_false_iff.mpr c45
             subst c45
             have H1 : (capstanlaw02_DimProducts.j2 kj27 true t123 t124 t125 t126 t127 t128 t129 t133 t134 t135 t136 t137 t138 t139 t143 t144 t145 t146 t147 t148 t149) = some r := by rw [if_neg (show ¬ (false = true) by decide)] at H; exact H
             clear H
             have H := H1
             clear H1
             have H' := Aside0.mk H
             clear H
             go_wp2
             go_meet
             case rel => exact ⟨_, (true), (by first | rfl | (simp; done) | (simp [*]; done)), H', ⟨by have := HJ9.out; have := HJ27.out; first | omega | exact Nat.le_refl _⟩, ⟨by (with_reducible repeat (first | refine blk_drewN ?_ _ | refine blk_drew ?_ | refine blk_alloc ?_ _)); refine blk_far ?_ NB132_159.out _; (with_reducible repeat (first | refine blk_drewN ?_ _ | refine blk_drew ?_ | refine blk_alloc ?_ _)); refine blk_far ?_ NB132_159.out _; (with_reducible repeat (first | refine blk_drewN ?_ _ | refine blk_drew ?_ | refine blk_alloc ?_ _)); refine blk_far ?_ NB132_159.out _; (with_reducible repeat (first | refine blk_drewN ?_ _ | refine blk_drew ?_ | refine blk_alloc ?_ _)); refine blk_far ?_ NB132_159.out _; (with_reducible repeat (first | refine blk_drewN ?_ _ | refine blk_drew ?_ | refine blk_alloc ?_ _)); refine blk_far ?_ NB132_159.out _; (with_reducible repeat (first | refine blk_drewN ?_ _ | refine blk_drew ?_ | refine blk_alloc ?_ _)); exact BK132.out⟩, ⟨by (with_reducible repeat (first | refine blk_drewN ?_ _ | refine blk_drew ?_ | refine blk_alloc ?_ _)); refine blk_far ?_ NB142_159.out _; (with_reducible repeat (first | refine blk_drewN ?_ _ | refine blk_drew ?_ | refine blk_alloc ?_ _)); refine blk_far ?_ NB142_159.out _; (with_reducible repeat (first | refine blk_drewN ?_ _ | refine blk_drew ?_ | refine blk_alloc ?_ _)); refine blk_far ?_ NB142_159.out _; (with_reducible repeat (first | refine blk_drewN ?_ _ | refine blk_drew ?_ | refine blk_alloc ?_ _)); refine blk_far ?_ NB142_159.out _; (with_reducible repeat (first | refine blk_drewN ?_ _ | refine blk_drew ?_ | refine blk_alloc ?_ _)); refine blk_far ?_ NB142_159.out _; (with_reducible repeat (first | refine blk_drewN ?_ _ | refine blk_drew ?_ | refine blk_alloc ?_ _)); exact BK142.out⟩, ⟨by (with_reducible repeat (first | refine blk_drewN ?_ _ | refine blk_drew ?_ | refine blk_alloc ?_ _)); refine blk_far ?_ NB152_159.out _; (with_reducible repeat (first | refine blk_drewN ?_ _ | refine blk_drew ?_ | refine blk_alloc ?_ _)); refine blk_far ?_ NB152_159.out _; (with_reducible repeat (first | refine blk_drewN ?_ _ | refine blk_drew ?_ | refine blk_alloc ?_ _)); refine blk_far ?_ NB152_159.out _; (with_reducible repeat (first | refine blk_drewN ?_ _ | refine blk_drew ?_ | refine blk_alloc ?_ _)); refine blk_far ?_ NB152_159.out _; (with_reducible repeat (first | refine blk_drewN ?_ _ | refine blk_drew ?_ | refine blk_alloc ?_ _)); refine blk_far ?_ NB152_159.out _; (with_reducible repeat (first | refine blk_drewN ?_ _ | refine blk_drew ?_ | refine blk_alloc ?_ _)); exact BK152.out⟩, ⟨by (with_reducible repeat (first | refine blk_drewN ?_ _ | refine blk_drew ?_ | refine blk_alloc ?_ _)); refine blk_put (cs := #[.int .i64 t153, .int .i64 t154, .int .i64 t155, .int .i64 t156, .int .i64 0]) ?_ 4 _ rfl; (with_reducible repeat (first | refine blk_drewN ?_ _ | refine blk_drew ?_ | refine blk_alloc ?_ _)); refine blk_put (cs := #[.int .i64 t153, .int .i64 t154, .int .i64 t155, .int .i64 0, .int .i64 0]) ?_ 3 _ rfl; (with_reducible repeat (first | refine blk_drewN ?_ _ | refine blk_drew ?_ | refine blk_alloc ?_ _)); refine blk_put (cs := #[.int .i64 t153, .int .i64 t154, .int .i64 0, .int .i64 0, .int .i64 0]) ?_ 2 _ rfl; (with_reducible repeat (first | refine blk_drewN ?_ _ | refine blk_drew ?_ | refine blk_alloc ?_ _)); refine blk_put (cs := #[.int .i64 t153, .int .i64 0, .int .i64 0, .int .i64 0, .int .i64 0]) ?_ 1 _ rfl; (with_reducible repeat (first | refine blk_drewN ?_ _ | refine blk_drew ?_ | refine blk_alloc ?_ _)); refine blk_put (cs := #[.int .i64 0, .int .i64 0, .int .i64 0, .int .i64 0, .int .i64 0]) ?_ 0 _ rfl; (with_reducible repeat (first | refine blk_drewN ?_ _ | refine blk_drew ?_ | refine blk_alloc ?_ _)); exact BK159.out⟩, ⟨by repeat (first | (with_reducible first | exact HB.out | apply below_alloc | apply pw_below_drewN | apply below_drew1 | refine below_set ?_ GE132.out | refine below_set ?_ GE142.out | refine below_set ?_ GE152.out | refine below_set ?_ GE159.out) | exact HB.out)⟩⟩
           case rest =>
            clear HC33
            try clear c4
            try clear c7
            try clear c7b0
            try clear c7b1
            try clear c7b2
            try clear c8
            try clear c8b0
            try clear c8b1
            try clear c8b2
            try clear c25
            try clear c26
            try clear c26b0
            try clear c26b1
            try clear c31
            try clear hcz36_0
            try clear hcz36_1
            try clear hcz36_2
            try clear hcz36_3
            try clear hcz36_4
            try clear hcz36_5
            try clear hcz36_6
            try clear hcz38_0
            try clear hcz38_1
            try clear hcz38_2
            try clear hcz38_3
            try clear hcz38_4
            try clear hcz38_5
            try clear hcz38_6
            try clear hfz36_0
            try clear hfz36_1
            try clear hfz36_2
            try clear hfz36_3
            try clear hfz36_4
            try clear hfz36_5
            try clear hfz36_6
            try clear hfz38_0
            try clear hfz38_1
            try clear hfz38_2
            try clear hfz38_3
            try clear hfz38_4
            try clear hfz38_5
            try clear hfz38_6
            obtain ⟨kq, x86_32, rfl, HA, HJ32, BK132, BK142, BK152, BK159, HB⟩ := hcut
            cases kq with
            | zero => exact absurd HA.out (by simp [capstanlaw02_DimProducts.j2])
            | succ kj32 =>
             have H := HA.out
             clear HA
             simp only [capstanlaw02_DimProducts.j2] at H
             by_cases c53 : x86_32 = true
             ·subst c53
              have H1 : (some false) = some r := by rw [if_pos rfl] at H; exact H
              clear H
              have H := H1
              clear H1
              obtain rfl := Option.some.inj H
              go_wp2
              go_ret
              exact ⟨by first | rfl | (simp [errW_none, errW_some] <;> rfl) | (simp [*, errW_none, errW_some] <;> rfl), by repeat (first | (with_reducible first | exact HB.out | apply below_alloc | apply pw_below_drewN | apply below_drew1 | refine below_set ?_ GE132.out | refine below_set ?_ GE142.out | refine below_set ?_ GE152.out | refine below_set ?_ GE159.out) | exact HB.out)⟩
             ·replace c53 := Bool.eq_false_iff.mpr c53
              subst c53
              have H1 : ((dim_Value.f kj32 t143 t144 t145 t146 t147 t148 t149 1000000000).bind fun t160 => ((dim_Value.f kj32 t123 t124 t125 t126 t127 t128 t129 1000000000).bind fun t161 => ((dim_Value.f kj32 t133 t134 t135 t136 t137 t138 t139 t161).bind fun t162 => (if t143 ≥ 1 then (if t144 ≥ 1 then (if t143 ≤ 1000000000000000 then (if t144 ≤ 1000000000000000 then (if t124 = 1 then (if t134 = 1 then (some (t160 == t162)) else (some true)) else (some true)) else (some false)) else (some false)) else (some false)) else (some false))))) = some r := by rw [if_neg (show ¬ (false = true) by decide)] at H; exact H
              clear H
              have H := H1
              clear H1
              replace H := Option.bind_eq_some_iff.mp H
              obtain ⟨t160, A540, H⟩ := H
              replace H : ((dim_Value.f kj32 t123 t124 t125 t126 t127 t128 t129 1000000000).bind fun t161 => ((dim_Value.f kj32 t133 t134 t135 t136 t137 t138 t139 t161).bind fun t162 => (if t143 ≥ 1 then (if t144 ≥ 1 then (if t143 ≤ 1000000000000000 then (if t144 ≤ 1000000000000000 then (if t124 = 1 then (if t134 = 1 then (some (t160 == t162)) else (some true)) else (some true)) else (some false)) else (some false)) else (some false)) else (some false)))) = some r := H
              have A54 := Aside0.mk A540
              clear A540
              replace H := Option.bind_eq_some_iff.mp H
              obtain ⟨t161, A550, H⟩ := H
              replace H : ((dim_Value.f kj32 t133 t134 t135 t136 t137 t138 t139 t161).bind fun t162 => (if t143 ≥ 1 then (if t144 ≥ 1 then (if t143 ≤ 1000000000000000 then (if t144 ≤ 1000000000000000 then (if t124 = 1 then (if t134 = 1 then (some (t160 == t162)) else (some true)) else (some true)) else (some false)) else (some false)) else (some false)) else (some false))) = some r := H
              have A55 := Aside0.mk A550
              clear A550
              replace H := Option.bind_eq_some_iff.mp H
              obtain ⟨t162, A560, H⟩ := H
              replace H : (if t143 ≥ 1 then (if t144 ≥ 1 then (if t143 ≤ 1000000000000000 then (if t144 ≤ 1000000000000000 then (if t124 = 1 then (if t134 = 1 then (some (t160 == t162)) else (some true)) else (some true)) else (some false)) else (some false)) else (some false)) else (some false)) = some r := H
              have A56 := Aside0.mk A560
              clear A560
              by_cases c57 : t143 ≥ 1
              ·rw [if_pos c57] at H
               have c57b0 : decide (1 ≤ t143) = true := decide_eq_true c57
               clear c57
               by_cases c58 : t144 ≥ 1
               ·rw [if_pos c58] at H
                have c58b0 : decide (1 ≤ t144) = true := decide_eq_true c58
                clear c58
                by_cases c59 : t143 ≤ 1000000000000000
                ·rw [if_pos c59] at H
                 have c59b0 : decide (t143 ≤ 1000000000000000) = true := decide_eq_true c59
                 clear c59
                 by_cases c60 : t144 ≤ 1000000000000000
                 ·rw [if_pos c60] at H
                  have c60b0 : decide (t144 ≤ 1000000000000000) = true := decide_eq_true c60
                  clear c60
                  by_cases c61 : t124 = 1
                  ·rw [if_pos c61] at H
                   have c61b0 : (t124 == 1) = true := beq_iff_eq.mpr c61
                   have c61b1 : (t124 != 1) = false := bne_eq_false_iff_eq.mpr c61
                   clear c61
                   by_cases c62 : t134 = 1
                   ·rw [if_pos c62] at H
                    have c62b0 : (t134 == 1) = true := beq_iff_eq.mpr c62
                    have c62b1 : (t134 != 1) = false := bne_eq_false_iff_eq.mpr c62
                    clear c62
                    obtain rfl := Option.some.inj H
                    have hnb63 := NB152_132.out
                    have hnc63 := NB132_152.out
                    have hnb64 := NB152_142.out
                    have hnc64 := NB142_152.out
                    have hnb65 := NB152_159.out
                    have hnc65 := NB159_152.out
                    have hcz66_0 : wc.cell? ⟨gb152, 0, none⟩ = some (.int .i64 t143) := (blk_cell BK152.out 0).trans rfl
                    have hcz66_1 : wc.cell? ⟨gb152, 1, none⟩ = some (.int .i64 t144) := (blk_cell BK152.out 1).trans rfl
                    have hcz66_2 : wc.cell? ⟨gb152, 2, none⟩ = some (.int .i64 t145) := (blk_cell BK152.out 2).trans rfl
                    have hcz66_3 : wc.cell? ⟨gb152, 3, none⟩ = some (.int .i64 t146) := (blk_cell BK152.out 3).trans rfl
                    have hcz66_4 : wc.cell? ⟨gb152, 4, none⟩ = some (.int .i64 t147) := (blk_cell BK152.out 4).trans rfl
                    have hcz66_5 : wc.cell? ⟨gb152, 5, none⟩ = some (.int .i64 t148) := (blk_cell BK152.out 5).trans rfl
                    have hcz66_6 : wc.cell? ⟨gb152, 6, none⟩ = some (.int .i64 t149) := (blk_cell BK152.out 6).trans rfl
                    have hfz66_0 := blk_frozen BK152.out 0
                    have hfz66_1 := blk_frozen BK152.out 1
                    have hfz66_2 := blk_frozen BK152.out 2
                    have hfz66_3 := blk_frozen BK152.out 3
                    have hfz66_4 := blk_frozen BK152.out 4
                    have hfz66_5 := blk_frozen BK152.out 5
                    have hfz66_6 := blk_frozen BK152.out 6
                    try go_wp2_with (first | ((with_reducible refine gate_callee (f := 17) rfl ?_); refine goesL_ (some 88) rfl rfl Tryd.func17 (by kernel_rfl) rfl #[.agg #[.int .i64 t143, .int .i64 t144, .int .i64 t145, .int .i64 t146, .int .i64 t147, .int .i64 t148, .int .i64 t149], .int .i64 1000000000] rfl (by (try simp only [List.map_toArray, List.map_cons, List.map_nil]); first | done | rfl | (simp only [List.length_drop, List.length_take]; rfl)) ?_; (with_reducible refine (dim_Value.calls kj32 t143 t144 t145 t146 t147 t148 t149 1000000000 t160 _ A54.out).mono ?_); rintro e w67 ⟨rfl, hb⟩; refine ⟨_, rfl, ?_⟩; have n0_ := Aside0.mk (blk_below (g := gb132) (o := .cells #[.int .i64 t123, .int .i64 t124, .int .i64 t125, .int .i64 t126, .int .i64 t127, .int .i64 t128, .int .i64 t129] 26 (0, 0)) (by (with_reducible repeat (first | refine blk_drewN ?_ _ | refine blk_drew ?_ | refine blk_alloc ?_ _)); exact BK132.out) hb); have n1_ := Aside0.mk (blk_below (g := gb142) (o := .cells #[.int .i64 t133, .int .i64 t134, .int .i64 t135, .int .i64 t136, .int .i64 t137, .int .i64 t138, .int .i64 t139] 26 (0, 0)) (by (with_reducible repeat (first | refine blk_drewN ?_ _ | refine blk_drew ?_ | refine blk_alloc ?_ _)); exact BK142.out) hb); have n2_ := Aside0.mk (blk_below (g := gb152) (o := .cells #[.int .i64 t143, .int .i64 t144, .int .i64 t145, .int .i64 t146, .int .i64 t147, .int .i64 t148, .int .i64 t149] 26 (0, 0)) (by (with_reducible repeat (first | refine blk_drewN ?_ _ | refine blk_drew ?_ | refine blk_alloc ?_ _)); exact BK152.out) hb); have n3_ := Aside0.mk (blk_below (g := gb159) (o := .cells #[.int .i64 t153, .int .i64 t154, .int .i64 t155, .int .i64 t156, .int .i64 t157] 24 (0, 0)) (by (with_reducible repeat (first | refine blk_drewN ?_ _ | refine blk_drew ?_ | refine blk_alloc ?_ _)); exact BK159.out) hb); have n4_ := Aside0.mk (below_step (by repeat (first | (with_reducible first | exact HB.out | apply below_alloc | apply pw_below_drewN | apply below_drew1 | refine below_set ?_ GE132.out | refine below_set ?_ GE142.out | refine below_set ?_ GE152.out | refine below_set ?_ GE159.out) | exact HB.out)) hb); clear BK132; clear BK142; clear BK152; clear BK159; clear HB; have BK132 := n0_; have BK142 := n1_; have BK152 := n2_; have BK159 := n3_; have HB := n4_; clear n0_ n1_ n2_ n3_ n4_; (try clear hb); (try clear hb2); (try clear hk); (try clear hi)))
                    have n0_ := Aside0.mk (blk_drew BK132.out)
                    have n1_ := Aside0.mk (blk_drew BK142.out)
                    have n2_ := Aside0.mk (blk_drew BK152.out)
                    have n3_ := Aside0.mk (blk_drew BK159.out)
                    have n4_ := Aside0.mk (below_drew1 HB.out)
                    clear BK132
                    clear BK142
                    clear BK152
                    clear BK159
                    clear HB
                    have BK132 := n0_
                    have BK142 := n1_
                    have BK152 := n2_
                    have BK159 := n3_
                    have HB := n4_
                    clear n0_ n1_ n2_ n3_ n4_
                    refine start_ (n := 5) (S := fun w' => w'.cell? ⟨gb142, 0, none⟩ = some (.int .i64 t133) ∧ w'.cell? ⟨gb142, 1, none⟩ = some (.int .i64 t134) ∧ w'.cell? ⟨gb142, 2, none⟩ = some (.int .i64 t135) ∧ w'.cell? ⟨gb142, 3, none⟩ = some (.int .i64 t136) ∧ w'.cell? ⟨gb142, 4, none⟩ = some (.int .i64 t137) ∧ w'.cell? ⟨gb142, 5, none⟩ = some (.int .i64 t138) ∧ w'.cell? ⟨gb142, 6, none⟩ = some (.int .i64 t139) ∧ w'.cell? ⟨gb132, 0, none⟩ = some (.int .i64 t123) ∧ w'.cell? ⟨gb132, 1, none⟩ = some (.int .i64 t124) ∧ w'.cell? ⟨gb132, 2, none⟩ = some (.int .i64 t125) ∧ w'.cell? ⟨gb132, 3, none⟩ = some (.int .i64 t126) ∧ w'.cell? ⟨gb132, 4, none⟩ = some (.int .i64 t127) ∧ w'.cell? ⟨gb132, 5, none⟩ = some (.int .i64 t128) ∧ w'.cell? ⟨gb132, 6, none⟩ = some (.int .i64 t129)) (ds := []) #[false, false, false, false, false] (by kernel_rfl) rfl rfl ⟨(blk_cell BK142.out 0).trans rfl, (blk_cell BK142.out 1).trans rfl, (blk_cell BK142.out 2).trans rfl, (blk_cell BK142.out 3).trans rfl, (blk_cell BK142.out 4).trans rfl, (blk_cell BK142.out 5).trans rfl, (blk_cell BK142.out 6).trans rfl, (blk_cell BK132.out 0).trans rfl, (blk_cell BK132.out 1).trans rfl, (blk_cell BK132.out 2).trans rfl, (blk_cell BK132.out 3).trans rfl, (blk_cell BK132.out 4).trans rfl, (blk_cell BK132.out 5).trans rfl, (blk_cell BK132.out 6).trans rfl⟩ (fun hHeld => ?_)
                    generalize w67.drew = w68 at BK132 BK142 BK152 BK159 HB hHeld ⊢
                    refine take_ (i := 0) (N := some 89) (v := ?_) (a' := ?_) #[true, false, false, false, false] rfl rfl (by kernel_rfl) (fun _ _ _ h => h) (Or.inl ⟨by rfl, ?_⟩) hHeld ?_ ?_
                    rotate_left
                    ·rintro w' ⟨s0, s1, s2, s3, s4, s5, s6, s7, s8, s9, s10, s11, s12, s13⟩
                     go_simp
                     with_reducible rfl
                    rotate_left
                    ·simp only [Act.put, List.setIfInBounds_toArray, List.set_cons_zero, List.set_cons_succ, i64_w, i32_w]
                     rfl
                    refine take_ (i := 1) (N := some 90) (v := ?_) (a' := ?_) #[true, true, false, false, false] rfl rfl (by kernel_rfl) (fun _ _ _ h => h) (Or.inl ⟨by rfl, ?_⟩) hHeld ?_ ?_
                    rotate_left
                    ·rintro w' ⟨s0, s1, s2, s3, s4, s5, s6, s7, s8, s9, s10, s11, s12, s13⟩
                     go_simp
                     with_reducible rfl
                    rotate_left
                    ·simp only [Act.put, List.setIfInBounds_toArray, List.set_cons_zero, List.set_cons_succ, i64_w, i32_w]
                     rfl
                    refine one_ (i := 2) (N := some 91) #[true, true, true, false, false] rfl rfl (by kernel_rfl) (by decide) (fun K hK => ?_)
                    refine goes_ Tryd.func17 (by kernel_rfl) rfl #[.agg #[.int .i64 t123, .int .i64 t124, .int .i64 t125, .int .i64 t126, .int .i64 t127, .int .i64 t128, .int .i64 t129], .int .i64 1000000000] (by rfl) rfl rfl (by (try simp only [List.map_toArray, List.map_cons, List.map_nil]); first | done | rfl | (simp only [List.length_drop, List.length_take]; rfl)) ?_
                    with_reducible refine (dim_Value.calls kj32 t123 t124 t125 t126 t127 t128 t129 1000000000 t161 _ A55.out).mono ?_
                    rintro e w69 ⟨rfl, hb⟩
                    refine ⟨_, rfl, ?_⟩
                    have n0_ := Aside0.mk (blk_below (g := gb132) (o := .cells #[.int .i64 t123, .int .i64 t124, .int .i64 t125, .int .i64 t126, .int .i64 t127, .int .i64 t128, .int .i64 t129] 26 (0, 0)) (by (with_reducible repeat (first | refine blk_drewN ?_ _ | refine blk_drew ?_ | refine blk_alloc ?_ _)); exact BK132.out) hb)
                    have n1_ := Aside0.mk (blk_below (g := gb142) (o := .cells #[.int .i64 t133, .int .i64 t134, .int .i64 t135, .int .i64 t136, .int .i64 t137, .int .i64 t138, .int .i64 t139] 26 (0, 0)) (by (with_reducible repeat (first | refine blk_drewN ?_ _ | refine blk_drew ?_ | refine blk_alloc ?_ _)); exact BK142.out) hb)
                    have n2_ := Aside0.mk (blk_below (g := gb152) (o := .cells #[.int .i64 t143, .int .i64 t144, .int .i64 t145, .int .i64 t146, .int .i64 t147, .int .i64 t148, .int .i64 t149] 26 (0, 0)) (by (with_reducible repeat (first | refine blk_drewN ?_ _ | refine blk_drew ?_ | refine blk_alloc ?_ _)); exact BK152.out) hb)
                    have n3_ := Aside0.mk (blk_below (g := gb159) (o := .cells #[.int .i64 t153, .int .i64 t154, .int .i64 t155, .int .i64 t156, .int .i64 t157] 24 (0, 0)) (by (with_reducible repeat (first | refine blk_drewN ?_ _ | refine blk_drew ?_ | refine blk_alloc ?_ _)); exact BK159.out) hb)
                    have n4_ := Aside0.mk (below_step (by repeat (first | (with_reducible first | exact HB.out | apply below_alloc | apply pw_below_drewN | apply below_drew1 | refine below_set ?_ GE132.out | refine below_set ?_ GE142.out | refine below_set ?_ GE152.out | refine below_set ?_ GE159.out) | exact HB.out)) hb)
                    clear BK132
                    clear BK142
                    clear BK152
                    clear BK159
                    clear HB
                    have BK132 := n0_
                    have BK142 := n1_
                    have BK152 := n2_
                    have BK159 := n3_
                    have HB := n4_
                    clear n0_ n1_ n2_ n3_ n4_
                    (try clear hb)
                    (try clear hb2)
                    (try clear hk)
                    (try clear hi)
                    refine hK.out _ _ ⟨(blk_cell BK142.out 0).trans rfl, (blk_cell BK142.out 1).trans rfl, (blk_cell BK142.out 2).trans rfl, (blk_cell BK142.out 3).trans rfl, (blk_cell BK142.out 4).trans rfl, (blk_cell BK142.out 5).trans rfl, (blk_cell BK142.out 6).trans rfl, (blk_cell BK132.out 0).trans rfl, (blk_cell BK132.out 1).trans rfl, (blk_cell BK132.out 2).trans rfl, (blk_cell BK132.out 3).trans rfl, (blk_cell BK132.out 4).trans rfl, (blk_cell BK132.out 5).trans rfl, (blk_cell BK132.out 6).trans rfl⟩ (fun hHeld => ?_)
                    clear hK K
                    refine norm_ (a' := ?_) ?_ ?_
                    rotate_left
                    ·show Act.put _ (some 91) _ = _
                     simp only [Act.put, List.setIfInBounds_toArray, List.set_cons_zero, List.set_cons_succ, i64_w, i32_w]
                     rfl
                    refine one_ (i := 3) (N := some 92) #[true, true, true, true, false] rfl rfl (by kernel_rfl) (by decide) (fun K hK => ?_)
                    refine goes_ Tryd.func17 (by kernel_rfl) rfl #[.agg #[.int .i64 t133, .int .i64 t134, .int .i64 t135, .int .i64 t136, .int .i64 t137, .int .i64 t138, .int .i64 t139], .int .i64 t161] (by rfl) rfl rfl (by (try simp only [List.map_toArray, List.map_cons, List.map_nil]); first | done | rfl | (simp only [List.length_drop, List.length_take]; rfl)) ?_
                    with_reducible refine (dim_Value.calls kj32 t133 t134 t135 t136 t137 t138 t139 t161 t162 _ A56.out).mono ?_
                    rintro e w70 ⟨rfl, hb⟩
                    refine ⟨_, rfl, ?_⟩
                    have n0_ := Aside0.mk (blk_below (g := gb132) (o := .cells #[.int .i64 t123, .int .i64 t124, .int .i64 t125, .int .i64 t126, .int .i64 t127, .int .i64 t128, .int .i64 t129] 26 (0, 0)) (by (with_reducible repeat (first | refine blk_drewN ?_ _ | refine blk_drew ?_ | refine blk_alloc ?_ _)); exact BK132.out) hb)
                    have n1_ := Aside0.mk (blk_below (g := gb142) (o := .cells #[.int .i64 t133, .int .i64 t134, .int .i64 t135, .int .i64 t136, .int .i64 t137, .int .i64 t138, .int .i64 t139] 26 (0, 0)) (by (with_reducible repeat (first | refine blk_drewN ?_ _ | refine blk_drew ?_ | refine blk_alloc ?_ _)); exact BK142.out) hb)
                    have n2_ := Aside0.mk (blk_below (g := gb152) (o := .cells #[.int .i64 t143, .int .i64 t144, .int .i64 t145, .int .i64 t146, .int .i64 t147, .int .i64 t148, .int .i64 t149] 26 (0, 0)) (by (with_reducible repeat (first | refine blk_drewN ?_ _ | refine blk_drew ?_ | refine blk_alloc ?_ _)); exact BK152.out) hb)
                    have n3_ := Aside0.mk (blk_below (g := gb159) (o := .cells #[.int .i64 t153, .int .i64 t154, .int .i64 t155, .int .i64 t156, .int .i64 t157] 24 (0, 0)) (by (with_reducible repeat (first | refine blk_drewN ?_ _ | refine blk_drew ?_ | refine blk_alloc ?_ _)); exact BK159.out) hb)
                    have n4_ := Aside0.mk (below_step (by repeat (first | (with_reducible first | exact HB.out | apply below_alloc | apply pw_below_drewN | apply below_drew1 | refine below_set ?_ GE132.out | refine below_set ?_ GE142.out | refine below_set ?_ GE152.out | refine below_set ?_ GE159.out) | exact HB.out)) hb)
                    clear BK132
                    clear BK142
                    clear BK152
                    clear BK159
                    clear HB
                    have BK132 := n0_
                    have BK142 := n1_
                    have BK152 := n2_
                    have BK159 := n3_
                    have HB := n4_
                    clear n0_ n1_ n2_ n3_ n4_
                    (try clear hb)
                    (try clear hb2)
                    (try clear hk)
                    (try clear hi)
                    refine hK.out _ _ ⟨(blk_cell BK142.out 0).trans rfl, (blk_cell BK142.out 1).trans rfl, (blk_cell BK142.out 2).trans rfl, (blk_cell BK142.out 3).trans rfl, (blk_cell BK142.out 4).trans rfl, (blk_cell BK142.out 5).trans rfl, (blk_cell BK142.out 6).trans rfl, (blk_cell BK132.out 0).trans rfl, (blk_cell BK132.out 1).trans rfl, (blk_cell BK132.out 2).trans rfl, (blk_cell BK132.out 3).trans rfl, (blk_cell BK132.out 4).trans rfl, (blk_cell BK132.out 5).trans rfl, (blk_cell BK132.out 6).trans rfl⟩ (fun hHeld => ?_)
                    clear hK K
                    refine norm_ (a' := ?_) ?_ ?_
                    rotate_left
                    ·show Act.put _ (some 92) _ = _
                     simp only [Act.put, List.setIfInBounds_toArray, List.set_cons_zero, List.set_cons_succ, i64_w, i32_w]
                     rfl
                    refine pure_ (i := 4) (N := some 17) (v := ?_) (a' := ?_) #[true, true, true, true, true] rfl rfl (by kernel_rfl) (fun _ _ _ h => h) (Or.inl ⟨by rfl, ?_⟩) ?_ ?_
                    rotate_left
                    ·intro w'
                     go_simp
                     with_reducible rfl
                    rotate_left
                    ·simp only [Act.put, List.setIfInBounds_toArray, List.set_cons_zero, List.set_cons_succ, i64_w, i32_w]
                     rfl
                    refine done_ (by kernel_rfl) ?_
                    have hcz71_0 : w70.cell? ⟨gb152, 0, none⟩ = some (.int .i64 t143) := (blk_cell BK152.out 0).trans rfl
                    have hcz71_1 : w70.cell? ⟨gb152, 1, none⟩ = some (.int .i64 t144) := (blk_cell BK152.out 1).trans rfl
                    have hcz71_2 : w70.cell? ⟨gb152, 2, none⟩ = some (.int .i64 t145) := (blk_cell BK152.out 2).trans rfl
                    have hcz71_3 : w70.cell? ⟨gb152, 3, none⟩ = some (.int .i64 t146) := (blk_cell BK152.out 3).trans rfl
                    have hcz71_4 : w70.cell? ⟨gb152, 4, none⟩ = some (.int .i64 t147) := (blk_cell BK152.out 4).trans rfl
                    have hcz71_5 : w70.cell? ⟨gb152, 5, none⟩ = some (.int .i64 t148) := (blk_cell BK152.out 5).trans rfl
                    have hcz71_6 : w70.cell? ⟨gb152, 6, none⟩ = some (.int .i64 t149) := (blk_cell BK152.out 6).trans rfl
                    have hfz71_0 := blk_frozen BK152.out 0
                    have hfz71_1 := blk_frozen BK152.out 1
                    have hfz71_2 := blk_frozen BK152.out 2
                    have hfz71_3 := blk_frozen BK152.out 3
                    have hfz71_4 := blk_frozen BK152.out 4
                    have hfz71_5 := blk_frozen BK152.out 5
                    have hfz71_6 := blk_frozen BK152.out 6
                    have hnb72 := NB132_142.out
                    have hnc72 := NB142_132.out
                    have hnb73 := NB132_159.out
                    have hnc73 := NB159_132.out
                    have hcz74_0 : w70.cell? ⟨gb132, 0, none⟩ = some (.int .i64 t123) := (blk_cell BK132.out 0).trans rfl
                    have hcz74_1 : w70.cell? ⟨gb132, 1, none⟩ = some (.int .i64 t124) := (blk_cell BK132.out 1).trans rfl
                    have hcz74_2 : w70.cell? ⟨gb132, 2, none⟩ = some (.int .i64 t125) := (blk_cell BK132.out 2).trans rfl
                    have hcz74_3 : w70.cell? ⟨gb132, 3, none⟩ = some (.int .i64 t126) := (blk_cell BK132.out 3).trans rfl
                    have hcz74_4 : w70.cell? ⟨gb132, 4, none⟩ = some (.int .i64 t127) := (blk_cell BK132.out 4).trans rfl
                    have hcz74_5 : w70.cell? ⟨gb132, 5, none⟩ = some (.int .i64 t128) := (blk_cell BK132.out 5).trans rfl
                    have hcz74_6 : w70.cell? ⟨gb132, 6, none⟩ = some (.int .i64 t129) := (blk_cell BK132.out 6).trans rfl
                    have hfz74_0 := blk_frozen BK132.out 0
                    have hfz74_1 := blk_frozen BK132.out 1
                    have hfz74_2 := blk_frozen BK132.out 2
                    have hfz74_3 := blk_frozen BK132.out 3
                    have hfz74_4 := blk_frozen BK132.out 4
                    have hfz74_5 := blk_frozen BK132.out 5
                    have hfz74_6 := blk_frozen BK132.out 6
                    have hnb75 := NB142_159.out
                    have hnc75 := NB159_142.out
                    have hcz76_0 : w70.cell? ⟨gb142, 0, none⟩ = some (.int .i64 t133) := (blk_cell BK142.out 0).trans rfl
                    have hcz76_1 : w70.cell? ⟨gb142, 1, none⟩ = some (.int .i64 t134) := (blk_cell BK142.out 1).trans rfl
                    have hcz76_2 : w70.cell? ⟨gb142, 2, none⟩ = some (.int .i64 t135) := (blk_cell BK142.out 2).trans rfl
                    have hcz76_3 : w70.cell? ⟨gb142, 3, none⟩ = some (.int .i64 t136) := (blk_cell BK142.out 3).trans rfl
                    have hcz76_4 : w70.cell? ⟨gb142, 4, none⟩ = some (.int .i64 t137) := (blk_cell BK142.out 4).trans rfl
                    have hcz76_5 : w70.cell? ⟨gb142, 5, none⟩ = some (.int .i64 t138) := (blk_cell BK142.out 5).trans rfl
                    have hcz76_6 : w70.cell? ⟨gb142, 6, none⟩ = some (.int .i64 t139) := (blk_cell BK142.out 6).trans rfl
                    have hfz76_0 := blk_frozen BK142.out 0
                    have hfz76_1 := blk_frozen BK142.out 1
                    have hfz76_2 := blk_frozen BK142.out 2
                    have hfz76_3 := blk_frozen BK142.out 3
                    have hfz76_4 := blk_frozen BK142.out 4
                    have hfz76_5 := blk_frozen BK142.out 5
                    have hfz76_6 := blk_frozen BK142.out 6
                    try go_wp2
                    go_ret
                    exact ⟨by first | rfl | (simp [errW_none, errW_some] <;> rfl) | (simp [*, errW_none, errW_some] <;> rfl), by repeat (first | (with_reducible first | exact HB.out | apply below_alloc | apply pw_below_drewN | apply below_drew1 | refine below_set ?_ GE132.out | refine below_set ?_ GE142.out | refine below_set ?_ GE152.out | refine below_set ?_ GE159.out) | exact HB.out)⟩
                   ·rw [if_neg c62] at H
                    have c62b0 : (t134 == 1) = false := beq_eq_false_iff_ne.mpr c62
                    have c62b1 : (t134 != 1) = true := bne_iff_ne.mpr c62
                    obtain rfl := Option.some.inj H
                    have hnb77 := NB152_132.out
                    have hnc77 := NB132_152.out
                    have hnb78 := NB152_142.out
                    have hnc78 := NB142_152.out
                    have hnb79 := NB152_159.out
                    have hnc79 := NB159_152.out
                    have hcz80_0 : wc.cell? ⟨gb152, 0, none⟩ = some (.int .i64 t143) := (blk_cell BK152.out 0).trans rfl
                    have hcz80_1 : wc.cell? ⟨gb152, 1, none⟩ = some (.int .i64 t144) := (blk_cell BK152.out 1).trans rfl
                    have hcz80_2 : wc.cell? ⟨gb152, 2, none⟩ = some (.int .i64 t145) := (blk_cell BK152.out 2).trans rfl
                    have hcz80_3 : wc.cell? ⟨gb152, 3, none⟩ = some (.int .i64 t146) := (blk_cell BK152.out 3).trans rfl
                    have hcz80_4 : wc.cell? ⟨gb152, 4, none⟩ = some (.int .i64 t147) := (blk_cell BK152.out 4).trans rfl
                    have hcz80_5 : wc.cell? ⟨gb152, 5, none⟩ = some (.int .i64 t148) := (blk_cell BK152.out 5).trans rfl
                    have hcz80_6 : wc.cell? ⟨gb152, 6, none⟩ = some (.int .i64 t149) := (blk_cell BK152.out 6).trans rfl
                    have hfz80_0 := blk_frozen BK152.out 0
                    have hfz80_1 := blk_frozen BK152.out 1
                    have hfz80_2 := blk_frozen BK152.out 2
                    have hfz80_3 := blk_frozen BK152.out 3
                    have hfz80_4 := blk_frozen BK152.out 4
                    have hfz80_5 := blk_frozen BK152.out 5
                    have hfz80_6 := blk_frozen BK152.out 6
                    try go_wp2_with (first | ((with_reducible refine gate_callee (f := 17) rfl ?_); refine goesL_ (some 88) rfl rfl Tryd.func17 (by kernel_rfl) rfl #[.agg #[.int .i64 t143, .int .i64 t144, .int .i64 t145, .int .i64 t146, .int .i64 t147, .int .i64 t148, .int .i64 t149], .int .i64 1000000000] rfl (by (try simp only [List.map_toArray, List.map_cons, List.map_nil]); first | done | rfl | (simp only [List.length_drop, List.length_take]; rfl)) ?_; (with_reducible refine (dim_Value.calls kj32 t143 t144 t145 t146 t147 t148 t149 1000000000 t160 _ A54.out).mono ?_); rintro e w81 ⟨rfl, hb⟩; refine ⟨_, rfl, ?_⟩; have n0_ := Aside0.mk (blk_below (g := gb132) (o := .cells #[.int .i64 t123, .int .i64 t124, .int .i64 t125, .int .i64 t126, .int .i64 t127, .int .i64 t128, .int .i64 t129] 26 (0, 0)) (by (with_reducible repeat (first | refine blk_drewN ?_ _ | refine blk_drew ?_ | refine blk_alloc ?_ _)); exact BK132.out) hb); have n1_ := Aside0.mk (blk_below (g := gb142) (o := .cells #[.int .i64 t133, .int .i64 t134, .int .i64 t135, .int .i64 t136, .int .i64 t137, .int .i64 t138, .int .i64 t139] 26 (0, 0)) (by (with_reducible repeat (first | refine blk_drewN ?_ _ | refine blk_drew ?_ | refine blk_alloc ?_ _)); exact BK142.out) hb); have n2_ := Aside0.mk (blk_below (g := gb152) (o := .cells #[.int .i64 t143, .int .i64 t144, .int .i64 t145, .int .i64 t146, .int .i64 t147, .int .i64 t148, .int .i64 t149] 26 (0, 0)) (by (with_reducible repeat (first | refine blk_drewN ?_ _ | refine blk_drew ?_ | refine blk_alloc ?_ _)); exact BK152.out) hb); have n3_ := Aside0.mk (blk_below (g := gb159) (o := .cells #[.int .i64 t153, .int .i64 t154, .int .i64 t155, .int .i64 t156, .int .i64 t157] 24 (0, 0)) (by (with_reducible repeat (first | refine blk_drewN ?_ _ | refine blk_drew ?_ | refine blk_alloc ?_ _)); exact BK159.out) hb); have n4_ := Aside0.mk (below_step (by repeat (first | (with_reducible first | exact HB.out | apply below_alloc | apply pw_below_drewN | apply below_drew1 | refine below_set ?_ GE132.out | refine below_set ?_ GE142.out | refine below_set ?_ GE152.out | refine below_set ?_ GE159.out) | exact HB.out)) hb); clear BK132; clear BK142; clear BK152; clear BK159; clear HB; have BK132 := n0_; have BK142 := n1_; have BK152 := n2_; have BK159 := n3_; have HB := n4_; clear n0_ n1_ n2_ n3_ n4_; (try clear hb); (try clear hb2); (try clear hk); (try clear hi)))
                    have n0_ := Aside0.mk (blk_drew BK132.out)
                    have n1_ := Aside0.mk (blk_drew BK142.out)
                    have n2_ := Aside0.mk (blk_drew BK152.out)
                    have n3_ := Aside0.mk (blk_drew BK159.out)
                    have n4_ := Aside0.mk (below_drew1 HB.out)
                    clear BK132
                    clear BK142
                    clear BK152
                    clear BK159
                    clear HB
                    have BK132 := n0_
                    have BK142 := n1_
                    have BK152 := n2_
                    have BK159 := n3_
                    have HB := n4_
                    clear n0_ n1_ n2_ n3_ n4_
                    refine start_ (n := 5) (S := fun w' => w'.cell? ⟨gb142, 0, none⟩ = some (.int .i64 t133) ∧ w'.cell? ⟨gb142, 1, none⟩ = some (.int .i64 t134) ∧ w'.cell? ⟨gb142, 2, none⟩ = some (.int .i64 t135) ∧ w'.cell? ⟨gb142, 3, none⟩ = some (.int .i64 t136) ∧ w'.cell? ⟨gb142, 4, none⟩ = some (.int .i64 t137) ∧ w'.cell? ⟨gb142, 5, none⟩ = some (.int .i64 t138) ∧ w'.cell? ⟨gb142, 6, none⟩ = some (.int .i64 t139) ∧ w'.cell? ⟨gb132, 0, none⟩ = some (.int .i64 t123) ∧ w'.cell? ⟨gb132, 1, none⟩ = some (.int .i64 t124) ∧ w'.cell? ⟨gb132, 2, none⟩ = some (.int .i64 t125) ∧ w'.cell? ⟨gb132, 3, none⟩ = some (.int .i64 t126) ∧ w'.cell? ⟨gb132, 4, none⟩ = some (.int .i64 t127) ∧ w'.cell? ⟨gb132, 5, none⟩ = some (.int .i64 t128) ∧ w'.cell? ⟨gb132, 6, none⟩ = some (.int .i64 t129)) (ds := []) #[false, false, false, false, false] (by kernel_rfl) rfl rfl ⟨(blk_cell BK142.out 0).trans rfl, (blk_cell BK142.out 1).trans rfl, (blk_cell BK142.out 2).trans rfl, (blk_cell BK142.out 3).trans rfl, (blk_cell BK142.out 4).trans rfl, (blk_cell BK142.out 5).trans rfl, (blk_cell BK142.out 6).trans rfl, (blk_cell BK132.out 0).trans rfl, (blk_cell BK132.out 1).trans rfl, (blk_cell BK132.out 2).trans rfl, (blk_cell BK132.out 3).trans rfl, (blk_cell BK132.out 4).trans rfl, (blk_cell BK132.out 5).trans rfl, (blk_cell BK132.out 6).trans rfl⟩ (fun hHeld => ?_)
                    generalize w81.drew = w82 at BK132 BK142 BK152 BK159 HB hHeld ⊢
                    refine take_ (i := 0) (N := some 89) (v := ?_) (a' := ?_) #[true, false, false, false, false] rfl rfl (by kernel_rfl) (fun _ _ _ h => h) (Or.inl ⟨by rfl, ?_⟩) hHeld ?_ ?_
                    rotate_left
                    ·rintro w' ⟨s0, s1, s2, s3, s4, s5, s6, s7, s8, s9, s10, s11, s12, s13⟩
                     go_simp
                     with_reducible rfl
                    rotate_left
                    ·simp only [Act.put, List.setIfInBounds_toArray, List.set_cons_zero, List.set_cons_succ, i64_w, i32_w]
                     rfl
                    refine take_ (i := 1) (N := some 90) (v := ?_) (a' := ?_) #[true, true, false, false, false] rfl rfl (by kernel_rfl) (fun _ _ _ h => h) (Or.inl ⟨by rfl, ?_⟩) hHeld ?_ ?_
                    rotate_left
                    ·rintro w' ⟨s0, s1, s2, s3, s4, s5, s6, s7, s8, s9, s10, s11, s12, s13⟩
                     go_simp
                     with_reducible rfl
                    rotate_left
                    ·simp only [Act.put, List.setIfInBounds_toArray, List.set_cons_zero, List.set_cons_succ, i64_w, i32_w]
                     rfl
                    refine one_ (i := 2) (N := some 91) #[true, true, true, false, false] rfl rfl (by kernel_rfl) (by decide) (fun K hK => ?_)
                    refine goes_ Tryd.func17 (by kernel_rfl) rfl #[.agg #[.int .i64 t123, .int .i64 t124, .int .i64 t125, .int .i64 t126, .int .i64 t127, .int .i64 t128, .int .i64 t129], .int .i64 1000000000] (by rfl) rfl rfl (by (try simp only [List.map_toArray, List.map_cons, List.map_nil]); first | done | rfl | (simp only [List.length_drop, List.length_take]; rfl)) ?_
                    with_reducible refine (dim_Value.calls kj32 t123 t124 t125 t126 t127 t128 t129 1000000000 t161 _ A55.out).mono ?_
                    rintro e w83 ⟨rfl, hb⟩
                    refine ⟨_, rfl, ?_⟩
                    have n0_ := Aside0.mk (blk_below (g := gb132) (o := .cells #[.int .i64 t123, .int .i64 t124, .int .i64 t125, .int .i64 t126, .int .i64 t127, .int .i64 t128, .int .i64 t129] 26 (0, 0)) (by (with_reducible repeat (first | refine blk_drewN ?_ _ | refine blk_drew ?_ | refine blk_alloc ?_ _)); exact BK132.out) hb)
                    have n1_ := Aside0.mk (blk_below (g := gb142) (o := .cells #[.int .i64 t133, .int .i64 t134, .int .i64 t135, .int .i64 t136, .int .i64 t137, .int .i64 t138, .int .i64 t139] 26 (0, 0)) (by (with_reducible repeat (first | refine blk_drewN ?_ _ | refine blk_drew ?_ | refine blk_alloc ?_ _)); exact BK142.out) hb)
                    have n2_ := Aside0.mk (blk_below (g := gb152) (o := .cells #[.int .i64 t143, .int .i64 t144, .int .i64 t145, .int .i64 t146, .int .i64 t147, .int .i64 t148, .int .i64 t149] 26 (0, 0)) (by (with_reducible repeat (first | refine blk_drewN ?_ _ | refine blk_drew ?_ | refine blk_alloc ?_ _)); exact BK152.out) hb)
                    have n3_ := Aside0.mk (blk_below (g := gb159) (o := .cells #[.int .i64 t153, .int .i64 t154, .int .i64 t155, .int .i64 t156, .int .i64 t157] 24 (0, 0)) (by (with_reducible repeat (first | refine blk_drewN ?_ _ | refine blk_drew ?_ | refine blk_alloc ?_ _)); exact BK159.out) hb)
                    have n4_ := Aside0.mk (below_step (by repeat (first | (with_reducible first | exact HB.out | apply below_alloc | apply pw_below_drewN | apply below_drew1 | refine below_set ?_ GE132.out | refine below_set ?_ GE142.out | refine below_set ?_ GE152.out | refine below_set ?_ GE159.out) | exact HB.out)) hb)
                    clear BK132
                    clear BK142
                    clear BK152
                    clear BK159
                    clear HB
                    have BK132 := n0_
                    have BK142 := n1_
                    have BK152 := n2_
                    have BK159 := n3_
                    have HB := n4_
                    clear n0_ n1_ n2_ n3_ n4_
                    (try clear hb)
                    (try clear hb2)
                    (try clear hk)
                    (try clear hi)
                    refine hK.out _ _ ⟨(blk_cell BK142.out 0).trans rfl, (blk_cell BK142.out 1).trans rfl, (blk_cell BK142.out 2).trans rfl, (blk_cell BK142.out 3).trans rfl, (blk_cell BK142.out 4).trans rfl, (blk_cell BK142.out 5).trans rfl, (blk_cell BK142.out 6).trans rfl, (blk_cell BK132.out 0).trans rfl, (blk_cell BK132.out 1).trans rfl, (blk_cell BK132.out 2).trans rfl, (blk_cell BK132.out 3).trans rfl, (blk_cell BK132.out 4).trans rfl, (blk_cell BK132.out 5).trans rfl, (blk_cell BK132.out 6).trans rfl⟩ (fun hHeld => ?_)
                    clear hK K
                    refine norm_ (a' := ?_) ?_ ?_
                    rotate_left
                    ·show Act.put _ (some 91) _ = _
                     simp only [Act.put, List.setIfInBounds_toArray, List.set_cons_zero, List.set_cons_succ, i64_w, i32_w]
                     rfl
                    refine one_ (i := 3) (N := some 92) #[true, true, true, true, false] rfl rfl (by kernel_rfl) (by decide) (fun K hK => ?_)
                    refine goes_ Tryd.func17 (by kernel_rfl) rfl #[.agg #[.int .i64 t133, .int .i64 t134, .int .i64 t135, .int .i64 t136, .int .i64 t137, .int .i64 t138, .int .i64 t139], .int .i64 t161] (by rfl) rfl rfl (by (try simp only [List.map_toArray, List.map_cons, List.map_nil]); first | done | rfl | (simp only [List.length_drop, List.length_take]; rfl)) ?_
                    with_reducible refine (dim_Value.calls kj32 t133 t134 t135 t136 t137 t138 t139 t161 t162 _ A56.out).mono ?_
                    rintro e w84 ⟨rfl, hb⟩
                    refine ⟨_, rfl, ?_⟩
                    have n0_ := Aside0.mk (blk_below (g := gb132) (o := .cells #[.int .i64 t123, .int .i64 t124, .int .i64 t125, .int .i64 t126, .int .i64 t127, .int .i64 t128, .int .i64 t129] 26 (0, 0)) (by (with_reducible repeat (first | refine blk_drewN ?_ _ | refine blk_drew ?_ | refine blk_alloc ?_ _)); exact BK132.out) hb)
                    have n1_ := Aside0.mk (blk_below (g := gb142) (o := .cells #[.int .i64 t133, .int .i64 t134, .int .i64 t135, .int .i64 t136, .int .i64 t137, .int .i64 t138, .int .i64 t139] 26 (0, 0)) (by (with_reducible repeat (first | refine blk_drewN ?_ _ | refine blk_drew ?_ | refine blk_alloc ?_ _)); exact BK142.out) hb)
                    have n2_ := Aside0.mk (blk_below (g := gb152) (o := .cells #[.int .i64 t143, .int .i64 t144, .int .i64 t145, .int .i64 t146, .int .i64 t147, .int .i64 t148, .int .i64 t149] 26 (0, 0)) (by (with_reducible repeat (first | refine blk_drewN ?_ _ | refine blk_drew ?_ | refine blk_alloc ?_ _)); exact BK152.out) hb)
                    have n3_ := Aside0.mk (blk_below (g := gb159) (o := .cells #[.int .i64 t153, .int .i64 t154, .int .i64 t155, .int .i64 t156, .int .i64 t157] 24 (0, 0)) (by (with_reducible repeat (first | refine blk_drewN ?_ _ | refine blk_drew ?_ | refine blk_alloc ?_ _)); exact BK159.out) hb)
                    have n4_ := Aside0.mk (below_step (by repeat (first | (with_reducible first | exact HB.out | apply below_alloc | apply pw_below_drewN | apply below_drew1 | refine below_set ?_ GE132.out | refine below_set ?_ GE142.out | refine below_set ?_ GE152.out | refine below_set ?_ GE159.out) | exact HB.out)) hb)
                    clear BK132
                    clear BK142
                    clear BK152
                    clear BK159
                    clear HB
                    have BK132 := n0_
                    have BK142 := n1_
                    have BK152 := n2_
                    have BK159 := n3_
                    have HB := n4_
                    clear n0_ n1_ n2_ n3_ n4_
                    (try clear hb)
                    (try clear hb2)
                    (try clear hk)
                    (try clear hi)
                    refine hK.out _ _ ⟨(blk_cell BK142.out 0).trans rfl, (blk_cell BK142.out 1).trans rfl, (blk_cell BK142.out 2).trans rfl, (blk_cell BK142.out 3).trans rfl, (blk_cell BK142.out 4).trans rfl, (blk_cell BK142.out 5).trans rfl, (blk_cell BK142.out 6).trans rfl, (blk_cell BK132.out 0).trans rfl, (blk_cell BK132.out 1).trans rfl, (blk_cell BK132.out 2).trans rfl, (blk_cell BK132.out 3).trans rfl, (blk_cell BK132.out 4).trans rfl, (blk_cell BK132.out 5).trans rfl, (blk_cell BK132.out 6).trans rfl⟩ (fun hHeld => ?_)
                    clear hK K
                    refine norm_ (a' := ?_) ?_ ?_
                    rotate_left
                    ·show Act.put _ (some 92) _ = _
                     simp only [Act.put, List.setIfInBounds_toArray, List.set_cons_zero, List.set_cons_succ, i64_w, i32_w]
                     rfl
                    refine pure_ (i := 4) (N := some 17) (v := ?_) (a' := ?_) #[true, true, true, true, true] rfl rfl (by kernel_rfl) (fun _ _ _ h => h) (Or.inl ⟨by rfl, ?_⟩) ?_ ?_
                    rotate_left
                    ·intro w'
                     go_simp
                     with_reducible rfl
                    rotate_left
                    ·simp only [Act.put, List.setIfInBounds_toArray, List.set_cons_zero, List.set_cons_succ, i64_w, i32_w]
                     rfl
                    refine done_ (by kernel_rfl) ?_
                    have hcz85_0 : w84.cell? ⟨gb152, 0, none⟩ = some (.int .i64 t143) := (blk_cell BK152.out 0).trans rfl
                    have hcz85_1 : w84.cell? ⟨gb152, 1, none⟩ = some (.int .i64 t144) := (blk_cell BK152.out 1).trans rfl
                    have hcz85_2 : w84.cell? ⟨gb152, 2, none⟩ = some (.int .i64 t145) := (blk_cell BK152.out 2).trans rfl
                    have hcz85_3 : w84.cell? ⟨gb152, 3, none⟩ = some (.int .i64 t146) := (blk_cell BK152.out 3).trans rfl
                    have hcz85_4 : w84.cell? ⟨gb152, 4, none⟩ = some (.int .i64 t147) := (blk_cell BK152.out 4).trans rfl
                    have hcz85_5 : w84.cell? ⟨gb152, 5, none⟩ = some (.int .i64 t148) := (blk_cell BK152.out 5).trans rfl
                    have hcz85_6 : w84.cell? ⟨gb152, 6, none⟩ = some (.int .i64 t149) := (blk_cell BK152.out 6).trans rfl
                    have hfz85_0 := blk_frozen BK152.out 0
                    have hfz85_1 := blk_frozen BK152.out 1
                    have hfz85_2 := blk_frozen BK152.out 2
                    have hfz85_3 := blk_frozen BK152.out 3
                    have hfz85_4 := blk_frozen BK152.out 4
                    have hfz85_5 := blk_frozen BK152.out 5
                    have hfz85_6 := blk_frozen BK152.out 6
                    have hnb86 := NB132_142.out
                    have hnc86 := NB142_132.out
                    have hnb87 := NB132_159.out
                    have hnc87 := NB159_132.out
                    have hcz88_0 : w84.cell? ⟨gb132, 0, none⟩ = some (.int .i64 t123) := (blk_cell BK132.out 0).trans rfl
                    have hcz88_1 : w84.cell? ⟨gb132, 1, none⟩ = some (.int .i64 t124) := (blk_cell BK132.out 1).trans rfl
                    have hcz88_2 : w84.cell? ⟨gb132, 2, none⟩ = some (.int .i64 t125) := (blk_cell BK132.out 2).trans rfl
                    have hcz88_3 : w84.cell? ⟨gb132, 3, none⟩ = some (.int .i64 t126) := (blk_cell BK132.out 3).trans rfl
                    have hcz88_4 : w84.cell? ⟨gb132, 4, none⟩ = some (.int .i64 t127) := (blk_cell BK132.out 4).trans rfl
                    have hcz88_5 : w84.cell? ⟨gb132, 5, none⟩ = some (.int .i64 t128) := (blk_cell BK132.out 5).trans rfl
                    have hcz88_6 : w84.cell? ⟨gb132, 6, none⟩ = some (.int .i64 t129) := (blk_cell BK132.out 6).trans rfl
                    have hfz88_0 := blk_frozen BK132.out 0
                    have hfz88_1 := blk_frozen BK132.out 1
                    have hfz88_2 := blk_frozen BK132.out 2
                    have hfz88_3 := blk_frozen BK132.out 3
                    have hfz88_4 := blk_frozen BK132.out 4
                    have hfz88_5 := blk_frozen BK132.out 5
                    have hfz88_6 := blk_frozen BK132.out 6
                    have hnb89 := NB142_159.out
                    have hnc89 := NB159_142.out
                    have hcz90_0 : w84.cell? ⟨gb142, 0, none⟩ = some (.int .i64 t133) := (blk_cell BK142.out 0).trans rfl
                    have hcz90_1 : w84.cell? ⟨gb142, 1, none⟩ = some (.int .i64 t134) := (blk_cell BK142.out 1).trans rfl
                    have hcz90_2 : w84.cell? ⟨gb142, 2, none⟩ = some (.int .i64 t135) := (blk_cell BK142.out 2).trans rfl
                    have hcz90_3 : w84.cell? ⟨gb142, 3, none⟩ = some (.int .i64 t136) := (blk_cell BK142.out 3).trans rfl
                    have hcz90_4 : w84.cell? ⟨gb142, 4, none⟩ = some (.int .i64 t137) := (blk_cell BK142.out 4).trans rfl
                    have hcz90_5 : w84.cell? ⟨gb142, 5, none⟩ = some (.int .i64 t138) := (blk_cell BK142.out 5).trans rfl
                    have hcz90_6 : w84.cell? ⟨gb142, 6, none⟩ = some (.int .i64 t139) := (blk_cell BK142.out 6).trans rfl
                    have hfz90_0 := blk_frozen BK142.out 0
                    have hfz90_1 := blk_frozen BK142.out 1
                    have hfz90_2 := blk_frozen BK142.out 2
                    have hfz90_3 := blk_frozen BK142.out 3
                    have hfz90_4 := blk_frozen BK142.out 4
                    have hfz90_5 := blk_frozen BK142.out 5
                    have hfz90_6 := blk_frozen BK142.out 6
                    try go_wp2
                    go_ret
                    exact ⟨by first | rfl | (simp [errW_none, errW_some] <;> rfl) | (simp [*, errW_none, errW_some] <;> rfl), by repeat (first | (with_reducible first | exact HB.out | apply below_alloc | apply pw_below_drewN | apply below_drew1 | refine below_set ?_ GE132.out | refine below_set ?_ GE142.out | refine below_set ?_ GE152.out | refine below_set ?_ GE159.out) | exact HB.out)⟩
                  ·rw [if_neg c61] at H
                   have c61b0 : (t124 == 1) = false := beq_eq_false_iff_ne.mpr c61
                   have c61b1 : (t124 != 1) = true := bne_iff_ne.mpr c61
                   obtain rfl := Option.some.inj H
                   have hnb91 := NB152_132.out
                   have hnc91 := NB132_152.out
                   have hnb92 := NB152_142.out
                   have hnc92 := NB142_152.out
                   have hnb93 := NB152_159.out
                   have hnc93 := NB159_152.out
                   have hcz94_0 : wc.cell? ⟨gb152, 0, none⟩ = some (.int .i64 t143) := (blk_cell BK152.out 0).trans rfl
                   have hcz94_1 : wc.cell? ⟨gb152, 1, none⟩ = some (.int .i64 t144) := (blk_cell BK152.out 1).trans rfl
                   have hcz94_2 : wc.cell? ⟨gb152, 2, none⟩ = some (.int .i64 t145) := (blk_cell BK152.out 2).trans rfl
                   have hcz94_3 : wc.cell? ⟨gb152, 3, none⟩ = some (.int .i64 t146) := (blk_cell BK152.out 3).trans rfl
                   have hcz94_4 : wc.cell? ⟨gb152, 4, none⟩ = some (.int .i64 t147) := (blk_cell BK152.out 4).trans rfl
                   have hcz94_5 : wc.cell? ⟨gb152, 5, none⟩ = some (.int .i64 t148) := (blk_cell BK152.out 5).trans rfl
                   have hcz94_6 : wc.cell? ⟨gb152, 6, none⟩ = some (.int .i64 t149) := (blk_cell BK152.out 6).trans rfl
                   have hfz94_0 := blk_frozen BK152.out 0
                   have hfz94_1 := blk_frozen BK152.out 1
                   have hfz94_2 := blk_frozen BK152.out 2
                   have hfz94_3 := blk_frozen BK152.out 3
                   have hfz94_4 := blk_frozen BK152.out 4
                   have hfz94_5 := blk_frozen BK152.out 5
                   have hfz94_6 := blk_frozen BK152.out 6
                   try go_wp2_with (first | ((with_reducible refine gate_callee (f := 17) rfl ?_); refine goesL_ (some 88) rfl rfl Tryd.func17 (by kernel_rfl) rfl #[.agg #[.int .i64 t143, .int .i64 t144, .int .i64 t145, .int .i64 t146, .int .i64 t147, .int .i64 t148, .int .i64 t149], .int .i64 1000000000] rfl (by (try simp only [List.map_toArray, List.map_cons, List.map_nil]); first | done | rfl | (simp only [List.length_drop, List.length_take]; rfl)) ?_; (with_reducible refine (dim_Value.calls kj32 t143 t144 t145 t146 t147 t148 t149 1000000000 t160 _ A54.out).mono ?_); rintro e w95 ⟨rfl, hb⟩; refine ⟨_, rfl, ?_⟩; have n0_ := Aside0.mk (blk_below (g := gb132) (o := .cells #[.int .i64 t123, .int .i64 t124, .int .i64 t125, .int .i64 t126, .int .i64 t127, .int .i64 t128, .int .i64 t129] 26 (0, 0)) (by (with_reducible repeat (first | refine blk_drewN ?_ _ | refine blk_drew ?_ | refine blk_alloc ?_ _)); exact BK132.out) hb); have n1_ := Aside0.mk (blk_below (g := gb142) (o := .cells #[.int .i64 t133, .int .i64 t134, .int .i64 t135, .int .i64 t136, .int .i64 t137, .int .i64 t138, .int .i64 t139] 26 (0, 0)) (by (with_reducible repeat (first | refine blk_drewN ?_ _ | refine blk_drew ?_ | refine blk_alloc ?_ _)); exact BK142.out) hb); have n2_ := Aside0.mk (blk_below (g := gb152) (o := .cells #[.int .i64 t143, .int .i64 t144, .int .i64 t145, .int .i64 t146, .int .i64 t147, .int .i64 t148, .int .i64 t149] 26 (0, 0)) (by (with_reducible repeat (first | refine blk_drewN ?_ _ | refine blk_drew ?_ | refine blk_alloc ?_ _)); exact BK152.out) hb); have n3_ := Aside0.mk (blk_below (g := gb159) (o := .cells #[.int .i64 t153, .int .i64 t154, .int .i64 t155, .int .i64 t156, .int .i64 t157] 24 (0, 0)) (by (with_reducible repeat (first | refine blk_drewN ?_ _ | refine blk_drew ?_ | refine blk_alloc ?_ _)); exact BK159.out) hb); have n4_ := Aside0.mk (below_step (by repeat (first | (with_reducible first | exact HB.out | apply below_alloc | apply pw_below_drewN | apply below_drew1 | refine below_set ?_ GE132.out | refine below_set ?_ GE142.out | refine below_set ?_ GE152.out | refine below_set ?_ GE159.out) | exact HB.out)) hb); clear BK132; clear BK142; clear BK152; clear BK159; clear HB; have BK132 := n0_; have BK142 := n1_; have BK152 := n2_; have BK159 := n3_; have HB := n4_; clear n0_ n1_ n2_ n3_ n4_; (try clear hb); (try clear hb2); (try clear hk); (try clear hi)))
                   have n0_ := Aside0.mk (blk_drew BK132.out)
                   have n1_ := Aside0.mk (blk_drew BK142.out)
                   have n2_ := Aside0.mk (blk_drew BK152.out)
                   have n3_ := Aside0.mk (blk_drew BK159.out)
                   have n4_ := Aside0.mk (below_drew1 HB.out)
                   clear BK132
                   clear BK142
                   clear BK152
                   clear BK159
                   clear HB
                   have BK132 := n0_
                   have BK142 := n1_
                   have BK152 := n2_
                   have BK159 := n3_
                   have HB := n4_
                   clear n0_ n1_ n2_ n3_ n4_
                   refine start_ (n := 5) (S := fun w' => w'.cell? ⟨gb142, 0, none⟩ = some (.int .i64 t133) ∧ w'.cell? ⟨gb142, 1, none⟩ = some (.int .i64 t134) ∧ w'.cell? ⟨gb142, 2, none⟩ = some (.int .i64 t135) ∧ w'.cell? ⟨gb142, 3, none⟩ = some (.int .i64 t136) ∧ w'.cell? ⟨gb142, 4, none⟩ = some (.int .i64 t137) ∧ w'.cell? ⟨gb142, 5, none⟩ = some (.int .i64 t138) ∧ w'.cell? ⟨gb142, 6, none⟩ = some (.int .i64 t139) ∧ w'.cell? ⟨gb132, 0, none⟩ = some (.int .i64 t123) ∧ w'.cell? ⟨gb132, 1, none⟩ = some (.int .i64 t124) ∧ w'.cell? ⟨gb132, 2, none⟩ = some (.int .i64 t125) ∧ w'.cell? ⟨gb132, 3, none⟩ = some (.int .i64 t126) ∧ w'.cell? ⟨gb132, 4, none⟩ = some (.int .i64 t127) ∧ w'.cell? ⟨gb132, 5, none⟩ = some (.int .i64 t128) ∧ w'.cell? ⟨gb132, 6, none⟩ = some (.int .i64 t129)) (ds := []) #[false, false, false, false, false] (by kernel_rfl) rfl rfl ⟨(blk_cell BK142.out 0).trans rfl, (blk_cell BK142.out 1).trans rfl, (blk_cell BK142.out 2).trans rfl, (blk_cell BK142.out 3).trans rfl, (blk_cell BK142.out 4).trans rfl, (blk_cell BK142.out 5).trans rfl, (blk_cell BK142.out 6).trans rfl, (blk_cell BK132.out 0).trans rfl, (blk_cell BK132.out 1).trans rfl, (blk_cell BK132.out 2).trans rfl, (blk_cell BK132.out 3).trans rfl, (blk_cell BK132.out 4).trans rfl, (blk_cell BK132.out 5).trans rfl, (blk_cell BK132.out 6).trans rfl⟩ (fun hHeld => ?_)
                   generalize w95.drew = w96 at BK132 BK142 BK152 BK159 HB hHeld ⊢
                   refine take_ (i := 0) (N := some 89) (v := ?_) (a' := ?_) #[true, false, false, false, false] rfl rfl (by kernel_rfl) (fun _ _ _ h => h) (Or.inl ⟨by rfl, ?_⟩) hHeld ?_ ?_
                   rotate_left
                   ·rintro w' ⟨s0, s1, s2, s3, s4, s5, s6, s7, s8, s9, s10, s11, s12, s13⟩
                    go_simp
                    with_reducible rfl
                   rotate_left
                   ·simp only [Act.put, List.setIfInBounds_toArray, List.set_cons_zero, List.set_cons_succ, i64_w, i32_w]
                    rfl
                   refine take_ (i := 1) (N := some 90) (v := ?_) (a' := ?_) #[true, true, false, false, false] rfl rfl (by kernel_rfl) (fun _ _ _ h => h) (Or.inl ⟨by rfl, ?_⟩) hHeld ?_ ?_
                   rotate_left
                   ·rintro w' ⟨s0, s1, s2, s3, s4, s5, s6, s7, s8, s9, s10, s11, s12, s13⟩
                    go_simp
                    with_reducible rfl
                   rotate_left
                   ·simp only [Act.put, List.setIfInBounds_toArray, List.set_cons_zero, List.set_cons_succ, i64_w, i32_w]
                    rfl
                   refine one_ (i := 2) (N := some 91) #[true, true, true, false, false] rfl rfl (by kernel_rfl) (by decide) (fun K hK => ?_)
                   refine goes_ Tryd.func17 (by kernel_rfl) rfl #[.agg #[.int .i64 t123, .int .i64 t124, .int .i64 t125, .int .i64 t126, .int .i64 t127, .int .i64 t128, .int .i64 t129], .int .i64 1000000000] (by rfl) rfl rfl (by (try simp only [List.map_toArray, List.map_cons, List.map_nil]); first | done | rfl | (simp only [List.length_drop, List.length_take]; rfl)) ?_
                   with_reducible refine (dim_Value.calls kj32 t123 t124 t125 t126 t127 t128 t129 1000000000 t161 _ A55.out).mono ?_
                   rintro e w97 ⟨rfl, hb⟩
                   refine ⟨_, rfl, ?_⟩
                   have n0_ := Aside0.mk (blk_below (g := gb132) (o := .cells #[.int .i64 t123, .int .i64 t124, .int .i64 t125, .int .i64 t126, .int .i64 t127, .int .i64 t128, .int .i64 t129] 26 (0, 0)) (by (with_reducible repeat (first | refine blk_drewN ?_ _ | refine blk_drew ?_ | refine blk_alloc ?_ _)); exact BK132.out) hb)
                   have n1_ := Aside0.mk (blk_below (g := gb142) (o := .cells #[.int .i64 t133, .int .i64 t134, .int .i64 t135, .int .i64 t136, .int .i64 t137, .int .i64 t138, .int .i64 t139] 26 (0, 0)) (by (with_reducible repeat (first | refine blk_drewN ?_ _ | refine blk_drew ?_ | refine blk_alloc ?_ _)); exact BK142.out) hb)
                   have n2_ := Aside0.mk (blk_below (g := gb152) (o := .cells #[.int .i64 t143, .int .i64 t144, .int .i64 t145, .int .i64 t146, .int .i64 t147, .int .i64 t148, .int .i64 t149] 26 (0, 0)) (by (with_reducible repeat (first | refine blk_drewN ?_ _ | refine blk_drew ?_ | refine blk_alloc ?_ _)); exact BK152.out) hb)
                   have n3_ := Aside0.mk (blk_below (g := gb159) (o := .cells #[.int .i64 t153, .int .i64 t154, .int .i64 t155, .int .i64 t156, .int .i64 t157] 24 (0, 0)) (by (with_reducible repeat (first | refine blk_drewN ?_ _ | refine blk_drew ?_ | refine blk_alloc ?_ _)); exact BK159.out) hb)
                   have n4_ := Aside0.mk (below_step (by repeat (first | (with_reducible first | exact HB.out | apply below_alloc | apply pw_below_drewN | apply below_drew1 | refine below_set ?_ GE132.out | refine below_set ?_ GE142.out | refine below_set ?_ GE152.out | refine below_set ?_ GE159.out) | exact HB.out)) hb)
                   clear BK132
                   clear BK142
                   clear BK152
                   clear BK159
                   clear HB
                   have BK132 := n0_
                   have BK142 := n1_
                   have BK152 := n2_
                   have BK159 := n3_
                   have HB := n4_
                   clear n0_ n1_ n2_ n3_ n4_
                   (try clear hb)
                   (try clear hb2)
                   (try clear hk)
                   (try clear hi)
                   refine hK.out _ _ ⟨(blk_cell BK142.out 0).trans rfl, (blk_cell BK142.out 1).trans rfl, (blk_cell BK142.out 2).trans rfl, (blk_cell BK142.out 3).trans rfl, (blk_cell BK142.out 4).trans rfl, (blk_cell BK142.out 5).trans rfl, (blk_cell BK142.out 6).trans rfl, (blk_cell BK132.out 0).trans rfl, (blk_cell BK132.out 1).trans rfl, (blk_cell BK132.out 2).trans rfl, (blk_cell BK132.out 3).trans rfl, (blk_cell BK132.out 4).trans rfl, (blk_cell BK132.out 5).trans rfl, (blk_cell BK132.out 6).trans rfl⟩ (fun hHeld => ?_)
                   clear hK K
                   refine norm_ (a' := ?_) ?_ ?_
                   rotate_left
                   ·show Act.put _ (some 91) _ = _
                    simp only [Act.put, List.setIfInBounds_toArray, List.set_cons_zero, List.set_cons_succ, i64_w, i32_w]
                    rfl
                   refine one_ (i := 3) (N := some 92) #[true, true, true, true, false] rfl rfl (by kernel_rfl) (by decide) (fun K hK => ?_)
                   refine goes_ Tryd.func17 (by kernel_rfl) rfl #[.agg #[.int .i64 t133, .int .i64 t134, .int .i64 t135, .int .i64 t136, .int .i64 t137, .int .i64 t138, .int .i64 t139], .int .i64 t161] (by rfl) rfl rfl (by (try simp only [List.map_toArray, List.map_cons, List.map_nil]); first | done | rfl | (simp only [List.length_drop, List.length_take]; rfl)) ?_
                   with_reducible refine (dim_Value.calls kj32 t133 t134 t135 t136 t137 t138 t139 t161 t162 _ A56.out).mono ?_
                   rintro e w98 ⟨rfl, hb⟩
                   refine ⟨_, rfl, ?_⟩
                   have n0_ := Aside0.mk (blk_below (g := gb132) (o := .cells #[.int .i64 t123, .int .i64 t124, .int .i64 t125, .int .i64 t126, .int .i64 t127, .int .i64 t128, .int .i64 t129] 26 (0, 0)) (by (with_reducible repeat (first | refine blk_drewN ?_ _ | refine blk_drew ?_ | refine blk_alloc ?_ _)); exact BK132.out) hb)
                   have n1_ := Aside0.mk (blk_below (g := gb142) (o := .cells #[.int .i64 t133, .int .i64 t134, .int .i64 t135, .int .i64 t136, .int .i64 t137, .int .i64 t138, .int .i64 t139] 26 (0, 0)) (by (with_reducible repeat (first | refine blk_drewN ?_ _ | refine blk_drew ?_ | refine blk_alloc ?_ _)); exact BK142.out) hb)
                   have n2_ := Aside0.mk (blk_below (g := gb152) (o := .cells #[.int .i64 t143, .int .i64 t144, .int .i64 t145, .int .i64 t146, .int .i64 t147, .int .i64 t148, .int .i64 t149] 26 (0, 0)) (by (with_reducible repeat (first | refine blk_drewN ?_ _ | refine blk_drew ?_ | refine blk_alloc ?_ _)); exact BK152.out) hb)
                   have n3_ := Aside0.mk (blk_below (g := gb159) (o := .cells #[.int .i64 t153, .int .i64 t154, .int .i64 t155, .int .i64 t156, .int .i64 t157] 24 (0, 0)) (by (with_reducible repeat (first | refine blk_drewN ?_ _ | refine blk_drew ?_ | refine blk_alloc ?_ _)); exact BK159.out) hb)
                   have n4_ := Aside0.mk (below_step (by repeat (first | (with_reducible first | exact HB.out | apply below_alloc | apply pw_below_drewN | apply below_drew1 | refine below_set ?_ GE132.out | refine below_set ?_ GE142.out | refine below_set ?_ GE152.out | refine below_set ?_ GE159.out) | exact HB.out)) hb)
                   clear BK132
                   clear BK142
                   clear BK152
                   clear BK159
                   clear HB
                   have BK132 := n0_
                   have BK142 := n1_
                   have BK152 := n2_
                   have BK159 := n3_
                   have HB := n4_
                   clear n0_ n1_ n2_ n3_ n4_
                   (try clear hb)
                   (try clear hb2)
                   (try clear hk)
                   (try clear hi)
                   refine hK.out _ _ ⟨(blk_cell BK142.out 0).trans rfl, (blk_cell BK142.out 1).trans rfl, (blk_cell BK142.out 2).trans rfl, (blk_cell BK142.out 3).trans rfl, (blk_cell BK142.out 4).trans rfl, (blk_cell BK142.out 5).trans rfl, (blk_cell BK142.out 6).trans rfl, (blk_cell BK132.out 0).trans rfl, (blk_cell BK132.out 1).trans rfl, (blk_cell BK132.out 2).trans rfl, (blk_cell BK132.out 3).trans rfl, (blk_cell BK132.out 4).trans rfl, (blk_cell BK132.out 5).trans rfl, (blk_cell BK132.out 6).trans rfl⟩ (fun hHeld => ?_)
                   clear hK K
                   refine norm_ (a' := ?_) ?_ ?_
                   rotate_left
                   ·show Act.put _ (some 92) _ = _
                    simp only [Act.put, List.setIfInBounds_toArray, List.set_cons_zero, List.set_cons_succ, i64_w, i32_w]
                    rfl
                   refine pure_ (i := 4) (N := some 17) (v := ?_) (a' := ?_) #[true, true, true, true, true] rfl rfl (by kernel_rfl) (fun _ _ _ h => h) (Or.inl ⟨by rfl, ?_⟩) ?_ ?_
                   rotate_left
                   ·intro w'
                    go_simp
                    with_reducible rfl
                   rotate_left
                   ·simp only [Act.put, List.setIfInBounds_toArray, List.set_cons_zero, List.set_cons_succ, i64_w, i32_w]
                    rfl
                   refine done_ (by kernel_rfl) ?_
                   have hcz99_0 : w98.cell? ⟨gb152, 0, none⟩ = some (.int .i64 t143) := (blk_cell BK152.out 0).trans rfl
                   have hcz99_1 : w98.cell? ⟨gb152, 1, none⟩ = some (.int .i64 t144) := (blk_cell BK152.out 1).trans rfl
                   have hcz99_2 : w98.cell? ⟨gb152, 2, none⟩ = some (.int .i64 t145) := (blk_cell BK152.out 2).trans rfl
                   have hcz99_3 : w98.cell? ⟨gb152, 3, none⟩ = some (.int .i64 t146) := (blk_cell BK152.out 3).trans rfl
                   have hcz99_4 : w98.cell? ⟨gb152, 4, none⟩ = some (.int .i64 t147) := (blk_cell BK152.out 4).trans rfl
                   have hcz99_5 : w98.cell? ⟨gb152, 5, none⟩ = some (.int .i64 t148) := (blk_cell BK152.out 5).trans rfl
                   have hcz99_6 : w98.cell? ⟨gb152, 6, none⟩ = some (.int .i64 t149) := (blk_cell BK152.out 6).trans rfl
                   have hfz99_0 := blk_frozen BK152.out 0
                   have hfz99_1 := blk_frozen BK152.out 1
                   have hfz99_2 := blk_frozen BK152.out 2
                   have hfz99_3 := blk_frozen BK152.out 3
                   have hfz99_4 := blk_frozen BK152.out 4
                   have hfz99_5 := blk_frozen BK152.out 5
                   have hfz99_6 := blk_frozen BK152.out 6
                   have hnb100 := NB132_142.out
                   have hnc100 := NB142_132.out
                   have hnb101 := NB132_159.out
                   have hnc101 := NB159_132.out
                   have hcz102_0 : w98.cell? ⟨gb132, 0, none⟩ = some (.int .i64 t123) := (blk_cell BK132.out 0).trans rfl
                   have hcz102_1 : w98.cell? ⟨gb132, 1, none⟩ = some (.int .i64 t124) := (blk_cell BK132.out 1).trans rfl
                   have hcz102_2 : w98.cell? ⟨gb132, 2, none⟩ = some (.int .i64 t125) := (blk_cell BK132.out 2).trans rfl
                   have hcz102_3 : w98.cell? ⟨gb132, 3, none⟩ = some (.int .i64 t126) := (blk_cell BK132.out 3).trans rfl
                   have hcz102_4 : w98.cell? ⟨gb132, 4, none⟩ = some (.int .i64 t127) := (blk_cell BK132.out 4).trans rfl
                   have hcz102_5 : w98.cell? ⟨gb132, 5, none⟩ = some (.int .i64 t128) := (blk_cell BK132.out 5).trans rfl
                   have hcz102_6 : w98.cell? ⟨gb132, 6, none⟩ = some (.int .i64 t129) := (blk_cell BK132.out 6).trans rfl
                   have hfz102_0 := blk_frozen BK132.out 0
                   have hfz102_1 := blk_frozen BK132.out 1
                   have hfz102_2 := blk_frozen BK132.out 2
                   have hfz102_3 := blk_frozen BK132.out 3
                   have hfz102_4 := blk_frozen BK132.out 4
                   have hfz102_5 := blk_frozen BK132.out 5
                   have hfz102_6 := blk_frozen BK132.out 6
                   try go_wp2
                   go_ret
                   exact ⟨by first | rfl | (simp [errW_none, errW_some] <;> rfl) | (simp [*, errW_none, errW_some] <;> rfl), by repeat (first | (with_reducible first | exact HB.out | apply below_alloc | apply pw_below_drewN | apply below_drew1 | refine below_set ?_ GE132.out | refine below_set ?_ GE142.out | refine below_set ?_ GE152.out | refine below_set ?_ GE159.out) | exact HB.out)⟩
                 ·rw [if_neg c60] at H
                  have c60b0 : decide (t144 ≤ 1000000000000000) = false := decide_eq_false c60
                  clear c60
                  obtain rfl := Option.some.inj H
                  have hnb103 := NB152_132.out
                  have hnc103 := NB132_152.out
                  have hnb104 := NB152_142.out
                  have hnc104 := NB142_152.out
                  have hnb105 := NB152_159.out
                  have hnc105 := NB159_152.out
                  have hcz106_0 : wc.cell? ⟨gb152, 0, none⟩ = some (.int .i64 t143) := (blk_cell BK152.out 0).trans rfl
                  have hcz106_1 : wc.cell? ⟨gb152, 1, none⟩ = some (.int .i64 t144) := (blk_cell BK152.out 1).trans rfl
                  have hcz106_2 : wc.cell? ⟨gb152, 2, none⟩ = some (.int .i64 t145) := (blk_cell BK152.out 2).trans rfl
                  have hcz106_3 : wc.cell? ⟨gb152, 3, none⟩ = some (.int .i64 t146) := (blk_cell BK152.out 3).trans rfl
                  have hcz106_4 : wc.cell? ⟨gb152, 4, none⟩ = some (.int .i64 t147) := (blk_cell BK152.out 4).trans rfl
                  have hcz106_5 : wc.cell? ⟨gb152, 5, none⟩ = some (.int .i64 t148) := (blk_cell BK152.out 5).trans rfl
                  have hcz106_6 : wc.cell? ⟨gb152, 6, none⟩ = some (.int .i64 t149) := (blk_cell BK152.out 6).trans rfl
                  have hfz106_0 := blk_frozen BK152.out 0
                  have hfz106_1 := blk_frozen BK152.out 1
                  have hfz106_2 := blk_frozen BK152.out 2
                  have hfz106_3 := blk_frozen BK152.out 3
                  have hfz106_4 := blk_frozen BK152.out 4
                  have hfz106_5 := blk_frozen BK152.out 5
                  have hfz106_6 := blk_frozen BK152.out 6
                  try go_wp2_with (first | ((with_reducible refine gate_callee (f := 17) rfl ?_); refine goesL_ (some 88) rfl rfl Tryd.func17 (by kernel_rfl) rfl #[.agg #[.int .i64 t143, .int .i64 t144, .int .i64 t145, .int .i64 t146, .int .i64 t147, .int .i64 t148, .int .i64 t149], .int .i64 1000000000] rfl (by (try simp only [List.map_toArray, List.map_cons, List.map_nil]); first | done | rfl | (simp only [List.length_drop, List.length_take]; rfl)) ?_; (with_reducible refine (dim_Value.calls kj32 t143 t144 t145 t146 t147 t148 t149 1000000000 t160 _ A54.out).mono ?_); rintro e w107 ⟨rfl, hb⟩; refine ⟨_, rfl, ?_⟩; have n0_ := Aside0.mk (blk_below (g := gb132) (o := .cells #[.int .i64 t123, .int .i64 t124, .int .i64 t125, .int .i64 t126, .int .i64 t127, .int .i64 t128, .int .i64 t129] 26 (0, 0)) (by (with_reducible repeat (first | refine blk_drewN ?_ _ | refine blk_drew ?_ | refine blk_alloc ?_ _)); exact BK132.out) hb); have n1_ := Aside0.mk (blk_below (g := gb142) (o := .cells #[.int .i64 t133, .int .i64 t134, .int .i64 t135, .int .i64 t136, .int .i64 t137, .int .i64 t138, .int .i64 t139] 26 (0, 0)) (by (with_reducible repeat (first | refine blk_drewN ?_ _ | refine blk_drew ?_ | refine blk_alloc ?_ _)); exact BK142.out) hb); have n2_ := Aside0.mk (blk_below (g := gb152) (o := .cells #[.int .i64 t143, .int .i64 t144, .int .i64 t145, .int .i64 t146, .int .i64 t147, .int .i64 t148, .int .i64 t149] 26 (0, 0)) (by (with_reducible repeat (first | refine blk_drewN ?_ _ | refine blk_drew ?_ | refine blk_alloc ?_ _)); exact BK152.out) hb); have n3_ := Aside0.mk (blk_below (g := gb159) (o := .cells #[.int .i64 t153, .int .i64 t154, .int .i64 t155, .int .i64 t156, .int .i64 t157] 24 (0, 0)) (by (with_reducible repeat (first | refine blk_drewN ?_ _ | refine blk_drew ?_ | refine blk_alloc ?_ _)); exact BK159.out) hb); have n4_ := Aside0.mk (below_step (by repeat (first | (with_reducible first | exact HB.out | apply below_alloc | apply pw_below_drewN | apply below_drew1 | refine below_set ?_ GE132.out | refine below_set ?_ GE142.out | refine below_set ?_ GE152.out | refine below_set ?_ GE159.out) | exact HB.out)) hb); clear BK132; clear BK142; clear BK152; clear BK159; clear HB; have BK132 := n0_; have BK142 := n1_; have BK152 := n2_; have BK159 := n3_; have HB := n4_; clear n0_ n1_ n2_ n3_ n4_; (try clear hb); (try clear hb2); (try clear hk); (try clear hi)))
                  have n0_ := Aside0.mk (blk_drew BK132.out)
                  have n1_ := Aside0.mk (blk_drew BK142.out)
                  have n2_ := Aside0.mk (blk_drew BK152.out)
                  have n3_ := Aside0.mk (blk_drew BK159.out)
                  have n4_ := Aside0.mk (below_drew1 HB.out)
                  clear BK132
                  clear BK142
                  clear BK152
                  clear BK159
                  clear HB
                  have BK132 := n0_
                  have BK142 := n1_
                  have BK152 := n2_
                  have BK159 := n3_
                  have HB := n4_
                  clear n0_ n1_ n2_ n3_ n4_
                  refine start_ (n := 5) (S := fun w' => w'.cell? ⟨gb142, 0, none⟩ = some (.int .i64 t133) ∧ w'.cell? ⟨gb142, 1, none⟩ = some (.int .i64 t134) ∧ w'.cell? ⟨gb142, 2, none⟩ = some (.int .i64 t135) ∧ w'.cell? ⟨gb142, 3, none⟩ = some (.int .i64 t136) ∧ w'.cell? ⟨gb142, 4, none⟩ = some (.int .i64 t137) ∧ w'.cell? ⟨gb142, 5, none⟩ = some (.int .i64 t138) ∧ w'.cell? ⟨gb142, 6, none⟩ = some (.int .i64 t139) ∧ w'.cell? ⟨gb132, 0, none⟩ = some (.int .i64 t123) ∧ w'.cell? ⟨gb132, 1, none⟩ = some (.int .i64 t124) ∧ w'.cell? ⟨gb132, 2, none⟩ = some (.int .i64 t125) ∧ w'.cell? ⟨gb132, 3, none⟩ = some (.int .i64 t126) ∧ w'.cell? ⟨gb132, 4, none⟩ = some (.int .i64 t127) ∧ w'.cell? ⟨gb132, 5, none⟩ = some (.int .i64 t128) ∧ w'.cell? ⟨gb132, 6, none⟩ = some (.int .i64 t129)) (ds := []) #[false, false, false, false, false] (by kernel_rfl) rfl rfl ⟨(blk_cell BK142.out 0).trans rfl, (blk_cell BK142.out 1).trans rfl, (blk_cell BK142.out 2).trans rfl, (blk_cell BK142.out 3).trans rfl, (blk_cell BK142.out 4).trans rfl, (blk_cell BK142.out 5).trans rfl, (blk_cell BK142.out 6).trans rfl, (blk_cell BK132.out 0).trans rfl, (blk_cell BK132.out 1).trans rfl, (blk_cell BK132.out 2).trans rfl, (blk_cell BK132.out 3).trans rfl, (blk_cell BK132.out 4).trans rfl, (blk_cell BK132.out 5).trans rfl, (blk_cell BK132.out 6).trans rfl⟩ (fun hHeld => ?_)
                  generalize w107.drew = w108 at BK132 BK142 BK152 BK159 HB hHeld ⊢
                  refine take_ (i := 0) (N := some 89) (v := ?_) (a' := ?_) #[true, false, false, false, false] rfl rfl (by kernel_rfl) (fun _ _ _ h => h) (Or.inl ⟨by rfl, ?_⟩) hHeld ?_ ?_
                  rotate_left
                  ·rintro w' ⟨s0, s1, s2, s3, s4, s5, s6, s7, s8, s9, s10, s11, s12, s13⟩
                   go_simp
                   with_reducible rfl
                  rotate_left
                  ·simp only [Act.put, List.setIfInBounds_toArray, List.set_cons_zero, List.set_cons_succ, i64_w, i32_w]
                   rfl
                  refine take_ (i := 1) (N := some 90) (v := ?_) (a' := ?_) #[true, true, false, false, false] rfl rfl (by kernel_rfl) (fun _ _ _ h => h) (Or.inl ⟨by rfl, ?_⟩) hHeld ?_ ?_
                  rotate_left
                  ·rintro w' ⟨s0, s1, s2, s3, s4, s5, s6, s7, s8, s9, s10, s11, s12, s13⟩
                   go_simp
                   with_reducible rfl
                  rotate_left
                  ·simp only [Act.put, List.setIfInBounds_toArray, List.set_cons_zero, List.set_cons_succ, i64_w, i32_w]
                   rfl
                  refine one_ (i := 2) (N := some 91) #[true, true, true, false, false] rfl rfl (by kernel_rfl) (by decide) (fun K hK => ?_)
                  refine goes_ Tryd.func17 (by kernel_rfl) rfl #[.agg #[.int .i64 t123, .int .i64 t124, .int .i64 t125, .int .i64 t126, .int .i64 t127, .int .i64 t128, .int .i64 t129], .int .i64 1000000000] (by rfl) rfl rfl (by (try simp only [List.map_toArray, List.map_cons, List.map_nil]); first | done | rfl | (simp only [List.length_drop, List.length_take]; rfl)) ?_
                  with_reducible refine (dim_Value.calls kj32 t123 t124 t125 t126 t127 t128 t129 1000000000 t161 _ A55.out).mono ?_
                  rintro e w109 ⟨rfl, hb⟩
                  refine ⟨_, rfl, ?_⟩
                  have n0_ := Aside0.mk (blk_below (g := gb132) (o := .cells #[.int .i64 t123, .int .i64 t124, .int .i64 t125, .int .i64 t126, .int .i64 t127, .int .i64 t128, .int .i64 t129] 26 (0, 0)) (by (with_reducible repeat (first | refine blk_drewN ?_ _ | refine blk_drew ?_ | refine blk_alloc ?_ _)); exact BK132.out) hb)
                  have n1_ := Aside0.mk (blk_below (g := gb142) (o := .cells #[.int .i64 t133, .int .i64 t134, .int .i64 t135, .int .i64 t136, .int .i64 t137, .int .i64 t138, .int .i64 t139] 26 (0, 0)) (by (with_reducible repeat (first | refine blk_drewN ?_ _ | refine blk_drew ?_ | refine blk_alloc ?_ _)); exact BK142.out) hb)
                  have n2_ := Aside0.mk (blk_below (g := gb152) (o := .cells #[.int .i64 t143, .int .i64 t144, .int .i64 t145, .int .i64 t146, .int .i64 t147, .int .i64 t148, .int .i64 t149] 26 (0, 0)) (by (with_reducible repeat (first | refine blk_drewN ?_ _ | refine blk_drew ?_ | refine blk_alloc ?_ _)); exact BK152.out) hb)
                  have n3_ := Aside0.mk (blk_below (g := gb159) (o := .cells #[.int .i64 t153, .int .i64 t154, .int .i64 t155, .int .i64 t156, .int .i64 t157] 24 (0, 0)) (by (with_reducible repeat (first | refine blk_drewN ?_ _ | refine blk_drew ?_ | refine blk_alloc ?_ _)); exact BK159.out) hb)
                  have n4_ := Aside0.mk (below_step (by repeat (first | (with_reducible first | exact HB.out | apply below_alloc | apply pw_below_drewN | apply below_drew1 | refine below_set ?_ GE132.out | refine below_set ?_ GE142.out | refine below_set ?_ GE152.out | refine below_set ?_ GE159.out) | exact HB.out)) hb)
                  clear BK132
                  clear BK142
                  clear BK152
                  clear BK159
                  clear HB
                  have BK132 := n0_
                  have BK142 := n1_
                  have BK152 := n2_
                  have BK159 := n3_
                  have HB := n4_
                  clear n0_ n1_ n2_ n3_ n4_
                  (try clear hb)
                  (try clear hb2)
                  (try clear hk)
                  (try clear hi)
                  refine hK.out _ _ ⟨(blk_cell BK142.out 0).trans rfl, (blk_cell BK142.out 1).trans rfl, (blk_cell BK142.out 2).trans rfl, (blk_cell BK142.out 3).trans rfl, (blk_cell BK142.out 4).trans rfl, (blk_cell BK142.out 5).trans rfl, (blk_cell BK142.out 6).trans rfl, (blk_cell BK132.out 0).trans rfl, (blk_cell BK132.out 1).trans rfl, (blk_cell BK132.out 2).trans rfl, (blk_cell BK132.out 3).trans rfl, (blk_cell BK132.out 4).trans rfl, (blk_cell BK132.out 5).trans rfl, (blk_cell BK132.out 6).trans rfl⟩ (fun hHeld => ?_)
                  clear hK K
                  refine norm_ (a' := ?_) ?_ ?_
                  rotate_left
                  ·show Act.put _ (some 91) _ = _
                   simp only [Act.put, List.setIfInBounds_toArray, List.set_cons_zero, List.set_cons_succ, i64_w, i32_w]
                   rfl
                  refine one_ (i := 3) (N := some 92) #[true, true, true, true, false] rfl rfl (by kernel_rfl) (by decide) (fun K hK => ?_)
                  refine goes_ Tryd.func17 (by kernel_rfl) rfl #[.agg #[.int .i64 t133, .int .i64 t134, .int .i64 t135, .int .i64 t136, .int .i64 t137, .int .i64 t138, .int .i64 t139], .int .i64 t161] (by rfl) rfl rfl (by (try simp only [List.map_toArray, List.map_cons, List.map_nil]); first | done | rfl | (simp only [List.length_drop, List.length_take]; rfl)) ?_
                  with_reducible refine (dim_Value.calls kj32 t133 t134 t135 t136 t137 t138 t139 t161 t162 _ A56.out).mono ?_
                  rintro e w110 ⟨rfl, hb⟩
                  refine ⟨_, rfl, ?_⟩
                  have n0_ := Aside0.mk (blk_below (g := gb132) (o := .cells #[.int .i64 t123, .int .i64 t124, .int .i64 t125, .int .i64 t126, .int .i64 t127, .int .i64 t128, .int .i64 t129] 26 (0, 0)) (by (with_reducible repeat (first | refine blk_drewN ?_ _ | refine blk_drew ?_ | refine blk_alloc ?_ _)); exact BK132.out) hb)
                  have n1_ := Aside0.mk (blk_below (g := gb142) (o := .cells #[.int .i64 t133, .int .i64 t134, .int .i64 t135, .int .i64 t136, .int .i64 t137, .int .i64 t138, .int .i64 t139] 26 (0, 0)) (by (with_reducible repeat (first | refine blk_drewN ?_ _ | refine blk_drew ?_ | refine blk_alloc ?_ _)); exact BK142.out) hb)
                  have n2_ := Aside0.mk (blk_below (g := gb152) (o := .cells #[.int .i64 t143, .int .i64 t144, .int .i64 t145, .int .i64 t146, .int .i64 t147, .int .i64 t148, .int .i64 t149] 26 (0, 0)) (by (with_reducible repeat (first | refine blk_drewN ?_ _ | refine blk_drew ?_ | refine blk_alloc ?_ _)); exact BK152.out) hb)
                  have n3_ := Aside0.mk (blk_below (g := gb159) (o := .cells #[.int .i64 t153, .int .i64 t154, .int .i64 t155, .int .i64 t156, .int .i64 t157] 24 (0, 0)) (by (with_reducible repeat (first | refine blk_drewN ?_ _ | refine blk_drew ?_ | refine blk_alloc ?_ _)); exact BK159.out) hb)
                  have n4_ := Aside0.mk (below_step (by repeat (first | (with_reducible first | exact HB.out | apply below_alloc | apply pw_below_drewN | apply below_drew1 | refine below_set ?_ GE132.out | refine below_set ?_ GE142.out | refine below_set ?_ GE152.out | refine below_set ?_ GE159.out) | exact HB.out)) hb)
                  clear BK132
                  clear BK142
                  clear BK152
                  clear BK159
                  clear HB
                  have BK132 := n0_
                  have BK142 := n1_
                  have BK152 := n2_
                  have BK159 := n3_
                  have HB := n4_
                  clear n0_ n1_ n2_ n3_ n4_
                  (try clear hb)
                  (try clear hb2)
                  (try clear hk)
                  (try clear hi)
                  refine hK.out _ _ ⟨(blk_cell BK142.out 0).trans rfl, (blk_cell BK142.out 1).trans rfl, (blk_cell BK142.out 2).trans rfl, (blk_cell BK142.out 3).trans rfl, (blk_cell BK142.out 4).trans rfl, (blk_cell BK142.out 5).trans rfl, (blk_cell BK142.out 6).trans rfl, (blk_cell BK132.out 0).trans rfl, (blk_cell BK132.out 1).trans rfl, (blk_cell BK132.out 2).trans rfl, (blk_cell BK132.out 3).trans rfl, (blk_cell BK132.out 4).trans rfl, (blk_cell BK132.out 5).trans rfl, (blk_cell BK132.out 6).trans rfl⟩ (fun hHeld => ?_)
                  clear hK K
                  refine norm_ (a' := ?_) ?_ ?_
                  rotate_left
                  ·show Act.put _ (some 92) _ = _
                   simp only [Act.put, List.setIfInBounds_toArray, List.set_cons_zero, List.set_cons_succ, i64_w, i32_w]
                   rfl
                  refine pure_ (i := 4) (N := some 17) (v := ?_) (a' := ?_) #[true, true, true, true, true] rfl rfl (by kernel_rfl) (fun _ _ _ h => h) (Or.inl ⟨by rfl, ?_⟩) ?_ ?_
                  rotate_left
                  ·intro w'
                   go_simp
                   with_reducible rfl
                  rotate_left
                  ·simp only [Act.put, List.setIfInBounds_toArray, List.set_cons_zero, List.set_cons_succ, i64_w, i32_w]
                   rfl
                  refine done_ (by kernel_rfl) ?_
                  have hcz111_0 : w110.cell? ⟨gb152, 0, none⟩ = some (.int .i64 t143) := (blk_cell BK152.out 0).trans rfl
                  have hcz111_1 : w110.cell? ⟨gb152, 1, none⟩ = some (.int .i64 t144) := (blk_cell BK152.out 1).trans rfl
                  have hcz111_2 : w110.cell? ⟨gb152, 2, none⟩ = some (.int .i64 t145) := (blk_cell BK152.out 2).trans rfl
                  have hcz111_3 : w110.cell? ⟨gb152, 3, none⟩ = some (.int .i64 t146) := (blk_cell BK152.out 3).trans rfl
                  have hcz111_4 : w110.cell? ⟨gb152, 4, none⟩ = some (.int .i64 t147) := (blk_cell BK152.out 4).trans rfl
                  have hcz111_5 : w110.cell? ⟨gb152, 5, none⟩ = some (.int .i64 t148) := (blk_cell BK152.out 5).trans rfl
                  have hcz111_6 : w110.cell? ⟨gb152, 6, none⟩ = some (.int .i64 t149) := (blk_cell BK152.out 6).trans rfl
                  have hfz111_0 := blk_frozen BK152.out 0
                  have hfz111_1 := blk_frozen BK152.out 1
                  have hfz111_2 := blk_frozen BK152.out 2
                  have hfz111_3 := blk_frozen BK152.out 3
                  have hfz111_4 := blk_frozen BK152.out 4
                  have hfz111_5 := blk_frozen BK152.out 5
                  have hfz111_6 := blk_frozen BK152.out 6
                  try go_wp2
                  go_ret
                  exact ⟨by first | rfl | (simp [errW_none, errW_some] <;> rfl) | (simp [*, errW_none, errW_some] <;> rfl), by repeat (first | (with_reducible first | exact HB.out | apply below_alloc | apply pw_below_drewN | apply below_drew1 | refine below_set ?_ GE132.out | refine below_set ?_ GE142.out | refine below_set ?_ GE152.out | refine below_set ?_ GE159.out) | exact HB.out)⟩
                ·rw [if_neg c59] at H
                 have c59b0 : decide (t143 ≤ 1000000000000000) = false := decide_eq_false c59
                 clear c59
                 obtain rfl := Option.some.inj H
                 have hnb112 := NB152_132.out
                 have hnc112 := NB132_152.out
                 have hnb113 := NB152_142.out
                 have hnc113 := NB142_152.out
                 have hnb114 := NB152_159.out
                 have hnc114 := NB159_152.out
                 have hcz115_0 : wc.cell? ⟨gb152, 0, none⟩ = some (.int .i64 t143) := (blk_cell BK152.out 0).trans rfl
                 have hcz115_1 : wc.cell? ⟨gb152, 1, none⟩ = some (.int .i64 t144) := (blk_cell BK152.out 1).trans rfl
                 have hcz115_2 : wc.cell? ⟨gb152, 2, none⟩ = some (.int .i64 t145) := (blk_cell BK152.out 2).trans rfl
                 have hcz115_3 : wc.cell? ⟨gb152, 3, none⟩ = some (.int .i64 t146) := (blk_cell BK152.out 3).trans rfl
                 have hcz115_4 : wc.cell? ⟨gb152, 4, none⟩ = some (.int .i64 t147) := (blk_cell BK152.out 4).trans rfl
                 have hcz115_5 : wc.cell? ⟨gb152, 5, none⟩ = some (.int .i64 t148) := (blk_cell BK152.out 5).trans rfl
                 have hcz115_6 : wc.cell? ⟨gb152, 6, none⟩ = some (.int .i64 t149) := (blk_cell BK152.out 6).trans rfl
                 have hfz115_0 := blk_frozen BK152.out 0
                 have hfz115_1 := blk_frozen BK152.out 1
                 have hfz115_2 := blk_frozen BK152.out 2
                 have hfz115_3 := blk_frozen BK152.out 3
                 have hfz115_4 := blk_frozen BK152.out 4
                 have hfz115_5 := blk_frozen BK152.out 5
                 have hfz115_6 := blk_frozen BK152.out 6
                 try go_wp2_with (first | ((with_reducible refine gate_callee (f := 17) rfl ?_); refine goesL_ (some 88) rfl rfl Tryd.func17 (by kernel_rfl) rfl #[.agg #[.int .i64 t143, .int .i64 t144, .int .i64 t145, .int .i64 t146, .int .i64 t147, .int .i64 t148, .int .i64 t149], .int .i64 1000000000] rfl (by (try simp only [List.map_toArray, List.map_cons, List.map_nil]); first | done | rfl | (simp only [List.length_drop, List.length_take]; rfl)) ?_; (with_reducible refine (dim_Value.calls kj32 t143 t144 t145 t146 t147 t148 t149 1000000000 t160 _ A54.out).mono ?_); rintro e w116 ⟨rfl, hb⟩; refine ⟨_, rfl, ?_⟩; have n0_ := Aside0.mk (blk_below (g := gb132) (o := .cells #[.int .i64 t123, .int .i64 t124, .int .i64 t125, .int .i64 t126, .int .i64 t127, .int .i64 t128, .int .i64 t129] 26 (0, 0)) (by (with_reducible repeat (first | refine blk_drewN ?_ _ | refine blk_drew ?_ | refine blk_alloc ?_ _)); exact BK132.out) hb); have n1_ := Aside0.mk (blk_below (g := gb142) (o := .cells #[.int .i64 t133, .int .i64 t134, .int .i64 t135, .int .i64 t136, .int .i64 t137, .int .i64 t138, .int .i64 t139] 26 (0, 0)) (by (with_reducible repeat (first | refine blk_drewN ?_ _ | refine blk_drew ?_ | refine blk_alloc ?_ _)); exact BK142.out) hb); have n2_ := Aside0.mk (blk_below (g := gb152) (o := .cells #[.int .i64 t143, .int .i64 t144, .int .i64 t145, .int .i64 t146, .int .i64 t147, .int .i64 t148, .int .i64 t149] 26 (0, 0)) (by (with_reducible repeat (first | refine blk_drewN ?_ _ | refine blk_drew ?_ | refine blk_alloc ?_ _)); exact BK152.out) hb); have n3_ := Aside0.mk (blk_below (g := gb159) (o := .cells #[.int .i64 t153, .int .i64 t154, .int .i64 t155, .int .i64 t156, .int .i64 t157] 24 (0, 0)) (by (with_reducible repeat (first | refine blk_drewN ?_ _ | refine blk_drew ?_ | refine blk_alloc ?_ _)); exact BK159.out) hb); have n4_ := Aside0.mk (below_step (by repeat (first | (with_reducible first | exact HB.out | apply below_alloc | apply pw_below_drewN | apply below_drew1 | refine below_set ?_ GE132.out | refine below_set ?_ GE142.out | refine below_set ?_ GE152.out | refine below_set ?_ GE159.out) | exact HB.out)) hb); clear BK132; clear BK142; clear BK152; clear BK159; clear HB; have BK132 := n0_; have BK142 := n1_; have BK152 := n2_; have BK159 := n3_; have HB := n4_; clear n0_ n1_ n2_ n3_ n4_; (try clear hb); (try clear hb2); (try clear hk); (try clear hi)))
                 have n0_ := Aside0.mk (blk_drew BK132.out)
                 have n1_ := Aside0.mk (blk_drew BK142.out)
                 have n2_ := Aside0.mk (blk_drew BK152.out)
                 have n3_ := Aside0.mk (blk_drew BK159.out)
                 have n4_ := Aside0.mk (below_drew1 HB.out)
                 clear BK132
                 clear BK142
                 clear BK152
                 clear BK159
                 clear HB
                 have BK132 := n0_
                 have BK142 := n1_
                 have BK152 := n2_
                 have BK159 := n3_
                 have HB := n4_
                 clear n0_ n1_ n2_ n3_ n4_
                 refine start_ (n := 5) (S := fun w' => w'.cell? ⟨gb142, 0, none⟩ = some (.int .i64 t133) ∧ w'.cell? ⟨gb142, 1, none⟩ = some (.int .i64 t134) ∧ w'.cell? ⟨gb142, 2, none⟩ = some (.int .i64 t135) ∧ w'.cell? ⟨gb142, 3, none⟩ = some (.int .i64 t136) ∧ w'.cell? ⟨gb142, 4, none⟩ = some (.int .i64 t137) ∧ w'.cell? ⟨gb142, 5, none⟩ = some (.int .i64 t138) ∧ w'.cell? ⟨gb142, 6, none⟩ = some (.int .i64 t139) ∧ w'.cell? ⟨gb132, 0, none⟩ = some (.int .i64 t123) ∧ w'.cell? ⟨gb132, 1, none⟩ = some (.int .i64 t124) ∧ w'.cell? ⟨gb132, 2, none⟩ = some (.int .i64 t125) ∧ w'.cell? ⟨gb132, 3, none⟩ = some (.int .i64 t126) ∧ w'.cell? ⟨gb132, 4, none⟩ = some (.int .i64 t127) ∧ w'.cell? ⟨gb132, 5, none⟩ = some (.int .i64 t128) ∧ w'.cell? ⟨gb132, 6, none⟩ = some (.int .i64 t129)) (ds := []) #[false, false, false, false, false] (by kernel_rfl) rfl rfl ⟨(blk_cell BK142.out 0).trans rfl, (blk_cell BK142.out 1).trans rfl, (blk_cell BK142.out 2).trans rfl, (blk_cell BK142.out 3).trans rfl, (blk_cell BK142.out 4).trans rfl, (blk_cell BK142.out 5).trans rfl, (blk_cell BK142.out 6).trans rfl, (blk_cell BK132.out 0).trans rfl, (blk_cell BK132.out 1).trans rfl, (blk_cell BK132.out 2).trans rfl, (blk_cell BK132.out 3).trans rfl, (blk_cell BK132.out 4).trans rfl, (blk_cell BK132.out 5).trans rfl, (blk_cell BK132.out 6).trans rfl⟩ (fun hHeld => ?_)
                 generalize w116.drew = w117 at BK132 BK142 BK152 BK159 HB hHeld ⊢
                 refine take_ (i := 0) (N := some 89) (v := ?_) (a' := ?_) #[true, false, false, false, false] rfl rfl (by kernel_rfl) (fun _ _ _ h => h) (Or.inl ⟨by rfl, ?_⟩) hHeld ?_ ?_
                 rotate_left
                 ·rintro w' ⟨s0, s1, s2, s3, s4, s5, s6, s7, s8, s9, s10, s11, s12, s13⟩
                  go_simp
                  with_reducible rfl
                 rotate_left
                 ·simp only [Act.put, List.setIfInBounds_toArray, List.set_cons_zero, List.set_cons_succ, i64_w, i32_w]
                  rfl
                 refine take_ (i := 1) (N := some 90) (v := ?_) (a' := ?_) #[true, true, false, false, false] rfl rfl (by kernel_rfl) (fun _ _ _ h => h) (Or.inl ⟨by rfl, ?_⟩) hHeld ?_ ?_
                 rotate_left
                 ·rintro w' ⟨s0, s1, s2, s3, s4, s5, s6, s7, s8, s9, s10, s11, s12, s13⟩
                  go_simp
                  with_reducible rfl
                 rotate_left
                 ·simp only [Act.put, List.setIfInBounds_toArray, List.set_cons_zero, List.set_cons_succ, i64_w, i32_w]
                  rfl
                 refine one_ (i := 2) (N := some 91) #[true, true, true, false, false] rfl rfl (by kernel_rfl) (by decide) (fun K hK => ?_)
                 refine goes_ Tryd.func17 (by kernel_rfl) rfl #[.agg #[.int .i64 t123, .int .i64 t124, .int .i64 t125, .int .i64 t126, .int .i64 t127, .int .i64 t128, .int .i64 t129], .int .i64 1000000000] (by rfl) rfl rfl (by (try simp only [List.map_toArray, List.map_cons, List.map_nil]); first | done | rfl | (simp only [List.length_drop, List.length_take]; rfl)) ?_
                 with_reducible refine (dim_Value.calls kj32 t123 t124 t125 t126 t127 t128 t129 1000000000 t161 _ A55.out).mono ?_
                 rintro e w118 ⟨rfl, hb⟩
                 refine ⟨_, rfl, ?_⟩
                 have n0_ := Aside0.mk (blk_below (g := gb132) (o := .cells #[.int .i64 t123, .int .i64 t124, .int .i64 t125, .int .i64 t126, .int .i64 t127, .int .i64 t128, .int .i64 t129] 26 (0, 0)) (by (with_reducible repeat (first | refine blk_drewN ?_ _ | refine blk_drew ?_ | refine blk_alloc ?_ _)); exact BK132.out) hb)
                 have n1_ := Aside0.mk (blk_below (g := gb142) (o := .cells #[.int .i64 t133, .int .i64 t134, .int .i64 t135, .int .i64 t136, .int .i64 t137, .int .i64 t138, .int .i64 t139] 26 (0, 0)) (by (with_reducible repeat (first | refine blk_drewN ?_ _ | refine blk_drew ?_ | refine blk_alloc ?_ _)); exact BK142.out) hb)
                 have n2_ := Aside0.mk (blk_below (g := gb152) (o := .cells #[.int .i64 t143, .int .i64 t144, .int .i64 t145, .int .i64 t146, .int .i64 t147, .int .i64 t148, .int .i64 t149] 26 (0, 0)) (by (with_reducible repeat (first | refine blk_drewN ?_ _ | refine blk_drew ?_ | refine blk_alloc ?_ _)); exact BK152.out) hb)
                 have n3_ := Aside0.mk (blk_below (g := gb159) (o := .cells #[.int .i64 t153, .int .i64 t154, .int .i64 t155, .int .i64 t156, .int .i64 t157] 24 (0, 0)) (by (with_reducible repeat (first | refine blk_drewN ?_ _ | refine blk_drew ?_ | refine blk_alloc ?_ _)); exact BK159.out) hb)
                 have n4_ := Aside0.mk (below_step (by repeat (first | (with_reducible first | exact HB.out | apply below_alloc | apply pw_below_drewN | apply below_drew1 | refine below_set ?_ GE132.out | refine below_set ?_ GE142.out | refine below_set ?_ GE152.out | refine below_set ?_ GE159.out) | exact HB.out)) hb)
                 clear BK132
                 clear BK142
                 clear BK152
                 clear BK159
                 clear HB
                 have BK132 := n0_
                 have BK142 := n1_
                 have BK152 := n2_
                 have BK159 := n3_
                 have HB := n4_
                 clear n0_ n1_ n2_ n3_ n4_
                 (try clear hb)
                 (try clear hb2)
                 (try clear hk)
                 (try clear hi)
                 refine hK.out _ _ ⟨(blk_cell BK142.out 0).trans rfl, (blk_cell BK142.out 1).trans rfl, (blk_cell BK142.out 2).trans rfl, (blk_cell BK142.out 3).trans rfl, (blk_cell BK142.out 4).trans rfl, (blk_cell BK142.out 5).trans rfl, (blk_cell BK142.out 6).trans rfl, (blk_cell BK132.out 0).trans rfl, (blk_cell BK132.out 1).trans rfl, (blk_cell BK132.out 2).trans rfl, (blk_cell BK132.out 3).trans rfl, (blk_cell BK132.out 4).trans rfl, (blk_cell BK132.out 5).trans rfl, (blk_cell BK132.out 6).trans rfl⟩ (fun hHeld => ?_)
                 clear hK K
                 refine norm_ (a' := ?_) ?_ ?_
                 rotate_left
                 ·show Act.put _ (some 91) _ = _
                  simp only [Act.put, List.setIfInBounds_toArray, List.set_cons_zero, List.set_cons_succ, i64_w, i32_w]
                  rfl
                 refine one_ (i := 3) (N := some 92) #[true, true, true, true, false] rfl rfl (by kernel_rfl) (by decide) (fun K hK => ?_)
                 refine goes_ Tryd.func17 (by kernel_rfl) rfl #[.agg #[.int .i64 t133, .int .i64 t134, .int .i64 t135, .int .i64 t136, .int .i64 t137, .int .i64 t138, .int .i64 t139], .int .i64 t161] (by rfl) rfl rfl (by (try simp only [List.map_toArray, List.map_cons, List.map_nil]); first | done | rfl | (simp only [List.length_drop, List.length_take]; rfl)) ?_
                 with_reducible refine (dim_Value.calls kj32 t133 t134 t135 t136 t137 t138 t139 t161 t162 _ A56.out).mono ?_
                 rintro e w119 ⟨rfl, hb⟩
                 refine ⟨_, rfl, ?_⟩
                 have n0_ := Aside0.mk (blk_below (g := gb132) (o := .cells #[.int .i64 t123, .int .i64 t124, .int .i64 t125, .int .i64 t126, .int .i64 t127, .int .i64 t128, .int .i64 t129] 26 (0, 0)) (by (with_reducible repeat (first | refine blk_drewN ?_ _ | refine blk_drew ?_ | refine blk_alloc ?_ _)); exact BK132.out) hb)
                 have n1_ := Aside0.mk (blk_below (g := gb142) (o := .cells #[.int .i64 t133, .int .i64 t134, .int .i64 t135, .int .i64 t136, .int .i64 t137, .int .i64 t138, .int .i64 t139] 26 (0, 0)) (by (with_reducible repeat (first | refine blk_drewN ?_ _ | refine blk_drew ?_ | refine blk_alloc ?_ _)); exact BK142.out) hb)
                 have n2_ := Aside0.mk (blk_below (g := gb152) (o := .cells #[.int .i64 t143, .int .i64 t144, .int .i64 t145, .int .i64 t146, .int .i64 t147, .int .i64 t148, .int .i64 t149] 26 (0, 0)) (by (with_reducible repeat (first | refine blk_drewN ?_ _ | refine blk_drew ?_ | refine blk_alloc ?_ _)); exact BK152.out) hb)
                 have n3_ := Aside0.mk (blk_below (g := gb159) (o := .cells #[.int .i64 t153, .int .i64 t154, .int .i64 t155, .int .i64 t156, .int .i64 t157] 24 (0, 0)) (by (with_reducible repeat (first | refine blk_drewN ?_ _ | refine blk_drew ?_ | refine blk_alloc ?_ _)); exact BK159.out) hb)
                 have n4_ := Aside0.mk (below_step (by repeat (first | (with_reducible first | exact HB.out | apply below_alloc | apply pw_below_drewN | apply below_drew1 | refine below_set ?_ GE132.out | refine below_set ?_ GE142.out | refine below_set ?_ GE152.out | refine below_set ?_ GE159.out) | exact HB.out)) hb)
                 clear BK132
                 clear BK142
                 clear BK152
                 clear BK159
                 clear HB
                 have BK132 := n0_
                 have BK142 := n1_
                 have BK152 := n2_
                 have BK159 := n3_
                 have HB := n4_
                 clear n0_ n1_ n2_ n3_ n4_
                 (try clear hb)
                 (try clear hb2)
                 (try clear hk)
                 (try clear hi)
                 refine hK.out _ _ ⟨(blk_cell BK142.out 0).trans rfl, (blk_cell BK142.out 1).trans rfl, (blk_cell BK142.out 2).trans rfl, (blk_cell BK142.out 3).trans rfl, (blk_cell BK142.out 4).trans rfl, (blk_cell BK142.out 5).trans rfl, (blk_cell BK142.out 6).trans rfl, (blk_cell BK132.out 0).trans rfl, (blk_cell BK132.out 1).trans rfl, (blk_cell BK132.out 2).trans rfl, (blk_cell BK132.out 3).trans rfl, (blk_cell BK132.out 4).trans rfl, (blk_cell BK132.out 5).trans rfl, (blk_cell BK132.out 6).trans rfl⟩ (fun hHeld => ?_)
                 clear hK K
                 refine norm_ (a' := ?_) ?_ ?_
                 rotate_left
                 ·show Act.put _ (some 92) _ = _
                  simp only [Act.put, List.setIfInBounds_toArray, List.set_cons_zero, List.set_cons_succ, i64_w, i32_w]
                  rfl
                 refine pure_ (i := 4) (N := some 17) (v := ?_) (a' := ?_) #[true, true, true, true, true] rfl rfl (by kernel_rfl) (fun _ _ _ h => h) (Or.inl ⟨by rfl, ?_⟩) ?_ ?_
                 rotate_left
                 ·intro w'
                  go_simp
                  with_reducible rfl
                 rotate_left
                 ·simp only [Act.put, List.setIfInBounds_toArray, List.set_cons_zero, List.set_cons_succ, i64_w, i32_w]
                  rfl
                 refine done_ (by kernel_rfl) ?_
                 have hcz120_0 : w119.cell? ⟨gb152, 0, none⟩ = some (.int .i64 t143) := (blk_cell BK152.out 0).trans rfl
                 have hcz120_1 : w119.cell? ⟨gb152, 1, none⟩ = some (.int .i64 t144) := (blk_cell BK152.out 1).trans rfl
                 have hcz120_2 : w119.cell? ⟨gb152, 2, none⟩ = some (.int .i64 t145) := (blk_cell BK152.out 2).trans rfl
                 have hcz120_3 : w119.cell? ⟨gb152, 3, none⟩ = some (.int .i64 t146) := (blk_cell BK152.out 3).trans rfl
                 have hcz120_4 : w119.cell? ⟨gb152, 4, none⟩ = some (.int .i64 t147) := (blk_cell BK152.out 4).trans rfl
                 have hcz120_5 : w119.cell? ⟨gb152, 5, none⟩ = some (.int .i64 t148) := (blk_cell BK152.out 5).trans rfl
                 have hcz120_6 : w119.cell? ⟨gb152, 6, none⟩ = some (.int .i64 t149) := (blk_cell BK152.out 6).trans rfl
                 have hfz120_0 := blk_frozen BK152.out 0
                 have hfz120_1 := blk_frozen BK152.out 1
                 have hfz120_2 := blk_frozen BK152.out 2
                 have hfz120_3 := blk_frozen BK152.out 3
                 have hfz120_4 := blk_frozen BK152.out 4
                 have hfz120_5 := blk_frozen BK152.out 5
                 have hfz120_6 := blk_frozen BK152.out 6
                 try go_wp2
                 go_ret
                 exact ⟨by first | rfl | (simp [errW_none, errW_some] <;> rfl) | (simp [*, errW_none, errW_some] <;> rfl), by repeat (first | (with_reducible first | exact HB.out | apply below_alloc | apply pw_below_drewN | apply below_drew1 | refine below_set ?_ GE132.out | refine below_set ?_ GE142.out | refine below_set ?_ GE152.out | refine below_set ?_ GE159.out) | exact HB.out)⟩
               ·rw [if_neg c58] at H
                have c58b0 : decide (1 ≤ t144) = false := decide_eq_false c58
                clear c58
                obtain rfl := Option.some.inj H
                have hnb121 := NB152_132.out
                have hnc121 := NB132_152.out
                have hnb122 := NB152_142.out
                have hnc122 := NB142_152.out
                have hnb123 := NB152_159.out
                have hnc123 := NB159_152.out
                have hcz124_0 : wc.cell? ⟨gb152, 0, none⟩ = some (.int .i64 t143) := (blk_cell BK152.out 0).trans rfl
                have hcz124_1 : wc.cell? ⟨gb152, 1, none⟩ = some (.int .i64 t144) := (blk_cell BK152.out 1).trans rfl
                have hcz124_2 : wc.cell? ⟨gb152, 2, none⟩ = some (.int .i64 t145) := (blk_cell BK152.out 2).trans rfl
                have hcz124_3 : wc.cell? ⟨gb152, 3, none⟩ = some (.int .i64 t146) := (blk_cell BK152.out 3).trans rfl
                have hcz124_4 : wc.cell? ⟨gb152, 4, none⟩ = some (.int .i64 t147) := (blk_cell BK152.out 4).trans rfl
                have hcz124_5 : wc.cell? ⟨gb152, 5, none⟩ = some (.int .i64 t148) := (blk_cell BK152.out 5).trans rfl
                have hcz124_6 : wc.cell? ⟨gb152, 6, none⟩ = some (.int .i64 t149) := (blk_cell BK152.out 6).trans rfl
                have hfz124_0 := blk_frozen BK152.out 0
                have hfz124_1 := blk_frozen BK152.out 1
                have hfz124_2 := blk_frozen BK152.out 2
                have hfz124_3 := blk_frozen BK152.out 3
                have hfz124_4 := blk_frozen BK152.out 4
                have hfz124_5 := blk_frozen BK152.out 5
                have hfz124_6 := blk_frozen BK152.out 6
                try go_wp2_with (first | ((with_reducible refine gate_callee (f := 17) rfl ?_); refine goesL_ (some 88) rfl rfl Tryd.func17 (by kernel_rfl) rfl #[.agg #[.int .i64 t143, .int .i64 t144, .int .i64 t145, .int .i64 t146, .int .i64 t147, .int .i64 t148, .int .i64 t149], .int .i64 1000000000] rfl (by (try simp only [List.map_toArray, List.map_cons, List.map_nil]); first | done | rfl | (simp only [List.length_drop, List.length_take]; rfl)) ?_; (with_reducible refine (dim_Value.calls kj32 t143 t144 t145 t146 t147 t148 t149 1000000000 t160 _ A54.out).mono ?_); rintro e w125 ⟨rfl, hb⟩; refine ⟨_, rfl, ?_⟩; have n0_ := Aside0.mk (blk_below (g := gb132) (o := .cells #[.int .i64 t123, .int .i64 t124, .int .i64 t125, .int .i64 t126, .int .i64 t127, .int .i64 t128, .int .i64 t129] 26 (0, 0)) (by (with_reducible repeat (first | refine blk_drewN ?_ _ | refine blk_drew ?_ | refine blk_alloc ?_ _)); exact BK132.out) hb); have n1_ := Aside0.mk (blk_below (g := gb142) (o := .cells #[.int .i64 t133, .int .i64 t134, .int .i64 t135, .int .i64 t136, .int .i64 t137, .int .i64 t138, .int .i64 t139] 26 (0, 0)) (by (with_reducible repeat (first | refine blk_drewN ?_ _ | refine blk_drew ?_ | refine blk_alloc ?_ _)); exact BK142.out) hb); have n2_ := Aside0.mk (blk_below (g := gb152) (o := .cells #[.int .i64 t143, .int .i64 t144, .int .i64 t145, .int .i64 t146, .int .i64 t147, .int .i64 t148, .int .i64 t149] 26 (0, 0)) (by (with_reducible repeat (first | refine blk_drewN ?_ _ | refine blk_drew ?_ | refine blk_alloc ?_ _)); exact BK152.out) hb); have n3_ := Aside0.mk (blk_below (g := gb159) (o := .cells #[.int .i64 t153, .int .i64 t154, .int .i64 t155, .int .i64 t156, .int .i64 t157] 24 (0, 0)) (by (with_reducible repeat (first | refine blk_drewN ?_ _ | refine blk_drew ?_ | refine blk_alloc ?_ _)); exact BK159.out) hb); have n4_ := Aside0.mk (below_step (by repeat (first | (with_reducible first | exact HB.out | apply below_alloc | apply pw_below_drewN | apply below_drew1 | refine below_set ?_ GE132.out | refine below_set ?_ GE142.out | refine below_set ?_ GE152.out | refine below_set ?_ GE159.out) | exact HB.out)) hb); clear BK132; clear BK142; clear BK152; clear BK159; clear HB; have BK132 := n0_; have BK142 := n1_; have BK152 := n2_; have BK159 := n3_; have HB := n4_; clear n0_ n1_ n2_ n3_ n4_; (try clear hb); (try clear hb2); (try clear hk); (try clear hi)))
                have n0_ := Aside0.mk (blk_drew BK132.out)
                have n1_ := Aside0.mk (blk_drew BK142.out)
                have n2_ := Aside0.mk (blk_drew BK152.out)
                have n3_ := Aside0.mk (blk_drew BK159.out)
                have n4_ := Aside0.mk (below_drew1 HB.out)
                clear BK132
                clear BK142
                clear BK152
                clear BK159
                clear HB
                have BK132 := n0_
                have BK142 := n1_
                have BK152 := n2_
                have BK159 := n3_
                have HB := n4_
                clear n0_ n1_ n2_ n3_ n4_
                refine start_ (n := 5) (S := fun w' => w'.cell? ⟨gb142, 0, none⟩ = some (.int .i64 t133) ∧ w'.cell? ⟨gb142, 1, none⟩ = some (.int .i64 t134) ∧ w'.cell? ⟨gb142, 2, none⟩ = some (.int .i64 t135) ∧ w'.cell? ⟨gb142, 3, none⟩ = some (.int .i64 t136) ∧ w'.cell? ⟨gb142, 4, none⟩ = some (.int .i64 t137) ∧ w'.cell? ⟨gb142, 5, none⟩ = some (.int .i64 t138) ∧ w'.cell? ⟨gb142, 6, none⟩ = some (.int .i64 t139) ∧ w'.cell? ⟨gb132, 0, none⟩ = some (.int .i64 t123) ∧ w'.cell? ⟨gb132, 1, none⟩ = some (.int .i64 t124) ∧ w'.cell? ⟨gb132, 2, none⟩ = some (.int .i64 t125) ∧ w'.cell? ⟨gb132, 3, none⟩ = some (.int .i64 t126) ∧ w'.cell? ⟨gb132, 4, none⟩ = some (.int .i64 t127) ∧ w'.cell? ⟨gb132, 5, none⟩ = some (.int .i64 t128) ∧ w'.cell? ⟨gb132, 6, none⟩ = some (.int .i64 t129)) (ds := []) #[false, false, false, false, false] (by kernel_rfl) rfl rfl ⟨(blk_cell BK142.out 0).trans rfl, (blk_cell BK142.out 1).trans rfl, (blk_cell BK142.out 2).trans rfl, (blk_cell BK142.out 3).trans rfl, (blk_cell BK142.out 4).trans rfl, (blk_cell BK142.out 5).trans rfl, (blk_cell BK142.out 6).trans rfl, (blk_cell BK132.out 0).trans rfl, (blk_cell BK132.out 1).trans rfl, (blk_cell BK132.out 2).trans rfl, (blk_cell BK132.out 3).trans rfl, (blk_cell BK132.out 4).trans rfl, (blk_cell BK132.out 5).trans rfl, (blk_cell BK132.out 6).trans rfl⟩ (fun hHeld => ?_)
                generalize w125.drew = w126 at BK132 BK142 BK152 BK159 HB hHeld ⊢
                refine take_ (i := 0) (N := some 89) (v := ?_) (a' := ?_) #[true, false, false, false, false] rfl rfl (by kernel_rfl) (fun _ _ _ h => h) (Or.inl ⟨by rfl, ?_⟩) hHeld ?_ ?_
                rotate_left
                ·rintro w' ⟨s0, s1, s2, s3, s4, s5, s6, s7, s8, s9, s10, s11, s12, s13⟩
                 go_simp
                 with_reducible rfl
                rotate_left
                ·simp only [Act.put, List.setIfInBounds_toArray, List.set_cons_zero, List.set_cons_succ, i64_w, i32_w]
                 rfl
                refine take_ (i := 1) (N := some 90) (v := ?_) (a' := ?_) #[true, true, false, false, false] rfl rfl (by kernel_rfl) (fun _ _ _ h => h) (Or.inl ⟨by rfl, ?_⟩) hHeld ?_ ?_
                rotate_left
                ·rintro w' ⟨s0, s1, s2, s3, s4, s5, s6, s7, s8, s9, s10, s11, s12, s13⟩
                 go_simp
                 with_reducible rfl
                rotate_left
                ·simp only [Act.put, List.setIfInBounds_toArray, List.set_cons_zero, List.set_cons_succ, i64_w, i32_w]
                 rfl
                refine one_ (i := 2) (N := some 91) #[true, true, true, false, false] rfl rfl (by kernel_rfl) (by decide) (fun K hK => ?_)
                refine goes_ Tryd.func17 (by kernel_rfl) rfl #[.agg #[.int .i64 t123, .int .i64 t124, .int .i64 t125, .int .i64 t126, .int .i64 t127, .int .i64 t128, .int .i64 t129], .int .i64 1000000000] (by rfl) rfl rfl (by (try simp only [List.map_toArray, List.map_cons, List.map_nil]); first | done | rfl | (simp only [List.length_drop, List.length_take]; rfl)) ?_
                with_reducible refine (dim_Value.calls kj32 t123 t124 t125 t126 t127 t128 t129 1000000000 t161 _ A55.out).mono ?_
                rintro e w127 ⟨rfl, hb⟩
                refine ⟨_, rfl, ?_⟩
                have n0_ := Aside0.mk (blk_below (g := gb132) (o := .cells #[.int .i64 t123, .int .i64 t124, .int .i64 t125, .int .i64 t126, .int .i64 t127, .int .i64 t128, .int .i64 t129] 26 (0, 0)) (by (with_reducible repeat (first | refine blk_drewN ?_ _ | refine blk_drew ?_ | refine blk_alloc ?_ _)); exact BK132.out) hb)
                have n1_ := Aside0.mk (blk_below (g := gb142) (o := .cells #[.int .i64 t133, .int .i64 t134, .int .i64 t135, .int .i64 t136, .int .i64 t137, .int .i64 t138, .int .i64 t139] 26 (0, 0)) (by (with_reducible repeat (first | refine blk_drewN ?_ _ | refine blk_drew ?_ | refine blk_alloc ?_ _)); exact BK142.out) hb)
                have n2_ := Aside0.mk (blk_below (g := gb152) (o := .cells #[.int .i64 t143, .int .i64 t144, .int .i64 t145, .int .i64 t146, .int .i64 t147, .int .i64 t148, .int .i64 t149] 26 (0, 0)) (by (with_reducible repeat (first | refine blk_drewN ?_ _ | refine blk_drew ?_ | refine blk_alloc ?_ _)); exact BK152.out) hb)
                have n3_ := Aside0.mk (blk_below (g := gb159) (o := .cells #[.int .i64 t153, .int .i64 t154, .int .i64 t155, .int .i64 t156, .int .i64 t157] 24 (0, 0)) (by (with_reducible repeat (first | refine blk_drewN ?_ _ | refine blk_drew ?_ | refine blk_alloc ?_ _)); exact BK159.out) hb)
                have n4_ := Aside0.mk (below_step (by repeat (first | (with_reducible first | exact HB.out | apply below_alloc | apply pw_below_drewN | apply below_drew1 | refine below_set ?_ GE132.out | refine below_set ?_ GE142.out | refine below_set ?_ GE152.out | refine below_set ?_ GE159.out) | exact HB.out)) hb)
                clear BK132
                clear BK142
                clear BK152
                clear BK159
                clear HB
                have BK132 := n0_
                have BK142 := n1_
                have BK152 := n2_
                have BK159 := n3_
                have HB := n4_
                clear n0_ n1_ n2_ n3_ n4_
                (try clear hb)
                (try clear hb2)
                (try clear hk)
                (try clear hi)
                refine hK.out _ _ ⟨(blk_cell BK142.out 0).trans rfl, (blk_cell BK142.out 1).trans rfl, (blk_cell BK142.out 2).trans rfl, (blk_cell BK142.out 3).trans rfl, (blk_cell BK142.out 4).trans rfl, (blk_cell BK142.out 5).trans rfl, (blk_cell BK142.out 6).trans rfl, (blk_cell BK132.out 0).trans rfl, (blk_cell BK132.out 1).trans rfl, (blk_cell BK132.out 2).trans rfl, (blk_cell BK132.out 3).trans rfl, (blk_cell BK132.out 4).trans rfl, (blk_cell BK132.out 5).trans rfl, (blk_cell BK132.out 6).trans rfl⟩ (fun hHeld => ?_)
                clear hK K
                refine norm_ (a' := ?_) ?_ ?_
                rotate_left
                ·show Act.put _ (some 91) _ = _
                 simp only [Act.put, List.setIfInBounds_toArray, List.set_cons_zero, List.set_cons_succ, i64_w, i32_w]
                 rfl
                refine one_ (i := 3) (N := some 92) #[true, true, true, true, false] rfl rfl (by kernel_rfl) (by decide) (fun K hK => ?_)
                refine goes_ Tryd.func17 (by kernel_rfl) rfl #[.agg #[.int .i64 t133, .int .i64 t134, .int .i64 t135, .int .i64 t136, .int .i64 t137, .int .i64 t138, .int .i64 t139], .int .i64 t161] (by rfl) rfl rfl (by (try simp only [List.map_toArray, List.map_cons, List.map_nil]); first | done | rfl | (simp only [List.length_drop, List.length_take]; rfl)) ?_
                with_reducible refine (dim_Value.calls kj32 t133 t134 t135 t136 t137 t138 t139 t161 t162 _ A56.out).mono ?_
                rintro e w128 ⟨rfl, hb⟩
                refine ⟨_, rfl, ?_⟩
                have n0_ := Aside0.mk (blk_below (g := gb132) (o := .cells #[.int .i64 t123, .int .i64 t124, .int .i64 t125, .int .i64 t126, .int .i64 t127, .int .i64 t128, .int .i64 t129] 26 (0, 0)) (by (with_reducible repeat (first | refine blk_drewN ?_ _ | refine blk_drew ?_ | refine blk_alloc ?_ _)); exact BK132.out) hb)
                have n1_ := Aside0.mk (blk_below (g := gb142) (o := .cells #[.int .i64 t133, .int .i64 t134, .int .i64 t135, .int .i64 t136, .int .i64 t137, .int .i64 t138, .int .i64 t139] 26 (0, 0)) (by (with_reducible repeat (first | refine blk_drewN ?_ _ | refine blk_drew ?_ | refine blk_alloc ?_ _)); exact BK142.out) hb)
                have n2_ := Aside0.mk (blk_below (g := gb152) (o := .cells #[.int .i64 t143, .int .i64 t144, .int .i64 t145, .int .i64 t146, .int .i64 t147, .int .i64 t148, .int .i64 t149] 26 (0, 0)) (by (with_reducible repeat (first | refine blk_drewN ?_ _ | refine blk_drew ?_ | refine blk_alloc ?_ _)); exact BK152.out) hb)
                have n3_ := Aside0.mk (blk_below (g := gb159) (o := .cells #[.int .i64 t153, .int .i64 t154, .int .i64 t155, .int .i64 t156, .int .i64 t157] 24 (0, 0)) (by (with_reducible repeat (first | refine blk_drewN ?_ _ | refine blk_drew ?_ | refine blk_alloc ?_ _)); exact BK159.out) hb)
                have n4_ := Aside0.mk (below_step (by repeat (first | (with_reducible first | exact HB.out | apply below_alloc | apply pw_below_drewN | apply below_drew1 | refine below_set ?_ GE132.out | refine below_set ?_ GE142.out | refine below_set ?_ GE152.out | refine below_set ?_ GE159.out) | exact HB.out)) hb)
                clear BK132
                clear BK142
                clear BK152
                clear BK159
                clear HB
                have BK132 := n0_
                have BK142 := n1_
                have BK152 := n2_
                have BK159 := n3_
                have HB := n4_
                clear n0_ n1_ n2_ n3_ n4_
                (try clear hb)
                (try clear hb2)
                (try clear hk)
                (try clear hi)
                refine hK.out _ _ ⟨(blk_cell BK142.out 0).trans rfl, (blk_cell BK142.out 1).trans rfl, (blk_cell BK142.out 2).trans rfl, (blk_cell BK142.out 3).trans rfl, (blk_cell BK142.out 4).trans rfl, (blk_cell BK142.out 5).trans rfl, (blk_cell BK142.out 6).trans rfl, (blk_cell BK132.out 0).trans rfl, (blk_cell BK132.out 1).trans rfl, (blk_cell BK132.out 2).trans rfl, (blk_cell BK132.out 3).trans rfl, (blk_cell BK132.out 4).trans rfl, (blk_cell BK132.out 5).trans rfl, (blk_cell BK132.out 6).trans rfl⟩ (fun hHeld => ?_)
                clear hK K
                refine norm_ (a' := ?_) ?_ ?_
                rotate_left
                ·show Act.put _ (some 92) _ = _
                 simp only [Act.put, List.setIfInBounds_toArray, List.set_cons_zero, List.set_cons_succ, i64_w, i32_w]
                 rfl
                refine pure_ (i := 4) (N := some 17) (v := ?_) (a' := ?_) #[true, true, true, true, true] rfl rfl (by kernel_rfl) (fun _ _ _ h => h) (Or.inl ⟨by rfl, ?_⟩) ?_ ?_
                rotate_left
                ·intro w'
                 go_simp
                 with_reducible rfl
                rotate_left
                ·simp only [Act.put, List.setIfInBounds_toArray, List.set_cons_zero, List.set_cons_succ, i64_w, i32_w]
                 rfl
                refine done_ (by kernel_rfl) ?_
                have hcz129_0 : w128.cell? ⟨gb152, 0, none⟩ = some (.int .i64 t143) := (blk_cell BK152.out 0).trans rfl
                have hcz129_1 : w128.cell? ⟨gb152, 1, none⟩ = some (.int .i64 t144) := (blk_cell BK152.out 1).trans rfl
                have hcz129_2 : w128.cell? ⟨gb152, 2, none⟩ = some (.int .i64 t145) := (blk_cell BK152.out 2).trans rfl
                have hcz129_3 : w128.cell? ⟨gb152, 3, none⟩ = some (.int .i64 t146) := (blk_cell BK152.out 3).trans rfl
                have hcz129_4 : w128.cell? ⟨gb152, 4, none⟩ = some (.int .i64 t147) := (blk_cell BK152.out 4).trans rfl
                have hcz129_5 : w128.cell? ⟨gb152, 5, none⟩ = some (.int .i64 t148) := (blk_cell BK152.out 5).trans rfl
                have hcz129_6 : w128.cell? ⟨gb152, 6, none⟩ = some (.int .i64 t149) := (blk_cell BK152.out 6).trans rfl
                have hfz129_0 := blk_frozen BK152.out 0
                have hfz129_1 := blk_frozen BK152.out 1
                have hfz129_2 := blk_frozen BK152.out 2
                have hfz129_3 := blk_frozen BK152.out 3
                have hfz129_4 := blk_frozen BK152.out 4
                have hfz129_5 := blk_frozen BK152.out 5
                have hfz129_6 := blk_frozen BK152.out 6
                try go_wp2
                go_ret
                exact ⟨by first | rfl | (simp [errW_none, errW_some] <;> rfl) | (simp [*, errW_none, errW_some] <;> rfl), by repeat (first | (with_reducible first | exact HB.out | apply below_alloc | apply pw_below_drewN | apply below_drew1 | refine below_set ?_ GE132.out | refine below_set ?_ GE142.out | refine below_set ?_ GE152.out | refine below_set ?_ GE159.out) | exact HB.out)⟩
              ·rw [if_neg c57] at H
               have c57b0 : decide (1 ≤ t143) = false := decide_eq_false c57
               clear c57
               obtain rfl := Option.some.inj H
               have hnb130 := NB152_132.out
               have hnc130 := NB132_152.out
               have hnb131 := NB152_142.out
               have hnc131 := NB142_152.out
               have hnb132 := NB152_159.out
               have hnc132 := NB159_152.out
               have hcz133_0 : wc.cell? ⟨gb152, 0, none⟩ = some (.int .i64 t143) := (blk_cell BK152.out 0).trans rfl
               have hcz133_1 : wc.cell? ⟨gb152, 1, none⟩ = some (.int .i64 t144) := (blk_cell BK152.out 1).trans rfl
               have hcz133_2 : wc.cell? ⟨gb152, 2, none⟩ = some (.int .i64 t145) := (blk_cell BK152.out 2).trans rfl
               have hcz133_3 : wc.cell? ⟨gb152, 3, none⟩ = some (.int .i64 t146) := (blk_cell BK152.out 3).trans rfl
               have hcz133_4 : wc.cell? ⟨gb152, 4, none⟩ = some (.int .i64 t147) := (blk_cell BK152.out 4).trans rfl
               have hcz133_5 : wc.cell? ⟨gb152, 5, none⟩ = some (.int .i64 t148) := (blk_cell BK152.out 5).trans rfl
               have hcz133_6 : wc.cell? ⟨gb152, 6, none⟩ = some (.int .i64 t149) := (blk_cell BK152.out 6).trans rfl
               have hfz133_0 := blk_frozen BK152.out 0
               have hfz133_1 := blk_frozen BK152.out 1
               have hfz133_2 := blk_frozen BK152.out 2
               have hfz133_3 := blk_frozen BK152.out 3
               have hfz133_4 := blk_frozen BK152.out 4
               have hfz133_5 := blk_frozen BK152.out 5
               have hfz133_6 := blk_frozen BK152.out 6
               try go_wp2_with (first | ((with_reducible refine gate_callee (f := 17) rfl ?_); refine goesL_ (some 88) rfl rfl Tryd.func17 (by kernel_rfl) rfl #[.agg #[.int .i64 t143, .int .i64 t144, .int .i64 t145, .int .i64 t146, .int .i64 t147, .int .i64 t148, .int .i64 t149], .int .i64 1000000000] rfl (by (try simp only [List.map_toArray, List.map_cons, List.map_nil]); first | done | rfl | (simp only [List.length_drop, List.length_take]; rfl)) ?_; (with_reducible refine (dim_Value.calls kj32 t143 t144 t145 t146 t147 t148 t149 1000000000 t160 _ A54.out).mono ?_); rintro e w134 ⟨rfl, hb⟩; refine ⟨_, rfl, ?_⟩; have n0_ := Aside0.mk (blk_below (g := gb132) (o := .cells #[.int .i64 t123, .int .i64 t124, .int .i64 t125, .int .i64 t126, .int .i64 t127, .int .i64 t128, .int .i64 t129] 26 (0, 0)) (by (with_reducible repeat (first | refine blk_drewN ?_ _ | refine blk_drew ?_ | refine blk_alloc ?_ _)); exact BK132.out) hb); have n1_ := Aside0.mk (blk_below (g := gb142) (o := .cells #[.int .i64 t133, .int .i64 t134, .int .i64 t135, .int .i64 t136, .int .i64 t137, .int .i64 t138, .int .i64 t139] 26 (0, 0)) (by (with_reducible repeat (first | refine blk_drewN ?_ _ | refine blk_drew ?_ | refine blk_alloc ?_ _)); exact BK142.out) hb); have n2_ := Aside0.mk (blk_below (g := gb152) (o := .cells #[.int .i64 t143, .int .i64 t144, .int .i64 t145, .int .i64 t146, .int .i64 t147, .int .i64 t148, .int .i64 t149] 26 (0, 0)) (by (with_reducible repeat (first | refine blk_drewN ?_ _ | refine blk_drew ?_ | refine blk_alloc ?_ _)); exact BK152.out) hb); have n3_ := Aside0.mk (blk_below (g := gb159) (o := .cells #[.int .i64 t153, .int .i64 t154, .int .i64 t155, .int .i64 t156, .int .i64 t157] 24 (0, 0)) (by (with_reducible repeat (first | refine blk_drewN ?_ _ | refine blk_drew ?_ | refine blk_alloc ?_ _)); exact BK159.out) hb); have n4_ := Aside0.mk (below_step (by repeat (first | (with_reducible first | exact HB.out | apply below_alloc | apply pw_below_drewN | apply below_drew1 | refine below_set ?_ GE132.out | refine below_set ?_ GE142.out | refine below_set ?_ GE152.out | refine below_set ?_ GE159.out) | exact HB.out)) hb); clear BK132; clear BK142; clear BK152; clear BK159; clear HB; have BK132 := n0_; have BK142 := n1_; have BK152 := n2_; have BK159 := n3_; have HB := n4_; clear n0_ n1_ n2_ n3_ n4_; (try clear hb); (try clear hb2); (try clear hk); (try clear hi)))
               have n0_ := Aside0.mk (blk_drew BK132.out)
               have n1_ := Aside0.mk (blk_drew BK142.out)
               have n2_ := Aside0.mk (blk_drew BK152.out)
               have n3_ := Aside0.mk (blk_drew BK159.out)
               have n4_ := Aside0.mk (below_drew1 HB.out)
               clear BK132
               clear BK142
               clear BK152
               clear BK159
               clear HB
               have BK132 := n0_
               have BK142 := n1_
               have BK152 := n2_
               have BK159 := n3_
               have HB := n4_
               clear n0_ n1_ n2_ n3_ n4_
               refine start_ (n := 5) (S := fun w' => w'.cell? ⟨gb142, 0, none⟩ = some (.int .i64 t133) ∧ w'.cell? ⟨gb142, 1, none⟩ = some (.int .i64 t134) ∧ w'.cell? ⟨gb142, 2, none⟩ = some (.int .i64 t135) ∧ w'.cell? ⟨gb142, 3, none⟩ = some (.int .i64 t136) ∧ w'.cell? ⟨gb142, 4, none⟩ = some (.int .i64 t137) ∧ w'.cell? ⟨gb142, 5, none⟩ = some (.int .i64 t138) ∧ w'.cell? ⟨gb142, 6, none⟩ = some (.int .i64 t139) ∧ w'.cell? ⟨gb132, 0, none⟩ = some (.int .i64 t123) ∧ w'.cell? ⟨gb132, 1, none⟩ = some (.int .i64 t124) ∧ w'.cell? ⟨gb132, 2, none⟩ = some (.int .i64 t125) ∧ w'.cell? ⟨gb132, 3, none⟩ = some (.int .i64 t126) ∧ w'.cell? ⟨gb132, 4, none⟩ = some (.int .i64 t127) ∧ w'.cell? ⟨gb132, 5, none⟩ = some (.int .i64 t128) ∧ w'.cell? ⟨gb132, 6, none⟩ = some (.int .i64 t129)) (ds := []) #[false, false, false, false, false] (by kernel_rfl) rfl rfl ⟨(blk_cell BK142.out 0).trans rfl, (blk_cell BK142.out 1).trans rfl, (blk_cell BK142.out 2).trans rfl, (blk_cell BK142.out 3).trans rfl, (blk_cell BK142.out 4).trans rfl, (blk_cell BK142.out 5).trans rfl, (blk_cell BK142.out 6).trans rfl, (blk_cell BK132.out 0).trans rfl, (blk_cell BK132.out 1).trans rfl, (blk_cell BK132.out 2).trans rfl, (blk_cell BK132.out 3).trans rfl, (blk_cell BK132.out 4).trans rfl, (blk_cell BK132.out 5).trans rfl, (blk_cell BK132.out 6).trans rfl⟩ (fun hHeld => ?_)
               generalize w134.drew = w135 at BK132 BK142 BK152 BK159 HB hHeld ⊢
               refine take_ (i := 0) (N := some 89) (v := ?_) (a' := ?_) #[true, false, false, false, false] rfl rfl (by kernel_rfl) (fun _ _ _ h => h) (Or.inl ⟨by rfl, ?_⟩) hHeld ?_ ?_
               rotate_left
               ·rintro w' ⟨s0, s1, s2, s3, s4, s5, s6, s7, s8, s9, s10, s11, s12, s13⟩
                go_simp
                with_reducible rfl
               rotate_left
               ·simp only [Act.put, List.setIfInBounds_toArray, List.set_cons_zero, List.set_cons_succ, i64_w, i32_w]
                rfl
               refine take_ (i := 1) (N := some 90) (v := ?_) (a' := ?_) #[true, true, false, false, false] rfl rfl (by kernel_rfl) (fun _ _ _ h => h) (Or.inl ⟨by rfl, ?_⟩) hHeld ?_ ?_
               rotate_left
               ·rintro w' ⟨s0, s1, s2, s3, s4, s5, s6, s7, s8, s9, s10, s11, s12, s13⟩
                go_simp
                with_reducible rfl
               rotate_left
               ·simp only [Act.put, List.setIfInBounds_toArray, List.set_cons_zero, List.set_cons_succ, i64_w, i32_w]
                rfl
               refine one_ (i := 2) (N := some 91) #[true, true, true, false, false] rfl rfl (by kernel_rfl) (by decide) (fun K hK => ?_)
               refine goes_ Tryd.func17 (by kernel_rfl) rfl #[.agg #[.int .i64 t123, .int .i64 t124, .int .i64 t125, .int .i64 t126, .int .i64 t127, .int .i64 t128, .int .i64 t129], .int .i64 1000000000] (by rfl) rfl rfl (by (try simp only [List.map_toArray, List.map_cons, List.map_nil]); first | done | rfl | (simp only [List.length_drop, List.length_take]; rfl)) ?_
               with_reducible refine (dim_Value.calls kj32 t123 t124 t125 t126 t127 t128 t129 1000000000 t161 _ A55.out).mono ?_
               rintro e w136 ⟨rfl, hb⟩
               refine ⟨_, rfl, ?_⟩
               have n0_ := Aside0.mk (blk_below (g := gb132) (o := .cells #[.int .i64 t123, .int .i64 t124, .int .i64 t125, .int .i64 t126, .int .i64 t127, .int .i64 t128, .int .i64 t129] 26 (0, 0)) (by (with_reducible repeat (first | refine blk_drewN ?_ _ | refine blk_drew ?_ | refine blk_alloc ?_ _)); exact BK132.out) hb)
               have n1_ := Aside0.mk (blk_below (g := gb142) (o := .cells #[.int .i64 t133, .int .i64 t134, .int .i64 t135, .int .i64 t136, .int .i64 t137, .int .i64 t138, .int .i64 t139] 26 (0, 0)) (by (with_reducible repeat (first | refine blk_drewN ?_ _ | refine blk_drew ?_ | refine blk_alloc ?_ _)); exact BK142.out) hb)
               have n2_ := Aside0.mk (blk_below (g := gb152) (o := .cells #[.int .i64 t143, .int .i64 t144, .int .i64 t145, .int .i64 t146, .int .i64 t147, .int .i64 t148, .int .i64 t149] 26 (0, 0)) (by (with_reducible repeat (first | refine blk_drewN ?_ _ | refine blk_drew ?_ | refine blk_alloc ?_ _)); exact BK152.out) hb)
               have n3_ := Aside0.mk (blk_below (g := gb159) (o := .cells #[.int .i64 t153, .int .i64 t154, .int .i64 t155, .int .i64 t156, .int .i64 t157] 24 (0, 0)) (by (with_reducible repeat (first | refine blk_drewN ?_ _ | refine blk_drew ?_ | refine blk_alloc ?_ _)); exact BK159.out) hb)
               have n4_ := Aside0.mk (below_step (by repeat (first | (with_reducible first | exact HB.out | apply below_alloc | apply pw_below_drewN | apply below_drew1 | refine below_set ?_ GE132.out | refine below_set ?_ GE142.out | refine below_set ?_ GE152.out | refine below_set ?_ GE159.out) | exact HB.out)) hb)
               clear BK132
               clear BK142
               clear BK152
               clear BK159
               clear HB
               have BK132 := n0_
               have BK142 := n1_
               have BK152 := n2_
               have BK159 := n3_
               have HB := n4_
               clear n0_ n1_ n2_ n3_ n4_
               (try clear hb)
               (try clear hb2)
               (try clear hk)
               (try clear hi)
               refine hK.out _ _ ⟨(blk_cell BK142.out 0).trans rfl, (blk_cell BK142.out 1).trans rfl, (blk_cell BK142.out 2).trans rfl, (blk_cell BK142.out 3).trans rfl, (blk_cell BK142.out 4).trans rfl, (blk_cell BK142.out 5).trans rfl, (blk_cell BK142.out 6).trans rfl, (blk_cell BK132.out 0).trans rfl, (blk_cell BK132.out 1).trans rfl, (blk_cell BK132.out 2).trans rfl, (blk_cell BK132.out 3).trans rfl, (blk_cell BK132.out 4).trans rfl, (blk_cell BK132.out 5).trans rfl, (blk_cell BK132.out 6).trans rfl⟩ (fun hHeld => ?_)
               clear hK K
               refine norm_ (a' := ?_) ?_ ?_
               rotate_left
               ·show Act.put _ (some 91) _ = _
                simp only [Act.put, List.setIfInBounds_toArray, List.set_cons_zero, List.set_cons_succ, i64_w, i32_w]
                rfl
               refine one_ (i := 3) (N := some 92) #[true, true, true, true, false] rfl rfl (by kernel_rfl) (by decide) (fun K hK => ?_)
               refine goes_ Tryd.func17 (by kernel_rfl) rfl #[.agg #[.int .i64 t133, .int .i64 t134, .int .i64 t135, .int .i64 t136, .int .i64 t137, .int .i64 t138, .int .i64 t139], .int .i64 t161] (by rfl) rfl rfl (by (try simp only [List.map_toArray, List.map_cons, List.map_nil]); first | done | rfl | (simp only [List.length_drop, List.length_take]; rfl)) ?_
               with_reducible refine (dim_Value.calls kj32 t133 t134 t135 t136 t137 t138 t139 t161 t162 _ A56.out).mono ?_
               rintro e w137 ⟨rfl, hb⟩
               refine ⟨_, rfl, ?_⟩
               have n0_ := Aside0.mk (blk_below (g := gb132) (o := .cells #[.int .i64 t123, .int .i64 t124, .int .i64 t125, .int .i64 t126, .int .i64 t127, .int .i64 t128, .int .i64 t129] 26 (0, 0)) (by (with_reducible repeat (first | refine blk_drewN ?_ _ | refine blk_drew ?_ | refine blk_alloc ?_ _)); exact BK132.out) hb)
               have n1_ := Aside0.mk (blk_below (g := gb142) (o := .cells #[.int .i64 t133, .int .i64 t134, .int .i64 t135, .int .i64 t136, .int .i64 t137, .int .i64 t138, .int .i64 t139] 26 (0, 0)) (by (with_reducible repeat (first | refine blk_drewN ?_ _ | refine blk_drew ?_ | refine blk_alloc ?_ _)); exact BK142.out) hb)
               have n2_ := Aside0.mk (blk_below (g := gb152) (o := .cells #[.int .i64 t143, .int .i64 t144, .int .i64 t145, .int .i64 t146, .int .i64 t147, .int .i64 t148, .int .i64 t149] 26 (0, 0)) (by (with_reducible repeat (first | refine blk_drewN ?_ _ | refine blk_drew ?_ | refine blk_alloc ?_ _)); exact BK152.out) hb)
               have n3_ := Aside0.mk (blk_below (g := gb159) (o := .cells #[.int .i64 t153, .int .i64 t154, .int .i64 t155, .int .i64 t156, .int .i64 t157] 24 (0, 0)) (by (with_reducible repeat (first | refine blk_drewN ?_ _ | refine blk_drew ?_ | refine blk_alloc ?_ _)); exact BK159.out) hb)
               have n4_ := Aside0.mk (below_step (by repeat (first | (with_reducible first | exact HB.out | apply below_alloc | apply pw_below_drewN | apply below_drew1 | refine below_set ?_ GE132.out | refine below_set ?_ GE142.out | refine below_set ?_ GE152.out | refine below_set ?_ GE159.out) | exact HB.out)) hb)
               clear BK132
               clear BK142
               clear BK152
               clear BK159
               clear HB
               have BK132 := n0_
               have BK142 := n1_
               have BK152 := n2_
               have BK159 := n3_
               have HB := n4_
               clear n0_ n1_ n2_ n3_ n4_
               (try clear hb)
               (try clear hb2)
               (try clear hk)
               (try clear hi)
               refine hK.out _ _ ⟨(blk_cell BK142.out 0).trans rfl, (blk_cell BK142.out 1).trans rfl, (blk_cell BK142.out 2).trans rfl, (blk_cell BK142.out 3).trans rfl, (blk_cell BK142.out 4).trans rfl, (blk_cell BK142.out 5).trans rfl, (blk_cell BK142.out 6).trans rfl, (blk_cell BK132.out 0).trans rfl, (blk_cell BK132.out 1).trans rfl, (blk_cell BK132.out 2).trans rfl, (blk_cell BK132.out 3).trans rfl, (blk_cell BK132.out 4).trans rfl, (blk_cell BK132.out 5).trans rfl, (blk_cell BK132.out 6).trans rfl⟩ (fun hHeld => ?_)
               clear hK K
               refine norm_ (a' := ?_) ?_ ?_
               rotate_left
               ·show Act.put _ (some 92) _ = _
                simp only [Act.put, List.setIfInBounds_toArray, List.set_cons_zero, List.set_cons_succ, i64_w, i32_w]
                rfl
               refine pure_ (i := 4) (N := some 17) (v := ?_) (a' := ?_) #[true, true, true, true, true] rfl rfl (by kernel_rfl) (fun _ _ _ h => h) (Or.inl ⟨by rfl, ?_⟩) ?_ ?_
               rotate_left
               ·intro w'
                go_simp
                with_reducible rfl
               rotate_left
               ·simp only [Act.put, List.setIfInBounds_toArray, List.set_cons_zero, List.set_cons_succ, i64_w, i32_w]
                rfl
               refine done_ (by kernel_rfl) ?_
               have hcz138_0 : w137.cell? ⟨gb152, 0, none⟩ = some (.int .i64 t143) := (blk_cell BK152.out 0).trans rfl
               have hcz138_1 : w137.cell? ⟨gb152, 1, none⟩ = some (.int .i64 t144) := (blk_cell BK152.out 1).trans rfl
               have hcz138_2 : w137.cell? ⟨gb152, 2, none⟩ = some (.int .i64 t145) := (blk_cell BK152.out 2).trans rfl
               have hcz138_3 : w137.cell? ⟨gb152, 3, none⟩ = some (.int .i64 t146) := (blk_cell BK152.out 3).trans rfl
               have hcz138_4 : w137.cell? ⟨gb152, 4, none⟩ = some (.int .i64 t147) := (blk_cell BK152.out 4).trans rfl
               have hcz138_5 : w137.cell? ⟨gb152, 5, none⟩ = some (.int .i64 t148) := (blk_cell BK152.out 5).trans rfl
               have hcz138_6 : w137.cell? ⟨gb152, 6, none⟩ = some (.int .i64 t149) := (blk_cell BK152.out 6).trans rfl
               have hfz138_0 := blk_frozen BK152.out 0
               have hfz138_1 := blk_frozen BK152.out 1
               have hfz138_2 := blk_frozen BK152.out 2
               have hfz138_3 := blk_frozen BK152.out 3
               have hfz138_4 := blk_frozen BK152.out 4
               have hfz138_5 := blk_frozen BK152.out 5
               have hfz138_6 := blk_frozen BK152.out 6
               try go_wp2
               go_ret
               exact ⟨by first | rfl | (simp [errW_none, errW_some] <;> rfl) | (simp [*, errW_none, errW_some] <;> rfl), by repeat (first | (with_reducible first | exact HB.out | apply below_alloc | apply pw_below_drewN | apply below_drew1 | refine below_set ?_ GE132.out | refine below_set ?_ GE142.out | refine below_set ?_ GE152.out | refine below_set ?_ GE159.out) | exact HB.out)⟩
   ·rw [if_neg c8] at H
    exact absurd H (by simp)
  ·rw [if_neg c7] at H
   exact absurd H (by simp)
 ·replace c4 := Bool.eq_false_iff.mpr c4
  subst c4
  have H1 : (some false) = some r := by rw [if_neg (show ¬ (false = true) by decide)] at H; exact H
  clear H
  have H := H1
  clear H1
  obtain rfl := Option.some.inj H
  go_enter Tryd.func8, Tryd.ntmps8
  go_wp2_with (first | ((with_reducible refine gate_callee (f := 9) rfl ?_); refine goesL_ (some 18) rfl rfl Tryd.func9 (by kernel_rfl) rfl #[] rfl (by (try simp only [List.map_toArray, List.map_cons, List.map_nil]); first | done | rfl | (simp only [List.length_drop, List.length_take]; rfl)) ?_; (with_reducible refine (capstanlaw02_awake.calls k  false _ A3.out (by first | exact HL_.out | exact Go.Proofs.YtdplfphgomckfaaDoor.Laid.Laid.below HL_.out (by repeat (first | (with_reducible first | exact HB.out | exact Below.refl _ _ | exact (‹Aside0 (Below _ _ _)›).out | apply below_alloc | apply pw_below_drewN | apply below_drew1 | refine Below.setCell ?_ (Aside0.out (by assumption)) _) | exact HB.out | exact (‹Aside0 (Below _ _ _)›).out)))).mono ?_); rintro e w139 ⟨rfl, hb⟩; refine ⟨_, rfl, ?_⟩; have n0_ := Aside0.mk (below_step (by repeat (first | (with_reducible first | exact HB.out | apply below_alloc | apply pw_below_drewN | apply below_drew1) | exact HB.out)) hb); clear HB; have HB := n0_; clear n0_; (try clear hb); (try clear hb2); (try clear hk); (try clear hi)))
  go_ret
  exact ⟨by first | rfl | (simp [errW_none, errW_some] <;> rfl) | (simp [*, errW_none, errW_some] <;> rfl), by repeat (first | (with_reducible first | exact HB.out | apply below_alloc | apply pw_below_drewN | apply below_drew1) | exact HB.out)⟩

end Go.Proofs.YtdplfphgomckfaaDoor.OG
