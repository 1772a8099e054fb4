/- The contract of gate.Bind of the gate's functions: what each call answers and leaves in memory, for a gate block of any content. -/
import Derived.Test.YtalefchapckcoaaRows
import Derived.Test.YtalefchapckcoaaBlk
import Derived.Test.YtalefchapckcoaaGa
import Derived.WalkKit
import Derived.WalkSpells
import Derived.WalkLawsBesides
import Derived.Handy
import Derived.Laws.Rows
import Derived.Deep.QuietTactic
import Derived.BigQuiet
import Derived.Deep.RegionHeld3
import Derived.Deep.DeepCutAuto
namespace Go.Proofs.Ytalefchapckcoaa.Ga
open Go.RowKit Go.Proofs.Ytalefchapckcoaa.Blk
attribute [local go_sem] max2_int min2_int max_two min_two

set_option maxHeartbeats 16000000 in
set_option maxRecDepth 100000 in
theorem bind_go (g : Nat) (mn mx st up dn cnt ct : Int) (cb : Bool) (kt : Int) (kb : Bool) (why want t : Int) (w : World) (hg : IsG w g mn mx st up dn cnt ct cb kt kb) (hr : Rt mn mx st cnt) (ht : kb = false ∨ kb = true ∧ ¬ t < kt)  :
    Calls Try.prog 12 #[.pointer (some ⟨g, 0, none⟩), .agg #[.bool false, .int .i64 why, .int .i64 want], .int .i64 t] w fun e w' => e = .returned (.tuple #[.agg #[.bool (stepG mn mx st up dn cnt ct cb want t).1.1, .int .i64 (stepG mn mx st up dn cnt ct cb want t).1.2.1, .int .i64 (stepG mn mx st up dn cnt ct cb want t).1.2.2], .int .i64 0]) ∧ IsG w' g mn mx st up dn (stepG mn mx st up dn cnt ct cb want t).2.1 (stepG mn mx st up dn cnt ct cb want t).2.2.1 (stepG mn mx st up dn cnt ct cb want t).2.2.2 t true ∧ w.grownBy w' (some g) := by
  have hlt : g < w.heap.size := (Array.getElem?_eq_some_iff.1 hg).1
  have hlt1 : g < w.heap.size + 1 := by omega
  have hlt2 : g < w.heap.size + 1 + 1 := by omega
  have hlt3 : g < w.heap.size + 1 + 1 + 1 := by omega
  have c0 := blk_cell hg 0
  have c1 := blk_cell hg 1
  have c2 := blk_cell hg 2
  have c3 := blk_cell hg 3
  have c4 := blk_cell hg 4
  have c5 := blk_cell hg 5
  have c6 := blk_cell hg 6
  have c7 := blk_cell hg 7
  have c8 := blk_cell hg 8
  have c9 := blk_cell hg 9
  have f5 := blk_frozen hg 5
  have f6 := blk_frozen hg 6
  have f7 := blk_frozen hg 7
  have f8 := blk_frozen hg 8
  have f9 := blk_frozen hg 9
  simp [gcells] at c0 c1 c2 c3 c4 c5 c6 c7 c8 c9
  obtain ⟨r1, r2, r3, r4, r5, r6, r7, r8⟩ := hr
  have hm' : (mx == 0) = false := by simp; omega
  have HG := Lib.hid hg; clear hg
  rcases ht with rfl | ⟨rfl, ht⟩
  all_goals
    go_enter Try.func12, Try.ntmps12
    go_upto_region 10 with (go_in)
    go_cut [9] (fun s9 wx => s9 = .int .i64 (mnv (mxv (mnv (mxv want mn) mx) (cnt - st)) (cnt + st)) ∧ SS w g mn mx st up dn cnt ct cb t wx)
    case first =>
      go_quiet (fail)
      go_wp2
      go_meet
      refine ⟨rfl, (((((HG.out.set89 t).alloc _).alloc _).alloc _).drewN _), ?_, ?_, ?_⟩
      · repeat (first | exact gb_refl _ _ | refine gb_alloc ?_ _ | refine gb_drewN ?_ _ | refine gb_set ?_ _ _ (.inl rfl) _)
      · exact blk_alloc (blk_at _ _ _ (by simp)) _
      · exact blk_at _ _ _ (by simp)
    case rest =>
      obtain ⟨rfl, hSS⟩ := hcut
      have hgb := hSS.2.1
      clear HG c0 c1 c2 c3 c4 c5 c6 c7 c8 c9 f5 f6 f7 f8 f9
      have hne1 : g ≠ w.heap.size + 1 := by omega
      have hne2 : g ≠ w.heap.size + 1 + 1 := by omega
      by_cases hup : cnt < cl mn mx st cnt want
      · have h1 : decide (cnt < (mnv (mxv (mnv (mxv want mn) mx) (cnt - st)) (cnt + st))) = true := by unfold cl at hup; simp; exact hup
        have h2 : decide ((mnv (mxv (mnv (mxv want mn) mx) (cnt - st)) (cnt + st)) < cnt) = false := by unfold cl at hup; simp; omega
        have h3 : ((mnv (mxv (mnv (mxv want mn) mx) (cnt - st)) (cnt + st)) != cnt) = true := by unfold cl at hup; simp; omega
        cases hu : sinceB ct cb t up with
        | true =>
          have hF : stepG mn mx st up dn cnt ct cb want t = ((true, 5, cnt), (cnt, ct, cb)) := by unfold stepG; rw [if_pos hup, if_pos hu]
          have HF := Lib.hid hF; clear hF hup
          go_wp2
          go_region_held3 (fun w' => SS w g mn mx st up dn cnt ct cb t w' ∧ w'.cell? ⟨g, 5, none⟩ = some (.int .i64 cnt) ∧ w'.cell? ⟨g, 6, none⟩ = some (.int .i64 ct) ∧ w'.cell? ⟨g, 7, none⟩ = some (.bool cb) ∧ w'.cell? ⟨w.heap.size + 1 + 1, 3, none⟩ = some (.int .i64 up) ∧ w'.cell? ⟨w.heap.size + 1 + 1, 4, none⟩ = some (.int .i64 dn))
            (first | exact SS.six hSS.drew | exact SS.six (SS.drewN hSS _).drew | (go_split_ands; exact SS.six (SS.below' (by assumption) hb (by simp))))
            (first | (go_at_call 20; refine (since_any ct cb t up _).mono ?_; rintro e w' ⟨rfl, hb⟩))
          rename_i hH; have hS2 := hH.1; clear hH hb
          obtain ⟨_, glt, alt, d0, d5, d6, d7, d8, d9, e3, e4, b0, b1, b2, f5, f6, f7, g0, g1, g2⟩ := hS2.all
          clear d0 d6 d7 d8 d9 e3 e4 b0 b1 b2 f5 f6 f7 g0 g1 g2
          go_wp2_with fail
          refine (hold_gate g cnt 5 _ glt d5).mono ?_
          rintro e w2 ⟨rfl, hb2⟩
          have hS3 := SS.below' hS2 hb2 rfl
          clear glt alt d5
          obtain ⟨_, glt, alt, d0, d5, d6, d7, d8, d9, e3, e4, b0, b1, b2, f5, f6, f7, g0, g1, g2⟩ := hS3.all
          have hgb3 := hS3.2.1
          go_wp2
          refine bodyPost_ret (v := .tuple #[.agg #[.bool true, .int .i64 5, .int .i64 cnt], .int .i64 0]) ?_ rfl ?_
          · simp [results, Try.results12, go_sem, b0, b1, b2]
          · rw [HF.out]
            refine ⟨rfl, ?_, ?_⟩
            · exact IsG.far3 hS3.1 hne1 _ _ _
            · repeat (first | (with_reducible exact hgb3) | (with_reducible refine gb_set ?_ _ _ (.inr (by omega)) _) | (with_reducible refine gb_set ?_ _ _ (.inl rfl) _) | (with_reducible refine gb_drewN ?_ _) | (with_reducible refine gb_alloc ?_ _))
        | false =>
          have hF : stepG mn mx st up dn cnt ct cb want t = ((false, 0, (mnv (mxv (mnv (mxv want mn) mx) (cnt - st)) (cnt + st))), ((mnv (mxv (mnv (mxv want mn) mx) (cnt - st)) (cnt + st)), t, true)) := by unfold stepG; rw [if_pos hup, if_neg (by rw [hu]; decide)]; rfl
          have HF := Lib.hid hF; clear hF hup
          go_wp2
          go_region_held3 (fun w' => SS w g mn mx st up dn cnt ct cb t w' ∧ w'.cell? ⟨g, 5, none⟩ = some (.int .i64 cnt) ∧ w'.cell? ⟨g, 6, none⟩ = some (.int .i64 ct) ∧ w'.cell? ⟨g, 7, none⟩ = some (.bool cb) ∧ w'.cell? ⟨w.heap.size + 1 + 1, 3, none⟩ = some (.int .i64 up) ∧ w'.cell? ⟨w.heap.size + 1 + 1, 4, none⟩ = some (.int .i64 dn))
            (first | exact SS.six hSS.drew | exact SS.six (SS.drewN hSS _).drew | (go_split_ands; exact SS.six (SS.below' (by assumption) hb (by simp))))
            (first | (go_at_call 20; refine (since_any ct cb t up _).mono ?_; rintro e w' ⟨rfl, hb⟩))
          rename_i hH; have hS2 := hH.1; clear hH hb
          obtain ⟨_, glt, alt, d0, d5, d6, d7, d8, d9, e3, e4, b0, b1, b2, f5, f6, f7, g0, g1, g2⟩ := hS2.all
          have hgb2 := hS2.2.1
          have k0 := fun n v u z => blk_cell (SS.box765 hS2 hne1 n v u z) 0
          have k1 := fun n v u z => blk_cell (SS.box765 hS2 hne1 n v u z) 1
          have k2 := fun n v u z => blk_cell (SS.box765 hS2 hne1 n v u z) 2
          go_wp2
          go_quiet (fail)
          go_wp2
          refine bodyPost_ret (v := .tuple #[.agg #[.bool false, .int .i64 0, .int .i64 (mnv (mxv (mnv (mxv want mn) mx) (cnt - st)) (cnt + st))], .int .i64 0]) ?_ rfl ?_
          · simp [results, Try.results12, go_sem, k0, k1, k2]
          · rw [HF.out]
            refine ⟨rfl, ?_, ?_⟩
            · exact IsG.far3 (IsG.set5 (IsG.set67 (hS2.drewN _).1 t) _) hne1 _ _ _
            · repeat (first | (with_reducible exact hgb2) | (with_reducible refine gb_set ?_ _ _ (.inr (by omega)) _) | (with_reducible refine gb_set ?_ _ _ (.inl rfl) _) | (with_reducible refine gb_drewN ?_ _) | (with_reducible refine gb_alloc ?_ _))
      · by_cases hdn : cl mn mx st cnt want < cnt
        · have h1 : decide (cnt < (mnv (mxv (mnv (mxv want mn) mx) (cnt - st)) (cnt + st))) = false := by unfold cl at hdn; simp; omega
          have h2 : decide ((mnv (mxv (mnv (mxv want mn) mx) (cnt - st)) (cnt + st)) < cnt) = true := by unfold cl at hdn; simp; exact hdn
          have h3 : ((mnv (mxv (mnv (mxv want mn) mx) (cnt - st)) (cnt + st)) != cnt) = true := by unfold cl at hdn; simp; omega
          cases hu : sinceB ct cb t dn with
          | true =>
            have hF : stepG mn mx st up dn cnt ct cb want t = ((true, 6, cnt), (cnt, ct, cb)) := by unfold stepG; rw [if_neg hup, if_pos hdn, if_pos hu]
            have HF := Lib.hid hF; clear hF hup hdn
            obtain ⟨_, glt, alt, d0, d5, d6, d7, d8, d9, e3, e4, b0, b1, b2, f5, f6, f7, g0, g1, g2⟩ := hSS.all
            go_wp2
            go_quiet (fail)
            go_wp2
            clear d0 d5 d6 d7 d8 d9 e3 e4 b0 b1 b2 f5 f6 f7 g0 g1 g2
            go_region_held3 (fun w' => SS w g mn mx st up dn cnt ct cb t w' ∧ w'.cell? ⟨g, 5, none⟩ = some (.int .i64 cnt) ∧ w'.cell? ⟨g, 6, none⟩ = some (.int .i64 ct) ∧ w'.cell? ⟨g, 7, none⟩ = some (.bool cb) ∧ w'.cell? ⟨w.heap.size + 1 + 1, 3, none⟩ = some (.int .i64 up) ∧ w'.cell? ⟨w.heap.size + 1 + 1, 4, none⟩ = some (.int .i64 dn))
              (first | exact SS.six hSS.drew | exact SS.six (SS.drewN hSS _).drew | (go_split_ands; exact SS.six (SS.below' (by assumption) hb (by simp))))
              (first | (go_at_call 20; refine (since_any ct cb t dn _).mono ?_; rintro e w' ⟨rfl, hb⟩))
            rename_i hH; have hS2 := hH.1; clear hH hb
            obtain ⟨_, glt, alt, d0, d5, d6, d7, d8, d9, e3, e4, b0, b1, b2, f5, f6, f7, g0, g1, g2⟩ := hS2.all
            clear d0 d6 d7 d8 d9 e3 e4 b0 b1 b2 f5 f6 f7 g0 g1 g2
            go_wp2_with fail
            refine (hold_gate g cnt 6 _ glt d5).mono ?_
            rintro e w2 ⟨rfl, hb2⟩
            have hS3 := SS.below' hS2 hb2 rfl
            clear glt alt d5
            obtain ⟨_, glt, alt, d0, d5, d6, d7, d8, d9, e3, e4, b0, b1, b2, f5, f6, f7, g0, g1, g2⟩ := hS3.all
            have hgb3 := hS3.2.1
            go_wp2
            refine bodyPost_ret (v := .tuple #[.agg #[.bool true, .int .i64 6, .int .i64 cnt], .int .i64 0]) ?_ rfl ?_
            · simp [results, Try.results12, go_sem, b0, b1, b2]
            · rw [HF.out]
              refine ⟨rfl, ?_, ?_⟩
              · exact IsG.far3 hS3.1 hne1 _ _ _
              · repeat (first | (with_reducible exact hgb3) | (with_reducible refine gb_set ?_ _ _ (.inr (by omega)) _) | (with_reducible refine gb_set ?_ _ _ (.inl rfl) _) | (with_reducible refine gb_drewN ?_ _) | (with_reducible refine gb_alloc ?_ _))
          | false =>
            have hF : stepG mn mx st up dn cnt ct cb want t = ((false, 0, (mnv (mxv (mnv (mxv want mn) mx) (cnt - st)) (cnt + st))), ((mnv (mxv (mnv (mxv want mn) mx) (cnt - st)) (cnt + st)), t, true)) := by unfold stepG; rw [if_neg hup, if_pos hdn, if_neg (by rw [hu]; decide)]; rfl
            have HF := Lib.hid hF; clear hF hup hdn
            obtain ⟨_, glt, alt, d0, d5, d6, d7, d8, d9, e3, e4, b0, b1, b2, f5, f6, f7, g0, g1, g2⟩ := hSS.all
            go_wp2
            go_quiet (fail)
            go_wp2
            clear d0 d5 d6 d7 d8 d9 e3 e4 b0 b1 b2 f5 f6 f7 g0 g1 g2
            go_region_held3 (fun w' => SS w g mn mx st up dn cnt ct cb t w' ∧ w'.cell? ⟨g, 5, none⟩ = some (.int .i64 cnt) ∧ w'.cell? ⟨g, 6, none⟩ = some (.int .i64 ct) ∧ w'.cell? ⟨g, 7, none⟩ = some (.bool cb) ∧ w'.cell? ⟨w.heap.size + 1 + 1, 3, none⟩ = some (.int .i64 up) ∧ w'.cell? ⟨w.heap.size + 1 + 1, 4, none⟩ = some (.int .i64 dn))
              (first | exact SS.six hSS.drew | exact SS.six (SS.drewN hSS _).drew | (go_split_ands; exact SS.six (SS.below' (by assumption) hb (by simp))))
              (first | (go_at_call 20; refine (since_any ct cb t dn _).mono ?_; rintro e w' ⟨rfl, hb⟩))
            rename_i hH; have hS2 := hH.1; clear hH hb
            obtain ⟨_, glt, alt, d0, d5, d6, d7, d8, d9, e3, e4, b0, b1, b2, f5, f6, f7, g0, g1, g2⟩ := hS2.all
            have hgb2 := hS2.2.1
            have k0 := fun n v u z => blk_cell (SS.box765 hS2 hne1 n v u z) 0
            have k1 := fun n v u z => blk_cell (SS.box765 hS2 hne1 n v u z) 1
            have k2 := fun n v u z => blk_cell (SS.box765 hS2 hne1 n v u z) 2
            have k0' := fun v u z => blk_cell (SS.box765' hS2 hne1 v u z) 0
            have k1' := fun v u z => blk_cell (SS.box765' hS2 hne1 v u z) 1
            have k2' := fun v u z => blk_cell (SS.box765' hS2 hne1 v u z) 2
            clear k0 k1 k2
            go_wp2
            refine bodyPost_ret (v := .tuple #[.agg #[.bool false, .int .i64 0, .int .i64 (mnv (mxv (mnv (mxv want mn) mx) (cnt - st)) (cnt + st))], .int .i64 0]) ?_ rfl ?_
            · simp [results, Try.results12, go_sem, k0', k1', k2']
            · rw [HF.out]
              refine ⟨rfl, ?_, ?_⟩
              · exact IsG.far3 (IsG.set5 (IsG.set67 hS2.1 t) _) hne1 _ _ _
              · repeat (first | (with_reducible exact hgb2) | (with_reducible refine gb_set ?_ _ _ (.inr (by omega)) _) | (with_reducible refine gb_set ?_ _ _ (.inl rfl) _) | (with_reducible refine gb_drewN ?_ _) | (with_reducible refine gb_alloc ?_ _))

        · have hC : (mnv (mxv (mnv (mxv want mn) mx) (cnt - st)) (cnt + st)) = cnt := by unfold cl at hup hdn; omega
          have h1 : decide (cnt < (mnv (mxv (mnv (mxv want mn) mx) (cnt - st)) (cnt + st))) = false := by simp; omega
          have h2 : decide ((mnv (mxv (mnv (mxv want mn) mx) (cnt - st)) (cnt + st)) < cnt) = false := by simp; omega
          have h3 : ((mnv (mxv (mnv (mxv want mn) mx) (cnt - st)) (cnt + st)) != cnt) = false := by simp; omega
          have hF : stepG mn mx st up dn cnt ct cb want t = ((false, 0, (mnv (mxv (mnv (mxv want mn) mx) (cnt - st)) (cnt + st))), ((mnv (mxv (mnv (mxv want mn) mx) (cnt - st)) (cnt + st)), ct, cb)) := by unfold stepG; rw [if_neg hup, if_neg hdn]; rfl
          rw [hC] at hF
          have HF := Lib.hid hF; have HC := Lib.hid hC; clear hF hC hup hdn
          obtain ⟨_, glt, alt, d0, d5, d6, d7, d8, d9, e3, e4, b0, b1, b2, f5, f6, f7, g0, g1, g2⟩ := hSS.all
          have k0 := fun n v => blk_cell (SS.box5 hSS hne1 n v) 0
          have k1 := fun n v => blk_cell (SS.box5 hSS hne1 n v) 1
          have k2 := fun n v => blk_cell (SS.box5 hSS hne1 n v) 2
          go_wp2
          go_quiet (fail)
          go_wp2
          go_quiet (fail)
          go_wp2
          refine bodyPost_ret (v := .tuple #[.agg #[.bool false, .int .i64 0, .int .i64 (mnv (mxv (mnv (mxv want mn) mx) (cnt - st)) (cnt + st))], .int .i64 0]) ?_ rfl ?_
          · simp [results, Try.results12, go_sem, k0, k1, k2]
          · rw [HF.out]
            refine ⟨by rw [HC.out], ?_, ?_⟩
            · rw [HC.out]; exact IsG.far3 (IsG.set5 (hSS.drewN _).1 _) hne1 _ _ _
            · repeat (first | (with_reducible exact hgb) | (with_reducible refine gb_set ?_ _ _ (.inr (by omega)) _) | (with_reducible refine gb_set ?_ _ _ (.inl rfl) _) | (with_reducible refine gb_drewN ?_ _) | (with_reducible refine gb_alloc ?_ _))
end Go.Proofs.Ytalefchapckcoaa.Ga
