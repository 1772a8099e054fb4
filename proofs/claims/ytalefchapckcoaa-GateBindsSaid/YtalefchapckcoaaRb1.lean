/- The reference's Bind where nothing asks to hold: the count rises. -/
import Derived.Test.YtalefchapckcoaaRb
namespace Go.Proofs.Ytalefchapckcoaa.Rb
set_option linter.unusedVariables false
open Go.RowKit Go.Proofs.Ytalefchapckcoaa.Blk Go.Proofs.Ytalefchapckcoaa.Blk2 Go.Proofs.Ytalefchapckcoaa.Ga Go.Proofs.Ytalefchapckcoaa.Gc Go.Proofs.Ytalefchapckcoaa.Ra
set_option maxHeartbeats 8000000 in
set_option maxRecDepth 100000 in
theorem rbind_up (g : Nat) (r : GR) (s : GS) (why want t : Int) (w : World) (hg : IsR w g r s) (hr : RtS r s) (ht : s.kb = false ∨ s.kb = true ∧ ¬ t < s.kt)
    (hcs : s.cnt < cl r.mn r.mx r.st s.cnt want) (h1 : -9223372036854775808 ≤ t ∧ t ≤ 9223372036854775807) (h2 : -9223372036854775808 ≤ s.ct ∧ s.ct ≤ 9223372036854775807) :
    Calls Try.prog 15 #[.pointer (some ⟨g, 0, none⟩), .agg #[.bool false, .int .i64 why, .int .i64 want], .int .i64 t] w (RPost g r s w t (stepR r s want t)) := by
  obtain ⟨mn, mx, st, up, dn⟩ := r
  obtain ⟨cnt, ct, cb, kt, kb⟩ := s
  simp only at ht h2
  have hlt : g < w.heap.size := blk_lt hg
  have hlt1 : g < w.heap.size + 1 := by omega
  have hlt2 : g < w.heap.size + 1 + 1 := by omega
  have hne1 : g ≠ w.heap.size := by omega
  have hne2 : g ≠ w.heap.size + 1 := by omega
  have c8 := blk_cell hg 8
  have c9 := blk_cell hg 9
  have f8 := blk_frozen hg 8
  have f9 := blk_frozen hg 9
  simp [gcells] at c8 c9
  have HG := Lib.hid hg; clear hg
  have HR := Lib.hid hr; clear hr
  have H1 := Lib.hid h1; clear h1
  have H2 := Lib.hid h2; clear h2
  obtain ⟨Q, hQ⟩ : ∃ Q, Q = stepR ⟨mn, mx, st, up, dn⟩ ⟨cnt, ct, cb, kt, kb⟩ want t := ⟨_, rfl⟩
  rw [← hQ]
  have HQ := Lib.hid hQ; clear hQ
  obtain ⟨P, hP⟩ : ∃ P, P = RPost g ⟨mn, mx, st, up, dn⟩ ⟨cnt, ct, cb, kt, kb⟩ w t Q := ⟨_, rfl⟩
  rw [← hP]
  have HP := Lib.hid hP; clear hP
  obtain ⟨C, hC⟩ : ∃ C, cl mn mx st cnt want = C := ⟨_, rfl⟩
  have HQ2 : Hid (Q = if cnt < C then (if lessB ⟨cnt, ct, cb, kt, true⟩ t up = true then ((true, 5, cnt), (cnt, ct, cb)) else ((false, 0, C), (C, t, true))) else if C < cnt then (if lessB ⟨cnt, ct, cb, kt, true⟩ t dn = true then ((true, 6, cnt), (cnt, ct, cb)) else ((false, 0, C), (C, t, true))) else ((false, 0, cnt), (cnt, ct, cb))) := by
    have := HQ.out
    unfold stepR at this
    simp only [hC] at this
    exact this
  clear HQ
  simp only [hC] at hcs
  have HCS := Lib.hid hcs; clear hcs
  have HC := Lib.hid hC; clear hC
  go_enter Try.func15, Try.ntmps15
  go_upto_region 1 with (fail)
  go_cut [20] (fun v20 wx => v20 = .bool false ∧ wx = (w.alloc (.cells #[.bool false, .int .i64 why, .int .i64 want] 34)).alloc (.cells #[.bool false, .int .i64 0, .int .i64 0] 39))
  case first =>
    rcases ht with rfl | ⟨rfl, ht⟩
    · go_wp2
      go_meet
      exact ⟨rfl, rfl⟩
    · go_wp2
      go_meet
      exact ⟨rfl, rfl⟩
  case rest =>
  obtain ⟨rfl, rfl⟩ := hcut
  clear ht
  go_upto_region 7 with (fail)
  go_cut [8] (RMid w g ⟨mn, mx, st, up, dn⟩ ⟨cnt, ct, cb, t, true⟩ C t)
  case first =>
    go_wp2_with fail
    refine (bound_any g ⟨mn, mx, st, up, dn⟩ ⟨cnt, ct, cb, t, true⟩ want _ (blk_alloc (blk_alloc (IsR.set89 HG.out t) _) _) HR.out).mono ?_
    rintro e w1 ⟨rfl, hb⟩
    have hS : SR w g ⟨mn, mx, st, up, dn⟩ ⟨cnt, ct, cb, t, true⟩ t w1 := SR.below ⟨blk_alloc (blk_alloc (IsR.set89 HG.out t) _) _, by
      repeat (first | exact gb_refl _ _ | refine gb_alloc ?_ _ | refine gb_drewN ?_ _ | refine gb_drew ?_ | refine gb_set ?_ _ _ (.inl rfl) _), blk_at _ _ _ (by simp)⟩ hb
    have HS := Lib.hid hS; clear hS hb c8 c9 f8 f9
    go_wp2
    go_meet
    exact ⟨by rw [← HC.out], HS.out⟩
  case rest =>
    obtain ⟨rfl, hSS⟩ := hcut
    clear c8 c9 f8 f9 HG HR HC
    have hup := HCS.out
    clear HCS
    · have q1 : decide (cnt < C) = true := by simpa using hup
      have q2 : decide (C < cnt) = false := by simp; omega
      have q3 : (C != cnt) = true := by simp; omega
      cases cb with
      | false =>
        have HF : Hid (Q = ((false, 0, C), (C, t, true))) := by have := HQ2.out; rw [if_pos hup, if_neg (by simp [lessB])] at this; exact this
        clear HQ2 hup
        obtain ⟨glt, alt, e3, e4, d5, d6, d7, b0, b1, b2, f5, f6, f7, g0, g1, g2⟩ := hSS.all
        go_wp2
        go_quiet (fail)
        have hS2 := SR.drewN hSS nq
        clear glt alt e3 e4 d5 d6 d7 b0 b1 b2 f5 f6 f7 g0 g1 g2
        generalize wc.drewN nq = W1 at hS2 ⊢
        obtain ⟨glt, alt, e3, e4, d5, d6, d7, b0, b1, b2, f5, f6, f7, g0, g1, g2⟩ := hS2.all
        go_wp2
        go_quiet (fail)
        have hS3 := SR.drewN hS2 nq
        clear glt alt e3 e4 d5 d6 d7 b0 b1 b2 f5 f6 f7 g0 g1 g2
        generalize W1.drewN nq = W2 at hS3 ⊢
        obtain ⟨glt, alt, e3, e4, d5, d6, d7, b0, b1, b2, f5, f6, f7, g0, g1, g2⟩ := hS3.all
        have k0 := fun v u z => blk_cell (SR.box5 hS3 hne2 v u z) 0
        have k1 := fun v u z => blk_cell (SR.box5 hS3 hne2 v u z) 1
        have k2 := fun v u z => blk_cell (SR.box5 hS3 hne2 v u z) 2
        go_wp2
        refine bodyPost_ret (v := .tuple #[.agg #[.bool false, .int .i64 0, .int .i64 C], .int .i64 0]) ?_ rfl ?_
        · simp [results, Try.results15, go_sem, k0, k1, k2]
        · rw [HP.out, HF.out]
          refine ⟨rfl, IsR.far3 (IsR.set567 hS3.1 C t) hne2 _ _ _, ?_⟩
          have hgb := hS3.2.1
          repeat (first | (with_reducible exact hgb) | (with_reducible refine gb_set ?_ _ _ (.inr (by omega)) _) | (with_reducible refine gb_set ?_ _ _ (.inl rfl) _) | (with_reducible refine gb_drewN ?_ _) | (with_reducible refine gb_drew ?_) | (with_reducible refine gb_alloc ?_ _))
      | true =>
        have HLS := Lib.hid (fun W => less_any t ct up W H1.out H2.out)
        obtain ⟨L, hL⟩ : ∃ L, decide (Go.Proofs.Ytalefchapckcoaa.BnGateBinds.hold (t - ct) < up) = L := ⟨_, rfl⟩
        rw [hL] at HLS
        cases L with
        | true =>
          have HF : Hid (Q = ((true, 5, cnt), (cnt, ct, true))) := by have := HQ2.out; rw [if_pos hup, if_pos (by simpa [lessB] using hL)] at this; exact this
          clear HQ2 hup hL
          obtain ⟨glt, alt, e3, e4, d5, d6, d7, b0, b1, b2, f5, f6, f7, g0, g1, g2⟩ := hSS.all
          go_wp2
          go_region_held3 (fun w' => SR w g ⟨mn, mx, st, up, dn⟩ ⟨cnt, ct, true, t, true⟩ t w' ∧ w'.cell? ⟨g, 3, none⟩ = some (.int .i64 up) ∧ w'.cell? ⟨g, 4, none⟩ = some (.int .i64 dn) ∧ w'.cell? ⟨g, 5, none⟩ = some (.int .i64 cnt) ∧ w'.cell? ⟨g, 6, none⟩ = some (.int .i64 ct) ∧ w'.cell? ⟨g, 7, none⟩ = some (.bool true))
            (first | exact SR.six hSS.drew | exact SR.six (SR.drewN hSS _).drew | (go_split_ands; exact SR.six (SR.below' (by assumption) hb (by simp))))
            (first | (go_at_call 21; refine (HLS.out _).mono ?_; rintro e w' ⟨rfl, hb⟩))
          rename_i hH; have hS5 := hH.1; clear hH hb
          clear glt alt e3 e4 d5 d6 d7 b0 b1 b2 f5 f6 f7 g0 g1 g2
          obtain ⟨glt, alt, e3, e4, d5, d6, d7, b0, b1, b2, f5, f6, f7, g0, g1, g2⟩ := hS5.all
          go_wp2
          refine bodyPost_ret (v := .tuple #[.agg #[.bool true, .int .i64 5, .int .i64 cnt], .int .i64 0]) ?_ rfl ?_
          · simp [results, Try.results15, go_sem, b0, b1, b2]
          · rw [HP.out, HF.out]
            refine ⟨rfl, IsR.far3 hS5.1 hne2 _ _ _, ?_⟩
            have hgb := hS5.2.1
            repeat (first | (with_reducible exact hgb) | (with_reducible refine gb_set ?_ _ _ (.inr (by omega)) _) | (with_reducible refine gb_set ?_ _ _ (.inl rfl) _) | (with_reducible refine gb_drewN ?_ _) | (with_reducible refine gb_drew ?_) | (with_reducible refine gb_alloc ?_ _))
        | false =>
          have HF : Hid (Q = ((false, 0, C), (C, t, true))) := by have := HQ2.out; rw [if_pos hup, if_neg (by simpa [lessB] using hL)] at this; exact this
          clear HQ2 hup hL
          obtain ⟨glt, alt, e3, e4, d5, d6, d7, b0, b1, b2, f5, f6, f7, g0, g1, g2⟩ := hSS.all
          go_wp2
          go_region_held3 (fun w' => SR w g ⟨mn, mx, st, up, dn⟩ ⟨cnt, ct, true, t, true⟩ t w' ∧ w'.cell? ⟨g, 3, none⟩ = some (.int .i64 up) ∧ w'.cell? ⟨g, 4, none⟩ = some (.int .i64 dn) ∧ w'.cell? ⟨g, 5, none⟩ = some (.int .i64 cnt) ∧ w'.cell? ⟨g, 6, none⟩ = some (.int .i64 ct) ∧ w'.cell? ⟨g, 7, none⟩ = some (.bool true))
            (first | exact SR.six hSS.drew | exact SR.six (SR.drewN hSS _).drew | (go_split_ands; exact SR.six (SR.below' (by assumption) hb (by simp))))
            (first | (go_at_call 21; refine (HLS.out _).mono ?_; rintro e w' ⟨rfl, hb⟩))
          rename_i hH; have hS5 := hH.1; clear hH hb
          clear glt alt e3 e4 d5 d6 d7 b0 b1 b2 f5 f6 f7 g0 g1 g2
          obtain ⟨glt, alt, e3, e4, d5, d6, d7, b0, b1, b2, f5, f6, f7, g0, g1, g2⟩ := hS5.all
          go_wp2
          go_quiet (fail)
          have hS3 := SR.drewN hS5 nq
          clear glt alt e3 e4 d5 d6 d7 b0 b1 b2 f5 f6 f7 g0 g1 g2
          generalize World.drewN _ nq = W2 at hS3 ⊢
          obtain ⟨glt, alt, e3, e4, d5, d6, d7, b0, b1, b2, f5, f6, f7, g0, g1, g2⟩ := hS3.all
          have k0 := fun v u z => blk_cell (SR.box5 hS3 hne2 v u z) 0
          have k1 := fun v u z => blk_cell (SR.box5 hS3 hne2 v u z) 1
          have k2 := fun v u z => blk_cell (SR.box5 hS3 hne2 v u z) 2
          go_wp2
          refine bodyPost_ret (v := .tuple #[.agg #[.bool false, .int .i64 0, .int .i64 C], .int .i64 0]) ?_ rfl ?_
          · simp [results, Try.results15, go_sem, k0, k1, k2]
          · rw [HP.out, HF.out]
            refine ⟨rfl, IsR.far3 (IsR.set567 hS3.1 C t) hne2 _ _ _, ?_⟩
            have hgb := hS3.2.1
            repeat (first | (with_reducible exact hgb) | (with_reducible refine gb_set ?_ _ _ (.inr (by omega)) _) | (with_reducible refine gb_set ?_ _ _ (.inl rfl) _) | (with_reducible refine gb_drewN ?_ _) | (with_reducible refine gb_drew ?_) | (with_reducible refine gb_alloc ?_ _))
end Go.Proofs.Ytalefchapckcoaa.Rb
