/- capstanref09.Run; ScanRuns. -/
import Derived.Test.YtmgjmjoclglidaaDoorSr
import Derived.Test.YtmgjmjoclglidaaDoorSqRuns
import Derived.Test.YtmgjmjoclglidaaDoorPScanRunsx8
import Derived.Test.YtmgjmjoclglidaaDoorPScanRunsx10
import Derived.Test.YtmgjmjoclglidaaDoorArgScanRuns
namespace Go.Proofs.YtmgjmjoclglidaaDoor.Sr2
set_option linter.unusedVariables false
open Go.RowKit Go.Proofs.YtmgjmjoclglidaaDoor.Blk Go.Proofs.YtmgjmjoclglidaaDoor.Blk2 Go.Proofs.YtmgjmjoclglidaaDoor.Laid Go.Proofs.YtmgjmjoclglidaaDoor.Sa Go.Proofs.YtmgjmjoclglidaaDoor.Sb Go.Proofs.YtmgjmjoclglidaaDoor.Sk Go.Proofs.YtmgjmjoclglidaaDoor.Sr Go.Proofs.YtmgjmjoclglidaaDoor.Sl Go.Proofs.YtmgjmjoclglidaaDoor.SqRuns

theorem ref_is_f (k : Nat) (r c : Int) : PScanRuns.capstanref09_Is.f (k + 3) r c = some (isC r c) := by
  have h2 : ∀ a b, a = letr r → b = digt r → PScanRuns.capstanref09_Is.j2 (k + 1) r c a b = some (isC r c) := by
    intro a b ha hb
    subst ha; subst hb
    rw [PScanRuns.capstanref09_Is.j2]; unfold isC
    split
    · rfl
    split
    · rfl
    split
    · cases letr r <;> simp
    split
    · unfold spac
      repeat' split
      all_goals (apply congrArg some; rw [Bool.eq_iff_iff]; simp; omega)
    · rfl
  have h1 : ∀ a, a = letr r → PScanRuns.capstanref09_Is.j1 (k + 2) r c a = some (isC r c) := by
    intro a ha
    rw [PScanRuns.capstanref09_Is.j1]
    split
    · exact h2 _ _ ha (by unfold digt; rw [Bool.eq_iff_iff]; simp; omega)
    · exact h2 _ _ ha (by unfold digt; rw [Bool.eq_iff_iff]; simp; omega)
  have h0 : ∀ a, a = decide ((97 ≤ r ∧ r ≤ 122) ∨ (65 ≤ r ∧ r ≤ 90) ∨ r = 95) → PScanRuns.capstanref09_Is.j0 (k + 3) r c a = some (isC r c) := by
    intro a ha
    rw [PScanRuns.capstanref09_Is.j0]
    repeat' split
    all_goals (refine h1 _ ?_; subst ha; simp at *; unfold letr; rw [Bool.eq_iff_iff]; simp; omega)
  unfold PScanRuns.capstanref09_Is.f
  repeat' split
  all_goals (refine h0 _ ?_; rw [Bool.eq_iff_iff]; simp; omega)
theorem bad_class (c : Int) : isC 65533 c = false := by
  unfold isC
  have a : letr 65533 = false := by decide
  have b : digt 65533 = false := by decide
  have d : spac 65533 = false := by decide
  rw [a, b, d]; simp
theorem l0_tells (s : ByteArray) (c : Int) (hs : s.size ≤ 4611686018427387904) : ∀ (n pos : Nat), s.size ≤ pos + n → pos ≤ s.size → PScanRuns.capstanref09_Run.l0 (n + 9) s pos c = some (runP s c n pos)
  | 0, pos, h, h' => by rw [PScanRuns.capstanref09_Run.l0, if_neg (by omega)]; unfold runP; rw [show pos = s.size from by omega]
  | n + 1, pos, h, h' => by
    rw [show n + 1 + 9 = (n + 3 + 6) + 1 from by omega, PScanRuns.capstanref09_Run.l0]
    unfold runP
    by_cases hp : pos < s.size
    · rw [if_pos (by omega), if_pos hp, seq_f (n + 3) s pos hp hs]
      simp only [Option.bind_some]
      have hwd := Lib.width_pos s pos
      have hK4 : (Utf8.decode s pos).2 ≤ s.size - pos := by
        have h1 := Lib.decodeGo_le_size (s.extract pos s.size)
        rw [decodeGo_tail s pos hp, Lib.tail_size] at h1; omega
      unfold res
      by_cases hb : (Utf8.decode s pos).1 = 65533 ∧ (Utf8.decode s pos).2 = 1
      · rw [if_pos hb, if_pos rfl, hb.1]
        rw [if_neg (by rw [show ((65533 : Nat) : Int) = 65533 from rfl, bad_class]; simp)]
      · rw [if_neg hb, if_neg (by simp; omega), show n + 3 + 6 = (n + 6) + 3 from by omega, ref_is_f]
        simp only [Option.bind_some]
        by_cases hc : isC (Utf8.decode s pos).1 c = true
        · rw [if_pos hc, if_pos hc, w64 (by omega) (by omega), show n + 6 + 3 = n + 9 from by omega]
          have := l0_tells s c hs n (pos + (Utf8.decode s pos).2) (by omega) (by omega)
          rw [← this]; simp
        · rw [if_neg hc, if_neg hc]
    · rw [if_neg (by omega), if_neg hp]
      rw [show pos = s.size from by omega]
theorem ref_run_f (s : ByteArray) (a c : Int) (hs : s.size ≤ 4611686018427387904) : PScanRuns.capstanref09_Run.f (s.size + 10) s a c = some (runR s a c) := by
  unfold PScanRuns.capstanref09_Run.f runR
  by_cases h0 : a < 0
  · rw [if_pos h0, if_pos (.inl h0), PScanRuns.capstanref09_Run.j0, if_pos rfl]
  rw [if_neg h0, PScanRuns.capstanref09_Run.j0]
  by_cases h1 : a > (s.size : Int)
  · rw [if_pos (by simpa using h1), if_pos (.inr h1)]
  · rw [if_neg (by simpa using h1), if_neg (by omega)]
    have := l0_tells s c hs s.size a.toNat (by omega) (by omega)
    rw [show ((a.toNat : Nat) : Int) = a from by omega] at this
    exact this
theorem ref_run_any (s : ByteArray) (a c : Int) (w : World) (hs : s.size ≤ 4611686018427387904) : Calls Tryd.prog 18 #[.string s, .int .i64 a, .int .i64 c] w fun e w' => e = .returned (.int .i64 (runR s a c)) ∧ ∃ n, w' = w.drewN n :=
  (PScanRuns.capstanref09_Run.calls _ s a c _ w (ref_run_f s a c hs)).mono fun _ _ ⟨h1, h2⟩ => ⟨h1, h2.out⟩
set_option maxHeartbeats 4000000 in
set_option maxRecDepth 100000 in
theorem walk (s : ByteArray) (a c : Int) (w : World) (hs : s.size ≤ 4611686018427387904) (hL : Laid w) : Calls Tryd.prog 7 #[.string s, .int .i64 a, .int .i64 c] w fun e w' => e = .returned (.bool true) ∧ Below w.heap.size w w' := by
  have HL := Lib.hid hL
  clear hL
  have H1 := Lib.hid (fun c W => run_any s a c W hs)
  have H2 := Lib.hid (fun c W => ref_run_any s a c W hs)
  go_enter Tryd.func7, Tryd.ntmps7
  go_wp2_with fail
  refine (awake_any _ HL.out).mono ?_
  rintro e w1 ⟨rfl, hb⟩
  have HB := Lib.hid hb; clear hb
  go_wp2_with fail
  refine (H1.out _ _).mono ?_
  rintro e w2 ⟨rfl, hb⟩
  have HB2 := Lib.hid (below_then HB.out hb HB.out.size); clear hb
  go_wp2_with fail
  refine (H2.out _ _).mono ?_
  rintro e w3 ⟨rfl, q3, rfl⟩
  have HB3 := Lib.hid (Blk.below_drewN HB2.out q3)
  go_wp2_with fail
  refine (H1.out _ _).mono ?_
  rintro e w4 ⟨rfl, hb⟩
  have HB4 := Lib.hid (below_then HB3.out hb HB3.out.size); clear hb
  go_wp2_with fail
  refine (H2.out _ _).mono ?_
  rintro e w5 ⟨rfl, q5, rfl⟩
  go_wp2
  go_ret
  exact ⟨by simp, Blk.below_drewN HB4.out q5⟩
theorem walkRuns : ArgScanRuns.Walk := fun s a c w hL hs _ _ => walk s a c w (by omega) hL
end Go.Proofs.YtmgjmjoclglidaaDoor.Sr2
