/- The classes of runes; ScanClasses. -/
import Derived.Test.YtmgjmjoclglidaaDoorSl
import Derived.Test.YtmgjmjoclglidaaDoorPScanClassesx6
import Derived.Test.YtmgjmjoclglidaaDoorPScanClassesx7
import Derived.Test.YtmgjmjoclglidaaDoorArgScanClasses
import Derived.Deep.QuietTactic
import Derived.BigQuiet
namespace Go.Proofs.YtmgjmjoclglidaaDoor.Sk
set_option linter.unusedVariables false
open Go.RowKit Go.Proofs.YtmgjmjoclglidaaDoor.Blk Go.Proofs.YtmgjmjoclglidaaDoor.Blk2 Go.Proofs.YtmgjmjoclglidaaDoor.Laid Go.Proofs.YtmgjmjoclglidaaDoor.Sl

def letr (r : Int) : Bool := decide ((97 ≤ r ∧ r ≤ 122) ∨ (65 ≤ r ∧ r ≤ 90) ∨ r = 95 ∨ (192 ≤ r ∧ r ≤ 591 ∧ r ≠ 215 ∧ r ≠ 247))
def digt (r : Int) : Bool := decide (48 ≤ r ∧ r ≤ 57)
def spac (r : Int) : Bool := decide (r = 32 ∨ r = 9 ∨ r = 10 ∨ r = 13)
def isC (r c : Int) : Bool := if c = 1 then letr r else if c = 2 then digt r else if c = 3 then (letr r || digt r) else if c = 4 then spac r else false
theorem letter_f (r : Int) : PScanClasses.scan_letter.f r = some (letr r) := by
  unfold PScanClasses.scan_letter.f letr
  repeat' split
  all_goals (apply congrArg some; rw [Bool.eq_iff_iff]; simp; omega)
theorem digit_f (r : Int) : PScanClasses.scan_digit.f r = some (digt r) := by
  unfold PScanClasses.scan_digit.f digt
  repeat' split
  all_goals (apply congrArg some; rw [Bool.eq_iff_iff]; simp; omega)
theorem is_f (r c : Int) : PScanClasses.scan_Is.f r c = some (isC r c) := by
  unfold PScanClasses.scan_Is.f isC
  rw [letter_f, digit_f]
  simp only [Option.bind_some]
  split
  · rfl
  split
  · rfl
  split
  · cases letr r <;> simp
  split
  · unfold spac
    repeat' split
    all_goals (apply congrArg some; rw [Bool.eq_iff_iff]; simp; omega)
  · rfl
theorem ref_is_f (k : Nat) (r c : Int) : PScanClasses.capstanref09_Is.f (k + 3) r c = some (isC r c) := by
  have h2 : ∀ a b, a = letr r → b = digt r → PScanClasses.capstanref09_Is.j2 (k + 1) r c a b = some (isC r c) := by
    intro a b ha hb
    subst ha; subst hb
    rw [PScanClasses.capstanref09_Is.j2]; unfold isC
    split
    · rfl
    split
    · rfl
    split
    · cases letr r <;> simp
    split
    · unfold spac
      repeat' split
      all_goals (apply congrArg some; rw [Bool.eq_iff_iff]; simp; omega)
    · rfl
  have h1 : ∀ a, a = letr r → PScanClasses.capstanref09_Is.j1 (k + 2) r c a = some (isC r c) := by
    intro a ha
    rw [PScanClasses.capstanref09_Is.j1]
    split
    · exact h2 _ _ ha (by unfold digt; rw [Bool.eq_iff_iff]; simp; omega)
    · exact h2 _ _ ha (by unfold digt; rw [Bool.eq_iff_iff]; simp; omega)
  have h0 : ∀ a, a = decide ((97 ≤ r ∧ r ≤ 122) ∨ (65 ≤ r ∧ r ≤ 90) ∨ r = 95) → PScanClasses.capstanref09_Is.j0 (k + 3) r c a = some (isC r c) := by
    intro a ha
    rw [PScanClasses.capstanref09_Is.j0]
    repeat' split
    all_goals (refine h1 _ ?_; subst ha; simp at *; unfold letr; rw [Bool.eq_iff_iff]; simp; omega)
  unfold PScanClasses.capstanref09_Is.f
  repeat' split
  all_goals (refine h0 _ ?_; rw [Bool.eq_iff_iff]; simp; omega)
theorem is_any (r c : Int) (w : World) : Calls Tryd.prog 15 #[.int .i32 r, .int .i64 c] w fun e w' => e = .returned (.bool (isC r c)) ∧ ∃ n, w' = w.drewN n :=
  (PScanClasses.scan_Is.calls r c _ w (is_f r c)).mono fun _ _ ⟨h1, h2⟩ => ⟨h1, h2.out⟩
theorem ref_is_any (r c : Int) (w : World) : Calls Tryd.prog 16 #[.int .i64 r, .int .i64 c] w fun e w' => e = .returned (.bool (isC r c)) ∧ ∃ n, w' = w.drewN n :=
  (PScanClasses.capstanref09_Is.calls 3 r c _ w (ref_is_f 0 r c)).mono fun _ _ ⟨h1, h2⟩ => ⟨h1, h2.out⟩
set_option maxHeartbeats 4000000 in
set_option maxRecDepth 100000 in
theorem walk (r c : Int) (w : World) (hL : Laid w) (hr : -2147483648 ≤ r ∧ r ≤ 2147483647) : Calls Tryd.prog 6 #[.int .i32 r, .int .i64 c] w fun e w' => e = .returned (.bool true) ∧ Below w.heap.size w w' := by
  have HL := Lib.hid hL
  clear hL
  obtain ⟨r1, r2⟩ := hr
  go_enter Tryd.func6, Tryd.ntmps6
  go_wp2_with fail
  refine (awake_any _ HL.out).mono ?_
  rintro e w1 ⟨rfl, hb⟩
  have HB := Lib.hid hb; clear hb
  go_wp2_with fail
  go_loopw [5] (fun v5 wr => ∃ k : Int, v5 = .int .i64 k ∧ 0 ≤ k ∧ k ≤ 6 ∧ Below w.heap.size w wr) (fun v5 _ => (6 - intOf v5).toNat)
  case atStart => exact ⟨0, rfl, by omega, by omega, HB.out⟩
  case round =>
    obtain ⟨k, rfl, k0, k1, hb⟩ := hrel
    have HB1 := Lib.hid hb
    clear hb
    by_cases hk : k ≤ 5
    · go_wp2_with (first | (go_at_call 15; refine (is_any r k _).mono ?_; rintro e W1 ⟨rfl, q1, rfl⟩) | (go_at_call 16; refine (ref_is_any r k _).mono ?_; rintro e W2 ⟨rfl, q2, rfl⟩))
      go_roundw
      case rel => exact ⟨k + 1, by go_num, by omega, by omega, by first | exact Blk.below_drewN HB1.out _ | exact Blk.below_drewN (Blk.below_drewN HB1.out _) _⟩
      case measure => simp [intOf]; omega
    · go_wp2_with (first | (go_at_call 15; refine (is_any r c _).mono ?_; rintro e W1 ⟨rfl, q1, rfl⟩) | (go_at_call 16; refine (ref_is_any r c _).mono ?_; rintro e W2 ⟨rfl, q2, rfl⟩))
      go_ret
      exact ⟨by simp, by first | exact Blk.below_drewN HB1.out _ | exact Blk.below_drewN (Blk.below_drewN HB1.out _) _⟩
theorem walkClasses : ArgScanClasses.Walk := fun r c w hL hr _ => walk r c w hL (bounds_i32 hr)
end Go.Proofs.YtmgjmjoclglidaaDoor.Sk
