/- cron.Formed: whether all five fields are of a schedule. -/
import Derived.Test.YtkmcmgfmahildaaDoorCa
import Derived.Deep.LoopGhost
import Derived.Deep.DeepCutAuto
namespace Go.Proofs.YtkmcmgfmahildaaDoor.Cf
set_option linter.unusedVariables false
open Go.RowKit Go.Proofs.YtkmcmgfmahildaaDoorW.PrintWords Go.Proofs.YtkmcmgfmahildaaDoor.Laid Go.Proofs.YtkmcmgfmahildaaDoor.Ca Go.Proofs.YtkmcmgfmahildaaDoor.Blk2
open Go.Proofs.YtkmcmgfmahildaaDoor.Blk (below_then)

theorem sets_any (a b c d e : Int) (w : World) : Calls Tryd.prog 25 #[.agg #[.int .u64 a, .int .u64 b, .int .u64 c, .int .u64 d, .int .u64 e]] w fun x w' => x = .returned (.agg #[.int .u64 a, .int .u64 b, .int .u64 c, .int .u64 d, .int .u64 e]) ∧ Below w.heap.size w w' := by
  go_enter Tryd.func25, Tryd.ntmps25
  go_wp2
  go_returns
  exact ⟨rfl, ((Below.refl _ _).alloc (Nat.le_refl _) _).alloc (by simp) _⟩
theorem rsets_any (a b c d e : Int) (w : World) : Calls Tryd.prog 27 #[.agg #[.int .u64 a, .int .u64 b, .int .u64 c, .int .u64 d, .int .u64 e]] w fun x w' => x = .returned (.agg #[.int .u64 a, .int .u64 b, .int .u64 c, .int .u64 d, .int .u64 e]) ∧ Below w.heap.size w w' := by
  go_enter Tryd.func27, Tryd.ntmps27
  go_wp2
  go_returns
  exact ⟨rfl, ((Below.refl _ _).alloc (Nat.le_refl _) _).alloc (by simp) _⟩
/-- The fields of a schedule. -/
def fld (a b c d e : Int) (i : Nat) : Int := if i = 0 then a else if i = 1 then b else if i = 2 then c else if i = 3 then d else e
def okf (s A : Int) : Bool := !(s == 0) && (bits BinOp.andNot IntKind.u64 s A == 0)
def okU (a b c d e : Int) : Nat → Bool
  | 0 => true
  | n + 1 => okf (fld a b c d e (4 - n)) (allv (4 - n)) && okU a b c d e n
def formedB (a b c d e : Int) : Bool := okU a b c d e 5
theorem index40 (a b c d e : Int) (i : Nat) (hi : i < 5) (W : World) : (Instr.index 40 (.agg #[.int .u64 a, .int .u64 b, .int .u64 c, .int .u64 d, .int .u64 e]) (.int .i64 i)).run Tryd.prog W = .ok (.int .u64 (fld a b c d e i)) W := by
  have h0 : (Instr.index 40 (.agg #[.int .u64 a, .int .u64 b, .int .u64 c, .int .u64 d, .int .u64 e]) (.int .i64 0)).run Tryd.prog W = .ok (.int .u64 a) W := by kernel_rfl
  have h1 : (Instr.index 40 (.agg #[.int .u64 a, .int .u64 b, .int .u64 c, .int .u64 d, .int .u64 e]) (.int .i64 1)).run Tryd.prog W = .ok (.int .u64 b) W := by kernel_rfl
  have h2 : (Instr.index 40 (.agg #[.int .u64 a, .int .u64 b, .int .u64 c, .int .u64 d, .int .u64 e]) (.int .i64 2)).run Tryd.prog W = .ok (.int .u64 c) W := by kernel_rfl
  have h3 : (Instr.index 40 (.agg #[.int .u64 a, .int .u64 b, .int .u64 c, .int .u64 d, .int .u64 e]) (.int .i64 3)).run Tryd.prog W = .ok (.int .u64 d) W := by kernel_rfl
  have h4 : (Instr.index 40 (.agg #[.int .u64 a, .int .u64 b, .int .u64 c, .int .u64 d, .int .u64 e]) (.int .i64 4)).run Tryd.prog W = .ok (.int .u64 e) W := by kernel_rfl
  have : i = 0 ∨ i = 1 ∨ i = 2 ∨ i = 3 ∨ i = 4 := by omega
  rcases this with rfl | rfl | rfl | rfl | rfl
  · exact h0
  · exact h1
  · exact h2
  · exact h3
  · exact h4
set_option maxHeartbeats 4000000 in
set_option maxRecDepth 100000 in
theorem formed_any (a b c d e : Int) (w : World) (hL : Laid w) :
    Calls Tryd.prog 15 #[.agg #[.int .u64 a, .int .u64 b, .int .u64 c, .int .u64 d, .int .u64 e]] w fun x w' => x = .returned (.bool (formedB a b c d e)) ∧ Below w.heap.size w w' := by
  have HL := Lib.hid hL; clear hL
  have HS := Lib.hid (fun W => sets_any a b c d e W)
  obtain ⟨R, hR⟩ : ∃ R, formedB a b c d e = R := ⟨_, rfl⟩
  rw [hR]
  have HR := Lib.hid hR; clear hR
  go_enter Tryd.func15, Tryd.ntmps15
  go_wp2_with (go_at_call 25; refine (HS.out _).mono ?_; rintro x w1 ⟨rfl, hb⟩)
  have hb1 := below_then ((Below.refl _ _).alloc (Nat.le_refl _) _) hb (by simp)
  have HB1 := Lib.hid hb1; clear hb hb1
  go_loopg [7] 5 (fun gf v7 wx => ∃ k : Nat, v7 = .int .i64 k ∧ k + gf = 5 ∧ Hid (okU a b c d e gf = R) ∧ Below w.heap.size w wx)
  case atStart => exact ⟨0, rfl, rfl, HR, HB1.out⟩
  case round =>
    clear HR
    obtain ⟨k, rfl, hk, hok, hbw⟩ := hrel
    have HBW := Lib.hid hbw; clear hbw
    by_cases hlt : k < 5
    · obtain ⟨g', rfl⟩ : ∃ g', gk = g' + 1 := ⟨gk - 1, by omega⟩
      have hix := fun W => index40 a b c d e k hlt W
      have hall := Lib.hid (fun W => all_any k hlt W)
      have hok' := hok.out
      unfold okU at hok'
      rw [show 4 - g' = k from by omega] at hok'
      obtain ⟨s, hs⟩ : ∃ s, fld a b c d e k = s := ⟨_, rfl⟩
      obtain ⟨A, hA⟩ : ∃ A, allv k = A := ⟨_, rfl⟩
      rw [hs] at hix hok'
      rw [hA] at hall hok'
      have hl := HL.out.below HBW.out
      have c0 := (hl.2 k hlt).1
      have c1 := (hl.2 k hlt).2
      rw [Nat.mul_comm] at c0 c1
      have HO := Lib.hid hok'
      obtain ⟨lo, hlo⟩ : ∃ lo, low k = lo := ⟨_, rfl⟩
      obtain ⟨hi, hhi⟩ : ∃ hi, high k = hi := ⟨_, rfl⟩
      rw [hlo] at c0 hall
      rw [hhi] at c1 hall
      clear hs hA hl hok hok' hlo hhi
      by_cases h0 : s = 0
      · have q0 : (s == 0) = true := by simpa using h0
        have HR : Hid (R = false) := by have := HO.out; rw [← this]; exact Lib.hid (by simp [okf, h0])
        clear h0 HO
        go_wp2
        go_ret
        exact ⟨by rw [HR.out]; rfl, HBW.out⟩
      · have q0 : (s == 0) = false := by simpa using h0
        have HO2 : Hid ((bits BinOp.andNot IntKind.u64 s A == 0 && okU a b c d e g') = R) := by have := HO.out; unfold okf at this; rw [q0] at this; exact Lib.hid (by simpa using this)
        clear h0 HO
        obtain ⟨B, hB⟩ : ∃ B, bits BinOp.andNot IntKind.u64 s A = B := ⟨_, rfl⟩
        rw [hB] at HO2
        by_cases h1 : B = 0
        · have q1 : (B != 0) = false := by simp [h1]
          have HO3 : Hid (okU a b c d e g' = R) := by have := HO2.out; exact Lib.hid (by simpa [h1] using this)
          clear h1 HO2
          go_wp2_with (go_at_call 29; refine (hall.out _).mono ?_; rintro x w2 ⟨rfl, hb2⟩; have HB2 := Lib.hid hb2; clear hb2)
          go_roundg g'
          case measure => omega
          case rel => exact ⟨k + 1, by go_num, by omega, HO3, below_then HBW.out HB2.out HBW.out.size⟩
        · have q1 : (B != 0) = true := by simpa using h1
          have HR : Hid (R = false) := by have := HO2.out; exact Lib.hid (by rw [← this]; simp [h1])
          clear h1 HO2
          go_wp2_with (go_at_call 29; refine (hall.out _).mono ?_; rintro x w2 ⟨rfl, hb2⟩; have HB2 := Lib.hid hb2; clear hb2)
          go_ret
          exact ⟨by rw [HR.out]; rfl, below_then HBW.out HB2.out HBW.out.size⟩
    · obtain rfl : gk = 0 := by omega
      have HR : Hid (R = true) := by have := hok.out; exact Lib.hid this.symm
      clear hok
      go_wp2
      go_ret
      exact ⟨by rw [HR.out]; rfl, HBW.out⟩
end Go.Proofs.YtkmcmgfmahildaaDoor.Cf
