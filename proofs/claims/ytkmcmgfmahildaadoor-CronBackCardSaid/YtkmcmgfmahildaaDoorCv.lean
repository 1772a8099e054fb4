/- The reference's Formed. -/
import Derived.Test.YtkmcmgfmahildaaDoorCf
import Derived.Test.YtkmcmgfmahildaaDoorOAx11
namespace Go.Proofs.YtkmcmgfmahildaaDoor.Cv
set_option linter.unusedVariables false
open Go.RowKit Go.Proofs.YtkmcmgfmahildaaDoorW.PrintWords Go.Proofs.YtkmcmgfmahildaaDoor.Laid Go.Proofs.YtkmcmgfmahildaaDoor.Ca Go.Proofs.YtkmcmgfmahildaaDoor.Cf Go.Proofs.YtkmcmgfmahildaaDoor.Blk2
open Go.Proofs.YtkmcmgfmahildaaDoor.Blk (below_then)

def hasB (s n : Int) : Bool := (OA.capstanref04_Has.f s n).getD false
theorem has_some (s n : Int) : OA.capstanref04_Has.f s n = some (hasB s n) := by
  unfold hasB OA.capstanref04_Has.f
  have : 0 ≤ IntKind.u64.wrap n := by simp only [IntKind.wrap_u64]; omega
  split
  · split
    · simp
    · rfl
  · rfl
/-- No number outside of lo to hi is in the set, from 64 - g on. -/
def rokI (s lo hi : Int) : Nat → Bool
  | 0 => true
  | g + 1 => if hasB s (63 - g : Nat) = true ∧ (((63 - g : Nat) : Int) < lo ∨ hi < ((63 - g : Nat) : Int)) then false else rokI s lo hi g
def rokU (a b c d e : Int) : Nat → Bool
  | 0 => true
  | g + 1 => if fld a b c d e (4 - g) = 0 then false else if rokI (fld a b c d e (4 - g)) (low (4 - g)) (high (4 - g)) 64 = false then false else rokU a b c d e g
def rformedB (a b c d e : Int) : Bool := rokU a b c d e 5
theorem cell40 {w : World} {g : Nat} {a b c d e : Int} (h : w.heap[g]? = some (.cells #[.int .u64 a, .int .u64 b, .int .u64 c, .int .u64 d, .int .u64 e] 40 (0, 0))) (k : Nat) (hk : k < 5) : w.cell? ⟨g, k, none⟩ = some (.int .u64 (fld a b c d e k)) := by
  rw [Blk.blk_cell h k]
  have : k = 0 ∨ k = 1 ∨ k = 2 ∨ k = 3 ∨ k = 4 := by omega
  rcases this with rfl | rfl | rfl | rfl | rfl <;> rfl
def C40 (a b c d e : Int) : Obj := .cells #[.int .u64 a, .int .u64 b, .int .u64 c, .int .u64 d, .int .u64 e] 40 (0, 0)
set_option maxHeartbeats 8000000 in
set_option maxRecDepth 100000 in
theorem rformed_any (a b c d e : Int) (w : World) :
    Calls Tryd.prog 16 #[.agg #[.int .u64 a, .int .u64 b, .int .u64 c, .int .u64 d, .int .u64 e]] w fun x w' => x = .returned (.bool (rformedB a b c d e)) ∧ Below w.heap.size w w' := by
  have HS := Lib.hid (fun W => rsets_any a b c d e W)
  obtain ⟨R, hR⟩ : ∃ R, rformedB a b c d e = R := ⟨_, rfl⟩
  rw [hR]
  have HR := Lib.hid hR; clear hR
  go_enter Tryd.func16, Tryd.ntmps16
  go_wp2_with (go_at_call 27; refine (HS.out _).mono ?_; rintro x w1 ⟨rfl, hb⟩)
  have HB1 := Lib.hid (below_then ((Below.refl _ _).alloc (Nat.le_refl _) _) hb (by simp)); clear hb
  go_loopg [4, 5] 5 (fun gf v4 v5 wx => ∃ k : Nat, v4 = .int .i64 k ∧ k + gf = 5 ∧ Hid (rokU a b c d e gf = R) ∧ Below w.heap.size w wx ∧ wx.heap[w1.heap.size]? = some (C40 a b c d e))
  case atStart => exact ⟨0, rfl, rfl, HR, HB1.out.alloc HB1.out.size _, Blk.blk_new _ _⟩
  case round =>
    clear HR
    obtain ⟨k, rfl, hk, hok, hbw, hblk⟩ := hrel
    have HBW := Lib.hid hbw; have HBLK := Lib.hid hblk; clear hbw hblk
    by_cases hlt : k < 5
    · have q9 : decide ((k : Int) < 5) = true := by simp; omega
      obtain ⟨g', rfl⟩ : ∃ g', gk = g' + 1 := ⟨gk - 1, by omega⟩
      have hok' := hok.out
      unfold rokU at hok'
      rw [show 4 - g' = k from by omega] at hok'
      have hcell := fun (W : World) (hW : W.heap[w1.heap.size]? = some (C40 a b c d e)) => cell40 hW k hlt
      have hlow := fun W => low.calls k (low k) W (by unfold low.f; rw [if_pos (by omega)]; rfl)
      have hhigh := fun W => high.calls k (high k) W (by unfold high.f; rw [if_pos (by omega)]; rfl)
      obtain ⟨s, hs⟩ : ∃ s, fld a b c d e k = s := ⟨_, rfl⟩
      obtain ⟨lo, hlo⟩ : ∃ lo, low k = lo := ⟨_, rfl⟩
      obtain ⟨hi, hhi⟩ : ∃ hi, high k = hi := ⟨_, rfl⟩
      rw [hs] at hok' hcell
      rw [hlo] at hok' hlow
      rw [hhi] at hok' hhigh
      have HO := Lib.hid hok'; have HC := Lib.hid hcell; have HLO := Lib.hid hlow; have HHI := Lib.hid hhigh
      clear hs hlo hhi hok hok' hcell hlow hhigh
      have c0 := HC.out _ HBLK.out
      by_cases h0 : s = 0
      · have q0 : (s == 0) = true := by simpa using h0
        have HR : Hid (R = false) := by have := HO.out; rw [if_pos h0] at this; exact Lib.hid this.symm
        clear h0 HO
        go_wp2
        go_ret
        exact ⟨by rw [HR.out]; rfl, HBW.out⟩
      · have q0 : (s == 0) = false := by simpa using h0
        have HO2 : Hid ((if rokI s lo hi 64 = false then false else rokU a b c d e g') = R) := by have := HO.out; rw [if_neg h0] at this; exact Lib.hid this
        clear h0 HO
        go_wp2
        obtain ⟨wo, hwo⟩ : ∃ wo : World, wo = wr := ⟨_, rfl⟩
        rw [← hwo] at HBW HBLK
        have HWO := Lib.hid hwo
        clear c0 hwo
        go_loopg [5] 64 (fun gi v5 wx => ∃ n : Nat, v5 = .int .i64 n ∧ n + gi = 64 ∧ Hid ((if rokI s lo hi gi = false then false else rokU a b c d e g') = R) ∧ Below w.heap.size w wx ∧ wx.heap[w1.heap.size]? = some (C40 a b c d e))
        case atStart => exact ⟨0, rfl, rfl, HO2, by rw [← HWO.out]; exact HBW.out, by rw [← HWO.out]; exact HBLK.out⟩
        case round =>
          clear HO2 HBW HBLK HWO
          obtain ⟨n, rfl, hn, hok, hbw, hblk⟩ := hrel
          have HBW := Lib.hid hbw; have HBLK := Lib.hid hblk; have HOK := hok; clear hbw hblk hok
          by_cases hnl : n < 64
          · obtain ⟨i', rfl⟩ : ∃ i', gk = i' + 1 := ⟨gk - 1, by omega⟩
            have hok' := HOK.out
            unfold rokI at hok'
            rw [show 63 - i' = n from by omega] at hok'
            have hhas := fun W => OA.capstanref04_Has.calls s n _ W (has_some s n)
            obtain ⟨B, hB⟩ : ∃ B, hasB s n = B := ⟨_, rfl⟩
            rw [hB] at hhas hok'
            have hhas := Lib.hid hhas
            have HO := Lib.hid hok'
            have c0 := HC.out _ HBLK.out
            clear hok' hB HOK
            cases B
            · have HO3 : Hid ((if rokI s lo hi i' = false then false else rokU a b c d e g') = R) := by have := HO.out; rw [← this]; exact Lib.hid (by simp)
              clear HO
              go_wp2_with (first | (go_at_call 30; refine (hhas.out _).mono ?_; rintro x W3 ⟨rfl, ⟨nd3, rfl⟩⟩) | (go_at_call 31; refine (HLO.out _).mono ?_; rintro x W4 ⟨rfl, ⟨nd4, rfl⟩⟩) | (go_at_call 32; refine (HHI.out _).mono ?_; rintro x W5 ⟨rfl, ⟨nd5, rfl⟩⟩))
              go_roundg i'
              case measure => omega
              case rel => exact ⟨n + 1, by go_num, by omega, HO3, by repeat (first | exact HBW.out | exact Blk.below_drewN HBW.out _ | refine Blk.below_drewN ?_ _), by repeat (first | exact HBLK.out | refine blk_drewN ?_ _)⟩
            · by_cases h1 : (n : Int) < lo
              · have HR : Hid (R = false) := by have := HO.out; rw [← this]; exact Lib.hid (by simp [h1])
                have q1 : decide ((n : Int) < lo) = true := by simpa using h1
                clear HO h1
                go_wp2_with (first | (go_at_call 30; refine (hhas.out _).mono ?_; rintro x W3 ⟨rfl, ⟨nd3, rfl⟩⟩) | (go_at_call 31; refine (HLO.out _).mono ?_; rintro x W4 ⟨rfl, ⟨nd4, rfl⟩⟩) | (go_at_call 32; refine (HHI.out _).mono ?_; rintro x W5 ⟨rfl, ⟨nd5, rfl⟩⟩))
                go_ret
                exact ⟨by rw [HR.out]; rfl, by repeat (first | exact HBW.out | refine Blk.below_drewN ?_ _)⟩
              · have q1 : decide ((n : Int) < lo) = false := by simp; omega
                by_cases h2 : hi < (n : Int)
                · have HR : Hid (R = false) := by have := HO.out; rw [← this]; exact Lib.hid (by simp [h2])
                  have q2 : decide (hi < (n : Int)) = true := by simpa using h2
                  clear HO h1 h2
                  go_wp2_with (first | (go_at_call 30; refine (hhas.out _).mono ?_; rintro x W3 ⟨rfl, ⟨nd3, rfl⟩⟩) | (go_at_call 31; refine (HLO.out _).mono ?_; rintro x W4 ⟨rfl, ⟨nd4, rfl⟩⟩) | (go_at_call 32; refine (HHI.out _).mono ?_; rintro x W5 ⟨rfl, ⟨nd5, rfl⟩⟩))
                  go_ret
                  exact ⟨by rw [HR.out]; rfl, by repeat (first | exact HBW.out | refine Blk.below_drewN ?_ _)⟩
                · have HO3 : Hid ((if rokI s lo hi i' = false then false else rokU a b c d e g') = R) := by have := HO.out; rw [← this]; exact Lib.hid (by simp [h1, h2])
                  have q2 : decide (hi < (n : Int)) = false := by simp; omega
                  clear HO h1 h2
                  go_wp2_with (first | (go_at_call 30; refine (hhas.out _).mono ?_; rintro x W3 ⟨rfl, ⟨nd3, rfl⟩⟩) | (go_at_call 31; refine (HLO.out _).mono ?_; rintro x W4 ⟨rfl, ⟨nd4, rfl⟩⟩) | (go_at_call 32; refine (HHI.out _).mono ?_; rintro x W5 ⟨rfl, ⟨nd5, rfl⟩⟩))
                  go_roundg i'
                  case measure => omega
                  case rel => exact ⟨n + 1, by go_num, by omega, HO3, by repeat (first | exact HBW.out | exact Blk.below_drewN HBW.out _ | refine Blk.below_drewN ?_ _), by repeat (first | exact HBLK.out | refine blk_drewN ?_ _)⟩
          · obtain rfl : gk = 0 := by omega
            have HO3 : Hid (rokU a b c d e g' = R) := by have := HOK.out; unfold rokI at this; exact Lib.hid (by simpa using this)
            clear HOK
            go_wp2
            go_roundg g'
            case measure => omega
            case rel => exact ⟨k + 1, by go_num, by omega, HO3, HBW.out, HBLK.out⟩
    · obtain rfl : gk = 0 := by omega
      have HR : Hid (R = true) := by have := hok.out; exact Lib.hid this.symm
      clear hok
      go_wp2
      go_ret
      exact ⟨by rw [HR.out]; rfl, HBW.out⟩
end Go.Proofs.YtkmcmgfmahildaaDoor.Cv
