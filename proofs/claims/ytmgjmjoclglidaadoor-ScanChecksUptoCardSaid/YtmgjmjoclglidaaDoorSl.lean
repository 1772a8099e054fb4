/- awake. -/
import Derived.Test.YtmgjmjoclglidaaDoorSw
namespace Go.Proofs.YtmgjmjoclglidaaDoor.Sl
set_option linter.unusedVariables false
open Go.RowKit Go.Proofs.YtmgjmjoclglidaaDoor.Blk Go.Proofs.YtmgjmjoclglidaaDoor.Blk2 Go.Proofs.YtmgjmjoclglidaaDoor.Laid Go.Proofs.YtmgjmjoclglidaaDoor.Sa Go.Proofs.YtmgjmjoclglidaaDoor.Sb Go.Proofs.YtmgjmjoclglidaaDoor.Sw

theorem chk_awake : chk 0 (pcs ⟨#[97, 195, 169]⟩ 3 0) = (2, 0, 0) := by decide +kernel
theorem whr_awake : whr ⟨#[195, 169, 10, 97, 98]⟩ 4 = (2, 2, 0) := by decide +kernel
set_option maxHeartbeats 2000000 in
theorem awake_any (w : World) (hL : Laid w) : Calls Tryd.prog 9 #[] w fun e w' => e = .returned (.bool true) ∧ Below w.heap.size w w' := by
  have HL := Lib.hid hL
  clear hL
  have h1 := fun W hW => check_any ⟨#[97, 195, 169]⟩ W (by decide) hW
  have h2 := fun W hW => where_any ⟨#[195, 169, 10, 97, 98]⟩ 4 W (by decide) hW
  rw [whr_awake] at h2
  have e1 : (ByteArray.mk #[97, 195, 169]).size = 3 := rfl
  rw [e1, chk_awake] at h1
  have H1 := Lib.hid h1; have H2 := Lib.hid h2
  clear h1 h2 e1
  go_enter Tryd.func9, Tryd.ntmps9
  go_wp2_with (first
    | (go_at_call 12; refine (H1.out _ HL.out).mono ?_; rintro e W' ⟨rfl, hb1⟩)
    | (go_at_call 10; refine (H2.out _ (HL.out.below hb1)).mono ?_; rintro e W'' ⟨rfl, hb2⟩))
  go_ret
  exact ⟨by simp, below_then hb1 hb2 hb1.size⟩
end Go.Proofs.YtmgjmjoclglidaaDoor.Sl
