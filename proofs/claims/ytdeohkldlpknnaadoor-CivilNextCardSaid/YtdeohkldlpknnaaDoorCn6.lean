/- The walk of capstanlaw03.next, way by way. -/
import Derived.Test.YtdeohkldlpknnaaDoorCm
import Derived.Deep.QuietTactic
import Derived.BigQuiet
namespace Go.Proofs.YtdeohkldlpknnaaDoor.Cn6
set_option linter.unusedVariables false
open Go.RowKit Go.Proofs.YtdeohkldlpknnaaDoor.Blk Go.Proofs.YtdeohkldlpknnaaDoor.Blk2 Go.Proofs.YtdeohkldlpknnaaDoor.CivP Go.Proofs.YtdeohkldlpknnaaDoor.Cw Go.Proofs.YtdeohkldlpknnaaDoor.Co Go.Proofs.YtdeohkldlpknnaaDoor.Cs Go.Proofs.YtdeohkldlpknnaaDoor.Laid

set_option maxHeartbeats 40000000 in
set_option maxRecDepth 100000 in
theorem n6 (y d h mi s wk : Int) (w : World) (hL : Laid w) (hy1 : -300000000000 ≤ y) (hy2 : y ≤ 300000000000) (d1 : 1 ≤ d) (d2 : d ≤ 31) (h1 : 0 ≤ h) (h2 : h ≤ 23) (mi1 : 0 ≤ mi) (mi2 : mi ≤ 59) (s1 : 0 ≤ s) (s2 : s ≤ 59) (k1 : 0 ≤ wk) (k2 : wk ≤ 6) (q1 : ¬ s + 1 < 60) (q2 : ¬ mi + 1 < 60) (q3 : ¬ h + 1 < 24) (q4 : ¬ d + 1 ≤ dim y 12)  :
    Calls Tryd.prog 18 #[.agg #[.int .i64 y, .int .i64 12, .int .i64 d, .int .i64 h, .int .i64 mi, .int .i64 s, .int .i64 wk]] w fun e w' => e = .returned (.agg #[.int .i64 (y + 1), .int .i64 1, .int .i64 1, .int .i64 0, .int .i64 0, .int .i64 0, .int .i64 ((wk + 1) % 7)]) ∧ Below w.heap.size w w' := by
  have HL : Hid (∀ W, Below w.heap.size w W → Laid W) := fun W hW => hL.below hW
  have hdm := dim_pos y 12 (by omega) (by omega)
  obtain ⟨hdm1, hdm2⟩ := hdm
  clear hL
  go_enter Tryd.func18, Tryd.ntmps18
  go_wp2_with fail
  go_quiet ((go_at_call 16; exact Calls.quiet_of (days_any y 12 _ (HL.out _ (by repeat' (first | (with_reducible exact Below.refl _ _) | (with_reducible refine Below.alloc ?_ ?_ _) | (with_reducible refine Below.setCell ?_ ?_ _) | (with_reducible refine below_drewN ?_ _) | (simp; done) | (simp; omega)))))))
  have hc : ∀ a b : Obj, ((w.alloc a).alloc b).drewN nq = ((w.drewN nq).alloc a).alloc b := fun _ _ => rfl
  have hs : w.heap.size = (w.drewN nq).heap.size := rfl
  have HB : Hid (Below w.heap.size w (w.drewN nq)) := below_drewN (Below.refl _ _) _
  have HS : Hid (w.heap.size = (w.drewN nq).heap.size) := rfl
  rw [hc, hs, show decide (d + 1 ≤ dim y 12) = false from by simp; omega]
  clear hc hs HL q4
  obtain ⟨W0, hW0⟩ : ∃ W0, W0 = w.drewN nq := ⟨_, rfl⟩
  rw [← hW0] at HS HB ⊢
  clear hW0
  go_wp2
  go_returns
  refine ⟨rfl, ?_⟩
  have hs := HS.out
  repeat' (first | exact HB.out | omega | (with_reducible refine Below.alloc ?_ ?_ _) | (with_reducible refine Below.setCell ?_ ?_ _) | (with_reducible refine below_drewN ?_ _) | (simp; done) | (simp; omega))
end Go.Proofs.YtdeohkldlpknnaaDoor.Cn6
