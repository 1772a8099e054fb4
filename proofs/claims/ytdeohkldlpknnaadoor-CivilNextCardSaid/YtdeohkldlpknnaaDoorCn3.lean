/- The walk of CivilNext. -/
import Derived.Test.YtdeohkldlpknnaaDoorCn2
import Derived.Test.YtdeohkldlpknnaaDoorArgCivilNext
import Derived.OpenShut
import Derived.Deep.RegionHeld3
namespace Go.Proofs.YtdeohkldlpknnaaDoor.Cn3
set_option linter.unusedVariables false
open Go.RowKit Go.Proofs.YtdeohkldlpknnaaDoor.Blk Go.Proofs.YtdeohkldlpknnaaDoor.Blk2 Go.Proofs.YtdeohkldlpknnaaDoor.CivP Go.Proofs.YtdeohkldlpknnaaDoor.Cw Go.Proofs.YtdeohkldlpknnaaDoor.Co Go.Proofs.YtdeohkldlpknnaaDoor.Cl Go.Proofs.YtdeohkldlpknnaaDoor.Cs Go.Proofs.YtdeohkldlpknnaaDoor.Laid Go.Proofs.YtdeohkldlpknnaaDoor.Cn2

/-- What stands while the date of the next second is asked. -/
def SC (w0 : World) (b : Nat) (y m d h mi s k : Int) (W : World) : Prop := Below w0.heap.size w0 W ∧ W.heap[b]? = some (.cells #[.int .i64 y, .int .i64 m, .int .i64 d, .int .i64 h, .int .i64 mi, .int .i64 s, .int .i64 k] 24)
theorem SC.drew {w0 : World} {b : Nat} {y m d h mi s k : Int} {W : World} (h0 : SC w0 b y m d h mi s k W) : SC w0 b y m d h mi s k W.drew := ⟨below_drewN h0.1 1, h0.2⟩
theorem SC.call {w0 : World} {b : Nat} {y m d h mi s k : Int} {W W' : World} (h0 : SC w0 b y m d h mi s k W) (hb : Below W.heap.size W W') : SC w0 b y m d h mi s k W' := ⟨below_then h0.1 hb h0.1.size, blk_call h0.2 hb⟩
theorem SC.all {w0 : World} {b : Nat} {y m d h mi s k : Int} {W : World} (h0 : SC w0 b y m d h mi s k W) : SC w0 b y m d h mi s k W ∧ W.cell? ⟨b, 0, none⟩ = some (.int .i64 y) ∧ W.cell? ⟨b, 1, none⟩ = some (.int .i64 m) ∧ W.cell? ⟨b, 2, none⟩ = some (.int .i64 d) ∧ W.cell? ⟨b, 3, none⟩ = some (.int .i64 h) ∧ W.cell? ⟨b, 4, none⟩ = some (.int .i64 mi) ∧ W.cell? ⟨b, 5, none⟩ = some (.int .i64 s) ∧ W.cell? ⟨b, 6, none⟩ = some (.int .i64 k) :=
  ⟨h0, by simpa using blk_cell h0.2 0, by simpa using blk_cell h0.2 1, by simpa using blk_cell h0.2 2, by simpa using blk_cell h0.2 3, by simpa using blk_cell h0.2 4, by simpa using blk_cell h0.2 5, by simpa using blk_cell h0.2 6⟩
set_option maxHeartbeats 4000000 in
set_option maxRecDepth 100000 in
theorem walk (t : Int) (w : World) (hL : Laid w) (ht : -9223372036854775808 ≤ t ∧ t ≤ 9223372036854775807) :
    Calls Tryd.prog 7 #[.int .i64 t] w fun e w' => e = .returned (.bool true) ∧ Below w.heap.size w w' := by
  have HL := Lib.hid hL; have HT := Lib.hid ht
  obtain ⟨t1, t2⟩ := ht
  clear hL
  go_enter Tryd.func7, Tryd.ntmps7
  go_wp2_with fail
  refine (awake_any _ HL.out).mono ?_
  rintro e w1 ⟨rfl, hb⟩
  have HB := Lib.hid hb; clear hb
  go_wp2_with fail
  refine (of_any t _ HT.out).mono ?_
  rintro e w2 ⟨y, m, d, rfl, hv, hn, hb2⟩
  have HB2 := Lib.hid (below_then HB.out hb2 HB.out.size)
  have HNX : Hid (∀ W, Laid W → Calls Tryd.prog 18 _ W (NextPost t W)) := fun W hW => next_any t y m d W hW HT.out hv hn
  have HV := Lib.hid hv
  obtain ⟨v1, v2, v3, v4⟩ := hv
  have b0 : decide (m < 1) = false := by simp; omega
  have b1 : decide (12 < m) = false := by simp; omega
  have b2 : decide (d < 1) = false := by simp; omega
  have b3 : decide (dim y m < d) = false := by simp; omega
  obtain ⟨k, hk⟩ : ∃ k, k = (t / 86400 + 4) % 7 := ⟨_, rfl⟩
  have b4 : decide (k < 0) = false := by simp; omega
  have b5 : decide (6 < k) = false := by simp; omega
  rw [← hk] at HNX ⊢
  clear hn hb2 v1 v2 v3 v4 hk
  have HD : Hid (∀ o n, Laid ((w2.alloc o).drewN n)) := fun o n => HL.out.below (below_drewN (HB2.out.alloc HB2.out.size _) n)
  have HD0 : Hid (∀ o, Laid (w2.alloc o)) := fun o => HL.out.below (HB2.out.alloc HB2.out.size _)
  go_wp2_with fail
  go_quiet ((go_at_call 16; exact Calls.quiet_of (days_any y m _ (by first | exact HD.out _ _ | exact HD0.out _))))
  by_cases hmax : t = 9223372036854775807
  · have hm0 : (t == 9223372036854775807) = true := by simpa using hmax
    have hm1 : decide (t = 9223372036854775807) = true := by simpa using hmax
    clear hmax b0 b1 b2 b3 b4 b5 HD HD0 t1 t2
    go_wp2_with fail
    go_quiet (fail)
    go_wp2
    go_ret
    refine ⟨by simp [hm0], ?_⟩
    simp
    exact below_drewN (HB2.out.alloc HB2.out.size _) _
  · have HT1 : Hid (-9223372036854775808 ≤ t + 1 ∧ t + 1 ≤ 9223372036854775807) := by
      show _ ∧ _
      omega
    have hw : IntKind.i64.wrap (t + 1) = t + 1 := by rw [IntKind.wrap_i64]; omega
    have hm0 : (t == 9223372036854775807) = false := by simpa using hmax
    have hS : SC w w2.heap.size y m d (t % 86400 / 3600) (t % 86400 / 60 % 60) (t % 60) k ((w2.alloc (.cells #[.int .i64 y, .int .i64 m, .int .i64 d, .int .i64 (t % 86400 / 3600), .int .i64 (t % 86400 / 60 % 60), .int .i64 (t % 60), .int .i64 k] 24)).drewN nq) :=
      ⟨below_drewN (HB2.out.alloc HB2.out.size _) _, blk_drewN (blk_new _ _) _⟩
    clear b0 b1 b2 b3 b4 b5 HD HD0 t1 t2
    go_wp2_with fail
    generalize ((w2.alloc (Obj.cells #[.int .i64 y, .int .i64 m, .int .i64 d, .int .i64 (t % 86400 / 3600), .int .i64 (t % 86400 / 60 % 60), .int .i64 (t % 60), .int .i64 k] 24)).drewN nq) = WR at hS ⊢
    go_region_held3 (fun W => SC w w2.heap.size y m d (t % 86400 / 3600) (t % 86400 / 60 % 60) (t % 60) k W ∧ W.cell? ⟨w2.heap.size, 0, none⟩ = some (.int .i64 y) ∧ W.cell? ⟨w2.heap.size, 1, none⟩ = some (.int .i64 m) ∧ W.cell? ⟨w2.heap.size, 2, none⟩ = some (.int .i64 d) ∧ W.cell? ⟨w2.heap.size, 3, none⟩ = some (.int .i64 (t % 86400 / 3600)) ∧ W.cell? ⟨w2.heap.size, 4, none⟩ = some (.int .i64 (t % 86400 / 60 % 60)) ∧ W.cell? ⟨w2.heap.size, 5, none⟩ = some (.int .i64 (t % 60)) ∧ W.cell? ⟨w2.heap.size, 6, none⟩ = some (.int .i64 k))
      (first | exact SC.all hS.drew | exact SC.all hS4 | exact SC.all hS5)
      (first
        | (go_at_call 10; refine (of_any (t + 1) _ HT1.out).mono ?_; rintro e w4 ⟨y4, m4, d4, rfl, hv4, hn4, hb4⟩; have hS4 := hS.drew.call hb4)
        | (go_at_call 18; refine (HNX.out _ (HL.out.below hS4.1)).mono ?_; rintro e w5 ⟨y5, m5, d5, rfl, hv5, hn5, hb5⟩; have hS5 := hS4.call hb5; obtain ⟨rfl, rfl, rfl⟩ := uniq hv5 hv4 (hn5.trans hn4.symm)))
    go_wp2
    go_ret
    exact ⟨by simp, hS5.1⟩
theorem walkNext : ArgCivilNext.Walk := fun t w hL ht => walk t w hL (bounds_i64 ht)
end Go.Proofs.YtdeohkldlpknnaaDoor.Cn3
