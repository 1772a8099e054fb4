/- The reference's Read in printed form: it answers what the program's Read answers. Conditions: as each theorem states. -/
import Derived.Test.YtdplfphgomckfaaDoorDh
namespace Go.Proofs.YtdplfphgomckfaaDoor.Df
set_option linter.unusedVariables false
open Go.RowKit Go.Proofs.YtdplfphgomckfaaDoorW.PrintWords Go.Proofs.YtdplfphgomckfaaDoor.Laid Go.Proofs.YtdplfphgomckfaaDoor.De Go.Proofs.YtdplfphgomckfaaDoor.Dd Go.Proofs.YtdplfphgomckfaaDoor.Dh
theorem rread_long (s : ByteArray) (w : World) (hs : s.size > 64) : Calls Tryd.prog 11 #[.string s] w (RPost w (Zu, 0, 2)) := by
  have q0 : decide ((s.size : Int) > 64) = true := by simp; omega
  go_enter Tryd.func11, Tryd.ntmps11
  go_wp2
  refine bodyPost_ret (v := .tuple #[.agg (unC Zu), .int .i64 0, .int .i64 2]) ?_ rfl ?_
  · exact res11 _ w.heap.size Zu rfl 0 2 _ rfl rfl rfl (Blk.blk_new w _)
  · exact ⟨rfl, (Below.refl _ _).alloc (Nat.le_refl _) _⟩
def RRead.f (k : Nat) (s : ByteArray) : Option (Int × Int × Int × Int × Int × Int × Int × Int × Int) := De.Read.f k s
theorem RRead.mono (s : ByteArray) : ∀ k, LeO (RRead.f k s) (RRead.f (k + 1) s) := De.Read.mono s
theorem RRead.calls (k : Nat) (s : ByteArray) (r1 r2 r3 r4 r5 r6 r7 r8 r9 : Int) (w : World) (h : RRead.f k s = some (r1, r2, r3, r4, r5, r6, r7, r8, r9)) :
    Calls Tryd.prog 11 #[.string s] w fun e w' => e = .returned (.tuple #[.agg #[.int .i64 r1, .int .i64 r2, .int .i64 r3, .int .i64 r4, .int .i64 r5, .int .i64 r6, .int .i64 r7], .int .i64 r8, .int .i64 r9]) ∧ Below w.heap.size w w' := by
  unfold RRead.f Read.f at h
  obtain ⟨t, ht, he⟩ := Option.map_eq_some_iff.1 h
  have key : Calls Tryd.prog 11 #[.string s] w (RPost w t) ∧ t.1.d.length = 5 := by
    unfold readF at ht
    split at ht
    · next hs => injection ht with ht; subst ht; exact ⟨rread_long s w hs, rfl⟩
    · next hs => exact ⟨rread_any s w hs k t ht, rdL_len s k 0 false U1 t (by omega) okU1 ht⟩
  obtain ⟨hc, hl⟩ := key
  obtain ⟨⟨N, D, ds⟩, pl, er⟩ := t
  obtain ⟨a, b, c, d, e, rfl⟩ := len5 hl
  simp only [flat, Prod.mk.injEq] at he
  obtain ⟨rfl, rfl, rfl, rfl, rfl, rfl, rfl, rfl, rfl⟩ := he
  exact hc
end Go.Proofs.YtdplfphgomckfaaDoor.Df
