/- The reference's gate: bound, New, Bind: what each call answers and leaves in memory. -/
import Derived.Test.YtalefchapckcoaaGc
import Derived.Test.YtalefchapckcoaaBlk2
import Derived.Test.YtalefchapckcoaaBnGateBinds
import Derived.Test.YtalefchapckcoaaQGateBinds16
import Derived.Test.YtalefchapckcoaaPGateBindsx17
import Derived.Test.YtalefchapckcoaaPGateBindsx5
import Derived.Deep.RegionHeld3
import Derived.StillTailTactics
namespace Go.Proofs.Ytalefchapckcoaa.Ra
set_option linter.unusedVariables false
open Go.RowKit Go.Proofs.Ytalefchapckcoaa.Blk Go.Proofs.Ytalefchapckcoaa.Blk2 Go.Proofs.Ytalefchapckcoaa.Ga Go.Proofs.Ytalefchapckcoaa.Gc
open Go.Proofs.Ytalefchapckcoaa.BnGateBinds (hold)

/-- A block that holds the reference's gate. -/
def IsR (w : World) (g : Nat) (r : GR) (s : GS) : Prop := w.heap[g]? = some (.cells (gcells r.mn r.mx r.st r.up r.dn s.cnt s.ct s.cb s.kt s.kb) 54 (0, 0))
theorem less_any (t ct n : Int) (w : World) (h1 : -9223372036854775808 ≤ t ∧ t ≤ 9223372036854775807) (h2 : -9223372036854775808 ≤ ct ∧ ct ≤ 9223372036854775807) :
    Calls Try.prog 21 #[.int .i64 t, .int .i64 ct, .int .i64 n] w fun e w' => e = .returned (.bool (decide (hold (t - ct) < n))) ∧ Below w.heap.size w w' := by
  obtain ⟨a, ha, ba, la⟩ := BnGateBinds.of_is t h1.1 h1.2
  obtain ⟨b, hb, bb, lb⟩ := BnGateBinds.of_is ct h2.1 h2.2
  obtain ⟨hm, bm⟩ := BnGateBinds.minus_is _ _ _ bb
  obtain ⟨z, l, hp, bp, lp⟩ := BnGateBinds.plus_is _ _ _ _ _ _ ba bm (by omega) (by omega)
  have hh := BnGateBinds.held_is z l _ bp (by split at lp <;> omega)
  obtain ⟨k, hk⟩ : ∃ k, PGateBinds.capstanref25_Less.f k t ct n = some (decide (hold (t - ct) < n)) := by
    obtain ⟨K1, q1⟩ := ha
    obtain ⟨K2, q2⟩ := hb
    obtain ⟨K3, q3⟩ := hp
    obtain ⟨K4, q4⟩ := hh
    refine ⟨K1 + K2 + K3 + K4, ?_⟩
    unfold PGateBinds.capstanref25_Less.f
    have e1 : PGateBinds.capstanref01_Of.f (K1 + K2 + K3 + K4) t = _ := q1 _ (by omega)
    have e2 : PGateBinds.capstanref01_Of.f (K1 + K2 + K3 + K4) ct = _ := q2 _ (by omega)
    have e3 : PGateBinds.capstanref01_Plus.f (K1 + K2 + K3 + K4) _ _ _ _ = _ := q3 _ (by omega)
    have e4 : PGateBinds.capstanref01_Held.f (K1 + K2 + K3 + K4) _ _ = _ := q4 _ (by omega)
    rw [e1]; simp only [Option.bind_some]
    rw [e2]; simp only [Option.bind_some]
    rw [hm]; simp only [Option.bind_some]
    rw [e3]; simp only [Option.bind_some]
    rw [e4]; simp only [Option.bind_some]
    rw [Int.sub_eq_add_neg]
  exact PGateBinds.capstanref25_Less.calls k t ct n _ w hk
theorem w64 {a : Int} (h0 : -9223372036854775808 ≤ a) (h1 : a ≤ 9223372036854775807) : wrap64 a = a := by unfold wrap64; omega
theorem bound_f (r : GR) (s : GS) (want : Int) (hr : RtS r s) : PGateBinds.capstanref25_Gate_bound.f 3 r.mn r.mx r.st r.up r.dn s.cnt s.ct s.cb s.kt s.kb want =
    some (cl r.mn r.mx r.st s.cnt want, r.mn, r.mx, r.st, r.up, r.dn, s.cnt, s.ct, s.cb, s.kt, s.kb) := by
  obtain ⟨h1, h2, h3, h4, h5, h6, h7, h8⟩ := hr
  unfold PGateBinds.capstanref25_Gate_bound.f cl
  simp only [PGateBinds.capstanref25_Gate_bound.j0, PGateBinds.capstanref25_Gate_bound.j1]
  rw [w64 (a := s.cnt + r.st) (by omega) (by omega), w64 (a := s.cnt - r.st) (by omega) (by omega)]
  simp only [mxv_eq, mnv_eq]
  repeat' split
  all_goals (congr 2; omega)
theorem bound_any (g : Nat) (r : GR) (s : GS) (want : Int) (w : World) (hg : IsR w g r s) (hr : RtS r s) :
    Calls Try.prog 22 #[.pointer (some ⟨g, 0, none⟩), .int .i64 want] w fun e w' => e = .returned (.int .i64 (cl r.mn r.mx r.st s.cnt want)) ∧ Below w.heap.size w w' := by
  have hI : PGateBinds.IsS54 { w with heap := #[] } w g r.mn r.mx r.st r.up r.dn s.cnt s.ct s.cb s.kt s.kb := ⟨hg, Nat.zero_le _⟩
  have hB : Below ({ w with heap := #[] } : World).heap.size { w with heap := #[] } w := ⟨rfl, rfl, rfl, Nat.zero_le _, fun k hk => by simp at hk⟩
  refine (PGateBinds.capstanref25_Gate_bound.calls 3 g _ _ _ _ _ _ _ _ _ _ want _ _ _ _ _ _ _ _ _ _ _ { w with heap := #[] } w hI hB (bound_f r s want hr)).mono ?_
  rintro e w' ⟨rfl, ⟨hi, _⟩, hb, hk⟩
  refine ⟨rfl, hb.os, hb.tape, hb.output, hk.1, fun k hkl => ?_⟩
  by_cases e : k = g
  · subst e; exact hi.trans hg.symm
  · exact hk.2 k hkl e (by simp)
theorem right_ref (r : GR) : PGateBinds.capstanref15_Right.f r.mn r.mx r.st r.up r.dn = some (rightB r) := by
  have hd : ∀ (p q : Prop) [Decidable p] [Decidable q], (p ↔ q) → some (decide p) = some (decide q) := fun p q _ _ h => by rw [decide_eq_decide.2 h]
  have hf : ∀ (q : Prop) [Decidable q], ¬ q → some false = some (decide q) := fun q _ h => by rw [decide_eq_false h]
  unfold PGateBinds.capstanref15_Right.f rightB
  repeat' split
  all_goals first | (refine hd _ _ ?_; omega) | (refine hf _ ?_; omega)
end Go.Proofs.Ytalefchapckcoaa.Ra
