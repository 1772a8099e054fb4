/- capstanref25.Less as a contract in printed form. -/
import Derived.Test.YtalefchapckcoaaRa
namespace Go.Proofs.Ytalefchapckcoaa.Kl
open Go.RowKit Go.Proofs.Ytalefchapckcoaa.Ra
def Less.f (t ct n : Int) : Option Bool := if (-9223372036854775808 ≤ t ∧ t ≤ 9223372036854775807) ∧ -9223372036854775808 ≤ ct ∧ ct ≤ 9223372036854775807 then some (decide (BnGateBinds.hold (t - ct) < n)) else none
theorem Less.calls (t ct n : Int) (r : Bool) (w : World) (h : Less.f t ct n = some r) : Calls Try.prog 21 #[.int .i64 t, .int .i64 ct, .int .i64 n] w fun e w' => e = .returned (.bool r) ∧ Below w.heap.size w w' := by
  unfold Less.f at h
  split at h
  · rename_i hb
    injection h with h
    subst h
    exact less_any t ct n w hb.1 hb.2
  · cases h
end Go.Proofs.Ytalefchapckcoaa.Kl
