/- CronCycle: what is to be shown of the call. -/
import Derived.Test.YtkmcmgfmahildaaDoorPa
import Derived.Test.YtkmcmgfmahildaaDoorOBx8
import Derived.Test.YtkmcmgfmahildaaDoorArgCronCycle
import Derived.OpenShut
namespace Go.Proofs.YtkmcmgfmahildaaDoor.Pc
open Go.RowKit Go.Proofs.YtkmcmgfmahildaaDoorW.PrintWords Go.Proofs.YtkmcmgfmahildaaDoor.OB Go.Proofs.YtkmcmgfmahildaaDoor.Cd Go.Proofs.YtkmcmgfmahildaaDoor.Pa
theorem cycle_f (a b c d e t : Int) (h1 : -9223372036854775808 ≤ t) (h2 : t ≤ 9223372036854775807) : capstanlaw04_CronCycle.f 100 a b c d e t = some true := by
  unfold capstanlaw04_CronCycle.f
  rw [awake_is]
  simp only [Option.bind_some, if_true]
  by_cases ht : t > 9223372024231995007
  · rw [if_pos ht]
  · rw [if_neg ht, show wrap64 (t + 12622780800) = t + 12622780800 from by unfold wrap64; omega, names_f _ _ _ _ _ _ h1 h2, names_f _ _ _ _ _ _ (by omega) (by omega), names_cycle]
    simp
theorem walk : ArgCronCycle.Walk := fun a b c d e t w hL _ _ _ _ _ ht =>
  capstanlaw04_CronCycle.calls 100 a b c d e t true w (cycle_f a b c d e t (bounds_i64 ht).1 (bounds_i64 ht).2) hL
end Go.Proofs.YtkmcmgfmahildaaDoor.Pc
