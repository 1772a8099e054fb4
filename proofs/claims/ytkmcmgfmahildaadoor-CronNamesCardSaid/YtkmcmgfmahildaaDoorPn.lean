/- CronNames: what is to be shown of the call. -/
import Derived.Test.YtkmcmgfmahildaaDoorPr
import Derived.Test.YtkmcmgfmahildaaDoorOBx3
import Derived.Test.YtkmcmgfmahildaaDoorArgCronNames
import Derived.OpenShut
namespace Go.Proofs.YtkmcmgfmahildaaDoor.Pn
open Go.RowKit Go.Proofs.YtkmcmgfmahildaaDoorW.PrintWords Go.Proofs.YtkmcmgfmahildaaDoor.OB Go.Proofs.YtkmcmgfmahildaaDoor.Cd Go.Proofs.YtkmcmgfmahildaaDoor.Pa Go.Proofs.YtkmcmgfmahildaaDoor.Pr
set_option maxRecDepth 1000000 in
theorem awake421 : capstanlaw04_awake.f 421 = some true := by kernel_rfl
theorem walk : ArgCronNames.Walk := fun a b c d e t w hL ha hb hc hd he ht =>
  capstanlaw04_CronNames.calls 421 a b c d e t true w (by
    unfold capstanlaw04_CronNames.f
    rw [awake421]
    simp only [Option.bind_some, if_true]
    rw [names_f _ _ _ _ _ _ (bounds_i64 ht).1 (bounds_i64 ht).2, names_ref _ _ _ _ _ _ (bounds_u64 ha) (bounds_u64 hb) (bounds_u64 hc) (bounds_u64 hd) (bounds_u64 he) (bounds_i64 ht)]
    simp) hL
end Go.Proofs.YtkmcmgfmahildaaDoor.Pn
