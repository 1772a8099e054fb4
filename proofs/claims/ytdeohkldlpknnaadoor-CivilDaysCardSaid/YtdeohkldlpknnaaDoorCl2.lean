/- CivilOf, CivilDays, CivilCycle: what is to be shown of the calls, out of their walks. -/
import Derived.Test.YtdeohkldlpknnaaDoorCl
import Derived.Test.YtdeohkldlpknnaaDoorArgCivilOf
import Derived.Test.YtdeohkldlpknnaaDoorArgCivilDays
import Derived.Test.YtdeohkldlpknnaaDoorArgCivilCycle
import Derived.OpenShut
namespace Go.Proofs.YtdeohkldlpknnaaDoor.Cl2
open Go.RowKit
theorem walkOf : ArgCivilOf.Walk := fun t w hL ht => Cl.walkOf t w hL (bounds_i64 ht)
theorem walkDays : ArgCivilDays.Walk := fun y m w hL _ _ => Cl.walkDays y m w hL
theorem walkCycle : ArgCivilCycle.Walk := fun t w hL ht => Cl.walkCycle t w hL (bounds_i64 ht)
end Go.Proofs.YtdeohkldlpknnaaDoor.Cl2
