/- NumTexts: what is to be shown of the call. -/
import Derived.Test.YtekcdokgpjmbgaaDoorNg
import Derived.Test.YtekcdokgpjmbgaaDoorNh
import Derived.Test.YtekcdokgpjmbgaaDoorOBx6
import Derived.Test.YtekcdokgpjmbgaaDoorArgNumTexts
import Derived.OpenShut
namespace Go.Proofs.YtekcdokgpjmbgaaDoor.Nt
open Go.RowKit Go.Proofs.YtekcdokgpjmbgaaDoorW.PrintWords Go.Proofs.YtekcdokgpjmbgaaDoor.OB
theorem awake_K (K : Nat) (h : 100 ≤ K) : capstanlaw10_awake.f K = some true := at_rounds (g := fun k => capstanlaw10_awake.f k) (fun k => capstanlaw10_awake.mono k) h Nh.awake_is
theorem texts_f (n : Int) (h0 : -9223372036854775808 ≤ n) (h1 : n ≤ 9223372036854775807) : capstanlaw10_NumTexts.f 2000 n = some true := by
  unfold capstanlaw10_NumTexts.f
  rw [awake_K 2000 (by omega), Option.bind_some, if_pos rfl, Ng.go_f n h0 h1 1999, Option.bind_some, Ng.ref_f n h0 h1 2000 (by omega), Option.bind_some]
  simp
theorem walk : ArgNumTexts.Walk := fun n w hL hn =>
  capstanlaw10_NumTexts.calls 2000 n true w (texts_f n (bounds_i64 hn).1 (bounds_i64 hn).2) hL
end Go.Proofs.YtekcdokgpjmbgaaDoor.Nt
