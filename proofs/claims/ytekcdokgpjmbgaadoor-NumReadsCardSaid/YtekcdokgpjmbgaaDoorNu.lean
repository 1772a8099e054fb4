/- NumReads: what is to be shown of the call. -/
import Derived.Test.YtekcdokgpjmbgaaDoorNi
import Derived.Test.YtekcdokgpjmbgaaDoorNh
import Derived.Test.YtekcdokgpjmbgaaDoorOBx4
import Derived.Test.YtekcdokgpjmbgaaDoorArgNumReads
import Derived.OpenShut
namespace Go.Proofs.YtekcdokgpjmbgaaDoor.Nu
open Go.RowKit Go.Proofs.YtekcdokgpjmbgaaDoorW.PrintWords Go.Proofs.YtekcdokgpjmbgaaDoor.OB Go.Proofs.YtekcdokgpjmbgaaDoor.Ng
theorem awake_K (K : Nat) (h : 100 ≤ K) : capstanlaw10_awake.f K = some true := at_rounds (g := fun k => capstanlaw10_awake.f k) (fun k => capstanlaw10_awake.mono k) h Nh.awake_is
theorem reads_f (s : ByteArray) (hs : s.size ≤ 140737488351232) : capstanlaw10_NumReads.f (2 * s.size + 2000) s = some true := by
  unfold capstanlaw10_NumReads.f
  have hl : s.data.toList.length = s.size := by rw [Array.length_toList, ByteArray.size_data]
  have h1 := Ni.go_read s.data.toList (by omega) (2 * s.size + 2000) (by omega)
  have h2 := Ni.ref_read s.data.toList (by omega) (2 * s.size + 2000) (by omega)
  rw [B_eta] at h1 h2
  rw [awake_K _ (by omega), Option.bind_some, if_pos rfl, h1, Option.bind_some, h2, Option.bind_some, if_pos rfl]
  simp
theorem walk : ArgNumReads.Walk := fun s w hL hs => capstanlaw10_NumReads.calls _ s true w (reads_f s hs) hL
end Go.Proofs.YtekcdokgpjmbgaaDoor.Nu
