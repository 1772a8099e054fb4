/- ScanWheres, where the text is no giant. -/
import Derived.Test.YtmgjmjoclglidaaDoorSp
import Derived.Test.YtmgjmjoclglidaaDoorSl
import Derived.Test.YtmgjmjoclglidaaDoorArgScanWheres
namespace Go.Proofs.YtmgjmjoclglidaaDoor.Sp2
set_option linter.unusedVariables false
open Go.RowKit Go.Proofs.YtmgjmjoclglidaaDoor.Blk Go.Proofs.YtmgjmjoclglidaaDoor.Blk2 Go.Proofs.YtmgjmjoclglidaaDoor.Laid Go.Proofs.YtmgjmjoclglidaaDoor.Sa Go.Proofs.YtmgjmjoclglidaaDoor.Sb Go.Proofs.YtmgjmjoclglidaaDoor.Sw Go.Proofs.YtmgjmjoclglidaaDoor.Sl Go.Proofs.YtmgjmjoclglidaaDoor.Sp

theorem ref_where_any (s : ByteArray) (at_ : Int) (w : World) (hs : s.size ≤ 4000000000) : Calls Tryd.prog 11 #[.string s, .int .i64 at_] w (ChkPost (whr s at_) w) :=
  (PScanWheres.capstanref09_Where.calls _ s at_ _ _ _ w (ref_where_f s at_ hs)).mono fun _ _ h => ⟨h.1, h.2⟩
set_option maxHeartbeats 4000000 in
theorem walk (s : ByteArray) (at_ : Int) (w : World) (hs : s.size ≤ 4000000000) (hL : Laid w) : Calls Tryd.prog 3 #[.string s, .int .i64 at_] w fun e w' => e = .returned (.bool true) ∧ Below w.heap.size w w' := by
  have HL := Lib.hid hL
  clear hL
  have H1 := Lib.hid (fun W (hW : Laid W) => where_any s at_ W (by omega) hW)
  have H2 := Lib.hid (fun W => ref_where_any s at_ W hs)
  generalize whr s at_ = R at H1 H2
  obtain ⟨r1, r2, r3⟩ := R
  go_enter Tryd.func3, Tryd.ntmps3
  go_wp2_with fail
  refine (awake_any _ HL.out).mono ?_
  rintro e w1 ⟨rfl, hb⟩
  have HB := Lib.hid hb; clear hb
  go_wp2_with fail
  refine (H1.out _ (HL.out.below HB.out)).mono ?_
  rintro e w2 ⟨rfl, hb⟩
  have HB2 := Lib.hid (below_then HB.out hb HB.out.size); clear hb
  go_wp2_with fail
  refine (H2.out _).mono ?_
  rintro e w3 ⟨rfl, hb⟩
  have HB3 := Lib.hid (below_then HB2.out hb HB2.out.size); clear hb
  go_wp2
  go_ret
  exact ⟨by simp, HB3.out⟩
theorem walkWheres : ArgScanWheres.Walk := fun s a w hL hs _ => walk s a w (by omega) hL
end Go.Proofs.YtmgjmjoclglidaaDoor.Sp2
