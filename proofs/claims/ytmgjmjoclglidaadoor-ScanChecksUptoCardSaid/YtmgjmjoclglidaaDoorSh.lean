/- Check, Runes, Run and the law's first fact in the form of the printed functions. -/
import Derived.Test.YtmgjmjoclglidaaDoorSc
import Derived.Test.YtmgjmjoclglidaaDoorSl
import Derived.Test.YtmgjmjoclglidaaDoorSr
namespace Go.Proofs.YtmgjmjoclglidaaDoor.Hs
set_option linter.unusedVariables false
open Go.RowKit Go.Proofs.YtmgjmjoclglidaaDoorW.PrintWords Go.Proofs.YtmgjmjoclglidaaDoor.Laid Go.Proofs.YtmgjmjoclglidaaDoor.Sb Go.Proofs.YtmgjmjoclglidaaDoor.Sc Go.Proofs.YtmgjmjoclglidaaDoor.Sl Go.Proofs.YtmgjmjoclglidaaDoor.Sr
def Check.f (a0 : ByteArray) : Option (Int × Int × Int) := if a0.size ≤ 4000000000 then some (chk 0 (pcs a0 a0.size 0)) else none
theorem Check.calls (a0 : ByteArray) (r1 r2 r3 : Int) (w : World) (h : Check.f a0 = some (r1, r2, r3)) (hL_ : Laid w) :
    Calls Tryd.prog 12 #[.string a0] w fun e w' => e = .returned (.tuple #[.int .i64 r1, .int .i64 r2, .int .i64 r3]) ∧ Below w.heap.size w w' := by
  unfold Check.f at h
  split at h
  · injection h with h
    have hc := check_any a0 w (by omega) hL_
    rw [h] at hc
    exact hc
  · cases h
def Runes.f (a0 : ByteArray) : Option (List Int × Int × Int) := if a0.size ≤ 4000000000 then some (rns a0) else none
theorem Runes.calls (a0 : ByteArray) (r1 : List Int) (r2 r3 : Int) (w : World) (h : Runes.f a0 = some (r1, r2, r3)) (hL_ : Laid w) :
    Calls Tryd.prog 14 #[.string a0] w fun e w' => ∃ v0_ : Value, e = .returned (.tuple #[v0_, .int .i64 r2, .int .i64 r3]) ∧ Kd.R (Kd.int .i32) 21 w' w.heap.size (fun _ => True) v0_ r1 ∧ Below w.heap.size w w' := by
  unfold Runes.f at h
  split at h
  · injection h with h
    have hc := runes_any a0 w (by omega) hL_
    rw [h] at hc
    exact hc
  · cases h
def Run.f (a0 : ByteArray) (a1 a2 : Int) : Option Int := if a0.size ≤ 4000000000 then some (runR a0 a1 a2) else none
theorem Run.calls (a0 : ByteArray) (a1 a2 : Int) (r : Int) (w : World) (h : Run.f a0 a1 a2 = some r) :
    Calls Tryd.prog 17 #[.string a0, .int .i64 a1, .int .i64 a2] w fun e w' => e = .returned (.int .i64 r) ∧ Below w.heap.size w w' := by
  unfold Run.f at h
  split at h
  · injection h with h
    have hc := run_any a0 a1 a2 w (by omega)
    rw [h] at hc
    exact hc
  · cases h
def awake.f : Option Bool := some true
theorem awake.calls (r : Bool) (w : World) (h : awake.f = some r) (hL_ : Laid w) :
    Calls Tryd.prog 9 #[] w fun e w' => e = .returned (.bool r) ∧ Below w.heap.size w w' := by
  injection h with h
  subst h
  exact awake_any w hL_
end Go.Proofs.YtmgjmjoclglidaaDoor.Hs
