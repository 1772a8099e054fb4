/- DimValues, in plain Lean: both Values are one number. -/
import Derived.Test.YtdplfphgomckfaaDoorOVx1
import Derived.Test.YtdplfphgomckfaaDoorBx
namespace Go.Proofs.YtdplfphgomckfaaDoor.Va
set_option linter.unusedVariables false
open Go.RowKit Go.Proofs.YtdplfphgomckfaaDoorW.PrintWords Go.Proofs.YtdplfphgomckfaaDoor.Bn Go.Proofs.YtdplfphgomckfaaDoor.Bx
theorem ev_mono {α : Type} {f : Nat → Option α} {r : α} (K : Nat) (h : f K = some r) (m : ∀ k, LeO (f k) (f (k + 1))) : Ev f r := by
  refine ⟨K, fun k hk => ?_⟩
  obtain ⟨d, rfl⟩ : ∃ d, k = K + d := ⟨k - K, by omega⟩
  clear hk
  induction d with
  | zero => exact h
  | succ d ih => exact m (K + d) r ih
theorem read_awake : De.Read.f 8 (⟨#[107, 114, 101, 113, 47, 109, 105, 110]⟩ : ByteArray) = some (50, 3, -1, 1, 0, 0, 0, 0, 0) := by kernel_rfl
theorem awake_f : OV.capstanlaw02_awake.f 8 = some true := by
  unfold OV.capstanlaw02_awake.f
  rw [read_awake]
  rfl
theorem awake_ev : Ev OV.capstanlaw02_awake.f true := ev_mono 8 awake_f OV.capstanlaw02_awake.mono
theorem values_f (n d a2 a3 a4 a5 a6 v : Int) (hn : I64 n) (hd : I64 d) (hv : I64 v) : Ev (fun k => OV.capstanlaw02_DimValues.f k n d a2 a3 a4 a5 a6 v) true := by
  have e1 : Ev (fun k => OV.dim_Value.f k n d a2 a3 a4 a5 a6 v) (scl v n d) := Ev.bind (scale_is v n d hv hn hd) (f := fun _ t => some t) (Ev.now _)
  have e2 : Ev (fun k => OV.capstanref02_Value.f k n d a2 a3 a4 a5 a6 v) (scl v n d) := Ev.bind (rscale_is v n d hv hn hd) (f := fun _ t => some t) (Ev.now _)
  refine Ev.bind awake_ev (f := fun k t116 => if t116 = true then ((OV.dim_Value.f k n d a2 a3 a4 a5 a6 v).bind fun t117 => ((OV.capstanref02_Value.f k n d a2 a3 a4 a5 a6 v).bind fun t118 => (some (t117 == t118)))) else (some false)) ?_
  refine Ev.congr (fun k => if_pos rfl) (Ev.bind e1 (f := fun k t117 => ((OV.capstanref02_Value.f k n d a2 a3 a4 a5 a6 v).bind fun t118 => (some (t117 == t118)))) (Ev.bind e2 (f := fun _ t118 => some (scl v n d == t118)) (Ev.congr (f := fun _ => some true) (fun k => ?_) (Ev.now _))))
  rw [beq_self_eq_true]
end Go.Proofs.YtdplfphgomckfaaDoor.Va
