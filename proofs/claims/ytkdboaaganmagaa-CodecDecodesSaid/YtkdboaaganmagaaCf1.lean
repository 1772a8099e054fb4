/- What Decode computes, in plain words (namespace Cf; the walk is XCf). -/
import Derived.Test.YtkdboaaganmagaaCe0
namespace Go.Proofs.Ytkdboaaganmagaa.Cf
set_option linter.unusedVariables false
open Go.RowKit Go.Proofs.YtkdboaaganmagaaW.PrintWords Go.Proofs.Ytkdboaaganmagaa.OP Go.Proofs.Ytkdboaaganmagaa.Ca Go.Proofs.Ytkdboaaganmagaa.Cd Go.Proofs.Ytkdboaaganmagaa.Ce
abbrev DT := Int × Int × Int × Int × Int × Int × List Int × List S51 × List S54 × Int × Int × List S45 × Int
def ofPg (p : Pg) (err : Int) : DT := (p.a0, p.a1, p.a2, p.a3, p.a4, p.a5, p.l6, p.l7, p.l8, p.a9, p.a10, p.l11, err)
def Zg : Pg := ⟨0, 0, 0, 0, 0, 0, [], [], [], 0, 0, []⟩
def decF (l : List Int) : Option (Pg × Int) := if l.length > 1048576 then some (Zg, 2) else if l.all (fun x => decide (0 ≤ x ∧ x ≤ 255)) = true then (match prog l with | none => some (Zg, 40) | some p => some (p, 0)) else none
/-- Decode, whole. -/
def Dec.f (k : Nat) (l : List Int) : Option DT := (decF l).bind fun t => some (ofPg t.1 t.2)
theorem Dec.mono (l : List Int) : ∀ k, LeO (Dec.f k l) (Dec.f (k + 1) l) := fun k => LeO.refl _
end Go.Proofs.Ytkdboaaganmagaa.Cf
