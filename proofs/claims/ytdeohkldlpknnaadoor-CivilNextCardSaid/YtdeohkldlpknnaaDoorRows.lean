/-
  NARROWER THAN 'FOR EVERY INPUT', by the rows' own cells (each row's printed sentence says how): CivilOf: laid · CivilSeconds: laid · CivilDays: laid · CivilBack: laid · CivilNext: laid · CivilCycle: laid.
  DERIVED. THE GIVEN ROWS OF THIS SEAT. 6 by the template 'for every input the law returns true; each argument reads behind the call as it read before'; 0 by the template 'total and deterministic' (their statements: YtdeohkldlpknnaaDoorTotals.lean).
  GIVEN WITH THE SEED: the statements are not yours to turn. If you find one false, say at which input.
  Laid BY PROGRAM, IN A SANDBOX (cutbox-rows.mjs): the forced cells as the released guide's own fill.sh prints them over the translation b2eecbb7578e15fe… (all of the seat's roots in one cut). By AI agents, Wed Nov 11 2026. No macro, syntax, notation, axiom, sorry.
-/
import Derived.Test.YtdeohkldlpknnaaDoorChecked
import GoSem.Claim
import GoSem.ClaimJoined
import GoSem.ClaimMapViews
import Derived.JoinedTies
import Derived.KernelRfl
namespace Go.Proofs.YtdeohkldlpknnaaDoor
/- THE CELL 'sum', in the pinned program and in every row, IS THE sha256 OF THE DUMP (.gsa) THAT YtdeohkldlpknnaaDoorProg.lean LOADS. Nothing in Lean hashes anything: it is a label: what it is worth is what the hold of that sum in a sandbox is worth. -/
noncomputable def Tryd.pinned : Pinned := { name := "ytdeohkldlpknnaadoor", sum := "b2eecbb7578e15fe07d2f37072bb5c34cccb151c531023fae74f76e676484165", checked := Tryd.checked }
namespace Rows
def none {H : Type} : Left H := { results := [], args := [] }

/- WHAT THE LISTED PACKAGE-LEVEL VARIABLES READ AS WHEN THE CALL BEGINS. Each datum BY PROGRAM (the guide's laid-datum.mjs) off the statement by which the dump's own 'gosem.cut.vars' lays the variable. In a bare row this is a premise. The card (YtdeohkldlpknnaaDoorCards.lean) ties it to the program's text. -/
def laid_capstan_civil_months {H : Type} : DataW H := .agg [.lit (.int .i64 31), .lit (.int .i64 28), .lit (.int .i64 31), .lit (.int .i64 30), .lit (.int .i64 31), .lit (.int .i64 30), .lit (.int .i64 31), .lit (.int .i64 31), .lit (.int .i64 30), .lit (.int .i64 31), .lit (.int .i64 30), .lit (.int .i64 31)]

/-- 'capstanlaw03.CivilOf': WHATEVER THE INPUT: true; the input reads as it did. -/
def civilOfSpec : ChangeSpec := { name := "civilOf", fn := fun _ => fun
  | [d] => { results := [.lit (.bool true)], args := [d] }
  | _ => none }
def civilOfRow : OpenClaim := { program := "ytdeohkldlpknnaadoor", sum := "b2eecbb7578e15fe07d2f37072bb5c34cccb151c531023fae74f76e676484165", func := "capstan/capstanlaw03.CivilOf", spec := "civilOf", inPlace := ["math/bits.Add64"], named := ["capstan/civil.months"], apart := false, laid := [("capstan/civil.months", laid_capstan_civil_months)] }
def CivilOfSaid : Prop := civilOfRow.holds Tryd.pinned (OpenSpec.ofChange civilOfSpec)

/-- ITS FALSE NEIGHBOUR: 'it returns false'. Refute it at one input. -/
def civilOfWrong : ChangeSpec := { name := "civilOf", fn := fun _ => fun
  | [d] => { results := [.lit (.bool false)], args := [d] }
  | _ => none }
def CivilOfWrongFalsely : Prop := civilOfRow.holds Tryd.pinned (OpenSpec.ofChange civilOfWrong)

/-- 'capstanlaw03.CivilSeconds': WHATEVER THE INPUT: true; the input reads as it did. -/
def civilSecondsSpec : ChangeSpec := { name := "civilSeconds", fn := fun _ => fun
  | [d] => { results := [.lit (.bool true)], args := [d] }
  | _ => none }
def civilSecondsRow : OpenClaim := { program := "ytdeohkldlpknnaadoor", sum := "b2eecbb7578e15fe07d2f37072bb5c34cccb151c531023fae74f76e676484165", func := "capstan/capstanlaw03.CivilSeconds", spec := "civilSeconds", inPlace := ["math/bits.Add64"], named := ["capstan/civil.months"], apart := false, laid := [("capstan/civil.months", laid_capstan_civil_months)] }
def CivilSecondsSaid : Prop := civilSecondsRow.holds Tryd.pinned (OpenSpec.ofChange civilSecondsSpec)

/-- ITS FALSE NEIGHBOUR: 'it returns false'. Refute it at one input. -/
def civilSecondsWrong : ChangeSpec := { name := "civilSeconds", fn := fun _ => fun
  | [d] => { results := [.lit (.bool false)], args := [d] }
  | _ => none }
def CivilSecondsWrongFalsely : Prop := civilSecondsRow.holds Tryd.pinned (OpenSpec.ofChange civilSecondsWrong)

/-- 'capstanlaw03.CivilDays': WHATEVER THE INPUT: true; the input reads as it did. -/
def civilDaysSpec : ChangeSpec := { name := "civilDays", fn := fun _ => fun
  | [d1, d2] => { results := [.lit (.bool true)], args := [d1, d2] }
  | _ => none }
def civilDaysRow : OpenClaim := { program := "ytdeohkldlpknnaadoor", sum := "b2eecbb7578e15fe07d2f37072bb5c34cccb151c531023fae74f76e676484165", func := "capstan/capstanlaw03.CivilDays", spec := "civilDays", inPlace := ["math/bits.Add64"], named := ["capstan/civil.months"], apart := false, laid := [("capstan/civil.months", laid_capstan_civil_months)] }
def CivilDaysSaid : Prop := civilDaysRow.holds Tryd.pinned (OpenSpec.ofChange civilDaysSpec)

/-- ITS FALSE NEIGHBOUR: 'it returns false'. Refute it at one input. -/
def civilDaysWrong : ChangeSpec := { name := "civilDays", fn := fun _ => fun
  | [d1, d2] => { results := [.lit (.bool false)], args := [d1, d2] }
  | _ => none }
def CivilDaysWrongFalsely : Prop := civilDaysRow.holds Tryd.pinned (OpenSpec.ofChange civilDaysWrong)

/-- 'capstanlaw03.CivilBack': WHATEVER THE INPUT: true; the input reads as it did. -/
def civilBackSpec : ChangeSpec := { name := "civilBack", fn := fun _ => fun
  | [d1, d2] => { results := [.lit (.bool true)], args := [d1, d2] }
  | _ => none }
def civilBackRow : OpenClaim := { program := "ytdeohkldlpknnaadoor", sum := "b2eecbb7578e15fe07d2f37072bb5c34cccb151c531023fae74f76e676484165", func := "capstan/capstanlaw03.CivilBack", spec := "civilBack", inPlace := ["math/bits.Add64"], named := ["capstan/civil.months"], apart := false, laid := [("capstan/civil.months", laid_capstan_civil_months)] }
def CivilBackSaid : Prop := civilBackRow.holds Tryd.pinned (OpenSpec.ofChange civilBackSpec)

/-- ITS FALSE NEIGHBOUR: 'it returns false'. Refute it at one input. -/
def civilBackWrong : ChangeSpec := { name := "civilBack", fn := fun _ => fun
  | [d1, d2] => { results := [.lit (.bool false)], args := [d1, d2] }
  | _ => none }
def CivilBackWrongFalsely : Prop := civilBackRow.holds Tryd.pinned (OpenSpec.ofChange civilBackWrong)

/-- 'capstanlaw03.CivilNext': WHATEVER THE INPUT: true; the input reads as it did. -/
def civilNextSpec : ChangeSpec := { name := "civilNext", fn := fun _ => fun
  | [d] => { results := [.lit (.bool true)], args := [d] }
  | _ => none }
def civilNextRow : OpenClaim := { program := "ytdeohkldlpknnaadoor", sum := "b2eecbb7578e15fe07d2f37072bb5c34cccb151c531023fae74f76e676484165", func := "capstan/capstanlaw03.CivilNext", spec := "civilNext", inPlace := ["math/bits.Add64"], named := ["capstan/civil.months"], apart := false, laid := [("capstan/civil.months", laid_capstan_civil_months)] }
def CivilNextSaid : Prop := civilNextRow.holds Tryd.pinned (OpenSpec.ofChange civilNextSpec)

/-- ITS FALSE NEIGHBOUR: 'it returns false'. Refute it at one input. -/
def civilNextWrong : ChangeSpec := { name := "civilNext", fn := fun _ => fun
  | [d] => { results := [.lit (.bool false)], args := [d] }
  | _ => none }
def CivilNextWrongFalsely : Prop := civilNextRow.holds Tryd.pinned (OpenSpec.ofChange civilNextWrong)

/-- 'capstanlaw03.CivilCycle': WHATEVER THE INPUT: true; the input reads as it did. -/
def civilCycleSpec : ChangeSpec := { name := "civilCycle", fn := fun _ => fun
  | [d] => { results := [.lit (.bool true)], args := [d] }
  | _ => none }
def civilCycleRow : OpenClaim := { program := "ytdeohkldlpknnaadoor", sum := "b2eecbb7578e15fe07d2f37072bb5c34cccb151c531023fae74f76e676484165", func := "capstan/capstanlaw03.CivilCycle", spec := "civilCycle", inPlace := ["math/bits.Add64"], named := ["capstan/civil.months"], apart := false, laid := [("capstan/civil.months", laid_capstan_civil_months)] }
def CivilCycleSaid : Prop := civilCycleRow.holds Tryd.pinned (OpenSpec.ofChange civilCycleSpec)

/-- ITS FALSE NEIGHBOUR: 'it returns false'. Refute it at one input. -/
def civilCycleWrong : ChangeSpec := { name := "civilCycle", fn := fun _ => fun
  | [d] => { results := [.lit (.bool false)], args := [d] }
  | _ => none }
def CivilCycleWrongFalsely : Prop := civilCycleRow.holds Tryd.pinned (OpenSpec.ofChange civilCycleWrong)

/- THE SECOND FORM. 'bulk': how many values and letters a reading holds, each counted each time it is reached (what is shared counts as often as it is met; a slice's spare places count too). A statement '..UptoSaid' is the law's where the arguments, and the package variables that the reading takes, are together of bulk at most 1048576: NARROWER than '..Said'. Prove '..Said' where nothing that the law and all that it calls make is longer than what came in: it says more and counts as full. Else prove '..UptoSaid'. A law counts once. -/
mutual
def uptoBulk {H : Type} : DataW H → Nat
  | .lit (.string bytes) => bytes.length + 1
  | .lit _ => 1
  | .nil => 1
  | .ptr d => uptoBulk d + 1
  | .slice elems spare => uptoBulkAll elems + uptoBulkAll spare + 1
  | .agg parts => uptoBulkAll parts + 1
  | .iface _ d => uptoBulk d + 1
  | .map entries => uptoBulkEntries entries + 1
  | .held _ => 1
def uptoBulkAll {H : Type} : List (DataW H) → Nat
  | [] => 0
  | d :: r => uptoBulk d + uptoBulkAll r
def uptoBulkEntries {H : Type} : List (Lit × DataW H) → Nat
  | [] => 0
  | x :: r => uptoBulkEntry x + uptoBulkEntries r
def uptoBulkEntry {H : Type} : Lit × DataW H → Nat
  | (.string bytes, d) => bytes.length + uptoBulk d + 1
  | (_, d) => uptoBulk d + 1
 end
def uptoSmall : (H : Type) → List (DataW H) → Bool := fun _ ds => decide (uptoBulkAll ds ≤ 1048576)
def OpenSpec.upto (s : _root_.Go.ChangeSpec) : _root_.Go.OpenSpec := { _root_.Go.OpenSpec.ofChange s with cond := some uptoSmall }

/-- 'capstanlaw03.CivilOf', WHERE WHAT IT READS IS OF BULK AT MOST 1048576: true; the input reads as it did. -/
def civilOfUptoRow : OpenClaim := { program := "ytdeohkldlpknnaadoor", sum := "b2eecbb7578e15fe07d2f37072bb5c34cccb151c531023fae74f76e676484165", func := "capstan/capstanlaw03.CivilOf", spec := "civilOf", inPlace := ["math/bits.Add64"], named := ["capstan/civil.months"], apart := false, laid := [("capstan/civil.months", laid_capstan_civil_months)], narrowed := true }
def CivilOfUptoSaid : Prop := civilOfUptoRow.holds Tryd.pinned (OpenSpec.upto civilOfSpec)

/-- 'capstanlaw03.CivilSeconds', WHERE WHAT IT READS IS OF BULK AT MOST 1048576: true; the input reads as it did. -/
def civilSecondsUptoRow : OpenClaim := { program := "ytdeohkldlpknnaadoor", sum := "b2eecbb7578e15fe07d2f37072bb5c34cccb151c531023fae74f76e676484165", func := "capstan/capstanlaw03.CivilSeconds", spec := "civilSeconds", inPlace := ["math/bits.Add64"], named := ["capstan/civil.months"], apart := false, laid := [("capstan/civil.months", laid_capstan_civil_months)], narrowed := true }
def CivilSecondsUptoSaid : Prop := civilSecondsUptoRow.holds Tryd.pinned (OpenSpec.upto civilSecondsSpec)

/-- 'capstanlaw03.CivilDays', WHERE WHAT IT READS IS OF BULK AT MOST 1048576: true; the input reads as it did. -/
def civilDaysUptoRow : OpenClaim := { program := "ytdeohkldlpknnaadoor", sum := "b2eecbb7578e15fe07d2f37072bb5c34cccb151c531023fae74f76e676484165", func := "capstan/capstanlaw03.CivilDays", spec := "civilDays", inPlace := ["math/bits.Add64"], named := ["capstan/civil.months"], apart := false, laid := [("capstan/civil.months", laid_capstan_civil_months)], narrowed := true }
def CivilDaysUptoSaid : Prop := civilDaysUptoRow.holds Tryd.pinned (OpenSpec.upto civilDaysSpec)

/-- 'capstanlaw03.CivilBack', WHERE WHAT IT READS IS OF BULK AT MOST 1048576: true; the input reads as it did. -/
def civilBackUptoRow : OpenClaim := { program := "ytdeohkldlpknnaadoor", sum := "b2eecbb7578e15fe07d2f37072bb5c34cccb151c531023fae74f76e676484165", func := "capstan/capstanlaw03.CivilBack", spec := "civilBack", inPlace := ["math/bits.Add64"], named := ["capstan/civil.months"], apart := false, laid := [("capstan/civil.months", laid_capstan_civil_months)], narrowed := true }
def CivilBackUptoSaid : Prop := civilBackUptoRow.holds Tryd.pinned (OpenSpec.upto civilBackSpec)

/-- 'capstanlaw03.CivilNext', WHERE WHAT IT READS IS OF BULK AT MOST 1048576: true; the input reads as it did. -/
def civilNextUptoRow : OpenClaim := { program := "ytdeohkldlpknnaadoor", sum := "b2eecbb7578e15fe07d2f37072bb5c34cccb151c531023fae74f76e676484165", func := "capstan/capstanlaw03.CivilNext", spec := "civilNext", inPlace := ["math/bits.Add64"], named := ["capstan/civil.months"], apart := false, laid := [("capstan/civil.months", laid_capstan_civil_months)], narrowed := true }
def CivilNextUptoSaid : Prop := civilNextUptoRow.holds Tryd.pinned (OpenSpec.upto civilNextSpec)

/-- 'capstanlaw03.CivilCycle', WHERE WHAT IT READS IS OF BULK AT MOST 1048576: true; the input reads as it did. -/
def civilCycleUptoRow : OpenClaim := { program := "ytdeohkldlpknnaadoor", sum := "b2eecbb7578e15fe07d2f37072bb5c34cccb151c531023fae74f76e676484165", func := "capstan/capstanlaw03.CivilCycle", spec := "civilCycle", inPlace := ["math/bits.Add64"], named := ["capstan/civil.months"], apart := false, laid := [("capstan/civil.months", laid_capstan_civil_months)], narrowed := true }
def CivilCycleUptoSaid : Prop := civilCycleUptoRow.holds Tryd.pinned (OpenSpec.upto civilCycleSpec)

end Rows
end Go.Proofs.YtdeohkldlpknnaaDoor
