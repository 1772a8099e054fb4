/-
  NARROWER THAN 'FOR EVERY INPUT', by the rows' own cells (each row's printed sentence says how): ScanWheres: laid · ScanJoins: laid · ScanChecks: laid · ScanClasses: laid · ScanRuns: laid · ScanCovers: laid.
  DERIVED. THE GIVEN ROWS OF THIS SEAT. 6 by the template 'for every input the law returns true; each argument reads behind the call as it read before'; 0 by the template 'total and deterministic' (their statements: YtmgjmjoclglidaaDoorTotals.lean).
  GIVEN WITH THE SEED: the statements are not yours to turn. If you find one false, say at which input.
  Laid BY PROGRAM, IN A SANDBOX (cutbox-rows.mjs): the forced cells as the released guide's own fill.sh prints them over the translation d7fc3f242e3a95df… (all of the seat's roots in one cut). By AI agents, Wed Nov 11 2026. No macro, syntax, notation, axiom, sorry.
-/
import Derived.Test.YtmgjmjoclglidaaDoorChecked
import GoSem.PinnedTables
import GoSem.Claim
import GoSem.ClaimJoined
import GoSem.ClaimMapViews
import Derived.JoinedTies
import Derived.KernelRfl
namespace Go.Proofs.YtmgjmjoclglidaaDoor
/- THE CELL 'sum', in the pinned program and in every row, IS THE sha256 OF THE DUMP (.gsa) THAT YtmgjmjoclglidaaDoorProg.lean LOADS. Nothing in Lean hashes anything: it is a label: what it is worth is what the hold of that sum in a sandbox is worth. -/
noncomputable def Tryd.pinned : Pinned := { name := "ytmgjmjoclglidaadoor", sum := "d7fc3f242e3a95dfe19fd1c325dac03d2c891a330803bbbf5721ff7da0d189ce", checked := Tryd.checked }
namespace Rows
def none {H : Type} : Left H := { results := [], args := [] }

/- WHAT THE LISTED PACKAGE-LEVEL VARIABLES READ AS WHEN THE CALL BEGINS. Each datum BY PROGRAM (the guide's laid-datum.mjs) off the statement by which the dump's own 'gosem.cut.vars' lays the variable. In a bare row this is a premise. The card (YtmgjmjoclglidaaDoorCards.lean) ties it to the program's text. -/
def laid_unicode_utf8_acceptRanges {H : Type} : DataW H := .agg [.agg [.lit (.int .u8 128), .lit (.int .u8 191)], .agg [.lit (.int .u8 160), .lit (.int .u8 191)], .agg [.lit (.int .u8 128), .lit (.int .u8 159)], .agg [.lit (.int .u8 144), .lit (.int .u8 191)], .agg [.lit (.int .u8 128), .lit (.int .u8 143)], .agg [.lit (.int .u8 0), .lit (.int .u8 0)], .agg [.lit (.int .u8 0), .lit (.int .u8 0)], .agg [.lit (.int .u8 0), .lit (.int .u8 0)], .agg [.lit (.int .u8 0), .lit (.int .u8 0)], .agg [.lit (.int .u8 0), .lit (.int .u8 0)], .agg [.lit (.int .u8 0), .lit (.int .u8 0)], .agg [.lit (.int .u8 0), .lit (.int .u8 0)], .agg [.lit (.int .u8 0), .lit (.int .u8 0)], .agg [.lit (.int .u8 0), .lit (.int .u8 0)], .agg [.lit (.int .u8 0), .lit (.int .u8 0)], .agg [.lit (.int .u8 0), .lit (.int .u8 0)]]
/-- One of Go's own tables, pinned by name: the form's constant. -/
def laid_unicode_utf8_first : DataW Unit := Go.Pinned.utf8First

/-- 'capstanlaw09.ScanWheres': WHATEVER THE INPUT: true; the input reads as it did. -/
def scanWheresSpec : ChangeSpec := { name := "scanWheres", fn := fun _ => fun
  | [d1, d2] => { results := [.lit (.bool true)], args := [d1, d2] }
  | _ => none }
def scanWheresRow : OpenClaim := { program := "ytmgjmjoclglidaadoor", sum := "d7fc3f242e3a95dfe19fd1c325dac03d2c891a330803bbbf5721ff7da0d189ce", func := "capstan/capstanlaw09.ScanWheres", spec := "scanWheres", named := ["unicode/utf8.first", "unicode/utf8.acceptRanges"], apart := false, laid := [("unicode/utf8.acceptRanges", laid_unicode_utf8_acceptRanges), ("unicode/utf8.first", laid_unicode_utf8_first)] }
def ScanWheresSaid : Prop := scanWheresRow.holds Tryd.pinned (OpenSpec.ofChange scanWheresSpec)

/-- ITS FALSE NEIGHBOUR: 'it returns false'. Refute it at one input. -/
def scanWheresWrong : ChangeSpec := { name := "scanWheres", fn := fun _ => fun
  | [d1, d2] => { results := [.lit (.bool false)], args := [d1, d2] }
  | _ => none }
def ScanWheresWrongFalsely : Prop := scanWheresRow.holds Tryd.pinned (OpenSpec.ofChange scanWheresWrong)

/-- 'capstanlaw09.ScanJoins': WHATEVER THE INPUT: true; the input reads as it did. -/
def scanJoinsSpec : ChangeSpec := { name := "scanJoins", fn := fun _ => fun
  | [d1, d2] => { results := [.lit (.bool true)], args := [d1, d2] }
  | _ => none }
def scanJoinsRow : OpenClaim := { program := "ytmgjmjoclglidaadoor", sum := "d7fc3f242e3a95dfe19fd1c325dac03d2c891a330803bbbf5721ff7da0d189ce", func := "capstan/capstanlaw09.ScanJoins", spec := "scanJoins", named := ["unicode/utf8.first", "unicode/utf8.acceptRanges"], apart := false, laid := [("unicode/utf8.acceptRanges", laid_unicode_utf8_acceptRanges), ("unicode/utf8.first", laid_unicode_utf8_first)] }
def ScanJoinsSaid : Prop := scanJoinsRow.holds Tryd.pinned (OpenSpec.ofChange scanJoinsSpec)

/-- ITS FALSE NEIGHBOUR: 'it returns false'. Refute it at one input. -/
def scanJoinsWrong : ChangeSpec := { name := "scanJoins", fn := fun _ => fun
  | [d1, d2] => { results := [.lit (.bool false)], args := [d1, d2] }
  | _ => none }
def ScanJoinsWrongFalsely : Prop := scanJoinsRow.holds Tryd.pinned (OpenSpec.ofChange scanJoinsWrong)

/-- 'capstanlaw09.ScanChecks': WHATEVER THE INPUT: true; the input reads as it did. -/
def scanChecksSpec : ChangeSpec := { name := "scanChecks", fn := fun _ => fun
  | [d] => { results := [.lit (.bool true)], args := [d] }
  | _ => none }
def scanChecksRow : OpenClaim := { program := "ytmgjmjoclglidaadoor", sum := "d7fc3f242e3a95dfe19fd1c325dac03d2c891a330803bbbf5721ff7da0d189ce", func := "capstan/capstanlaw09.ScanChecks", spec := "scanChecks", named := ["unicode/utf8.first", "unicode/utf8.acceptRanges"], apart := false, laid := [("unicode/utf8.acceptRanges", laid_unicode_utf8_acceptRanges), ("unicode/utf8.first", laid_unicode_utf8_first)] }
def ScanChecksSaid : Prop := scanChecksRow.holds Tryd.pinned (OpenSpec.ofChange scanChecksSpec)

/-- ITS FALSE NEIGHBOUR: 'it returns false'. Refute it at one input. -/
def scanChecksWrong : ChangeSpec := { name := "scanChecks", fn := fun _ => fun
  | [d] => { results := [.lit (.bool false)], args := [d] }
  | _ => none }
def ScanChecksWrongFalsely : Prop := scanChecksRow.holds Tryd.pinned (OpenSpec.ofChange scanChecksWrong)

/-- 'capstanlaw09.ScanClasses': WHATEVER THE INPUT: true; the input reads as it did. -/
def scanClassesSpec : ChangeSpec := { name := "scanClasses", fn := fun _ => fun
  | [d1, d2] => { results := [.lit (.bool true)], args := [d1, d2] }
  | _ => none }
def scanClassesRow : OpenClaim := { program := "ytmgjmjoclglidaadoor", sum := "d7fc3f242e3a95dfe19fd1c325dac03d2c891a330803bbbf5721ff7da0d189ce", func := "capstan/capstanlaw09.ScanClasses", spec := "scanClasses", named := ["unicode/utf8.first", "unicode/utf8.acceptRanges"], apart := false, laid := [("unicode/utf8.acceptRanges", laid_unicode_utf8_acceptRanges), ("unicode/utf8.first", laid_unicode_utf8_first)] }
def ScanClassesSaid : Prop := scanClassesRow.holds Tryd.pinned (OpenSpec.ofChange scanClassesSpec)

/-- ITS FALSE NEIGHBOUR: 'it returns false'. Refute it at one input. -/
def scanClassesWrong : ChangeSpec := { name := "scanClasses", fn := fun _ => fun
  | [d1, d2] => { results := [.lit (.bool false)], args := [d1, d2] }
  | _ => none }
def ScanClassesWrongFalsely : Prop := scanClassesRow.holds Tryd.pinned (OpenSpec.ofChange scanClassesWrong)

/-- 'capstanlaw09.ScanRuns': WHATEVER THE INPUT: true; the input reads as it did. -/
def scanRunsSpec : ChangeSpec := { name := "scanRuns", fn := fun _ => fun
  | [d1, d2, d3] => { results := [.lit (.bool true)], args := [d1, d2, d3] }
  | _ => none }
def scanRunsRow : OpenClaim := { program := "ytmgjmjoclglidaadoor", sum := "d7fc3f242e3a95dfe19fd1c325dac03d2c891a330803bbbf5721ff7da0d189ce", func := "capstan/capstanlaw09.ScanRuns", spec := "scanRuns", named := ["unicode/utf8.first", "unicode/utf8.acceptRanges"], apart := false, laid := [("unicode/utf8.acceptRanges", laid_unicode_utf8_acceptRanges), ("unicode/utf8.first", laid_unicode_utf8_first)] }
def ScanRunsSaid : Prop := scanRunsRow.holds Tryd.pinned (OpenSpec.ofChange scanRunsSpec)

/-- ITS FALSE NEIGHBOUR: 'it returns false'. Refute it at one input. -/
def scanRunsWrong : ChangeSpec := { name := "scanRuns", fn := fun _ => fun
  | [d1, d2, d3] => { results := [.lit (.bool false)], args := [d1, d2, d3] }
  | _ => none }
def ScanRunsWrongFalsely : Prop := scanRunsRow.holds Tryd.pinned (OpenSpec.ofChange scanRunsWrong)

/-- 'capstanlaw09.ScanCovers': WHATEVER THE INPUT: true; the input reads as it did. -/
def scanCoversSpec : ChangeSpec := { name := "scanCovers", fn := fun _ => fun
  | [d1, d2] => { results := [.lit (.bool true)], args := [d1, d2] }
  | _ => none }
def scanCoversRow : OpenClaim := { program := "ytmgjmjoclglidaadoor", sum := "d7fc3f242e3a95dfe19fd1c325dac03d2c891a330803bbbf5721ff7da0d189ce", func := "capstan/capstanlaw09.ScanCovers", spec := "scanCovers", named := ["unicode/utf8.first", "unicode/utf8.acceptRanges"], apart := false, laid := [("unicode/utf8.acceptRanges", laid_unicode_utf8_acceptRanges), ("unicode/utf8.first", laid_unicode_utf8_first)] }
def ScanCoversSaid : Prop := scanCoversRow.holds Tryd.pinned (OpenSpec.ofChange scanCoversSpec)

/-- ITS FALSE NEIGHBOUR: 'it returns false'. Refute it at one input. -/
def scanCoversWrong : ChangeSpec := { name := "scanCovers", fn := fun _ => fun
  | [d1, d2] => { results := [.lit (.bool false)], args := [d1, d2] }
  | _ => none }
def ScanCoversWrongFalsely : Prop := scanCoversRow.holds Tryd.pinned (OpenSpec.ofChange scanCoversWrong)

/- THE SECOND FORM. 'bulk': how many values and letters a reading holds, each counted each time it is reached (what is shared counts as often as it is met; a slice's spare places count too). A statement '..UptoSaid' is the law's where the arguments, and the package variables that the reading takes, are together of bulk at most 1048576: NARROWER than '..Said'. Prove '..Said' where nothing that the law and all that it calls make is longer than what came in: it says more and counts as full. Else prove '..UptoSaid'. A law counts once. -/
mutual
def uptoBulk {H : Type} : DataW H → Nat
  | .lit (.string bytes) => bytes.length + 1
  | .lit _ => 1
  | .nil => 1
  | .ptr d => uptoBulk d + 1
  | .slice elems spare => uptoBulkAll elems + uptoBulkAll spare + 1
  | .agg parts => uptoBulkAll parts + 1
  | .iface _ d => uptoBulk d + 1
  | .map entries => uptoBulkEntries entries + 1
  | .held _ => 1
def uptoBulkAll {H : Type} : List (DataW H) → Nat
  | [] => 0
  | d :: r => uptoBulk d + uptoBulkAll r
def uptoBulkEntries {H : Type} : List (Lit × DataW H) → Nat
  | [] => 0
  | x :: r => uptoBulkEntry x + uptoBulkEntries r
def uptoBulkEntry {H : Type} : Lit × DataW H → Nat
  | (.string bytes, d) => bytes.length + uptoBulk d + 1
  | (_, d) => uptoBulk d + 1
 end
def uptoSmall : (H : Type) → List (DataW H) → Bool := fun _ ds => decide (uptoBulkAll ds ≤ 1048576)
def OpenSpec.upto (s : _root_.Go.ChangeSpec) : _root_.Go.OpenSpec := { _root_.Go.OpenSpec.ofChange s with cond := some uptoSmall }

/-- 'capstanlaw09.ScanWheres', WHERE WHAT IT READS IS OF BULK AT MOST 1048576: true; the input reads as it did. -/
def scanWheresUptoRow : OpenClaim := { program := "ytmgjmjoclglidaadoor", sum := "d7fc3f242e3a95dfe19fd1c325dac03d2c891a330803bbbf5721ff7da0d189ce", func := "capstan/capstanlaw09.ScanWheres", spec := "scanWheres", named := ["unicode/utf8.first", "unicode/utf8.acceptRanges"], apart := false, laid := [("unicode/utf8.acceptRanges", laid_unicode_utf8_acceptRanges), ("unicode/utf8.first", laid_unicode_utf8_first)], narrowed := true }
def ScanWheresUptoSaid : Prop := scanWheresUptoRow.holds Tryd.pinned (OpenSpec.upto scanWheresSpec)

/-- 'capstanlaw09.ScanJoins', WHERE WHAT IT READS IS OF BULK AT MOST 1048576: true; the input reads as it did. -/
def scanJoinsUptoRow : OpenClaim := { program := "ytmgjmjoclglidaadoor", sum := "d7fc3f242e3a95dfe19fd1c325dac03d2c891a330803bbbf5721ff7da0d189ce", func := "capstan/capstanlaw09.ScanJoins", spec := "scanJoins", named := ["unicode/utf8.first", "unicode/utf8.acceptRanges"], apart := false, laid := [("unicode/utf8.acceptRanges", laid_unicode_utf8_acceptRanges), ("unicode/utf8.first", laid_unicode_utf8_first)], narrowed := true }
def ScanJoinsUptoSaid : Prop := scanJoinsUptoRow.holds Tryd.pinned (OpenSpec.upto scanJoinsSpec)

/-- 'capstanlaw09.ScanChecks', WHERE WHAT IT READS IS OF BULK AT MOST 1048576: true; the input reads as it did. -/
def scanChecksUptoRow : OpenClaim := { program := "ytmgjmjoclglidaadoor", sum := "d7fc3f242e3a95dfe19fd1c325dac03d2c891a330803bbbf5721ff7da0d189ce", func := "capstan/capstanlaw09.ScanChecks", spec := "scanChecks", named := ["unicode/utf8.first", "unicode/utf8.acceptRanges"], apart := false, laid := [("unicode/utf8.acceptRanges", laid_unicode_utf8_acceptRanges), ("unicode/utf8.first", laid_unicode_utf8_first)], narrowed := true }
def ScanChecksUptoSaid : Prop := scanChecksUptoRow.holds Tryd.pinned (OpenSpec.upto scanChecksSpec)

/-- 'capstanlaw09.ScanClasses', WHERE WHAT IT READS IS OF BULK AT MOST 1048576: true; the input reads as it did. -/
def scanClassesUptoRow : OpenClaim := { program := "ytmgjmjoclglidaadoor", sum := "d7fc3f242e3a95dfe19fd1c325dac03d2c891a330803bbbf5721ff7da0d189ce", func := "capstan/capstanlaw09.ScanClasses", spec := "scanClasses", named := ["unicode/utf8.first", "unicode/utf8.acceptRanges"], apart := false, laid := [("unicode/utf8.acceptRanges", laid_unicode_utf8_acceptRanges), ("unicode/utf8.first", laid_unicode_utf8_first)], narrowed := true }
def ScanClassesUptoSaid : Prop := scanClassesUptoRow.holds Tryd.pinned (OpenSpec.upto scanClassesSpec)

/-- 'capstanlaw09.ScanRuns', WHERE WHAT IT READS IS OF BULK AT MOST 1048576: true; the input reads as it did. -/
def scanRunsUptoRow : OpenClaim := { program := "ytmgjmjoclglidaadoor", sum := "d7fc3f242e3a95dfe19fd1c325dac03d2c891a330803bbbf5721ff7da0d189ce", func := "capstan/capstanlaw09.ScanRuns", spec := "scanRuns", named := ["unicode/utf8.first", "unicode/utf8.acceptRanges"], apart := false, laid := [("unicode/utf8.acceptRanges", laid_unicode_utf8_acceptRanges), ("unicode/utf8.first", laid_unicode_utf8_first)], narrowed := true }
def ScanRunsUptoSaid : Prop := scanRunsUptoRow.holds Tryd.pinned (OpenSpec.upto scanRunsSpec)

/-- 'capstanlaw09.ScanCovers', WHERE WHAT IT READS IS OF BULK AT MOST 1048576: true; the input reads as it did. -/
def scanCoversUptoRow : OpenClaim := { program := "ytmgjmjoclglidaadoor", sum := "d7fc3f242e3a95dfe19fd1c325dac03d2c891a330803bbbf5721ff7da0d189ce", func := "capstan/capstanlaw09.ScanCovers", spec := "scanCovers", named := ["unicode/utf8.first", "unicode/utf8.acceptRanges"], apart := false, laid := [("unicode/utf8.acceptRanges", laid_unicode_utf8_acceptRanges), ("unicode/utf8.first", laid_unicode_utf8_first)], narrowed := true }
def ScanCoversUptoSaid : Prop := scanCoversUptoRow.holds Tryd.pinned (OpenSpec.upto scanCoversSpec)

end Rows
end Go.Proofs.YtmgjmjoclglidaaDoor
