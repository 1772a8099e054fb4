/-
  DERIVED. GIVEN WITH THE SEED: THE CARDS: each row of YtmgjmjoclglidaaDoorRows.lean that lists a variable, with what it lists TIED to the program's text (the seventh form; the later family's looks); each row that meets fmt, with fmt's text TOLD by the authors' own Lean function (tested against real Go, not proved from fmt's source: count such statements apart). THE CARD IS WHAT COUNTS. Prove the row's statement (the work); the ties are given (YtmgjmjoclglidaaDoorTie.lean); close each card by the builder's one call (the guide's Derived/Test/ToyasCard.lean, 'card_holds'). Laid BY PROGRAM, IN A SANDBOX (cutbox-door.mjs). By AI agents, Wed Nov 11 2026. No macro, syntax, notation, axiom, sorry.
-/
import Derived.Test.YtmgjmjoclglidaaDoorRows
import GoSem.ClaimSeven
namespace Go.Proofs.YtmgjmjoclglidaaDoor
namespace Rows

/-- THE TIED CARD OF 'capstanlaw09.ScanWheres'. -/
def scanWheresCard : Claim7 := { stood := { row := scanWheresRow, standIns := [], harness := (true, "7a9beb6d7901bdc2818f3a8b89d5ec8539fabc8f15073c04e7a40fdcd110dd05"), looks := false }, kinds := [], alts := [], laidByText := true, laidKinds := [.data, .pinned], laidTests := true, laidLooks := .later }
def ScanWheresCardSaid : Prop := Claim7.holds Tryd.pinned (.plain (OpenSpec.ofChange scanWheresSpec)) scanWheresCard

/-- THE TIED CARD OF 'capstanlaw09.ScanJoins'. -/
def scanJoinsCard : Claim7 := { stood := { row := scanJoinsRow, standIns := [], harness := (true, "7a9beb6d7901bdc2818f3a8b89d5ec8539fabc8f15073c04e7a40fdcd110dd05"), looks := false }, kinds := [], alts := [], laidByText := true, laidKinds := [.data, .pinned], laidTests := true, laidLooks := .later }
def ScanJoinsCardSaid : Prop := Claim7.holds Tryd.pinned (.plain (OpenSpec.ofChange scanJoinsSpec)) scanJoinsCard

/-- THE TIED CARD OF 'capstanlaw09.ScanChecks'. -/
def scanChecksCard : Claim7 := { stood := { row := scanChecksRow, standIns := [], harness := (true, "7a9beb6d7901bdc2818f3a8b89d5ec8539fabc8f15073c04e7a40fdcd110dd05"), looks := false }, kinds := [], alts := [], laidByText := true, laidKinds := [.data, .pinned], laidTests := true, laidLooks := .later }
def ScanChecksCardSaid : Prop := Claim7.holds Tryd.pinned (.plain (OpenSpec.ofChange scanChecksSpec)) scanChecksCard

/-- THE TIED CARD OF 'capstanlaw09.ScanClasses'. -/
def scanClassesCard : Claim7 := { stood := { row := scanClassesRow, standIns := [], harness := (true, "7a9beb6d7901bdc2818f3a8b89d5ec8539fabc8f15073c04e7a40fdcd110dd05"), looks := false }, kinds := [], alts := [], laidByText := true, laidKinds := [.data, .pinned], laidTests := true, laidLooks := .later }
def ScanClassesCardSaid : Prop := Claim7.holds Tryd.pinned (.plain (OpenSpec.ofChange scanClassesSpec)) scanClassesCard

/-- THE TIED CARD OF 'capstanlaw09.ScanRuns'. -/
def scanRunsCard : Claim7 := { stood := { row := scanRunsRow, standIns := [], harness := (true, "7a9beb6d7901bdc2818f3a8b89d5ec8539fabc8f15073c04e7a40fdcd110dd05"), looks := false }, kinds := [], alts := [], laidByText := true, laidKinds := [.data, .pinned], laidTests := true, laidLooks := .later }
def ScanRunsCardSaid : Prop := Claim7.holds Tryd.pinned (.plain (OpenSpec.ofChange scanRunsSpec)) scanRunsCard

/-- THE TIED CARD OF 'capstanlaw09.ScanCovers'. -/
def scanCoversCard : Claim7 := { stood := { row := scanCoversRow, standIns := [], harness := (true, "7a9beb6d7901bdc2818f3a8b89d5ec8539fabc8f15073c04e7a40fdcd110dd05"), looks := false }, kinds := [], alts := [], laidByText := true, laidKinds := [.data, .pinned], laidTests := true, laidLooks := .later }
def ScanCoversCardSaid : Prop := Claim7.holds Tryd.pinned (.plain (OpenSpec.ofChange scanCoversSpec)) scanCoversCard

/-- THE SECOND FORM's CARD OF 'capstanlaw09.ScanWheres'. -/
def scanWheresUptoCard : Claim7 := { stood := { row := scanWheresUptoRow, standIns := [], harness := (true, "7a9beb6d7901bdc2818f3a8b89d5ec8539fabc8f15073c04e7a40fdcd110dd05"), looks := false }, kinds := [], alts := [], laidByText := true, laidKinds := [.data, .pinned], laidTests := true, laidLooks := .later }
def ScanWheresUptoCardSaid : Prop := Claim7.holds Tryd.pinned (.plain (OpenSpec.upto scanWheresSpec)) scanWheresUptoCard

/-- THE SECOND FORM's CARD OF 'capstanlaw09.ScanJoins'. -/
def scanJoinsUptoCard : Claim7 := { stood := { row := scanJoinsUptoRow, standIns := [], harness := (true, "7a9beb6d7901bdc2818f3a8b89d5ec8539fabc8f15073c04e7a40fdcd110dd05"), looks := false }, kinds := [], alts := [], laidByText := true, laidKinds := [.data, .pinned], laidTests := true, laidLooks := .later }
def ScanJoinsUptoCardSaid : Prop := Claim7.holds Tryd.pinned (.plain (OpenSpec.upto scanJoinsSpec)) scanJoinsUptoCard

/-- THE SECOND FORM's CARD OF 'capstanlaw09.ScanChecks'. -/
def scanChecksUptoCard : Claim7 := { stood := { row := scanChecksUptoRow, standIns := [], harness := (true, "7a9beb6d7901bdc2818f3a8b89d5ec8539fabc8f15073c04e7a40fdcd110dd05"), looks := false }, kinds := [], alts := [], laidByText := true, laidKinds := [.data, .pinned], laidTests := true, laidLooks := .later }
def ScanChecksUptoCardSaid : Prop := Claim7.holds Tryd.pinned (.plain (OpenSpec.upto scanChecksSpec)) scanChecksUptoCard

/-- THE SECOND FORM's CARD OF 'capstanlaw09.ScanClasses'. -/
def scanClassesUptoCard : Claim7 := { stood := { row := scanClassesUptoRow, standIns := [], harness := (true, "7a9beb6d7901bdc2818f3a8b89d5ec8539fabc8f15073c04e7a40fdcd110dd05"), looks := false }, kinds := [], alts := [], laidByText := true, laidKinds := [.data, .pinned], laidTests := true, laidLooks := .later }
def ScanClassesUptoCardSaid : Prop := Claim7.holds Tryd.pinned (.plain (OpenSpec.upto scanClassesSpec)) scanClassesUptoCard

/-- THE SECOND FORM's CARD OF 'capstanlaw09.ScanRuns'. -/
def scanRunsUptoCard : Claim7 := { stood := { row := scanRunsUptoRow, standIns := [], harness := (true, "7a9beb6d7901bdc2818f3a8b89d5ec8539fabc8f15073c04e7a40fdcd110dd05"), looks := false }, kinds := [], alts := [], laidByText := true, laidKinds := [.data, .pinned], laidTests := true, laidLooks := .later }
def ScanRunsUptoCardSaid : Prop := Claim7.holds Tryd.pinned (.plain (OpenSpec.upto scanRunsSpec)) scanRunsUptoCard

/-- THE SECOND FORM's CARD OF 'capstanlaw09.ScanCovers'. -/
def scanCoversUptoCard : Claim7 := { stood := { row := scanCoversUptoRow, standIns := [], harness := (true, "7a9beb6d7901bdc2818f3a8b89d5ec8539fabc8f15073c04e7a40fdcd110dd05"), looks := false }, kinds := [], alts := [], laidByText := true, laidKinds := [.data, .pinned], laidTests := true, laidLooks := .later }
def ScanCoversUptoCardSaid : Prop := Claim7.holds Tryd.pinned (.plain (OpenSpec.upto scanCoversSpec)) scanCoversUptoCard
end Rows
end Go.Proofs.YtmgjmjoclglidaaDoor
