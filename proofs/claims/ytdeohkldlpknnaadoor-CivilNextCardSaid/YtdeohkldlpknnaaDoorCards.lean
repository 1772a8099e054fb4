/-
  DERIVED. GIVEN WITH THE SEED: THE CARDS: each row of YtdeohkldlpknnaaDoorRows.lean that lists a variable, with what it lists TIED to the program's text (the seventh form; the later family's looks); each row that meets fmt, with fmt's text TOLD by the authors' own Lean function (tested against real Go, not proved from fmt's source: count such statements apart). THE CARD IS WHAT COUNTS. Prove the row's statement (the work); the ties are given (YtdeohkldlpknnaaDoorTie.lean); close each card by the builder's one call (the guide's Derived/Test/ToyasCard.lean, 'card_holds'). Laid BY PROGRAM, IN A SANDBOX (cutbox-door.mjs). By AI agents, Wed Nov 11 2026. No macro, syntax, notation, axiom, sorry.
-/
import Derived.Test.YtdeohkldlpknnaaDoorRows
import GoSem.ClaimSeven
namespace Go.Proofs.YtdeohkldlpknnaaDoor
namespace Rows

/-- THE TIED CARD OF 'capstanlaw03.CivilOf'. -/
def civilOfCard : Claim7 := { stood := { row := civilOfRow, standIns := [], harness := (true, "b89ffde8120810129696057d33f34119d1b631fbdf85603e50b0e8428d3035ee"), looks := false }, kinds := [], alts := [], laidByText := true, laidKinds := [.data], laidTests := true, laidLooks := .later }
def CivilOfCardSaid : Prop := Claim7.holds Tryd.pinned (.plain (OpenSpec.ofChange civilOfSpec)) civilOfCard

/-- THE TIED CARD OF 'capstanlaw03.CivilSeconds'. -/
def civilSecondsCard : Claim7 := { stood := { row := civilSecondsRow, standIns := [], harness := (true, "b89ffde8120810129696057d33f34119d1b631fbdf85603e50b0e8428d3035ee"), looks := false }, kinds := [], alts := [], laidByText := true, laidKinds := [.data], laidTests := true, laidLooks := .later }
def CivilSecondsCardSaid : Prop := Claim7.holds Tryd.pinned (.plain (OpenSpec.ofChange civilSecondsSpec)) civilSecondsCard

/-- THE TIED CARD OF 'capstanlaw03.CivilDays'. -/
def civilDaysCard : Claim7 := { stood := { row := civilDaysRow, standIns := [], harness := (true, "b89ffde8120810129696057d33f34119d1b631fbdf85603e50b0e8428d3035ee"), looks := false }, kinds := [], alts := [], laidByText := true, laidKinds := [.data], laidTests := true, laidLooks := .later }
def CivilDaysCardSaid : Prop := Claim7.holds Tryd.pinned (.plain (OpenSpec.ofChange civilDaysSpec)) civilDaysCard

/-- THE TIED CARD OF 'capstanlaw03.CivilBack'. -/
def civilBackCard : Claim7 := { stood := { row := civilBackRow, standIns := [], harness := (true, "b89ffde8120810129696057d33f34119d1b631fbdf85603e50b0e8428d3035ee"), looks := false }, kinds := [], alts := [], laidByText := true, laidKinds := [.data], laidTests := true, laidLooks := .later }
def CivilBackCardSaid : Prop := Claim7.holds Tryd.pinned (.plain (OpenSpec.ofChange civilBackSpec)) civilBackCard

/-- THE TIED CARD OF 'capstanlaw03.CivilNext'. -/
def civilNextCard : Claim7 := { stood := { row := civilNextRow, standIns := [], harness := (true, "b89ffde8120810129696057d33f34119d1b631fbdf85603e50b0e8428d3035ee"), looks := false }, kinds := [], alts := [], laidByText := true, laidKinds := [.data], laidTests := true, laidLooks := .later }
def CivilNextCardSaid : Prop := Claim7.holds Tryd.pinned (.plain (OpenSpec.ofChange civilNextSpec)) civilNextCard

/-- THE TIED CARD OF 'capstanlaw03.CivilCycle'. -/
def civilCycleCard : Claim7 := { stood := { row := civilCycleRow, standIns := [], harness := (true, "b89ffde8120810129696057d33f34119d1b631fbdf85603e50b0e8428d3035ee"), looks := false }, kinds := [], alts := [], laidByText := true, laidKinds := [.data], laidTests := true, laidLooks := .later }
def CivilCycleCardSaid : Prop := Claim7.holds Tryd.pinned (.plain (OpenSpec.ofChange civilCycleSpec)) civilCycleCard

/-- THE SECOND FORM's CARD OF 'capstanlaw03.CivilOf'. -/
def civilOfUptoCard : Claim7 := { stood := { row := civilOfUptoRow, standIns := [], harness := (true, "b89ffde8120810129696057d33f34119d1b631fbdf85603e50b0e8428d3035ee"), looks := false }, kinds := [], alts := [], laidByText := true, laidKinds := [.data], laidTests := true, laidLooks := .later }
def CivilOfUptoCardSaid : Prop := Claim7.holds Tryd.pinned (.plain (OpenSpec.upto civilOfSpec)) civilOfUptoCard

/-- THE SECOND FORM's CARD OF 'capstanlaw03.CivilSeconds'. -/
def civilSecondsUptoCard : Claim7 := { stood := { row := civilSecondsUptoRow, standIns := [], harness := (true, "b89ffde8120810129696057d33f34119d1b631fbdf85603e50b0e8428d3035ee"), looks := false }, kinds := [], alts := [], laidByText := true, laidKinds := [.data], laidTests := true, laidLooks := .later }
def CivilSecondsUptoCardSaid : Prop := Claim7.holds Tryd.pinned (.plain (OpenSpec.upto civilSecondsSpec)) civilSecondsUptoCard

/-- THE SECOND FORM's CARD OF 'capstanlaw03.CivilDays'. -/
def civilDaysUptoCard : Claim7 := { stood := { row := civilDaysUptoRow, standIns := [], harness := (true, "b89ffde8120810129696057d33f34119d1b631fbdf85603e50b0e8428d3035ee"), looks := false }, kinds := [], alts := [], laidByText := true, laidKinds := [.data], laidTests := true, laidLooks := .later }
def CivilDaysUptoCardSaid : Prop := Claim7.holds Tryd.pinned (.plain (OpenSpec.upto civilDaysSpec)) civilDaysUptoCard

/-- THE SECOND FORM's CARD OF 'capstanlaw03.CivilBack'. -/
def civilBackUptoCard : Claim7 := { stood := { row := civilBackUptoRow, standIns := [], harness := (true, "b89ffde8120810129696057d33f34119d1b631fbdf85603e50b0e8428d3035ee"), looks := false }, kinds := [], alts := [], laidByText := true, laidKinds := [.data], laidTests := true, laidLooks := .later }
def CivilBackUptoCardSaid : Prop := Claim7.holds Tryd.pinned (.plain (OpenSpec.upto civilBackSpec)) civilBackUptoCard

/-- THE SECOND FORM's CARD OF 'capstanlaw03.CivilNext'. -/
def civilNextUptoCard : Claim7 := { stood := { row := civilNextUptoRow, standIns := [], harness := (true, "b89ffde8120810129696057d33f34119d1b631fbdf85603e50b0e8428d3035ee"), looks := false }, kinds := [], alts := [], laidByText := true, laidKinds := [.data], laidTests := true, laidLooks := .later }
def CivilNextUptoCardSaid : Prop := Claim7.holds Tryd.pinned (.plain (OpenSpec.upto civilNextSpec)) civilNextUptoCard

/-- THE SECOND FORM's CARD OF 'capstanlaw03.CivilCycle'. -/
def civilCycleUptoCard : Claim7 := { stood := { row := civilCycleUptoRow, standIns := [], harness := (true, "b89ffde8120810129696057d33f34119d1b631fbdf85603e50b0e8428d3035ee"), looks := false }, kinds := [], alts := [], laidByText := true, laidKinds := [.data], laidTests := true, laidLooks := .later }
def CivilCycleUptoCardSaid : Prop := Claim7.holds Tryd.pinned (.plain (OpenSpec.upto civilCycleSpec)) civilCycleUptoCard
end Rows
end Go.Proofs.YtdeohkldlpknnaaDoor
