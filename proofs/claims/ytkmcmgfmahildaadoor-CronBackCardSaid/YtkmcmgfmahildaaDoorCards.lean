/-
  DERIVED. GIVEN WITH THE SEED: THE CARDS: each row of YtkmcmgfmahildaaDoorRows.lean that lists a variable, with what it lists TIED to the program's text (the seventh form; the later family's looks); each row that meets fmt, with fmt's text TOLD by the authors' own Lean function (tested against real Go, not proved from fmt's source: count such statements apart). THE CARD IS WHAT COUNTS. Prove the row's statement (the work); the ties are given (YtkmcmgfmahildaaDoorTie.lean); close each card by the builder's one call (the guide's Derived/Test/ToyasCard.lean, 'card_holds'). Laid BY PROGRAM, IN A SANDBOX (cutbox-door.mjs). By AI agents, Wed Nov 11 2026. No macro, syntax, notation, axiom, sorry.
-/
import Derived.Test.YtkmcmgfmahildaaDoorRows
import GoSem.ClaimSeven
namespace Go.Proofs.YtkmcmgfmahildaaDoor
namespace Rows

/-- THE TIED CARD OF 'capstanlaw04.CronReads'. -/
def cronReadsCard : Claim7 := { stood := { row := cronReadsRow, standIns := [], harness := (true, "23cc39bb3cefab9485f64b8e1c22d51f2e816e978eea16d9e16fde71810a9555"), looks := true }, kinds := [], alts := [], laidByText := true, laidKinds := [.data, .data, .data, .sentinel, .sentinel, .wider], laidTests := true, laidLooks := .later }
def CronReadsCardSaid : Prop := Claim7.holds Tryd.pinned (.plain (OpenSpec.ofChange cronReadsSpec)) cronReadsCard

/-- THE TIED CARD OF 'capstanlaw04.CronTexts'. -/
def cronTextsCard : Claim7 := { stood := { row := cronTextsRow, standIns := [], harness := (true, "23cc39bb3cefab9485f64b8e1c22d51f2e816e978eea16d9e16fde71810a9555"), looks := true }, kinds := [], alts := [], laidByText := true, laidKinds := [.data, .data, .data, .sentinel, .sentinel, .wider], laidTests := true, laidLooks := .later }
def CronTextsCardSaid : Prop := Claim7.holds Tryd.pinned (.plain (OpenSpec.ofChange cronTextsSpec)) cronTextsCard

/-- THE TIED CARD OF 'capstanlaw04.CronBack'. -/
def cronBackCard : Claim7 := { stood := { row := cronBackRow, standIns := [], harness := (true, "23cc39bb3cefab9485f64b8e1c22d51f2e816e978eea16d9e16fde71810a9555"), looks := true }, kinds := [], alts := [], laidByText := true, laidKinds := [.data, .data, .data, .sentinel, .sentinel, .wider], laidTests := true, laidLooks := .later }
def CronBackCardSaid : Prop := Claim7.holds Tryd.pinned (.plain (OpenSpec.ofChange cronBackSpec)) cronBackCard

/-- THE TIED CARD OF 'capstanlaw04.CronNames'. -/
def cronNamesCard : Claim7 := { stood := { row := cronNamesRow, standIns := [], harness := (true, "23cc39bb3cefab9485f64b8e1c22d51f2e816e978eea16d9e16fde71810a9555"), looks := true }, kinds := [], alts := [], laidByText := true, laidKinds := [.data, .data, .data, .sentinel, .sentinel, .wider], laidTests := true, laidLooks := .later }
def CronNamesCardSaid : Prop := Claim7.holds Tryd.pinned (.plain (OpenSpec.ofChange cronNamesSpec)) cronNamesCard

/-- THE TIED CARD OF 'capstanlaw04.CronCycle'. -/
def cronCycleCard : Claim7 := { stood := { row := cronCycleRow, standIns := [], harness := (true, "23cc39bb3cefab9485f64b8e1c22d51f2e816e978eea16d9e16fde71810a9555"), looks := true }, kinds := [], alts := [], laidByText := true, laidKinds := [.data, .data, .data, .sentinel, .sentinel, .wider], laidTests := true, laidLooks := .later }
def CronCycleCardSaid : Prop := Claim7.holds Tryd.pinned (.plain (OpenSpec.ofChange cronCycleSpec)) cronCycleCard

/-- THE TIED CARD OF 'capstanlaw04.CronNext'. -/
def cronNextCard : Claim7 := { stood := { row := cronNextRow, standIns := [], harness := (true, "23cc39bb3cefab9485f64b8e1c22d51f2e816e978eea16d9e16fde71810a9555"), looks := true }, kinds := [], alts := [], laidByText := true, laidKinds := [.data, .data, .data, .sentinel, .sentinel, .wider], laidTests := true, laidLooks := .later }
def CronNextCardSaid : Prop := Claim7.holds Tryd.pinned (.plain (OpenSpec.ofChange cronNextSpec)) cronNextCard

/-- THE TIED CARD OF 'capstanlaw04.CronLeast'. -/
def cronLeastCard : Claim7 := { stood := { row := cronLeastRow, standIns := [], harness := (true, "23cc39bb3cefab9485f64b8e1c22d51f2e816e978eea16d9e16fde71810a9555"), looks := true }, kinds := [], alts := [], laidByText := true, laidKinds := [.data, .data, .data, .sentinel, .sentinel, .wider], laidTests := true, laidLooks := .later }
def CronLeastCardSaid : Prop := Claim7.holds Tryd.pinned (.plain (OpenSpec.ofChange cronLeastSpec)) cronLeastCard

/-- THE SECOND FORM's CARD OF 'capstanlaw04.CronReads'. -/
def cronReadsUptoCard : Claim7 := { stood := { row := cronReadsUptoRow, standIns := [], harness := (true, "23cc39bb3cefab9485f64b8e1c22d51f2e816e978eea16d9e16fde71810a9555"), looks := true }, kinds := [], alts := [], laidByText := true, laidKinds := [.data, .data, .data, .sentinel, .sentinel, .wider], laidTests := true, laidLooks := .later }
def CronReadsUptoCardSaid : Prop := Claim7.holds Tryd.pinned (.plain (OpenSpec.upto cronReadsSpec)) cronReadsUptoCard

/-- THE SECOND FORM's CARD OF 'capstanlaw04.CronTexts'. -/
def cronTextsUptoCard : Claim7 := { stood := { row := cronTextsUptoRow, standIns := [], harness := (true, "23cc39bb3cefab9485f64b8e1c22d51f2e816e978eea16d9e16fde71810a9555"), looks := true }, kinds := [], alts := [], laidByText := true, laidKinds := [.data, .data, .data, .sentinel, .sentinel, .wider], laidTests := true, laidLooks := .later }
def CronTextsUptoCardSaid : Prop := Claim7.holds Tryd.pinned (.plain (OpenSpec.upto cronTextsSpec)) cronTextsUptoCard

/-- THE SECOND FORM's CARD OF 'capstanlaw04.CronBack'. -/
def cronBackUptoCard : Claim7 := { stood := { row := cronBackUptoRow, standIns := [], harness := (true, "23cc39bb3cefab9485f64b8e1c22d51f2e816e978eea16d9e16fde71810a9555"), looks := true }, kinds := [], alts := [], laidByText := true, laidKinds := [.data, .data, .data, .sentinel, .sentinel, .wider], laidTests := true, laidLooks := .later }
def CronBackUptoCardSaid : Prop := Claim7.holds Tryd.pinned (.plain (OpenSpec.upto cronBackSpec)) cronBackUptoCard

/-- THE SECOND FORM's CARD OF 'capstanlaw04.CronNames'. -/
def cronNamesUptoCard : Claim7 := { stood := { row := cronNamesUptoRow, standIns := [], harness := (true, "23cc39bb3cefab9485f64b8e1c22d51f2e816e978eea16d9e16fde71810a9555"), looks := true }, kinds := [], alts := [], laidByText := true, laidKinds := [.data, .data, .data, .sentinel, .sentinel, .wider], laidTests := true, laidLooks := .later }
def CronNamesUptoCardSaid : Prop := Claim7.holds Tryd.pinned (.plain (OpenSpec.upto cronNamesSpec)) cronNamesUptoCard

/-- THE SECOND FORM's CARD OF 'capstanlaw04.CronCycle'. -/
def cronCycleUptoCard : Claim7 := { stood := { row := cronCycleUptoRow, standIns := [], harness := (true, "23cc39bb3cefab9485f64b8e1c22d51f2e816e978eea16d9e16fde71810a9555"), looks := true }, kinds := [], alts := [], laidByText := true, laidKinds := [.data, .data, .data, .sentinel, .sentinel, .wider], laidTests := true, laidLooks := .later }
def CronCycleUptoCardSaid : Prop := Claim7.holds Tryd.pinned (.plain (OpenSpec.upto cronCycleSpec)) cronCycleUptoCard

/-- THE SECOND FORM's CARD OF 'capstanlaw04.CronNext'. -/
def cronNextUptoCard : Claim7 := { stood := { row := cronNextUptoRow, standIns := [], harness := (true, "23cc39bb3cefab9485f64b8e1c22d51f2e816e978eea16d9e16fde71810a9555"), looks := true }, kinds := [], alts := [], laidByText := true, laidKinds := [.data, .data, .data, .sentinel, .sentinel, .wider], laidTests := true, laidLooks := .later }
def CronNextUptoCardSaid : Prop := Claim7.holds Tryd.pinned (.plain (OpenSpec.upto cronNextSpec)) cronNextUptoCard

/-- THE SECOND FORM's CARD OF 'capstanlaw04.CronLeast'. -/
def cronLeastUptoCard : Claim7 := { stood := { row := cronLeastUptoRow, standIns := [], harness := (true, "23cc39bb3cefab9485f64b8e1c22d51f2e816e978eea16d9e16fde71810a9555"), looks := true }, kinds := [], alts := [], laidByText := true, laidKinds := [.data, .data, .data, .sentinel, .sentinel, .wider], laidTests := true, laidLooks := .later }
def CronLeastUptoCardSaid : Prop := Claim7.holds Tryd.pinned (.plain (OpenSpec.upto cronLeastSpec)) cronLeastUptoCard
end Rows
end Go.Proofs.YtkmcmgfmahildaaDoor
