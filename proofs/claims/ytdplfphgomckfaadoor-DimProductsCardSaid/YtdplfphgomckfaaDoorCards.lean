/-
  DERIVED. GIVEN WITH THE SEED: THE CARDS: each row of YtdplfphgomckfaaDoorRows.lean that lists a variable, with what it lists TIED to the program's text (the seventh form; the later family's looks); each row that meets fmt, with fmt's text TOLD by the authors' own Lean function (tested against real Go, not proved from fmt's source: count such statements apart). THE CARD IS WHAT COUNTS. Prove the row's statement (the work); the ties are given (YtdplfphgomckfaaDoorTie.lean); close each card by the builder's one call (the guide's Derived/Test/ToyasCard.lean, 'card_holds'). Laid BY PROGRAM, IN A SANDBOX (cutbox-door.mjs). By AI agents, Wed Nov 11 2026. No macro, syntax, notation, axiom, sorry.
-/
import Derived.Test.YtdplfphgomckfaaDoorRows
import GoSem.ClaimSeven
namespace Go.Proofs.YtdplfphgomckfaaDoor
namespace Rows

/-- THE TIED CARD OF 'capstanlaw02.DimReads'. -/
def dimReadsCard : Claim7 := { stood := { row := dimReadsRow, standIns := [], harness := (true, "10410aee0248eb9e42cd546d1fcc70be73cd5f8b520d71961df993ac606bed24"), looks := true }, kinds := [], alts := [], laidByText := true, laidKinds := [.data, .data, .data, .sentinel, .sentinel, .data], laidTests := true, laidLooks := .later }
def DimReadsCardSaid : Prop := Claim7.holds Tryd.pinned (.plain (OpenSpec.ofChange dimReadsSpec)) dimReadsCard

/-- THE TIED CARD OF 'capstanlaw02.DimJoins'. -/
def dimJoinsCard : Claim7 := { stood := { row := dimJoinsRow, standIns := [], harness := (true, "10410aee0248eb9e42cd546d1fcc70be73cd5f8b520d71961df993ac606bed24"), looks := true }, kinds := [], alts := [], laidByText := true, laidKinds := [.data, .data, .data, .sentinel, .sentinel, .data], laidTests := true, laidLooks := .later }
def DimJoinsCardSaid : Prop := Claim7.holds Tryd.pinned (.plain (OpenSpec.ofChange dimJoinsSpec)) dimJoinsCard

/-- THE TIED CARD OF 'capstanlaw02.DimTexts'. -/
def dimTextsCard : Claim7 := { stood := { row := dimTextsRow, standIns := [], harness := (true, "10410aee0248eb9e42cd546d1fcc70be73cd5f8b520d71961df993ac606bed24"), looks := true }, kinds := [], alts := [], laidByText := true, laidKinds := [.data, .data, .data, .sentinel, .sentinel, .data, .data], laidTests := true, laidLooks := .later }
def DimTextsCardSaid : Prop := Claim7.holds Tryd.pinned (.plain (OpenSpec.ofChange dimTextsSpec)) dimTextsCard

/-- THE TIED CARD OF 'capstanlaw02.DimGroup'. -/
def dimGroupCard : Claim7 := { stood := { row := dimGroupRow, standIns := [], harness := (true, "10410aee0248eb9e42cd546d1fcc70be73cd5f8b520d71961df993ac606bed24"), looks := true }, kinds := [], alts := [], laidByText := true, laidKinds := [.data, .data, .data, .sentinel, .sentinel, .data, .data], laidTests := true, laidLooks := .later }
def DimGroupCardSaid : Prop := Claim7.holds Tryd.pinned (.plain (OpenSpec.ofChange dimGroupSpec)) dimGroupCard

/-- THE TIED CARD OF 'capstanlaw02.DimValues'. -/
def dimValuesCard : Claim7 := { stood := { row := dimValuesRow, standIns := [], harness := (true, "10410aee0248eb9e42cd546d1fcc70be73cd5f8b520d71961df993ac606bed24"), looks := true }, kinds := [], alts := [], laidByText := true, laidKinds := [.data, .data, .data, .sentinel, .sentinel, .data], laidTests := true, laidLooks := .later }
def DimValuesCardSaid : Prop := Claim7.holds Tryd.pinned (.plain (OpenSpec.ofChange dimValuesSpec)) dimValuesCard

/-- THE TIED CARD OF 'capstanlaw02.DimProducts'. -/
def dimProductsCard : Claim7 := { stood := { row := dimProductsRow, standIns := [], harness := (true, "10410aee0248eb9e42cd546d1fcc70be73cd5f8b520d71961df993ac606bed24"), looks := true }, kinds := [], alts := [], laidByText := true, laidKinds := [.data, .data, .data, .sentinel, .sentinel, .data], laidTests := true, laidLooks := .later }
def DimProductsCardSaid : Prop := Claim7.holds Tryd.pinned (.plain (OpenSpec.ofChange dimProductsSpec)) dimProductsCard

/-- THE SECOND FORM's CARD OF 'capstanlaw02.DimReads'. -/
def dimReadsUptoCard : Claim7 := { stood := { row := dimReadsUptoRow, standIns := [], harness := (true, "10410aee0248eb9e42cd546d1fcc70be73cd5f8b520d71961df993ac606bed24"), looks := true }, kinds := [], alts := [], laidByText := true, laidKinds := [.data, .data, .data, .sentinel, .sentinel, .data], laidTests := true, laidLooks := .later }
def DimReadsUptoCardSaid : Prop := Claim7.holds Tryd.pinned (.plain (OpenSpec.upto dimReadsSpec)) dimReadsUptoCard

/-- THE SECOND FORM's CARD OF 'capstanlaw02.DimJoins'. -/
def dimJoinsUptoCard : Claim7 := { stood := { row := dimJoinsUptoRow, standIns := [], harness := (true, "10410aee0248eb9e42cd546d1fcc70be73cd5f8b520d71961df993ac606bed24"), looks := true }, kinds := [], alts := [], laidByText := true, laidKinds := [.data, .data, .data, .sentinel, .sentinel, .data], laidTests := true, laidLooks := .later }
def DimJoinsUptoCardSaid : Prop := Claim7.holds Tryd.pinned (.plain (OpenSpec.upto dimJoinsSpec)) dimJoinsUptoCard

/-- THE SECOND FORM's CARD OF 'capstanlaw02.DimTexts'. -/
def dimTextsUptoCard : Claim7 := { stood := { row := dimTextsUptoRow, standIns := [], harness := (true, "10410aee0248eb9e42cd546d1fcc70be73cd5f8b520d71961df993ac606bed24"), looks := true }, kinds := [], alts := [], laidByText := true, laidKinds := [.data, .data, .data, .sentinel, .sentinel, .data, .data], laidTests := true, laidLooks := .later }
def DimTextsUptoCardSaid : Prop := Claim7.holds Tryd.pinned (.plain (OpenSpec.upto dimTextsSpec)) dimTextsUptoCard

/-- THE SECOND FORM's CARD OF 'capstanlaw02.DimGroup'. -/
def dimGroupUptoCard : Claim7 := { stood := { row := dimGroupUptoRow, standIns := [], harness := (true, "10410aee0248eb9e42cd546d1fcc70be73cd5f8b520d71961df993ac606bed24"), looks := true }, kinds := [], alts := [], laidByText := true, laidKinds := [.data, .data, .data, .sentinel, .sentinel, .data, .data], laidTests := true, laidLooks := .later }
def DimGroupUptoCardSaid : Prop := Claim7.holds Tryd.pinned (.plain (OpenSpec.upto dimGroupSpec)) dimGroupUptoCard

/-- THE SECOND FORM's CARD OF 'capstanlaw02.DimValues'. -/
def dimValuesUptoCard : Claim7 := { stood := { row := dimValuesUptoRow, standIns := [], harness := (true, "10410aee0248eb9e42cd546d1fcc70be73cd5f8b520d71961df993ac606bed24"), looks := true }, kinds := [], alts := [], laidByText := true, laidKinds := [.data, .data, .data, .sentinel, .sentinel, .data], laidTests := true, laidLooks := .later }
def DimValuesUptoCardSaid : Prop := Claim7.holds Tryd.pinned (.plain (OpenSpec.upto dimValuesSpec)) dimValuesUptoCard

/-- THE SECOND FORM's CARD OF 'capstanlaw02.DimProducts'. -/
def dimProductsUptoCard : Claim7 := { stood := { row := dimProductsUptoRow, standIns := [], harness := (true, "10410aee0248eb9e42cd546d1fcc70be73cd5f8b520d71961df993ac606bed24"), looks := true }, kinds := [], alts := [], laidByText := true, laidKinds := [.data, .data, .data, .sentinel, .sentinel, .data], laidTests := true, laidLooks := .later }
def DimProductsUptoCardSaid : Prop := Claim7.holds Tryd.pinned (.plain (OpenSpec.upto dimProductsSpec)) dimProductsUptoCard
end Rows
end Go.Proofs.YtdplfphgomckfaaDoor
