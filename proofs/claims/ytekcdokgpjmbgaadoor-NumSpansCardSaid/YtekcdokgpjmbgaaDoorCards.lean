/-
  DERIVED. GIVEN WITH THE SEED: THE CARDS: each row of YtekcdokgpjmbgaaDoorRows.lean that lists a variable, with what it lists TIED to the program's text (the seventh form; the later family's looks); each row that meets fmt, with fmt's text TOLD by the authors' own Lean function (tested against real Go, not proved from fmt's source: count such statements apart). THE CARD IS WHAT COUNTS. Prove the row's statement (the work); the ties are given (YtekcdokgpjmbgaaDoorTie.lean); close each card by the builder's one call (the guide's Derived/Test/ToyasCard.lean, 'card_holds'). Laid BY PROGRAM, IN A SANDBOX (cutbox-door.mjs). By AI agents, Wed Nov 11 2026. No macro, syntax, notation, axiom, sorry.
-/
import Derived.Test.YtekcdokgpjmbgaaDoorRows
import GoSem.ClaimSeven
namespace Go.Proofs.YtekcdokgpjmbgaaDoor
namespace Rows

/-- THE TIED CARD OF 'capstanlaw10.NumSpans'. -/
def numSpansCard : Claim7 := { stood := { row := numSpansRow, standIns := [], harness := (true, "cd9f5f1df15ad383894cc8b91a69030f508e41b44b67a7cfcc8d5f26c07d482c"), looks := true }, kinds := [], alts := [], laidByText := true, laidKinds := [.data, .data, .data, .data, .sentinel, .sentinel, .pinned], laidTests := true, laidLooks := .later }
def NumSpansCardSaid : Prop := Claim7.holds Tryd.pinned (.plain (OpenSpec.ofChange numSpansSpec)) numSpansCard

/-- THE TIED CARD OF 'capstanlaw10.NumSpanBack'. -/
def numSpanBackCard : Claim7 := { stood := { row := numSpanBackRow, standIns := [], harness := (true, "cd9f5f1df15ad383894cc8b91a69030f508e41b44b67a7cfcc8d5f26c07d482c"), looks := true }, kinds := [], alts := [], laidByText := true, laidKinds := [.data, .data, .data, .data, .sentinel, .sentinel, .pinned], laidTests := true, laidLooks := .later }
def NumSpanBackCardSaid : Prop := Claim7.holds Tryd.pinned (.plain (OpenSpec.ofChange numSpanBackSpec)) numSpanBackCard

/-- THE TIED CARD OF 'capstanlaw10.NumReads'. -/
def numReadsCard : Claim7 := { stood := { row := numReadsRow, standIns := [], harness := (true, "cd9f5f1df15ad383894cc8b91a69030f508e41b44b67a7cfcc8d5f26c07d482c"), looks := true }, kinds := [], alts := [], laidByText := true, laidKinds := [.data, .data, .data, .data, .sentinel, .sentinel, .pinned], laidTests := true, laidLooks := .later }
def NumReadsCardSaid : Prop := Claim7.holds Tryd.pinned (.plain (OpenSpec.ofChange numReadsSpec)) numReadsCard

/-- THE TIED CARD OF 'capstanlaw10.NumBack'. -/
def numBackCard : Claim7 := { stood := { row := numBackRow, standIns := [], harness := (true, "cd9f5f1df15ad383894cc8b91a69030f508e41b44b67a7cfcc8d5f26c07d482c"), looks := true }, kinds := [], alts := [], laidByText := true, laidKinds := [.data, .data, .data, .data, .sentinel, .sentinel, .pinned], laidTests := true, laidLooks := .later }
def NumBackCardSaid : Prop := Claim7.holds Tryd.pinned (.plain (OpenSpec.ofChange numBackSpec)) numBackCard

/-- THE TIED CARD OF 'capstanlaw10.NumPoint'. -/
def numPointCard : Claim7 := { stood := { row := numPointRow, standIns := [], harness := (true, "cd9f5f1df15ad383894cc8b91a69030f508e41b44b67a7cfcc8d5f26c07d482c"), looks := true }, kinds := [], alts := [], laidByText := true, laidKinds := [.data, .data, .data, .data, .sentinel, .sentinel, .pinned], laidTests := true, laidLooks := .later }
def NumPointCardSaid : Prop := Claim7.holds Tryd.pinned (.plain (OpenSpec.ofChange numPointSpec)) numPointCard

/-- THE TIED CARD OF 'capstanlaw10.NumTexts'. -/
def numTextsCard : Claim7 := { stood := { row := numTextsRow, standIns := [], harness := (true, "cd9f5f1df15ad383894cc8b91a69030f508e41b44b67a7cfcc8d5f26c07d482c"), looks := true }, kinds := [], alts := [], laidByText := true, laidKinds := [.data, .data, .data, .data, .sentinel, .sentinel, .pinned], laidTests := true, laidLooks := .later }
def NumTextsCardSaid : Prop := Claim7.holds Tryd.pinned (.plain (OpenSpec.ofChange numTextsSpec)) numTextsCard

/-- THE SECOND FORM's CARD OF 'capstanlaw10.NumSpans'. -/
def numSpansUptoCard : Claim7 := { stood := { row := numSpansUptoRow, standIns := [], harness := (true, "cd9f5f1df15ad383894cc8b91a69030f508e41b44b67a7cfcc8d5f26c07d482c"), looks := true }, kinds := [], alts := [], laidByText := true, laidKinds := [.data, .data, .data, .data, .sentinel, .sentinel, .pinned], laidTests := true, laidLooks := .later }
def NumSpansUptoCardSaid : Prop := Claim7.holds Tryd.pinned (.plain (OpenSpec.upto numSpansSpec)) numSpansUptoCard

/-- THE SECOND FORM's CARD OF 'capstanlaw10.NumSpanBack'. -/
def numSpanBackUptoCard : Claim7 := { stood := { row := numSpanBackUptoRow, standIns := [], harness := (true, "cd9f5f1df15ad383894cc8b91a69030f508e41b44b67a7cfcc8d5f26c07d482c"), looks := true }, kinds := [], alts := [], laidByText := true, laidKinds := [.data, .data, .data, .data, .sentinel, .sentinel, .pinned], laidTests := true, laidLooks := .later }
def NumSpanBackUptoCardSaid : Prop := Claim7.holds Tryd.pinned (.plain (OpenSpec.upto numSpanBackSpec)) numSpanBackUptoCard

/-- THE SECOND FORM's CARD OF 'capstanlaw10.NumReads'. -/
def numReadsUptoCard : Claim7 := { stood := { row := numReadsUptoRow, standIns := [], harness := (true, "cd9f5f1df15ad383894cc8b91a69030f508e41b44b67a7cfcc8d5f26c07d482c"), looks := true }, kinds := [], alts := [], laidByText := true, laidKinds := [.data, .data, .data, .data, .sentinel, .sentinel, .pinned], laidTests := true, laidLooks := .later }
def NumReadsUptoCardSaid : Prop := Claim7.holds Tryd.pinned (.plain (OpenSpec.upto numReadsSpec)) numReadsUptoCard

/-- THE SECOND FORM's CARD OF 'capstanlaw10.NumBack'. -/
def numBackUptoCard : Claim7 := { stood := { row := numBackUptoRow, standIns := [], harness := (true, "cd9f5f1df15ad383894cc8b91a69030f508e41b44b67a7cfcc8d5f26c07d482c"), looks := true }, kinds := [], alts := [], laidByText := true, laidKinds := [.data, .data, .data, .data, .sentinel, .sentinel, .pinned], laidTests := true, laidLooks := .later }
def NumBackUptoCardSaid : Prop := Claim7.holds Tryd.pinned (.plain (OpenSpec.upto numBackSpec)) numBackUptoCard

/-- THE SECOND FORM's CARD OF 'capstanlaw10.NumPoint'. -/
def numPointUptoCard : Claim7 := { stood := { row := numPointUptoRow, standIns := [], harness := (true, "cd9f5f1df15ad383894cc8b91a69030f508e41b44b67a7cfcc8d5f26c07d482c"), looks := true }, kinds := [], alts := [], laidByText := true, laidKinds := [.data, .data, .data, .data, .sentinel, .sentinel, .pinned], laidTests := true, laidLooks := .later }
def NumPointUptoCardSaid : Prop := Claim7.holds Tryd.pinned (.plain (OpenSpec.upto numPointSpec)) numPointUptoCard

/-- THE SECOND FORM's CARD OF 'capstanlaw10.NumTexts'. -/
def numTextsUptoCard : Claim7 := { stood := { row := numTextsUptoRow, standIns := [], harness := (true, "cd9f5f1df15ad383894cc8b91a69030f508e41b44b67a7cfcc8d5f26c07d482c"), looks := true }, kinds := [], alts := [], laidByText := true, laidKinds := [.data, .data, .data, .data, .sentinel, .sentinel, .pinned], laidTests := true, laidLooks := .later }
def NumTextsUptoCardSaid : Prop := Claim7.holds Tryd.pinned (.plain (OpenSpec.upto numTextsSpec)) numTextsUptoCard
end Rows
end Go.Proofs.YtekcdokgpjmbgaaDoor
