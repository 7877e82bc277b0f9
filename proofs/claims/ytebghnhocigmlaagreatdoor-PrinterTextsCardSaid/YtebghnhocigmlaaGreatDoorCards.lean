/-
  DERIVED. GIVEN WITH THE SEED: THE CARDS: each row of YtebghnhocigmlaaGreatDoorRows.lean that lists a variable, with what it lists TIED to the program's text (the seventh form; the later family's looks); each row that meets fmt, with fmt's text TOLD by the authors' own Lean function (tested against real Go, not proved from fmt's source: count such statements apart). THE CARD IS WHAT COUNTS. Prove the row's statement (the work); the ties are given (YtebghnhocigmlaaGreatDoorTie.lean); close each card by the builder's one call (the guide's Derived/Test/ToyasCard.lean, 'card_holds'). Laid BY PROGRAM, IN A SANDBOX (cutbox-door.mjs). By AI agents, Wed Nov 11 2026. No macro, syntax, notation, axiom, sorry.
-/
import Derived.Test.YtebghnhocigmlaaGreatDoorRows
import GoSem.ClaimSeven
namespace Go.Proofs.YtebghnhocigmlaaGreatDoor
namespace Rows

/-- THE TIED CARD OF 'bspregionlaw12.SyntaxBlanks'. -/
def syntaxBlanksCard : Claim7 := { stood := { row := syntaxBlanksRow, standIns := [], harness := (true, "cede2b4aad0e29990bbdc7bae8861b2d44ff9a3ea21fa582de203e9957197087"), looks := true }, kinds := [], alts := [], laidByText := true, laidKinds := [.data, .data, .data, .sentinel, .sentinel, .sentinel, .sentinel, .sentinel], laidTests := true, laidLooks := .later }
def SyntaxBlanksCardSaid : Prop := Claim7.holds Tryz.pinned (.plain (OpenSpec.ofChange syntaxBlanksSpec)) syntaxBlanksCard

/-- THE TIED CARD OF 'bspregionlaw12.SyntaxAppends'. -/
def syntaxAppendsCard : Claim7 := { stood := { row := syntaxAppendsRow, standIns := [], harness := (true, "cede2b4aad0e29990bbdc7bae8861b2d44ff9a3ea21fa582de203e9957197087"), looks := true }, kinds := [], alts := [], laidByText := true, laidKinds := [.data, .data, .data, .handle, .sentinel, .sentinel, .sentinel, .sentinel, .sentinel], laidTests := true, laidLooks := .later }
def SyntaxAppendsCardSaid : Prop := Claim7.holds Tryz.pinned (.plain (OpenSpec.ofChange syntaxAppendsSpec)) syntaxAppendsCard

/-- THE TIED CARD OF 'bspregionlaw13.PrinterTexts'. -/
def printerTextsCard : Claim7 := { stood := { row := printerTextsRow, standIns := [], harness := (true, "cede2b4aad0e29990bbdc7bae8861b2d44ff9a3ea21fa582de203e9957197087"), looks := true }, kinds := [], alts := [], laidByText := true, laidKinds := [.data, .data, .data, .sentinel, .sentinel, .sentinel, .sentinel, .sentinel, .sentinel], laidTests := true, laidLooks := .later }
def PrinterTextsCardSaid : Prop := Claim7.holds Tryz.pinned (.plain (OpenSpec.ofChange printerTextsSpec)) printerTextsCard

/-- THE TIED CARD OF 'bspregionlaw13.PrinterReads'. -/
def printerReadsCard : Claim7 := { stood := { row := printerReadsRow, standIns := [], harness := (true, "cede2b4aad0e29990bbdc7bae8861b2d44ff9a3ea21fa582de203e9957197087"), looks := true }, kinds := [], alts := [], laidByText := true, laidKinds := [.data, .data, .data, .sentinel, .sentinel, .sentinel, .sentinel, .sentinel, .sentinel], laidTests := true, laidLooks := .later }
def PrinterReadsCardSaid : Prop := Claim7.holds Tryz.pinned (.plain (OpenSpec.ofChange printerReadsSpec)) printerReadsCard

/-- THE TIED CARD OF 'bspregionlaw13.PrinterStatements'. -/
def printerStatementsCard : Claim7 := { stood := { row := printerStatementsRow, standIns := [], harness := (true, "cede2b4aad0e29990bbdc7bae8861b2d44ff9a3ea21fa582de203e9957197087"), looks := true }, kinds := [], alts := [], laidByText := true, laidKinds := [.data, .data, .data, .sentinel, .sentinel], laidTests := true, laidLooks := .later }
def PrinterStatementsCardSaid : Prop := Claim7.holds Tryz.pinned (.plain (OpenSpec.ofChange printerStatementsSpec)) printerStatementsCard

/-- THE SECOND FORM's CARD OF 'bspregionlaw12.SyntaxBlanks'. -/
def syntaxBlanksUptoCard : Claim7 := { stood := { row := syntaxBlanksUptoRow, standIns := [], harness := (true, "cede2b4aad0e29990bbdc7bae8861b2d44ff9a3ea21fa582de203e9957197087"), looks := true }, kinds := [], alts := [], laidByText := true, laidKinds := [.data, .data, .data, .sentinel, .sentinel, .sentinel, .sentinel, .sentinel], laidTests := true, laidLooks := .later }
def SyntaxBlanksUptoCardSaid : Prop := Claim7.holds Tryz.pinned (.plain (OpenSpec.upto syntaxBlanksSpec)) syntaxBlanksUptoCard

/-- THE SECOND FORM's CARD OF 'bspregionlaw12.SyntaxAppends'. -/
def syntaxAppendsUptoCard : Claim7 := { stood := { row := syntaxAppendsUptoRow, standIns := [], harness := (true, "cede2b4aad0e29990bbdc7bae8861b2d44ff9a3ea21fa582de203e9957197087"), looks := true }, kinds := [], alts := [], laidByText := true, laidKinds := [.data, .data, .data, .handle, .sentinel, .sentinel, .sentinel, .sentinel, .sentinel], laidTests := true, laidLooks := .later }
def SyntaxAppendsUptoCardSaid : Prop := Claim7.holds Tryz.pinned (.plain (OpenSpec.upto syntaxAppendsSpec)) syntaxAppendsUptoCard

/-- THE SECOND FORM's CARD OF 'bspregionlaw13.PrinterTexts'. -/
def printerTextsUptoCard : Claim7 := { stood := { row := printerTextsUptoRow, standIns := [], harness := (true, "cede2b4aad0e29990bbdc7bae8861b2d44ff9a3ea21fa582de203e9957197087"), looks := true }, kinds := [], alts := [], laidByText := true, laidKinds := [.data, .data, .data, .sentinel, .sentinel, .sentinel, .sentinel, .sentinel, .sentinel], laidTests := true, laidLooks := .later }
def PrinterTextsUptoCardSaid : Prop := Claim7.holds Tryz.pinned (.plain (OpenSpec.upto printerTextsSpec)) printerTextsUptoCard

/-- THE SECOND FORM's CARD OF 'bspregionlaw13.PrinterReads'. -/
def printerReadsUptoCard : Claim7 := { stood := { row := printerReadsUptoRow, standIns := [], harness := (true, "cede2b4aad0e29990bbdc7bae8861b2d44ff9a3ea21fa582de203e9957197087"), looks := true }, kinds := [], alts := [], laidByText := true, laidKinds := [.data, .data, .data, .sentinel, .sentinel, .sentinel, .sentinel, .sentinel, .sentinel], laidTests := true, laidLooks := .later }
def PrinterReadsUptoCardSaid : Prop := Claim7.holds Tryz.pinned (.plain (OpenSpec.upto printerReadsSpec)) printerReadsUptoCard

/-- THE SECOND FORM's CARD OF 'bspregionlaw13.PrinterStatements'. -/
def printerStatementsUptoCard : Claim7 := { stood := { row := printerStatementsUptoRow, standIns := [], harness := (true, "cede2b4aad0e29990bbdc7bae8861b2d44ff9a3ea21fa582de203e9957197087"), looks := true }, kinds := [], alts := [], laidByText := true, laidKinds := [.data, .data, .data, .sentinel, .sentinel], laidTests := true, laidLooks := .later }
def PrinterStatementsUptoCardSaid : Prop := Claim7.holds Tryz.pinned (.plain (OpenSpec.upto printerStatementsSpec)) printerStatementsUptoCard
end Rows
end Go.Proofs.YtebghnhocigmlaaGreatDoor
