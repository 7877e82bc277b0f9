/-
  DERIVED. GIVEN WITH THE SEED: THE CARDS: each row of YtghaepkgceaboaaGreatDoorRows.lean that lists a variable, with what it lists TIED to the program's text (the seventh form; the later family's looks); each row that meets fmt, with fmt's text TOLD by the authors' own Lean function (tested against real Go, not proved from fmt's source: count such statements apart). THE CARD IS WHAT COUNTS. Prove the row's statement (the work); the ties are given (YtghaepkgceaboaaGreatDoorTie.lean); close each card by the builder's one call (the guide's Derived/Test/ToyasCard.lean, 'card_holds'). Laid BY PROGRAM, IN A SANDBOX (cutbox-door.mjs). By AI agents, Wed Nov 11 2026. No macro, syntax, notation, axiom, sorry.
-/
import Derived.Test.YtghaepkgceaboaaGreatDoorRows
import GoSem.ClaimSeven
namespace Go.Proofs.YtghaepkgceaboaaGreatDoor
namespace Rows

/-- THE TIED CARD OF 'bspregionlaw13.PrinterRefuses'. -/
def printerRefusesCard : Claim7 := { stood := { row := printerRefusesRow, standIns := [], harness := (true, "ee1b918e236edf54f425f55614eb1a02642d413934d9249768bd9cb30c76cca7"), looks := true }, kinds := [], alts := [], laidByText := true, laidKinds := [.sentinel, .sentinel], laidTests := true, laidLooks := .later }
def PrinterRefusesCardSaid : Prop := Claim7.holds Tryz.pinned (.plain (OpenSpec.ofChange printerRefusesSpec)) printerRefusesCard

/-- THE TIED CARD OF 'bspregionlaw13.PrinterExprs'. -/
def printerExprsCard : Claim7 := { stood := { row := printerExprsRow, standIns := [], harness := (true, "ee1b918e236edf54f425f55614eb1a02642d413934d9249768bd9cb30c76cca7"), looks := true }, kinds := [], alts := [], laidByText := true, laidKinds := [.sentinel, .sentinel], laidTests := true, laidLooks := .later }
def PrinterExprsCardSaid : Prop := Claim7.holds Tryz.pinned (.plain (OpenSpec.ofChange printerExprsSpec)) printerExprsCard

/-- THE TIED CARD OF 'bspregionlaw13.PrinterStatements'. -/
def printerStatementsCard : Claim7 := { stood := { row := printerStatementsRow, standIns := [], harness := (true, "ee1b918e236edf54f425f55614eb1a02642d413934d9249768bd9cb30c76cca7"), looks := true }, kinds := [], alts := [], laidByText := true, laidKinds := [.data, .data, .data, .sentinel, .sentinel], laidTests := true, laidLooks := .later }
def PrinterStatementsCardSaid : Prop := Claim7.holds Tryz.pinned (.plain (OpenSpec.ofChange printerStatementsSpec)) printerStatementsCard

/-- THE SECOND FORM's CARD OF 'bspregionlaw13.PrinterRefuses'. -/
def printerRefusesUptoCard : Claim7 := { stood := { row := printerRefusesUptoRow, standIns := [], harness := (true, "ee1b918e236edf54f425f55614eb1a02642d413934d9249768bd9cb30c76cca7"), looks := true }, kinds := [], alts := [], laidByText := true, laidKinds := [.sentinel, .sentinel], laidTests := true, laidLooks := .later }
def PrinterRefusesUptoCardSaid : Prop := Claim7.holds Tryz.pinned (.plain (OpenSpec.upto printerRefusesSpec)) printerRefusesUptoCard

/-- THE SECOND FORM's CARD OF 'bspregionlaw13.PrinterExprs'. -/
def printerExprsUptoCard : Claim7 := { stood := { row := printerExprsUptoRow, standIns := [], harness := (true, "ee1b918e236edf54f425f55614eb1a02642d413934d9249768bd9cb30c76cca7"), looks := true }, kinds := [], alts := [], laidByText := true, laidKinds := [.sentinel, .sentinel], laidTests := true, laidLooks := .later }
def PrinterExprsUptoCardSaid : Prop := Claim7.holds Tryz.pinned (.plain (OpenSpec.upto printerExprsSpec)) printerExprsUptoCard

/-- THE SECOND FORM's CARD OF 'bspregionlaw13.PrinterStatements'. -/
def printerStatementsUptoCard : Claim7 := { stood := { row := printerStatementsUptoRow, standIns := [], harness := (true, "ee1b918e236edf54f425f55614eb1a02642d413934d9249768bd9cb30c76cca7"), looks := true }, kinds := [], alts := [], laidByText := true, laidKinds := [.data, .data, .data, .sentinel, .sentinel], laidTests := true, laidLooks := .later }
def PrinterStatementsUptoCardSaid : Prop := Claim7.holds Tryz.pinned (.plain (OpenSpec.upto printerStatementsSpec)) printerStatementsUptoCard
end Rows
end Go.Proofs.YtghaepkgceaboaaGreatDoor
