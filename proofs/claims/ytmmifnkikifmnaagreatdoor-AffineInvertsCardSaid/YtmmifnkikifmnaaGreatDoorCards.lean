/-
  DERIVED. GIVEN WITH THE SEED: THE CARDS: each row of YtmmifnkikifmnaaGreatDoorRows.lean that lists a variable, with what it lists TIED to the program's text (the seventh form; the later family's looks); each row that meets fmt, with fmt's text TOLD by the authors' own Lean function (tested against real Go, not proved from fmt's source: count such statements apart). THE CARD IS WHAT COUNTS. Prove the row's statement (the work); the ties are given (YtmmifnkikifmnaaGreatDoorTie.lean); close each card by the builder's one call (the guide's Derived/Test/ToyasCard.lean, 'card_holds'). Laid BY PROGRAM, IN A SANDBOX (cutbox-door.mjs). By AI agents, Wed Nov 11 2026. No macro, syntax, notation, axiom, sorry.
-/
import Derived.Test.YtmmifnkikifmnaaGreatDoorRows
import GoSem.ClaimSeven
namespace Go.Proofs.YtmmifnkikifmnaaGreatDoor
namespace Rows

/-- THE TIED CARD OF 'bspregionlaw26.AffineInverts'. -/
def affineInvertsCard : Claim7 := { stood := { row := affineInvertsRow, standIns := [], harness := (true, "2270086ff2500467d894cf5102c0b6cace2d840fc8901ba4f4d7b8e06d5b0daa"), looks := true }, kinds := [], alts := [], laidByText := true, laidKinds := [.sentinel, .sentinel], laidTests := true, laidLooks := .later }
def AffineInvertsCardSaid : Prop := Claim7.holds Tryz.pinned (.plain (OpenSpec.ofChange affineInvertsSpec)) affineInvertsCard

/-- THE TIED CARD OF 'bspregionlaw26.AffineImages'. -/
def affineImagesCard : Claim7 := { stood := { row := affineImagesRow, standIns := [], harness := (true, "2270086ff2500467d894cf5102c0b6cace2d840fc8901ba4f4d7b8e06d5b0daa"), looks := true }, kinds := [], alts := [], laidByText := true, laidKinds := [.data, .data, .data, .sentinel, .sentinel, .sentinel, .sentinel], laidTests := true, laidLooks := .later }
def AffineImagesCardSaid : Prop := Claim7.holds Tryz.pinned (.plain (OpenSpec.ofChange affineImagesSpec)) affineImagesCard

/-- THE TIED CARD OF 'bspregionlaw13.PrinterRefuses'. -/
def printerRefusesCard : Claim7 := { stood := { row := printerRefusesRow, standIns := [], harness := (true, "2270086ff2500467d894cf5102c0b6cace2d840fc8901ba4f4d7b8e06d5b0daa"), looks := true }, kinds := [], alts := [], laidByText := true, laidKinds := [.sentinel, .sentinel], laidTests := true, laidLooks := .later }
def PrinterRefusesCardSaid : Prop := Claim7.holds Tryz.pinned (.plain (OpenSpec.ofChange printerRefusesSpec)) printerRefusesCard

/-- THE TIED CARD OF 'bspregionlaw13.PrinterExprs'. -/
def printerExprsCard : Claim7 := { stood := { row := printerExprsRow, standIns := [], harness := (true, "2270086ff2500467d894cf5102c0b6cace2d840fc8901ba4f4d7b8e06d5b0daa"), looks := true }, kinds := [], alts := [], laidByText := true, laidKinds := [.sentinel, .sentinel], laidTests := true, laidLooks := .later }
def PrinterExprsCardSaid : Prop := Claim7.holds Tryz.pinned (.plain (OpenSpec.ofChange printerExprsSpec)) printerExprsCard

/-- THE TIED CARD OF 'bspregionlaw13.PrinterStatements'. -/
def printerStatementsCard : Claim7 := { stood := { row := printerStatementsRow, standIns := [], harness := (true, "2270086ff2500467d894cf5102c0b6cace2d840fc8901ba4f4d7b8e06d5b0daa"), looks := true }, kinds := [], alts := [], laidByText := true, laidKinds := [.data, .data, .data, .sentinel, .sentinel], laidTests := true, laidLooks := .later }
def PrinterStatementsCardSaid : Prop := Claim7.holds Tryz.pinned (.plain (OpenSpec.ofChange printerStatementsSpec)) printerStatementsCard

/-- THE SECOND FORM's CARD OF 'bspregionlaw26.AffineInverts'. -/
def affineInvertsUptoCard : Claim7 := { stood := { row := affineInvertsUptoRow, standIns := [], harness := (true, "2270086ff2500467d894cf5102c0b6cace2d840fc8901ba4f4d7b8e06d5b0daa"), looks := true }, kinds := [], alts := [], laidByText := true, laidKinds := [.sentinel, .sentinel], laidTests := true, laidLooks := .later }
def AffineInvertsUptoCardSaid : Prop := Claim7.holds Tryz.pinned (.plain (OpenSpec.upto affineInvertsSpec)) affineInvertsUptoCard

/-- THE SECOND FORM's CARD OF 'bspregionlaw26.AffineImages'. -/
def affineImagesUptoCard : Claim7 := { stood := { row := affineImagesUptoRow, standIns := [], harness := (true, "2270086ff2500467d894cf5102c0b6cace2d840fc8901ba4f4d7b8e06d5b0daa"), looks := true }, kinds := [], alts := [], laidByText := true, laidKinds := [.data, .data, .data, .sentinel, .sentinel, .sentinel, .sentinel], laidTests := true, laidLooks := .later }
def AffineImagesUptoCardSaid : Prop := Claim7.holds Tryz.pinned (.plain (OpenSpec.upto affineImagesSpec)) affineImagesUptoCard

/-- THE SECOND FORM's CARD OF 'bspregionlaw13.PrinterRefuses'. -/
def printerRefusesUptoCard : Claim7 := { stood := { row := printerRefusesUptoRow, standIns := [], harness := (true, "2270086ff2500467d894cf5102c0b6cace2d840fc8901ba4f4d7b8e06d5b0daa"), looks := true }, kinds := [], alts := [], laidByText := true, laidKinds := [.sentinel, .sentinel], laidTests := true, laidLooks := .later }
def PrinterRefusesUptoCardSaid : Prop := Claim7.holds Tryz.pinned (.plain (OpenSpec.upto printerRefusesSpec)) printerRefusesUptoCard

/-- THE SECOND FORM's CARD OF 'bspregionlaw13.PrinterExprs'. -/
def printerExprsUptoCard : Claim7 := { stood := { row := printerExprsUptoRow, standIns := [], harness := (true, "2270086ff2500467d894cf5102c0b6cace2d840fc8901ba4f4d7b8e06d5b0daa"), looks := true }, kinds := [], alts := [], laidByText := true, laidKinds := [.sentinel, .sentinel], laidTests := true, laidLooks := .later }
def PrinterExprsUptoCardSaid : Prop := Claim7.holds Tryz.pinned (.plain (OpenSpec.upto printerExprsSpec)) printerExprsUptoCard

/-- THE SECOND FORM's CARD OF 'bspregionlaw13.PrinterStatements'. -/
def printerStatementsUptoCard : Claim7 := { stood := { row := printerStatementsUptoRow, standIns := [], harness := (true, "2270086ff2500467d894cf5102c0b6cace2d840fc8901ba4f4d7b8e06d5b0daa"), looks := true }, kinds := [], alts := [], laidByText := true, laidKinds := [.data, .data, .data, .sentinel, .sentinel], laidTests := true, laidLooks := .later }
def PrinterStatementsUptoCardSaid : Prop := Claim7.holds Tryz.pinned (.plain (OpenSpec.upto printerStatementsSpec)) printerStatementsUptoCard
end Rows
end Go.Proofs.YtmmifnkikifmnaaGreatDoor
