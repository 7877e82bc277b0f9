/-
  DERIVED. GIVEN WITH THE SEED: THE CARDS: each row of YtnhnilapllmiaaaGreatDoorRows.lean that lists a variable, with what it lists TIED to the program's text (the seventh form; the later family's looks); each row that meets fmt, with fmt's text TOLD by the authors' own Lean function (tested against real Go, not proved from fmt's source: count such statements apart). THE CARD IS WHAT COUNTS. Prove the row's statement (the work); the ties are given (YtnhnilapllmiaaaGreatDoorTie.lean); close each card by the builder's one call (the guide's Derived/Test/ToyasCard.lean, 'card_holds'). Laid BY PROGRAM, IN A SANDBOX (cutbox-door.mjs). By AI agents, Wed Nov 11 2026. No macro, syntax, notation, axiom, sorry.
-/
import Derived.Test.YtnhnilapllmiaaaGreatDoorRows
import GoSem.ClaimSeven
namespace Go.Proofs.YtnhnilapllmiaaaGreatDoor
namespace Rows

/-- THE TIED CARD OF 'bspregionlaw26.AffineImages'. -/
def affineImagesCard : Claim7 := { stood := { row := affineImagesRow, standIns := [], harness := (true, "7f5a131181c41eb59437dca055a1d01f18220be864d88e6a8495b7d6a8d8e498"), looks := true }, kinds := [], alts := [], laidByText := true, laidKinds := [.data, .data, .data, .sentinel, .sentinel, .sentinel, .sentinel], laidTests := true, laidLooks := .later }
def AffineImagesCardSaid : Prop := Claim7.holds Tryz.pinned (.plain (OpenSpec.ofChange affineImagesSpec)) affineImagesCard

/-- THE SECOND FORM's CARD OF 'bspregionlaw26.AffineImages'. -/
def affineImagesUptoCard : Claim7 := { stood := { row := affineImagesUptoRow, standIns := [], harness := (true, "7f5a131181c41eb59437dca055a1d01f18220be864d88e6a8495b7d6a8d8e498"), looks := true }, kinds := [], alts := [], laidByText := true, laidKinds := [.data, .data, .data, .sentinel, .sentinel, .sentinel, .sentinel], laidTests := true, laidLooks := .later }
def AffineImagesUptoCardSaid : Prop := Claim7.holds Tryz.pinned (.plain (OpenSpec.upto affineImagesSpec)) affineImagesUptoCard
end Rows
end Go.Proofs.YtnhnilapllmiaaaGreatDoor
