/-
  DERIVED. GIVEN WITH THE SEED: THE CARDS: each row of YthgobgompobhhaaGreatDoorRows.lean that lists a variable, with what it lists TIED to the program's text (the seventh form; the later family's looks); each row that meets fmt, with fmt's text TOLD by the authors' own Lean function (tested against real Go, not proved from fmt's source: count such statements apart). THE CARD IS WHAT COUNTS. Prove the row's statement (the work); the ties are given (YthgobgompobhhaaGreatDoorTie.lean); close each card by the builder's one call (the guide's Derived/Test/ToyasCard.lean, 'card_holds'). Laid BY PROGRAM, IN A SANDBOX (cutbox-door.mjs). By AI agents, Wed Nov 11 2026. No macro, syntax, notation, axiom, sorry.
-/
import Derived.Test.YthgobgompobhhaaGreatDoorRows
import GoSem.ClaimSeven
namespace Go.Proofs.YthgobgompobhhaaGreatDoor
namespace Rows

/-- THE TIED CARD OF 'bspregionlaw26.AffineMaps'. -/
def affineMapsCard : Claim7 := { stood := { row := affineMapsRow, standIns := [], harness := (true, "49d105207a3f570d999d55699bb39a52d66166e333a8d0a9df3ebbe061ea1747"), looks := true }, kinds := [], alts := [], laidByText := true, laidKinds := [.sentinel], laidTests := true, laidLooks := .later }
def AffineMapsCardSaid : Prop := Claim7.holds Tryz.pinned (.plain (OpenSpec.ofChange affineMapsSpec)) affineMapsCard

/-- THE TIED CARD OF 'bspregionlaw26.AffineInverts'. -/
def affineInvertsCard : Claim7 := { stood := { row := affineInvertsRow, standIns := [], harness := (true, "49d105207a3f570d999d55699bb39a52d66166e333a8d0a9df3ebbe061ea1747"), looks := true }, kinds := [], alts := [], laidByText := true, laidKinds := [.sentinel, .sentinel], laidTests := true, laidLooks := .later }
def AffineInvertsCardSaid : Prop := Claim7.holds Tryz.pinned (.plain (OpenSpec.ofChange affineInvertsSpec)) affineInvertsCard

/-- THE TIED CARD OF 'bspregionlaw26.AffineImages'. -/
def affineImagesCard : Claim7 := { stood := { row := affineImagesRow, standIns := [], harness := (true, "49d105207a3f570d999d55699bb39a52d66166e333a8d0a9df3ebbe061ea1747"), looks := true }, kinds := [], alts := [], laidByText := true, laidKinds := [.data, .data, .data, .sentinel, .sentinel, .sentinel, .sentinel], laidTests := true, laidLooks := .later }
def AffineImagesCardSaid : Prop := Claim7.holds Tryz.pinned (.plain (OpenSpec.ofChange affineImagesSpec)) affineImagesCard

/-- THE SECOND FORM's CARD OF 'bspregionlaw26.AffineMaps'. -/
def affineMapsUptoCard : Claim7 := { stood := { row := affineMapsUptoRow, standIns := [], harness := (true, "49d105207a3f570d999d55699bb39a52d66166e333a8d0a9df3ebbe061ea1747"), looks := true }, kinds := [], alts := [], laidByText := true, laidKinds := [.sentinel], laidTests := true, laidLooks := .later }
def AffineMapsUptoCardSaid : Prop := Claim7.holds Tryz.pinned (.plain (OpenSpec.upto affineMapsSpec)) affineMapsUptoCard

/-- THE SECOND FORM's CARD OF 'bspregionlaw26.AffineInverts'. -/
def affineInvertsUptoCard : Claim7 := { stood := { row := affineInvertsUptoRow, standIns := [], harness := (true, "49d105207a3f570d999d55699bb39a52d66166e333a8d0a9df3ebbe061ea1747"), looks := true }, kinds := [], alts := [], laidByText := true, laidKinds := [.sentinel, .sentinel], laidTests := true, laidLooks := .later }
def AffineInvertsUptoCardSaid : Prop := Claim7.holds Tryz.pinned (.plain (OpenSpec.upto affineInvertsSpec)) affineInvertsUptoCard

/-- THE SECOND FORM's CARD OF 'bspregionlaw26.AffineImages'. -/
def affineImagesUptoCard : Claim7 := { stood := { row := affineImagesUptoRow, standIns := [], harness := (true, "49d105207a3f570d999d55699bb39a52d66166e333a8d0a9df3ebbe061ea1747"), looks := true }, kinds := [], alts := [], laidByText := true, laidKinds := [.data, .data, .data, .sentinel, .sentinel, .sentinel, .sentinel], laidTests := true, laidLooks := .later }
def AffineImagesUptoCardSaid : Prop := Claim7.holds Tryz.pinned (.plain (OpenSpec.upto affineImagesSpec)) affineImagesUptoCard
end Rows
end Go.Proofs.YthgobgompobhhaaGreatDoor
