/-
  DERIVED. GIVEN WITH THE SEED: THE CARDS: each row of YtbcojehfealiaaaGreatDoorRows.lean that lists a variable, with what it lists TIED to the program's text (the seventh form; the later family's looks); each row that meets fmt, with fmt's text TOLD by the authors' own Lean function (tested against real Go, not proved from fmt's source: count such statements apart). THE CARD IS WHAT COUNTS. Prove the row's statement (the work); the ties are given (YtbcojehfealiaaaGreatDoorTie.lean); close each card by the builder's one call (the guide's Derived/Test/ToyasCard.lean, 'card_holds'). Laid BY PROGRAM, IN A SANDBOX (cutbox-door.mjs). By AI agents, Wed Nov 11 2026. No macro, syntax, notation, axiom, sorry.
-/
import Derived.Test.YtbcojehfealiaaaGreatDoorRows
import GoSem.ClaimSeven
namespace Go.Proofs.YtbcojehfealiaaaGreatDoor
namespace Rows

/-- THE TIED CARD OF 'bspregionlaw26.AffineAreas'. -/
def affineAreasCard : Claim7 := { stood := { row := affineAreasRow, standIns := [], harness := (true, "be36cfcea2f3345b40cf83d3e0ac30e43a70eec0a156dce113fa83c6a399f4c3"), looks := false }, kinds := [], alts := [], laidByText := true, laidKinds := [.sentinel, .sentinel, .sentinel, .sentinel, .sentinel], laidTests := true, laidLooks := .later }
def AffineAreasCardSaid : Prop := Claim7.holds Tryz.pinned (.plain (OpenSpec.ofChange affineAreasSpec)) affineAreasCard

/-- THE TIED CARD OF 'bspregionlaw26.AffineClasses'. -/
def affineClassesCard : Claim7 := { stood := { row := affineClassesRow, standIns := [], harness := (true, "be36cfcea2f3345b40cf83d3e0ac30e43a70eec0a156dce113fa83c6a399f4c3"), looks := false }, kinds := [], alts := [], laidByText := true, laidKinds := [.sentinel, .sentinel], laidTests := true, laidLooks := .later }
def AffineClassesCardSaid : Prop := Claim7.holds Tryz.pinned (.plain (OpenSpec.ofChange affineClassesSpec)) affineClassesCard

/-- THE SECOND FORM's CARD OF 'bspregionlaw26.AffineAreas'. -/
def affineAreasUptoCard : Claim7 := { stood := { row := affineAreasUptoRow, standIns := [], harness := (true, "be36cfcea2f3345b40cf83d3e0ac30e43a70eec0a156dce113fa83c6a399f4c3"), looks := false }, kinds := [], alts := [], laidByText := true, laidKinds := [.sentinel, .sentinel, .sentinel, .sentinel, .sentinel], laidTests := true, laidLooks := .later }
def AffineAreasUptoCardSaid : Prop := Claim7.holds Tryz.pinned (.plain (OpenSpec.upto affineAreasSpec)) affineAreasUptoCard

/-- THE SECOND FORM's CARD OF 'bspregionlaw26.AffineClasses'. -/
def affineClassesUptoCard : Claim7 := { stood := { row := affineClassesUptoRow, standIns := [], harness := (true, "be36cfcea2f3345b40cf83d3e0ac30e43a70eec0a156dce113fa83c6a399f4c3"), looks := false }, kinds := [], alts := [], laidByText := true, laidKinds := [.sentinel, .sentinel], laidTests := true, laidLooks := .later }
def AffineClassesUptoCardSaid : Prop := Claim7.holds Tryz.pinned (.plain (OpenSpec.upto affineClassesSpec)) affineClassesUptoCard
end Rows
end Go.Proofs.YtbcojehfealiaaaGreatDoor
