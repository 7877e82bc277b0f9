/-
  DERIVED. GIVEN WITH THE SEED: THE CARDS: each row of YtjdnfbhbdfokcaaGreatDoorRows.lean that lists a variable, with what it lists TIED to the program's text (the seventh form; the later family's looks); each row that meets fmt, with fmt's text TOLD by the authors' own Lean function (tested against real Go, not proved from fmt's source: count such statements apart). THE CARD IS WHAT COUNTS. Prove the row's statement (the work); the ties are given (YtjdnfbhbdfokcaaGreatDoorTie.lean); close each card by the builder's one call (the guide's Derived/Test/ToyasCard.lean, 'card_holds'). Laid BY PROGRAM, IN A SANDBOX (cutbox-door.mjs). By AI agents, Wed Nov 11 2026. No macro, syntax, notation, axiom, sorry.
-/
import Derived.Test.YtjdnfbhbdfokcaaGreatDoorRows
import GoSem.ClaimSeven
namespace Go.Proofs.YtjdnfbhbdfokcaaGreatDoor
namespace Rows

/-- THE TIED CARD OF 'bspregionlaw26.AffineRefuses'. -/
def affineRefusesCard : Claim7 := { stood := { row := affineRefusesRow, standIns := [], harness := (true, "b00fef4f40889c64664e317b2c7296adf444915e46d31009b0910a980b915b12"), looks := true }, kinds := [], alts := [], laidByText := true, laidKinds := [.data, .data, .data, .sentinel, .sentinel, .sentinel, .sentinel], laidTests := true, laidLooks := .later }
def AffineRefusesCardSaid : Prop := Claim7.holds Tryz.pinned (.plain (OpenSpec.ofChange affineRefusesSpec)) affineRefusesCard

/-- THE SECOND FORM's CARD OF 'bspregionlaw26.AffineRefuses'. -/
def affineRefusesUptoCard : Claim7 := { stood := { row := affineRefusesUptoRow, standIns := [], harness := (true, "b00fef4f40889c64664e317b2c7296adf444915e46d31009b0910a980b915b12"), looks := true }, kinds := [], alts := [], laidByText := true, laidKinds := [.data, .data, .data, .sentinel, .sentinel, .sentinel, .sentinel], laidTests := true, laidLooks := .later }
def AffineRefusesUptoCardSaid : Prop := Claim7.holds Tryz.pinned (.plain (OpenSpec.upto affineRefusesSpec)) affineRefusesUptoCard
end Rows
end Go.Proofs.YtjdnfbhbdfokcaaGreatDoor
