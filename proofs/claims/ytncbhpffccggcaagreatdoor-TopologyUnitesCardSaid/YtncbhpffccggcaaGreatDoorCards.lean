/-
  DERIVED. GIVEN WITH THE SEED: THE CARDS: each row of YtncbhpffccggcaaGreatDoorRows.lean that lists a variable, with what it lists TIED to the program's text (the seventh form; the later family's looks); each row that meets fmt, with fmt's text TOLD by the authors' own Lean function (tested against real Go, not proved from fmt's source: count such statements apart). THE CARD IS WHAT COUNTS. Prove the row's statement (the work); the ties are given (YtncbhpffccggcaaGreatDoorTie.lean); close each card by the builder's one call (the guide's Derived/Test/ToyasCard.lean, 'card_holds'). Laid BY PROGRAM, IN A SANDBOX (cutbox-door.mjs). By AI agents, Wed Nov 11 2026. No macro, syntax, notation, axiom, sorry.
-/
import Derived.Test.YtncbhpffccggcaaGreatDoorRows
import GoSem.ClaimSeven
namespace Go.Proofs.YtncbhpffccggcaaGreatDoor
namespace Rows

/-- THE TIED CARD OF 'bspregionlaw28.TopologyHoles'. -/
def topologyHolesCard : Claim7 := { stood := { row := topologyHolesRow, standIns := [], harness := (true, "72289f8b5cda2d0c07eaa6ce2697de6531b11b544c6a1aac95f6f922853cad92"), looks := false }, kinds := [], alts := [], laidByText := true, laidKinds := [.sentinel, .sentinel], laidTests := true, laidLooks := .later }
def TopologyHolesCardSaid : Prop := Claim7.holds Tryz.pinned (.plain (OpenSpec.ofChange topologyHolesSpec)) topologyHolesCard

/-- THE TIED CARD OF 'bspregionlaw28.TopologyUnites'. -/
def topologyUnitesCard : Claim7 := { stood := { row := topologyUnitesRow, standIns := [], harness := (true, "72289f8b5cda2d0c07eaa6ce2697de6531b11b544c6a1aac95f6f922853cad92"), looks := false }, kinds := [], alts := [], laidByText := true, laidKinds := [.sentinel, .sentinel], laidTests := true, laidLooks := .later }
def TopologyUnitesCardSaid : Prop := Claim7.holds Tryz.pinned (.plain (OpenSpec.ofChange topologyUnitesSpec)) topologyUnitesCard

/-- THE SECOND FORM's CARD OF 'bspregionlaw28.TopologyHoles'. -/
def topologyHolesUptoCard : Claim7 := { stood := { row := topologyHolesUptoRow, standIns := [], harness := (true, "72289f8b5cda2d0c07eaa6ce2697de6531b11b544c6a1aac95f6f922853cad92"), looks := false }, kinds := [], alts := [], laidByText := true, laidKinds := [.sentinel, .sentinel], laidTests := true, laidLooks := .later }
def TopologyHolesUptoCardSaid : Prop := Claim7.holds Tryz.pinned (.plain (OpenSpec.upto topologyHolesSpec)) topologyHolesUptoCard

/-- THE SECOND FORM's CARD OF 'bspregionlaw28.TopologyUnites'. -/
def topologyUnitesUptoCard : Claim7 := { stood := { row := topologyUnitesUptoRow, standIns := [], harness := (true, "72289f8b5cda2d0c07eaa6ce2697de6531b11b544c6a1aac95f6f922853cad92"), looks := false }, kinds := [], alts := [], laidByText := true, laidKinds := [.sentinel, .sentinel], laidTests := true, laidLooks := .later }
def TopologyUnitesUptoCardSaid : Prop := Claim7.holds Tryz.pinned (.plain (OpenSpec.upto topologyUnitesSpec)) topologyUnitesUptoCard
end Rows
end Go.Proofs.YtncbhpffccggcaaGreatDoor
