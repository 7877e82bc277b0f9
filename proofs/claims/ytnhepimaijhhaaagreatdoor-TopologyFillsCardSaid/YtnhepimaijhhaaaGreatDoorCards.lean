/-
  DERIVED. GIVEN WITH THE SEED: THE CARDS: each row of YtnhepimaijhhaaaGreatDoorRows.lean that lists a variable, with what it lists TIED to the program's text (the seventh form; the later family's looks); each row that meets fmt, with fmt's text TOLD by the authors' own Lean function (tested against real Go, not proved from fmt's source: count such statements apart). THE CARD IS WHAT COUNTS. Prove the row's statement (the work); the ties are given (YtnhepimaijhhaaaGreatDoorTie.lean); close each card by the builder's one call (the guide's Derived/Test/ToyasCard.lean, 'card_holds'). Laid BY PROGRAM, IN A SANDBOX (cutbox-door.mjs). By AI agents, Wed Nov 11 2026. No macro, syntax, notation, axiom, sorry.
-/
import Derived.Test.YtnhepimaijhhaaaGreatDoorRows
import GoSem.ClaimSeven
namespace Go.Proofs.YtnhepimaijhhaaaGreatDoor
namespace Rows

/-- THE TIED CARD OF 'bspregionlaw28.TopologyParts'. -/
def topologyPartsCard : Claim7 := { stood := { row := topologyPartsRow, standIns := [], harness := (true, "2c009d840841d1de715961c924b5376ea299ca5ff57f3e44ca5fd1c144b1fb1b"), looks := false }, kinds := [], alts := [], laidByText := true, laidKinds := [.sentinel, .sentinel], laidTests := true, laidLooks := .later }
def TopologyPartsCardSaid : Prop := Claim7.holds Tryz.pinned (.plain (OpenSpec.ofChange topologyPartsSpec)) topologyPartsCard

/-- THE TIED CARD OF 'bspregionlaw28.TopologyFills'. -/
def topologyFillsCard : Claim7 := { stood := { row := topologyFillsRow, standIns := [], harness := (true, "2c009d840841d1de715961c924b5376ea299ca5ff57f3e44ca5fd1c144b1fb1b"), looks := false }, kinds := [], alts := [], laidByText := true, laidKinds := [.sentinel, .sentinel], laidTests := true, laidLooks := .later }
def TopologyFillsCardSaid : Prop := Claim7.holds Tryz.pinned (.plain (OpenSpec.ofChange topologyFillsSpec)) topologyFillsCard

/-- THE TIED CARD OF 'bspregionlaw28.TopologyForms'. -/
def topologyFormsCard : Claim7 := { stood := { row := topologyFormsRow, standIns := [], harness := (true, "2c009d840841d1de715961c924b5376ea299ca5ff57f3e44ca5fd1c144b1fb1b"), looks := false }, kinds := [], alts := [], laidByText := true, laidKinds := [.sentinel, .sentinel], laidTests := true, laidLooks := .later }
def TopologyFormsCardSaid : Prop := Claim7.holds Tryz.pinned (.plain (OpenSpec.ofChange topologyFormsSpec)) topologyFormsCard

/-- THE SECOND FORM's CARD OF 'bspregionlaw28.TopologyParts'. -/
def topologyPartsUptoCard : Claim7 := { stood := { row := topologyPartsUptoRow, standIns := [], harness := (true, "2c009d840841d1de715961c924b5376ea299ca5ff57f3e44ca5fd1c144b1fb1b"), looks := false }, kinds := [], alts := [], laidByText := true, laidKinds := [.sentinel, .sentinel], laidTests := true, laidLooks := .later }
def TopologyPartsUptoCardSaid : Prop := Claim7.holds Tryz.pinned (.plain (OpenSpec.upto topologyPartsSpec)) topologyPartsUptoCard

/-- THE SECOND FORM's CARD OF 'bspregionlaw28.TopologyFills'. -/
def topologyFillsUptoCard : Claim7 := { stood := { row := topologyFillsUptoRow, standIns := [], harness := (true, "2c009d840841d1de715961c924b5376ea299ca5ff57f3e44ca5fd1c144b1fb1b"), looks := false }, kinds := [], alts := [], laidByText := true, laidKinds := [.sentinel, .sentinel], laidTests := true, laidLooks := .later }
def TopologyFillsUptoCardSaid : Prop := Claim7.holds Tryz.pinned (.plain (OpenSpec.upto topologyFillsSpec)) topologyFillsUptoCard

/-- THE SECOND FORM's CARD OF 'bspregionlaw28.TopologyForms'. -/
def topologyFormsUptoCard : Claim7 := { stood := { row := topologyFormsUptoRow, standIns := [], harness := (true, "2c009d840841d1de715961c924b5376ea299ca5ff57f3e44ca5fd1c144b1fb1b"), looks := false }, kinds := [], alts := [], laidByText := true, laidKinds := [.sentinel, .sentinel], laidTests := true, laidLooks := .later }
def TopologyFormsUptoCardSaid : Prop := Claim7.holds Tryz.pinned (.plain (OpenSpec.upto topologyFormsSpec)) topologyFormsUptoCard
end Rows
end Go.Proofs.YtnhepimaijhhaaaGreatDoor
