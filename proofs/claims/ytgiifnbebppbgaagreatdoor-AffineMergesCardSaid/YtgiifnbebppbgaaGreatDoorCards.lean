/-
  DERIVED. GIVEN WITH THE SEED: THE CARDS: each row of YtgiifnbebppbgaaGreatDoorRows.lean that lists a variable, with what it lists TIED to the program's text (the seventh form; the later family's looks); each row that meets fmt, with fmt's text TOLD by the authors' own Lean function (tested against real Go, not proved from fmt's source: count such statements apart). THE CARD IS WHAT COUNTS. Prove the row's statement (the work); the ties are given (YtgiifnbebppbgaaGreatDoorTie.lean); close each card by the builder's one call (the guide's Derived/Test/ToyasCard.lean, 'card_holds'). Laid BY PROGRAM, IN A SANDBOX (cutbox-door.mjs). By AI agents, Wed Nov 11 2026. No macro, syntax, notation, axiom, sorry.
-/
import Derived.Test.YtgiifnbebppbgaaGreatDoorRows
import GoSem.ClaimSeven
namespace Go.Proofs.YtgiifnbebppbgaaGreatDoor
namespace Rows

/-- THE TIED CARD OF 'bspregionlaw26.AffineMerges'. -/
def affineMergesCard : Claim7 := { stood := { row := affineMergesRow, standIns := [], harness := (true, "cc62f60a1f2e52ad7c4641146e32bff6cf73cfb800a08ff1bb79af461f08f703"), looks := false }, kinds := [], alts := [], laidByText := true, laidKinds := [.sentinel, .sentinel, .sentinel], laidTests := true, laidLooks := .later }
def AffineMergesCardSaid : Prop := Claim7.holds Tryz.pinned (.plain (OpenSpec.ofChange affineMergesSpec)) affineMergesCard

/-- THE TIED CARD OF 'bspregionlaw26.AffineClasses'. -/
def affineClassesCard : Claim7 := { stood := { row := affineClassesRow, standIns := [], harness := (true, "cc62f60a1f2e52ad7c4641146e32bff6cf73cfb800a08ff1bb79af461f08f703"), looks := false }, kinds := [], alts := [], laidByText := true, laidKinds := [.sentinel, .sentinel], laidTests := true, laidLooks := .later }
def AffineClassesCardSaid : Prop := Claim7.holds Tryz.pinned (.plain (OpenSpec.ofChange affineClassesSpec)) affineClassesCard

/-- THE TIED CARD OF 'bspregionlaw28.TopologyForms'. -/
def topologyFormsCard : Claim7 := { stood := { row := topologyFormsRow, standIns := [], harness := (true, "cc62f60a1f2e52ad7c4641146e32bff6cf73cfb800a08ff1bb79af461f08f703"), looks := false }, kinds := [], alts := [], laidByText := true, laidKinds := [.sentinel, .sentinel], laidTests := true, laidLooks := .later }
def TopologyFormsCardSaid : Prop := Claim7.holds Tryz.pinned (.plain (OpenSpec.ofChange topologyFormsSpec)) topologyFormsCard

/-- THE TIED CARD OF 'bspregionlaw28.TopologyParts'. -/
def topologyPartsCard : Claim7 := { stood := { row := topologyPartsRow, standIns := [], harness := (true, "cc62f60a1f2e52ad7c4641146e32bff6cf73cfb800a08ff1bb79af461f08f703"), looks := false }, kinds := [], alts := [], laidByText := true, laidKinds := [.sentinel, .sentinel], laidTests := true, laidLooks := .later }
def TopologyPartsCardSaid : Prop := Claim7.holds Tryz.pinned (.plain (OpenSpec.ofChange topologyPartsSpec)) topologyPartsCard

/-- THE SECOND FORM's CARD OF 'bspregionlaw26.AffineMerges'. -/
def affineMergesUptoCard : Claim7 := { stood := { row := affineMergesUptoRow, standIns := [], harness := (true, "cc62f60a1f2e52ad7c4641146e32bff6cf73cfb800a08ff1bb79af461f08f703"), looks := false }, kinds := [], alts := [], laidByText := true, laidKinds := [.sentinel, .sentinel, .sentinel], laidTests := true, laidLooks := .later }
def AffineMergesUptoCardSaid : Prop := Claim7.holds Tryz.pinned (.plain (OpenSpec.upto affineMergesSpec)) affineMergesUptoCard

/-- THE SECOND FORM's CARD OF 'bspregionlaw26.AffineClasses'. -/
def affineClassesUptoCard : Claim7 := { stood := { row := affineClassesUptoRow, standIns := [], harness := (true, "cc62f60a1f2e52ad7c4641146e32bff6cf73cfb800a08ff1bb79af461f08f703"), looks := false }, kinds := [], alts := [], laidByText := true, laidKinds := [.sentinel, .sentinel], laidTests := true, laidLooks := .later }
def AffineClassesUptoCardSaid : Prop := Claim7.holds Tryz.pinned (.plain (OpenSpec.upto affineClassesSpec)) affineClassesUptoCard

/-- THE SECOND FORM's CARD OF 'bspregionlaw28.TopologyForms'. -/
def topologyFormsUptoCard : Claim7 := { stood := { row := topologyFormsUptoRow, standIns := [], harness := (true, "cc62f60a1f2e52ad7c4641146e32bff6cf73cfb800a08ff1bb79af461f08f703"), looks := false }, kinds := [], alts := [], laidByText := true, laidKinds := [.sentinel, .sentinel], laidTests := true, laidLooks := .later }
def TopologyFormsUptoCardSaid : Prop := Claim7.holds Tryz.pinned (.plain (OpenSpec.upto topologyFormsSpec)) topologyFormsUptoCard

/-- THE SECOND FORM's CARD OF 'bspregionlaw28.TopologyParts'. -/
def topologyPartsUptoCard : Claim7 := { stood := { row := topologyPartsUptoRow, standIns := [], harness := (true, "cc62f60a1f2e52ad7c4641146e32bff6cf73cfb800a08ff1bb79af461f08f703"), looks := false }, kinds := [], alts := [], laidByText := true, laidKinds := [.sentinel, .sentinel], laidTests := true, laidLooks := .later }
def TopologyPartsUptoCardSaid : Prop := Claim7.holds Tryz.pinned (.plain (OpenSpec.upto topologyPartsSpec)) topologyPartsUptoCard
end Rows
end Go.Proofs.YtgiifnbebppbgaaGreatDoor
