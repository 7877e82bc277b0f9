/-
  DERIVED. GIVEN WITH THE SEED: THE CARDS: each row of YthinbooccdccfaaGreatDoorRows.lean that lists a variable, with what it lists TIED to the program's text (the seventh form; the later family's looks); each row that meets fmt, with fmt's text TOLD by the authors' own Lean function (tested against real Go, not proved from fmt's source: count such statements apart). THE CARD IS WHAT COUNTS. Prove the row's statement (the work); the ties are given (YthinbooccdccfaaGreatDoorTie.lean); close each card by the builder's one call (the guide's Derived/Test/ToyasCard.lean, 'card_holds'). Laid BY PROGRAM, IN A SANDBOX (cutbox-door.mjs). By AI agents, Wed Nov 11 2026. No macro, syntax, notation, axiom, sorry.
-/
import Derived.Test.YthinbooccdccfaaGreatDoorRows
import GoSem.ClaimSeven
namespace Go.Proofs.YthinbooccdccfaaGreatDoor
namespace Rows

/-- THE TIED CARD OF 'bspregionlaw32.EvalRefuses'. -/
def evalRefusesCard : Claim7 := { stood := { row := evalRefusesRow, standIns := [], harness := (true, "69d50ec2d58fdb3b6e9713fed16898f61e99439d91fa3f6b99c61e5e2a28f528"), looks := true }, kinds := [], alts := [], laidByText := true, laidKinds := [.sentinel, .sentinel, .sentinel, .sentinel, .sentinel, .sentinel], laidTests := true, laidLooks := .later }
def EvalRefusesCardSaid : Prop := Claim7.holds Tryz.pinned (.plain (OpenSpec.ofChange evalRefusesSpec)) evalRefusesCard

/-- THE TIED CARD OF 'bspregionlaw32.EvalPrinted'. -/
def evalPrintedCard : Claim7 := { stood := { row := evalPrintedRow, standIns := [], harness := (true, "69d50ec2d58fdb3b6e9713fed16898f61e99439d91fa3f6b99c61e5e2a28f528"), looks := true }, kinds := [], alts := [], laidByText := true, laidKinds := [.sentinel, .sentinel, .sentinel, .sentinel, .sentinel, .sentinel], laidTests := true, laidLooks := .later }
def EvalPrintedCardSaid : Prop := Claim7.holds Tryz.pinned (.plain (OpenSpec.ofChange evalPrintedSpec)) evalPrintedCard

/-- THE TIED CARD OF 'bspregionlaw32.EvalBudget'. -/
def evalBudgetCard : Claim7 := { stood := { row := evalBudgetRow, standIns := [], harness := (true, "69d50ec2d58fdb3b6e9713fed16898f61e99439d91fa3f6b99c61e5e2a28f528"), looks := true }, kinds := [], alts := [], laidByText := true, laidKinds := [.sentinel, .sentinel, .sentinel, .sentinel, .sentinel, .sentinel], laidTests := true, laidLooks := .later }
def EvalBudgetCardSaid : Prop := Claim7.holds Tryz.pinned (.plain (OpenSpec.ofChange evalBudgetSpec)) evalBudgetCard

/-- THE TIED CARD OF 'bspregionlaw32.EvalMakes'. -/
def evalMakesCard : Claim7 := { stood := { row := evalMakesRow, standIns := [], harness := (true, "69d50ec2d58fdb3b6e9713fed16898f61e99439d91fa3f6b99c61e5e2a28f528"), looks := true }, kinds := [], alts := [], laidByText := true, laidKinds := [.handle, .sentinel, .sentinel, .sentinel, .sentinel, .sentinel, .sentinel, .sentinel, .sentinel], laidTests := true, laidLooks := .later }
def EvalMakesCardSaid : Prop := Claim7.holds Tryz.pinned (.plain (OpenSpec.ofChange evalMakesSpec)) evalMakesCard

/-- THE TIED CARD OF 'bspregionlaw26.AffineMerges'. -/
def affineMergesCard : Claim7 := { stood := { row := affineMergesRow, standIns := [], harness := (true, "69d50ec2d58fdb3b6e9713fed16898f61e99439d91fa3f6b99c61e5e2a28f528"), looks := true }, kinds := [], alts := [], laidByText := true, laidKinds := [.sentinel, .sentinel, .sentinel], laidTests := true, laidLooks := .later }
def AffineMergesCardSaid : Prop := Claim7.holds Tryz.pinned (.plain (OpenSpec.ofChange affineMergesSpec)) affineMergesCard

/-- THE SECOND FORM's CARD OF 'bspregionlaw32.EvalRefuses'. -/
def evalRefusesUptoCard : Claim7 := { stood := { row := evalRefusesUptoRow, standIns := [], harness := (true, "69d50ec2d58fdb3b6e9713fed16898f61e99439d91fa3f6b99c61e5e2a28f528"), looks := true }, kinds := [], alts := [], laidByText := true, laidKinds := [.sentinel, .sentinel, .sentinel, .sentinel, .sentinel, .sentinel], laidTests := true, laidLooks := .later }
def EvalRefusesUptoCardSaid : Prop := Claim7.holds Tryz.pinned (.plain (OpenSpec.upto evalRefusesSpec)) evalRefusesUptoCard

/-- THE SECOND FORM's CARD OF 'bspregionlaw32.EvalPrinted'. -/
def evalPrintedUptoCard : Claim7 := { stood := { row := evalPrintedUptoRow, standIns := [], harness := (true, "69d50ec2d58fdb3b6e9713fed16898f61e99439d91fa3f6b99c61e5e2a28f528"), looks := true }, kinds := [], alts := [], laidByText := true, laidKinds := [.sentinel, .sentinel, .sentinel, .sentinel, .sentinel, .sentinel], laidTests := true, laidLooks := .later }
def EvalPrintedUptoCardSaid : Prop := Claim7.holds Tryz.pinned (.plain (OpenSpec.upto evalPrintedSpec)) evalPrintedUptoCard

/-- THE SECOND FORM's CARD OF 'bspregionlaw32.EvalBudget'. -/
def evalBudgetUptoCard : Claim7 := { stood := { row := evalBudgetUptoRow, standIns := [], harness := (true, "69d50ec2d58fdb3b6e9713fed16898f61e99439d91fa3f6b99c61e5e2a28f528"), looks := true }, kinds := [], alts := [], laidByText := true, laidKinds := [.sentinel, .sentinel, .sentinel, .sentinel, .sentinel, .sentinel], laidTests := true, laidLooks := .later }
def EvalBudgetUptoCardSaid : Prop := Claim7.holds Tryz.pinned (.plain (OpenSpec.upto evalBudgetSpec)) evalBudgetUptoCard

/-- THE SECOND FORM's CARD OF 'bspregionlaw32.EvalMakes'. -/
def evalMakesUptoCard : Claim7 := { stood := { row := evalMakesUptoRow, standIns := [], harness := (true, "69d50ec2d58fdb3b6e9713fed16898f61e99439d91fa3f6b99c61e5e2a28f528"), looks := true }, kinds := [], alts := [], laidByText := true, laidKinds := [.handle, .sentinel, .sentinel, .sentinel, .sentinel, .sentinel, .sentinel, .sentinel, .sentinel], laidTests := true, laidLooks := .later }
def EvalMakesUptoCardSaid : Prop := Claim7.holds Tryz.pinned (.plain (OpenSpec.upto evalMakesSpec)) evalMakesUptoCard

/-- THE SECOND FORM's CARD OF 'bspregionlaw26.AffineMerges'. -/
def affineMergesUptoCard : Claim7 := { stood := { row := affineMergesUptoRow, standIns := [], harness := (true, "69d50ec2d58fdb3b6e9713fed16898f61e99439d91fa3f6b99c61e5e2a28f528"), looks := true }, kinds := [], alts := [], laidByText := true, laidKinds := [.sentinel, .sentinel, .sentinel], laidTests := true, laidLooks := .later }
def AffineMergesUptoCardSaid : Prop := Claim7.holds Tryz.pinned (.plain (OpenSpec.upto affineMergesSpec)) affineMergesUptoCard
end Rows
end Go.Proofs.YthinbooccdccfaaGreatDoor
