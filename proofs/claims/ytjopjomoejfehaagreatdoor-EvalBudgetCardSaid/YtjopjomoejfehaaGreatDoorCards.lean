/-
  DERIVED. GIVEN WITH THE SEED: THE CARDS: each row of YtjopjomoejfehaaGreatDoorRows.lean that lists a variable, with what it lists TIED to the program's text (the seventh form; the later family's looks); each row that meets fmt, with fmt's text TOLD by the authors' own Lean function (tested against real Go, not proved from fmt's source: count such statements apart). THE CARD IS WHAT COUNTS. Prove the row's statement (the work); the ties are given (YtjopjomoejfehaaGreatDoorTie.lean); close each card by the builder's one call (the guide's Derived/Test/ToyasCard.lean, 'card_holds'). Laid BY PROGRAM, IN A SANDBOX (cutbox-door.mjs). By AI agents, Wed Nov 11 2026. No macro, syntax, notation, axiom, sorry.
-/
import Derived.Test.YtjopjomoejfehaaGreatDoorRows
import GoSem.ClaimSeven
namespace Go.Proofs.YtjopjomoejfehaaGreatDoor
namespace Rows

/-- THE TIED CARD OF 'bspregionlaw32.EvalBudget'. -/
def evalBudgetCard : Claim7 := { stood := { row := evalBudgetRow, standIns := [], harness := (true, "07448bc2a3213d15a1f1a296485f8b9c891a29802ce75c25c7454a8809af98d5"), looks := true }, kinds := [], alts := [], laidByText := true, laidKinds := [.sentinel, .sentinel, .sentinel, .sentinel, .sentinel, .sentinel], laidTests := true, laidLooks := .later }
def EvalBudgetCardSaid : Prop := Claim7.holds Tryz.pinned (.plain (OpenSpec.ofChange evalBudgetSpec)) evalBudgetCard

/-- THE SECOND FORM's CARD OF 'bspregionlaw32.EvalBudget'. -/
def evalBudgetUptoCard : Claim7 := { stood := { row := evalBudgetUptoRow, standIns := [], harness := (true, "07448bc2a3213d15a1f1a296485f8b9c891a29802ce75c25c7454a8809af98d5"), looks := true }, kinds := [], alts := [], laidByText := true, laidKinds := [.sentinel, .sentinel, .sentinel, .sentinel, .sentinel, .sentinel], laidTests := true, laidLooks := .later }
def EvalBudgetUptoCardSaid : Prop := Claim7.holds Tryz.pinned (.plain (OpenSpec.upto evalBudgetSpec)) evalBudgetUptoCard
end Rows
end Go.Proofs.YtjopjomoejfehaaGreatDoor
