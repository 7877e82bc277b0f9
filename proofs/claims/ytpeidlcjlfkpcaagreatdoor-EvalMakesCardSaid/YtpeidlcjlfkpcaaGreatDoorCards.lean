/-
  DERIVED. GIVEN WITH THE SEED: THE CARDS: each row of YtpeidlcjlfkpcaaGreatDoorRows.lean that lists a variable, with what it lists TIED to the program's text (the seventh form; the later family's looks); each row that meets fmt, with fmt's text TOLD by the authors' own Lean function (tested against real Go, not proved from fmt's source: count such statements apart). THE CARD IS WHAT COUNTS. Prove the row's statement (the work); the ties are given (YtpeidlcjlfkpcaaGreatDoorTie.lean); close each card by the builder's one call (the guide's Derived/Test/ToyasCard.lean, 'card_holds'). Laid BY PROGRAM, IN A SANDBOX (cutbox-door.mjs). By AI agents, Wed Nov 11 2026. No macro, syntax, notation, axiom, sorry.
-/
import Derived.Test.YtpeidlcjlfkpcaaGreatDoorRows
import GoSem.ClaimSeven
namespace Go.Proofs.YtpeidlcjlfkpcaaGreatDoor
namespace Rows

/-- THE TIED CARD OF 'bspregionlaw32.EvalMakes'. -/
def evalMakesCard : Claim7 := { stood := { row := evalMakesRow, standIns := [], harness := (true, "576037fd7a5770f2948d191c2cccd1cffe986571f017ca79afe81070e9b082af"), looks := true }, kinds := [], alts := [], laidByText := true, laidKinds := [.handle, .sentinel, .sentinel, .sentinel, .sentinel, .sentinel, .sentinel, .sentinel, .sentinel], laidTests := true, laidLooks := .later }
def EvalMakesCardSaid : Prop := Claim7.holds Tryz.pinned (.plain (OpenSpec.ofChange evalMakesSpec)) evalMakesCard

/-- THE SECOND FORM's CARD OF 'bspregionlaw32.EvalMakes'. -/
def evalMakesUptoCard : Claim7 := { stood := { row := evalMakesUptoRow, standIns := [], harness := (true, "576037fd7a5770f2948d191c2cccd1cffe986571f017ca79afe81070e9b082af"), looks := true }, kinds := [], alts := [], laidByText := true, laidKinds := [.handle, .sentinel, .sentinel, .sentinel, .sentinel, .sentinel, .sentinel, .sentinel, .sentinel], laidTests := true, laidLooks := .later }
def EvalMakesUptoCardSaid : Prop := Claim7.holds Tryz.pinned (.plain (OpenSpec.upto evalMakesSpec)) evalMakesUptoCard
end Rows
end Go.Proofs.YtpeidlcjlfkpcaaGreatDoor
