/-
  DERIVED. GIVEN WITH THE SEED: THE CARDS: each row of YtijejidpcfgioaaGreatDoorRows.lean that lists a variable, with what it lists TIED to the program's text (the seventh form; the later family's looks); each row that meets fmt, with fmt's text TOLD by the authors' own Lean function (tested against real Go, not proved from fmt's source: count such statements apart). THE CARD IS WHAT COUNTS. Prove the row's statement (the work); the ties are given (YtijejidpcfgioaaGreatDoorTie.lean); close each card by the builder's one call (the guide's Derived/Test/ToyasCard.lean, 'card_holds'). Laid BY PROGRAM, IN A SANDBOX (cutbox-door.mjs). By AI agents, Wed Nov 11 2026. No macro, syntax, notation, axiom, sorry.
-/
import Derived.Test.YtijejidpcfgioaaGreatDoorRows
import GoSem.ClaimSeven
namespace Go.Proofs.YtijejidpcfgioaaGreatDoor
namespace Rows

/-- THE TIED CARD OF 'bspregionlaw31.BoundNumbers'. -/
def boundNumbersCard : Claim7 := { stood := { row := boundNumbersRow, standIns := [], harness := (true, "2280202a1ec50610cfbf4903d8e2b6c5b76701497df4a3eacb870c092ad4fbfe"), looks := true }, kinds := [], alts := [], laidByText := true, laidKinds := [.sentinel, .sentinel, .sentinel, .sentinel, .sentinel], laidTests := true, laidLooks := .later }
def BoundNumbersCardSaid : Prop := Claim7.holds Tryz.pinned (.plain (OpenSpec.ofChange boundNumbersSpec)) boundNumbersCard

/-- THE TIED CARD OF 'bspregionlaw31.BoundMerges'. -/
def boundMergesCard : Claim7 := { stood := { row := boundMergesRow, standIns := [], harness := (true, "2280202a1ec50610cfbf4903d8e2b6c5b76701497df4a3eacb870c092ad4fbfe"), looks := true }, kinds := [], alts := [], laidByText := true, laidKinds := [.sentinel, .sentinel, .sentinel, .sentinel, .sentinel], laidTests := true, laidLooks := .later }
def BoundMergesCardSaid : Prop := Claim7.holds Tryz.pinned (.plain (OpenSpec.ofChange boundMergesSpec)) boundMergesCard

/-- THE TIED CARD OF 'bspregionlaw31.BoundRefuses'. -/
def boundRefusesCard : Claim7 := { stood := { row := boundRefusesRow, standIns := [], harness := (true, "2280202a1ec50610cfbf4903d8e2b6c5b76701497df4a3eacb870c092ad4fbfe"), looks := true }, kinds := [], alts := [], laidByText := true, laidKinds := [.sentinel, .sentinel, .sentinel, .sentinel, .sentinel], laidTests := true, laidLooks := .later }
def BoundRefusesCardSaid : Prop := Claim7.holds Tryz.pinned (.plain (OpenSpec.ofChange boundRefusesSpec)) boundRefusesCard

/-- THE TIED CARD OF 'bspregionlaw31.BoundExprs'. -/
def boundExprsCard : Claim7 := { stood := { row := boundExprsRow, standIns := [], harness := (true, "2280202a1ec50610cfbf4903d8e2b6c5b76701497df4a3eacb870c092ad4fbfe"), looks := true }, kinds := [], alts := [], laidByText := true, laidKinds := [.sentinel, .sentinel, .sentinel, .sentinel, .sentinel], laidTests := true, laidLooks := .later }
def BoundExprsCardSaid : Prop := Claim7.holds Tryz.pinned (.plain (OpenSpec.ofChange boundExprsSpec)) boundExprsCard

/-- THE TIED CARD OF 'bspregionlaw31.BoundGrows'. -/
def boundGrowsCard : Claim7 := { stood := { row := boundGrowsRow, standIns := [], harness := (true, "2280202a1ec50610cfbf4903d8e2b6c5b76701497df4a3eacb870c092ad4fbfe"), looks := true }, kinds := [], alts := [], laidByText := true, laidKinds := [.sentinel, .sentinel, .sentinel, .sentinel, .sentinel], laidTests := true, laidLooks := .later }
def BoundGrowsCardSaid : Prop := Claim7.holds Tryz.pinned (.plain (OpenSpec.ofChange boundGrowsSpec)) boundGrowsCard

/-- THE TIED CARD OF 'bspregionlaw13.PrinterParens'. -/
def printerParensCard : Claim7 := { stood := { row := printerParensRow, standIns := [], harness := (true, "2280202a1ec50610cfbf4903d8e2b6c5b76701497df4a3eacb870c092ad4fbfe"), looks := true }, kinds := [], alts := [], laidByText := true, laidKinds := [.sentinel, .sentinel, .sentinel, .sentinel], laidTests := true, laidLooks := .later }
def PrinterParensCardSaid : Prop := Claim7.holds Tryz.pinned (.plain (OpenSpec.ofChange printerParensSpec)) printerParensCard

/-- THE TIED CARD OF 'bspregionlaw12.SyntaxBlanks'. -/
def syntaxBlanksCard : Claim7 := { stood := { row := syntaxBlanksRow, standIns := [], harness := (true, "2280202a1ec50610cfbf4903d8e2b6c5b76701497df4a3eacb870c092ad4fbfe"), looks := true }, kinds := [], alts := [], laidByText := true, laidKinds := [.data, .data, .data, .sentinel, .sentinel, .sentinel, .sentinel, .sentinel], laidTests := true, laidLooks := .later }
def SyntaxBlanksCardSaid : Prop := Claim7.holds Tryz.pinned (.plain (OpenSpec.ofChange syntaxBlanksSpec)) syntaxBlanksCard

/-- THE TIED CARD OF 'bspregionlaw12.SyntaxAppends'. -/
def syntaxAppendsCard : Claim7 := { stood := { row := syntaxAppendsRow, standIns := [], harness := (true, "2280202a1ec50610cfbf4903d8e2b6c5b76701497df4a3eacb870c092ad4fbfe"), looks := true }, kinds := [], alts := [], laidByText := true, laidKinds := [.data, .data, .data, .handle, .sentinel, .sentinel, .sentinel, .sentinel, .sentinel], laidTests := true, laidLooks := .later }
def SyntaxAppendsCardSaid : Prop := Claim7.holds Tryz.pinned (.plain (OpenSpec.ofChange syntaxAppendsSpec)) syntaxAppendsCard

/-- THE TIED CARD OF 'bspregionlaw13.PrinterTexts'. -/
def printerTextsCard : Claim7 := { stood := { row := printerTextsRow, standIns := [], harness := (true, "2280202a1ec50610cfbf4903d8e2b6c5b76701497df4a3eacb870c092ad4fbfe"), looks := true }, kinds := [], alts := [], laidByText := true, laidKinds := [.data, .data, .data, .sentinel, .sentinel, .sentinel, .sentinel, .sentinel, .sentinel], laidTests := true, laidLooks := .later }
def PrinterTextsCardSaid : Prop := Claim7.holds Tryz.pinned (.plain (OpenSpec.ofChange printerTextsSpec)) printerTextsCard

/-- THE SECOND FORM's CARD OF 'bspregionlaw31.BoundNumbers'. -/
def boundNumbersUptoCard : Claim7 := { stood := { row := boundNumbersUptoRow, standIns := [], harness := (true, "2280202a1ec50610cfbf4903d8e2b6c5b76701497df4a3eacb870c092ad4fbfe"), looks := true }, kinds := [], alts := [], laidByText := true, laidKinds := [.sentinel, .sentinel, .sentinel, .sentinel, .sentinel], laidTests := true, laidLooks := .later }
def BoundNumbersUptoCardSaid : Prop := Claim7.holds Tryz.pinned (.plain (OpenSpec.upto boundNumbersSpec)) boundNumbersUptoCard

/-- THE SECOND FORM's CARD OF 'bspregionlaw31.BoundMerges'. -/
def boundMergesUptoCard : Claim7 := { stood := { row := boundMergesUptoRow, standIns := [], harness := (true, "2280202a1ec50610cfbf4903d8e2b6c5b76701497df4a3eacb870c092ad4fbfe"), looks := true }, kinds := [], alts := [], laidByText := true, laidKinds := [.sentinel, .sentinel, .sentinel, .sentinel, .sentinel], laidTests := true, laidLooks := .later }
def BoundMergesUptoCardSaid : Prop := Claim7.holds Tryz.pinned (.plain (OpenSpec.upto boundMergesSpec)) boundMergesUptoCard

/-- THE SECOND FORM's CARD OF 'bspregionlaw31.BoundRefuses'. -/
def boundRefusesUptoCard : Claim7 := { stood := { row := boundRefusesUptoRow, standIns := [], harness := (true, "2280202a1ec50610cfbf4903d8e2b6c5b76701497df4a3eacb870c092ad4fbfe"), looks := true }, kinds := [], alts := [], laidByText := true, laidKinds := [.sentinel, .sentinel, .sentinel, .sentinel, .sentinel], laidTests := true, laidLooks := .later }
def BoundRefusesUptoCardSaid : Prop := Claim7.holds Tryz.pinned (.plain (OpenSpec.upto boundRefusesSpec)) boundRefusesUptoCard

/-- THE SECOND FORM's CARD OF 'bspregionlaw31.BoundExprs'. -/
def boundExprsUptoCard : Claim7 := { stood := { row := boundExprsUptoRow, standIns := [], harness := (true, "2280202a1ec50610cfbf4903d8e2b6c5b76701497df4a3eacb870c092ad4fbfe"), looks := true }, kinds := [], alts := [], laidByText := true, laidKinds := [.sentinel, .sentinel, .sentinel, .sentinel, .sentinel], laidTests := true, laidLooks := .later }
def BoundExprsUptoCardSaid : Prop := Claim7.holds Tryz.pinned (.plain (OpenSpec.upto boundExprsSpec)) boundExprsUptoCard

/-- THE SECOND FORM's CARD OF 'bspregionlaw31.BoundGrows'. -/
def boundGrowsUptoCard : Claim7 := { stood := { row := boundGrowsUptoRow, standIns := [], harness := (true, "2280202a1ec50610cfbf4903d8e2b6c5b76701497df4a3eacb870c092ad4fbfe"), looks := true }, kinds := [], alts := [], laidByText := true, laidKinds := [.sentinel, .sentinel, .sentinel, .sentinel, .sentinel], laidTests := true, laidLooks := .later }
def BoundGrowsUptoCardSaid : Prop := Claim7.holds Tryz.pinned (.plain (OpenSpec.upto boundGrowsSpec)) boundGrowsUptoCard

/-- THE SECOND FORM's CARD OF 'bspregionlaw13.PrinterParens'. -/
def printerParensUptoCard : Claim7 := { stood := { row := printerParensUptoRow, standIns := [], harness := (true, "2280202a1ec50610cfbf4903d8e2b6c5b76701497df4a3eacb870c092ad4fbfe"), looks := true }, kinds := [], alts := [], laidByText := true, laidKinds := [.sentinel, .sentinel, .sentinel, .sentinel], laidTests := true, laidLooks := .later }
def PrinterParensUptoCardSaid : Prop := Claim7.holds Tryz.pinned (.plain (OpenSpec.upto printerParensSpec)) printerParensUptoCard

/-- THE SECOND FORM's CARD OF 'bspregionlaw12.SyntaxBlanks'. -/
def syntaxBlanksUptoCard : Claim7 := { stood := { row := syntaxBlanksUptoRow, standIns := [], harness := (true, "2280202a1ec50610cfbf4903d8e2b6c5b76701497df4a3eacb870c092ad4fbfe"), looks := true }, kinds := [], alts := [], laidByText := true, laidKinds := [.data, .data, .data, .sentinel, .sentinel, .sentinel, .sentinel, .sentinel], laidTests := true, laidLooks := .later }
def SyntaxBlanksUptoCardSaid : Prop := Claim7.holds Tryz.pinned (.plain (OpenSpec.upto syntaxBlanksSpec)) syntaxBlanksUptoCard

/-- THE SECOND FORM's CARD OF 'bspregionlaw12.SyntaxAppends'. -/
def syntaxAppendsUptoCard : Claim7 := { stood := { row := syntaxAppendsUptoRow, standIns := [], harness := (true, "2280202a1ec50610cfbf4903d8e2b6c5b76701497df4a3eacb870c092ad4fbfe"), looks := true }, kinds := [], alts := [], laidByText := true, laidKinds := [.data, .data, .data, .handle, .sentinel, .sentinel, .sentinel, .sentinel, .sentinel], laidTests := true, laidLooks := .later }
def SyntaxAppendsUptoCardSaid : Prop := Claim7.holds Tryz.pinned (.plain (OpenSpec.upto syntaxAppendsSpec)) syntaxAppendsUptoCard

/-- THE SECOND FORM's CARD OF 'bspregionlaw13.PrinterTexts'. -/
def printerTextsUptoCard : Claim7 := { stood := { row := printerTextsUptoRow, standIns := [], harness := (true, "2280202a1ec50610cfbf4903d8e2b6c5b76701497df4a3eacb870c092ad4fbfe"), looks := true }, kinds := [], alts := [], laidByText := true, laidKinds := [.data, .data, .data, .sentinel, .sentinel, .sentinel, .sentinel, .sentinel, .sentinel], laidTests := true, laidLooks := .later }
def PrinterTextsUptoCardSaid : Prop := Claim7.holds Tryz.pinned (.plain (OpenSpec.upto printerTextsSpec)) printerTextsUptoCard
end Rows
end Go.Proofs.YtijejidpcfgioaaGreatDoor
