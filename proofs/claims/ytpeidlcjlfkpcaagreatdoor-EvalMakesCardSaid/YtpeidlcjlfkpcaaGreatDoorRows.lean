/-
  NARROWER THAN 'FOR EVERY INPUT', by the rows' own cells (each row's printed sentence says how): EvalMakes: laid.
  DERIVED. THE GIVEN ROWS OF THIS SEAT. 1 by the template 'for every input the law returns true; each argument reads behind the call as it read before'; 0 by the template 'total and deterministic' (their statements: YtpeidlcjlfkpcaaGreatDoorTotals.lean).
  GIVEN WITH THE SEED: the statements are not yours to turn. If you find one false, say at which input.
  Laid BY PROGRAM, IN A SANDBOX (cutbox-rows.mjs): the forced cells as the released guide's own fill.sh prints them over the translation 1083f8742877d3c1… (all of the seat's roots in one cut). By AI agents, Wed Nov 11 2026. No macro, syntax, notation, axiom, sorry.
-/
import Derived.Test.YtpeidlcjlfkpcaaGreatDoorChecked
import GoSem.Claim
import GoSem.ClaimJoined
import GoSem.ClaimMapViews
import Derived.JoinedTies
import Derived.KernelRfl
namespace Go.Proofs.YtpeidlcjlfkpcaaGreatDoor
/- THE CELL 'sum', in the pinned program and in every row, IS THE sha256 OF THE DUMP (.gsa) THAT YtpeidlcjlfkpcaaGreatDoorProg.lean LOADS. Nothing in Lean hashes anything: it is a label: what it is worth is what the hold of that sum in a sandbox is worth. -/
noncomputable def Tryz.pinned : Pinned := { name := "ytpeidlcjlfkpcaagreatdoor", sum := "1083f8742877d3c1109bcae159c948b70ea1038895e1f2e2a3a1b6db6dcffeb6", checked := Tryz.checked }
namespace Rows
def none {H : Type} : Left H := { results := [], args := [] }

/- WHAT THE LISTED PACKAGE-LEVEL VARIABLES READ AS WHEN THE CALL BEGINS. Each datum BY PROGRAM (the guide's laid-datum.mjs) off the statement by which the dump's own 'gosem.cut.vars' lays the variable. In a bare row this is a premise. The card (YtpeidlcjlfkpcaaGreatDoorCards.lean) ties it to the program's text. -/
def laid_errors_errorType {H : Type} : DataW H := .iface "internal/reflectlite.rtype" (.agg [.ptr (.lit (.string [101, 114, 114, 111, 114]))])
def laid_bspregion_api_ErrInvalid {H : Type} : DataW H := .iface "*errors.errorString" (.ptr (.agg [.lit (.string [105, 110, 118, 97, 108, 105, 100, 32, 118, 97, 108, 117, 101])]))
def laid_bspregion_api_ErrSyntax {H : Type} : DataW H := .iface "*errors.errorString" (.ptr (.agg [.lit (.string [115, 121, 110, 116, 97, 120, 32, 101, 114, 114, 111, 114])]))
def laid_bspregion_api_ErrRing {H : Type} : DataW H := .iface "*errors.errorString" (.ptr (.agg [.lit (.string [98, 97, 100, 32, 114, 105, 110, 103])]))
def laid_bspregion_api_ErrName {H : Type} : DataW H := .iface "*errors.errorString" (.ptr (.agg [.lit (.string [117, 110, 107, 110, 111, 119, 110, 32, 110, 97, 109, 101])]))
def laid_bspregion_api_ErrTwice {H : Type} : DataW H := .iface "*errors.errorString" (.ptr (.agg [.lit (.string [110, 97, 109, 101, 32, 100, 101, 102, 105, 110, 101, 100, 32, 116, 119, 105, 99, 101])]))
def laid_bspregion_api_ErrBudget {H : Type} : DataW H := .iface "*errors.errorString" (.ptr (.agg [.lit (.string [98, 117, 100, 103, 101, 116, 32, 101, 120, 99, 101, 101, 100, 101, 100])]))
def laid_bspregion_api_ErrLimit {H : Type} : DataW H := .iface "*errors.errorString" (.ptr (.agg [.lit (.string [108, 105, 109, 105, 116, 32, 101, 120, 99, 101, 101, 100, 101, 100])]))
def laid_bspregion_api_ErrRange {H : Type} : DataW H := .iface "*errors.errorString" (.ptr (.agg [.lit (.string [111, 117, 116, 32, 111, 102, 32, 114, 97, 110, 103, 101])]))

/-- 'bspregionlaw32.EvalMakes': WHATEVER THE INPUT: true; the input reads as it did. -/
def evalMakesSpec : ChangeSpec := { name := "evalMakes", fn := fun _ => fun
  | [d1, d2] => { results := [.lit (.bool true)], args := [d1, d2] }
  | _ => none }
def evalMakesRow : OpenClaim := { program := "ytpeidlcjlfkpcaagreatdoor", sum := "1083f8742877d3c1109bcae159c948b70ea1038895e1f2e2a3a1b6db6dcffeb6", func := "bspregion/bspregionlaw32.EvalMakes", spec := "evalMakes", inPlace := ["internal/bytealg.IndexByteString", "internal/abi.NoEscape", "internal/reflectlite.TypeOf", "slices.overlaps[bspregion/geo.Fr]", "internal/reflectlite.ValueOf", "(internal/reflectlite.Value).Type", "(internal/reflectlite.Value).IsNil", "(internal/reflectlite.Value).Elem", "(internal/reflectlite.Value).Set", "internal/bytealg.IndexString"], unfollowed := true, recurses := true, named := ["math/bits.overflowError", "bspregion/api.ErrInvalid", "bspregion/api.ErrLimit", "bspregion/api.ErrBudget", "bspregion/api.ErrName", "bspregion/api.ErrRange", "errors.errorType", "bspregion/api.ErrSyntax", "bspregion/api.ErrRing", "bspregion/api.ErrTwice", "internal/bytealg.MaxLen"], apart := false, laid := [("errors.errorType", laid_errors_errorType), ("bspregion/api.ErrInvalid", laid_bspregion_api_ErrInvalid), ("bspregion/api.ErrSyntax", laid_bspregion_api_ErrSyntax), ("bspregion/api.ErrRing", laid_bspregion_api_ErrRing), ("bspregion/api.ErrName", laid_bspregion_api_ErrName), ("bspregion/api.ErrTwice", laid_bspregion_api_ErrTwice), ("bspregion/api.ErrBudget", laid_bspregion_api_ErrBudget), ("bspregion/api.ErrLimit", laid_bspregion_api_ErrLimit), ("bspregion/api.ErrRange", laid_bspregion_api_ErrRange)] }
def EvalMakesSaid : Prop := evalMakesRow.holds Tryz.pinned (OpenSpec.ofChange evalMakesSpec)

/-- ITS FALSE NEIGHBOUR: 'it returns false'. Refute it at one input. -/
def evalMakesWrong : ChangeSpec := { name := "evalMakes", fn := fun _ => fun
  | [d1, d2] => { results := [.lit (.bool false)], args := [d1, d2] }
  | _ => none }
def EvalMakesWrongFalsely : Prop := evalMakesRow.holds Tryz.pinned (OpenSpec.ofChange evalMakesWrong)

/- THE SECOND FORM. 'bulk': how many values and letters a reading holds, each counted each time it is reached (what is shared counts as often as it is met; a slice's spare places count too). A statement '..UptoSaid' is the law's where the arguments, and the package variables that the reading takes, are together of bulk at most 1048576: NARROWER than '..Said'. Prove '..Said' where nothing that the law and all that it calls make is longer than what came in: it says more and counts as full. Else prove '..UptoSaid'. A law counts once. -/
mutual
def uptoBulk {H : Type} : DataW H → Nat
  | .lit (.string bytes) => bytes.length + 1
  | .lit _ => 1
  | .nil => 1
  | .ptr d => uptoBulk d + 1
  | .slice elems spare => uptoBulkAll elems + uptoBulkAll spare + 1
  | .agg parts => uptoBulkAll parts + 1
  | .iface _ d => uptoBulk d + 1
  | .map entries => uptoBulkEntries entries + 1
  | .held _ => 1
def uptoBulkAll {H : Type} : List (DataW H) → Nat
  | [] => 0
  | d :: r => uptoBulk d + uptoBulkAll r
def uptoBulkEntries {H : Type} : List (Lit × DataW H) → Nat
  | [] => 0
  | x :: r => uptoBulkEntry x + uptoBulkEntries r
def uptoBulkEntry {H : Type} : Lit × DataW H → Nat
  | (.string bytes, d) => bytes.length + uptoBulk d + 1
  | (_, d) => uptoBulk d + 1
 end
def uptoSmall : (H : Type) → List (DataW H) → Bool := fun _ ds => decide (uptoBulkAll ds ≤ 1048576)
def OpenSpec.upto (s : _root_.Go.ChangeSpec) : _root_.Go.OpenSpec := { _root_.Go.OpenSpec.ofChange s with cond := some uptoSmall }

/-- 'bspregionlaw32.EvalMakes', WHERE WHAT IT READS IS OF BULK AT MOST 1048576: true; the input reads as it did. -/
def evalMakesUptoRow : OpenClaim := { program := "ytpeidlcjlfkpcaagreatdoor", sum := "1083f8742877d3c1109bcae159c948b70ea1038895e1f2e2a3a1b6db6dcffeb6", func := "bspregion/bspregionlaw32.EvalMakes", spec := "evalMakes", inPlace := ["internal/bytealg.IndexByteString", "internal/abi.NoEscape", "internal/reflectlite.TypeOf", "slices.overlaps[bspregion/geo.Fr]", "internal/reflectlite.ValueOf", "(internal/reflectlite.Value).Type", "(internal/reflectlite.Value).IsNil", "(internal/reflectlite.Value).Elem", "(internal/reflectlite.Value).Set", "internal/bytealg.IndexString"], unfollowed := true, recurses := true, named := ["math/bits.overflowError", "bspregion/api.ErrInvalid", "bspregion/api.ErrLimit", "bspregion/api.ErrBudget", "bspregion/api.ErrName", "bspregion/api.ErrRange", "errors.errorType", "bspregion/api.ErrSyntax", "bspregion/api.ErrRing", "bspregion/api.ErrTwice", "internal/bytealg.MaxLen"], apart := false, laid := [("errors.errorType", laid_errors_errorType), ("bspregion/api.ErrInvalid", laid_bspregion_api_ErrInvalid), ("bspregion/api.ErrSyntax", laid_bspregion_api_ErrSyntax), ("bspregion/api.ErrRing", laid_bspregion_api_ErrRing), ("bspregion/api.ErrName", laid_bspregion_api_ErrName), ("bspregion/api.ErrTwice", laid_bspregion_api_ErrTwice), ("bspregion/api.ErrBudget", laid_bspregion_api_ErrBudget), ("bspregion/api.ErrLimit", laid_bspregion_api_ErrLimit), ("bspregion/api.ErrRange", laid_bspregion_api_ErrRange)], narrowed := true }
def EvalMakesUptoSaid : Prop := evalMakesUptoRow.holds Tryz.pinned (OpenSpec.upto evalMakesSpec)

end Rows
end Go.Proofs.YtpeidlcjlfkpcaaGreatDoor
