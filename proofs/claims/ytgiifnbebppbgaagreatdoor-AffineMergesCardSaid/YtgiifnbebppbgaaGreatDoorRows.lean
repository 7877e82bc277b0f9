/-
  NARROWER THAN 'FOR EVERY INPUT', by the rows' own cells (each row's printed sentence says how): AffineMerges: laid · AffineClasses: laid · TopologyForms: laid · TopologyParts: laid.
  DERIVED. THE GIVEN ROWS OF THIS SEAT. 4 by the template 'for every input the law returns true; each argument reads behind the call as it read before'; 0 by the template 'total and deterministic' (their statements: YtgiifnbebppbgaaGreatDoorTotals.lean).
  GIVEN WITH THE SEED: the statements are not yours to turn. If you find one false, say at which input.
  Laid BY PROGRAM, IN A SANDBOX (cutbox-rows.mjs): the forced cells as the released guide's own fill.sh prints them over the translation 46538ea0ea521298… (all of the seat's roots in one cut). By AI agents, Wed Nov 11 2026. No macro, syntax, notation, axiom, sorry.
-/
import Derived.Test.YtgiifnbebppbgaaGreatDoorChecked
import GoSem.Claim
import GoSem.ClaimJoined
import GoSem.ClaimMapViews
import Derived.JoinedTies
import Derived.KernelRfl
namespace Go.Proofs.YtgiifnbebppbgaaGreatDoor
/- THE CELL 'sum', in the pinned program and in every row, IS THE sha256 OF THE DUMP (.gsa) THAT YtgiifnbebppbgaaGreatDoorProg.lean LOADS. Nothing in Lean hashes anything: it is a label: what it is worth is what the hold of that sum in a sandbox is worth. -/
noncomputable def Tryz.pinned : Pinned := { name := "ytgiifnbebppbgaagreatdoor", sum := "46538ea0ea521298cce6a200cce1c04e5099002c7c0eb862ff9621fd4506fbdc", checked := Tryz.checked }
namespace Rows
def none {H : Type} : Left H := { results := [], args := [] }

/- WHAT THE LISTED PACKAGE-LEVEL VARIABLES READ AS WHEN THE CALL BEGINS. Each datum BY PROGRAM (the guide's laid-datum.mjs) off the statement by which the dump's own 'gosem.cut.vars' lays the variable. In a bare row this is a premise. The card (YtgiifnbebppbgaaGreatDoorCards.lean) ties it to the program's text. -/
def laid_bspregion_api_ErrInvalid {H : Type} : DataW H := .iface "*errors.errorString" (.ptr (.agg [.lit (.string [105, 110, 118, 97, 108, 105, 100, 32, 118, 97, 108, 117, 101])]))
def laid_bspregion_api_ErrSingular {H : Type} : DataW H := .iface "*errors.errorString" (.ptr (.agg [.lit (.string [115, 105, 110, 103, 117, 108, 97, 114, 32, 109, 97, 112])]))
def laid_bspregion_api_ErrLimit {H : Type} : DataW H := .iface "*errors.errorString" (.ptr (.agg [.lit (.string [108, 105, 109, 105, 116, 32, 101, 120, 99, 101, 101, 100, 101, 100])]))

/-- 'bspregionlaw26.AffineMerges': WHATEVER THE INPUT: true; the input reads as it did. -/
def affineMergesSpec : ChangeSpec := { name := "affineMerges", fn := fun _ => fun
  | [d1, d2] => { results := [.lit (.bool true)], args := [d1, d2] }
  | _ => none }
def affineMergesRow : OpenClaim := { program := "ytgiifnbebppbgaagreatdoor", sum := "46538ea0ea521298cce6a200cce1c04e5099002c7c0eb862ff9621fd4506fbdc", func := "bspregion/bspregionlaw26.AffineMerges", spec := "affineMerges", inPlace := ["slices.overlaps[bspregion/geo.Fr]"], unfollowed := true, recurses := true, named := ["math/bits.overflowError", "bspregion/api.ErrInvalid", "bspregion/api.ErrLimit", "bspregion/api.ErrSingular"], apart := false, laid := [("bspregion/api.ErrInvalid", laid_bspregion_api_ErrInvalid), ("bspregion/api.ErrSingular", laid_bspregion_api_ErrSingular), ("bspregion/api.ErrLimit", laid_bspregion_api_ErrLimit)] }
def AffineMergesSaid : Prop := affineMergesRow.holds Tryz.pinned (OpenSpec.ofChange affineMergesSpec)

/-- ITS FALSE NEIGHBOUR: 'it returns false'. Refute it at one input. -/
def affineMergesWrong : ChangeSpec := { name := "affineMerges", fn := fun _ => fun
  | [d1, d2] => { results := [.lit (.bool false)], args := [d1, d2] }
  | _ => none }
def AffineMergesWrongFalsely : Prop := affineMergesRow.holds Tryz.pinned (OpenSpec.ofChange affineMergesWrong)

/-- 'bspregionlaw26.AffineClasses': WHATEVER THE INPUT: true; the input reads as it did. -/
def affineClassesSpec : ChangeSpec := { name := "affineClasses", fn := fun _ => fun
  | [d] => { results := [.lit (.bool true)], args := [d] }
  | _ => none }
def affineClassesRow : OpenClaim := { program := "ytgiifnbebppbgaagreatdoor", sum := "46538ea0ea521298cce6a200cce1c04e5099002c7c0eb862ff9621fd4506fbdc", func := "bspregion/bspregionlaw26.AffineClasses", spec := "affineClasses", unfollowed := true, recurses := true, named := ["math/bits.overflowError", "bspregion/api.ErrInvalid", "bspregion/api.ErrSingular"], apart := false, laid := [("bspregion/api.ErrInvalid", laid_bspregion_api_ErrInvalid), ("bspregion/api.ErrSingular", laid_bspregion_api_ErrSingular)] }
def AffineClassesSaid : Prop := affineClassesRow.holds Tryz.pinned (OpenSpec.ofChange affineClassesSpec)

/-- ITS FALSE NEIGHBOUR: 'it returns false'. Refute it at one input. -/
def affineClassesWrong : ChangeSpec := { name := "affineClasses", fn := fun _ => fun
  | [d] => { results := [.lit (.bool false)], args := [d] }
  | _ => none }
def AffineClassesWrongFalsely : Prop := affineClassesRow.holds Tryz.pinned (OpenSpec.ofChange affineClassesWrong)

/-- 'bspregionlaw28.TopologyForms': WHATEVER THE INPUT: true; the input reads as it did. -/
def topologyFormsSpec : ChangeSpec := { name := "topologyForms", fn := fun _ => fun
  | [d] => { results := [.lit (.bool true)], args := [d] }
  | _ => none }
def topologyFormsRow : OpenClaim := { program := "ytgiifnbebppbgaagreatdoor", sum := "46538ea0ea521298cce6a200cce1c04e5099002c7c0eb862ff9621fd4506fbdc", func := "bspregion/bspregionlaw28.TopologyForms", spec := "topologyForms", inPlace := ["slices.overlaps[bspregion/geo.Fr]"], unfollowed := true, recurses := true, named := ["math/bits.overflowError", "bspregion/api.ErrInvalid", "bspregion/api.ErrLimit"], apart := false, laid := [("bspregion/api.ErrInvalid", laid_bspregion_api_ErrInvalid), ("bspregion/api.ErrLimit", laid_bspregion_api_ErrLimit)] }
def TopologyFormsSaid : Prop := topologyFormsRow.holds Tryz.pinned (OpenSpec.ofChange topologyFormsSpec)

/-- ITS FALSE NEIGHBOUR: 'it returns false'. Refute it at one input. -/
def topologyFormsWrong : ChangeSpec := { name := "topologyForms", fn := fun _ => fun
  | [d] => { results := [.lit (.bool false)], args := [d] }
  | _ => none }
def TopologyFormsWrongFalsely : Prop := topologyFormsRow.holds Tryz.pinned (OpenSpec.ofChange topologyFormsWrong)

/-- 'bspregionlaw28.TopologyParts': WHATEVER THE INPUT: true; the input reads as it did. -/
def topologyPartsSpec : ChangeSpec := { name := "topologyParts", fn := fun _ => fun
  | [d] => { results := [.lit (.bool true)], args := [d] }
  | _ => none }
def topologyPartsRow : OpenClaim := { program := "ytgiifnbebppbgaagreatdoor", sum := "46538ea0ea521298cce6a200cce1c04e5099002c7c0eb862ff9621fd4506fbdc", func := "bspregion/bspregionlaw28.TopologyParts", spec := "topologyParts", inPlace := ["slices.overlaps[bspregion/geo.Fr]"], unfollowed := true, recurses := true, named := ["math/bits.overflowError", "bspregion/api.ErrInvalid", "bspregion/api.ErrLimit"], apart := false, laid := [("bspregion/api.ErrInvalid", laid_bspregion_api_ErrInvalid), ("bspregion/api.ErrLimit", laid_bspregion_api_ErrLimit)] }
def TopologyPartsSaid : Prop := topologyPartsRow.holds Tryz.pinned (OpenSpec.ofChange topologyPartsSpec)

/-- ITS FALSE NEIGHBOUR: 'it returns false'. Refute it at one input. -/
def topologyPartsWrong : ChangeSpec := { name := "topologyParts", fn := fun _ => fun
  | [d] => { results := [.lit (.bool false)], args := [d] }
  | _ => none }
def TopologyPartsWrongFalsely : Prop := topologyPartsRow.holds Tryz.pinned (OpenSpec.ofChange topologyPartsWrong)

/- THE SECOND FORM. 'bulk': how many values and letters a reading holds, each counted each time it is reached (what is shared counts as often as it is met; a slice's spare places count too). A statement '..UptoSaid' is the law's where the arguments, and the package variables that the reading takes, are together of bulk at most 1048576: NARROWER than '..Said'. Prove '..Said' where nothing that the law and all that it calls make is longer than what came in: it says more and counts as full. Else prove '..UptoSaid'. A law counts once. -/
mutual
def uptoBulk {H : Type} : DataW H → Nat
  | .lit (.string bytes) => bytes.length + 1
  | .lit _ => 1
  | .nil => 1
  | .ptr d => uptoBulk d + 1
  | .slice elems spare => uptoBulkAll elems + uptoBulkAll spare + 1
  | .agg parts => uptoBulkAll parts + 1
  | .iface _ d => uptoBulk d + 1
  | .map entries => uptoBulkEntries entries + 1
  | .held _ => 1
def uptoBulkAll {H : Type} : List (DataW H) → Nat
  | [] => 0
  | d :: r => uptoBulk d + uptoBulkAll r
def uptoBulkEntries {H : Type} : List (Lit × DataW H) → Nat
  | [] => 0
  | x :: r => uptoBulkEntry x + uptoBulkEntries r
def uptoBulkEntry {H : Type} : Lit × DataW H → Nat
  | (.string bytes, d) => bytes.length + uptoBulk d + 1
  | (_, d) => uptoBulk d + 1
 end
def uptoSmall : (H : Type) → List (DataW H) → Bool := fun _ ds => decide (uptoBulkAll ds ≤ 1048576)
def OpenSpec.upto (s : _root_.Go.ChangeSpec) : _root_.Go.OpenSpec := { _root_.Go.OpenSpec.ofChange s with cond := some uptoSmall }

/-- 'bspregionlaw26.AffineMerges', WHERE WHAT IT READS IS OF BULK AT MOST 1048576: true; the input reads as it did. -/
def affineMergesUptoRow : OpenClaim := { program := "ytgiifnbebppbgaagreatdoor", sum := "46538ea0ea521298cce6a200cce1c04e5099002c7c0eb862ff9621fd4506fbdc", func := "bspregion/bspregionlaw26.AffineMerges", spec := "affineMerges", inPlace := ["slices.overlaps[bspregion/geo.Fr]"], unfollowed := true, recurses := true, named := ["math/bits.overflowError", "bspregion/api.ErrInvalid", "bspregion/api.ErrLimit", "bspregion/api.ErrSingular"], apart := false, laid := [("bspregion/api.ErrInvalid", laid_bspregion_api_ErrInvalid), ("bspregion/api.ErrSingular", laid_bspregion_api_ErrSingular), ("bspregion/api.ErrLimit", laid_bspregion_api_ErrLimit)], narrowed := true }
def AffineMergesUptoSaid : Prop := affineMergesUptoRow.holds Tryz.pinned (OpenSpec.upto affineMergesSpec)

/-- 'bspregionlaw26.AffineClasses', WHERE WHAT IT READS IS OF BULK AT MOST 1048576: true; the input reads as it did. -/
def affineClassesUptoRow : OpenClaim := { program := "ytgiifnbebppbgaagreatdoor", sum := "46538ea0ea521298cce6a200cce1c04e5099002c7c0eb862ff9621fd4506fbdc", func := "bspregion/bspregionlaw26.AffineClasses", spec := "affineClasses", unfollowed := true, recurses := true, named := ["math/bits.overflowError", "bspregion/api.ErrInvalid", "bspregion/api.ErrSingular"], apart := false, laid := [("bspregion/api.ErrInvalid", laid_bspregion_api_ErrInvalid), ("bspregion/api.ErrSingular", laid_bspregion_api_ErrSingular)], narrowed := true }
def AffineClassesUptoSaid : Prop := affineClassesUptoRow.holds Tryz.pinned (OpenSpec.upto affineClassesSpec)

/-- 'bspregionlaw28.TopologyForms', WHERE WHAT IT READS IS OF BULK AT MOST 1048576: true; the input reads as it did. -/
def topologyFormsUptoRow : OpenClaim := { program := "ytgiifnbebppbgaagreatdoor", sum := "46538ea0ea521298cce6a200cce1c04e5099002c7c0eb862ff9621fd4506fbdc", func := "bspregion/bspregionlaw28.TopologyForms", spec := "topologyForms", inPlace := ["slices.overlaps[bspregion/geo.Fr]"], unfollowed := true, recurses := true, named := ["math/bits.overflowError", "bspregion/api.ErrInvalid", "bspregion/api.ErrLimit"], apart := false, laid := [("bspregion/api.ErrInvalid", laid_bspregion_api_ErrInvalid), ("bspregion/api.ErrLimit", laid_bspregion_api_ErrLimit)], narrowed := true }
def TopologyFormsUptoSaid : Prop := topologyFormsUptoRow.holds Tryz.pinned (OpenSpec.upto topologyFormsSpec)

/-- 'bspregionlaw28.TopologyParts', WHERE WHAT IT READS IS OF BULK AT MOST 1048576: true; the input reads as it did. -/
def topologyPartsUptoRow : OpenClaim := { program := "ytgiifnbebppbgaagreatdoor", sum := "46538ea0ea521298cce6a200cce1c04e5099002c7c0eb862ff9621fd4506fbdc", func := "bspregion/bspregionlaw28.TopologyParts", spec := "topologyParts", inPlace := ["slices.overlaps[bspregion/geo.Fr]"], unfollowed := true, recurses := true, named := ["math/bits.overflowError", "bspregion/api.ErrInvalid", "bspregion/api.ErrLimit"], apart := false, laid := [("bspregion/api.ErrInvalid", laid_bspregion_api_ErrInvalid), ("bspregion/api.ErrLimit", laid_bspregion_api_ErrLimit)], narrowed := true }
def TopologyPartsUptoSaid : Prop := topologyPartsUptoRow.holds Tryz.pinned (OpenSpec.upto topologyPartsSpec)

end Rows
end Go.Proofs.YtgiifnbebppbgaaGreatDoor
