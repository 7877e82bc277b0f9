/-
  DERIVED. GIVEN WITH THE SEED: THE PROGRAM's TIES (one call each: nine closed facts by the kernel) AND EACH ROW's TIE, after the 31st guide's Derived/Test/Toyas{Tie, Card}.lean. No idea stands in it: it is a product of the set-up. Laid BY PROGRAM, IN A SANDBOX (cutbox-door.mjs). By AI agents, Wed Nov 11 2026. No macro, syntax, notation, axiom, sorry.
-/
import Derived.Test.YtgiifnbebppbgaaGreatDoorRows
import Derived.LaidByTextLater
import Derived.SevenTiedAt
import Derived.LaidSub
import Derived.LaidOnce
namespace Go.Proofs.YtgiifnbebppbgaaGreatDoor
open Go
set_option maxRecDepth 100000
theorem seatTie1 : Tryz.prog.laidByTextLater [("bspregion/api.ErrInvalid", Rows.laid_bspregion_api_ErrInvalid), ("bspregion/api.ErrSingular", Rows.laid_bspregion_api_ErrSingular), ("bspregion/api.ErrLimit", Rows.laid_bspregion_api_ErrLimit)] [.sentinel, .sentinel, .sentinel] true :=
  Program.laidByTextLater_by_one 66 8 2 (by kernel_rfl) (by kernel_rfl) (by kernel_rfl) (by kernel_rfl) (by kernel_rfl) (by kernel_rfl) (fun _ _ => by kernel_rfl)
theorem noOwnUnsafe : Tryz.pinned.checked.prog.headLifts.contains "ownunsafe" = false := by kernel_rfl
theorem tie : Tryz.prog.laidByTextLater [("bspregion/api.ErrInvalid", Rows.laid_bspregion_api_ErrInvalid), ("bspregion/api.ErrSingular", Rows.laid_bspregion_api_ErrSingular), ("bspregion/api.ErrLimit", Rows.laid_bspregion_api_ErrLimit)] [.sentinel, .sentinel, .sentinel] true :=
  Program.laidByTextLater.sub seatTie1 ["bspregion/api.ErrInvalid", "bspregion/api.ErrSingular", "bspregion/api.ErrLimit"] (by kernel_rfl) (by kernel_rfl)
theorem affineMerges_row_tie : Rows.affineMergesRow.laidByTextAt .later Tryz.pinned [.sentinel, .sentinel, .sentinel] true :=
  OpenClaim.laidByTextAt_later rfl rfl tie noOwnUnsafe
theorem tie2 : Tryz.prog.laidByTextLater [("bspregion/api.ErrInvalid", Rows.laid_bspregion_api_ErrInvalid), ("bspregion/api.ErrSingular", Rows.laid_bspregion_api_ErrSingular)] [.sentinel, .sentinel] true :=
  Program.laidByTextLater.sub seatTie1 ["bspregion/api.ErrInvalid", "bspregion/api.ErrSingular"] (by kernel_rfl) (by kernel_rfl)
theorem affineClasses_row_tie : Rows.affineClassesRow.laidByTextAt .later Tryz.pinned [.sentinel, .sentinel] true :=
  OpenClaim.laidByTextAt_later rfl rfl tie2 noOwnUnsafe
theorem tie3 : Tryz.prog.laidByTextLater [("bspregion/api.ErrInvalid", Rows.laid_bspregion_api_ErrInvalid), ("bspregion/api.ErrLimit", Rows.laid_bspregion_api_ErrLimit)] [.sentinel, .sentinel] true :=
  Program.laidByTextLater.sub seatTie1 ["bspregion/api.ErrInvalid", "bspregion/api.ErrLimit"] (by kernel_rfl) (by kernel_rfl)
theorem topologyForms_row_tie : Rows.topologyFormsRow.laidByTextAt .later Tryz.pinned [.sentinel, .sentinel] true :=
  OpenClaim.laidByTextAt_later rfl rfl tie3 noOwnUnsafe
theorem topologyParts_row_tie : Rows.topologyPartsRow.laidByTextAt .later Tryz.pinned [.sentinel, .sentinel] true :=
  OpenClaim.laidByTextAt_later rfl rfl tie3 noOwnUnsafe
theorem affineMergesUpto_row_tie : Rows.affineMergesUptoRow.laidByTextAt .later Tryz.pinned [.sentinel, .sentinel, .sentinel] true :=
  OpenClaim.laidByTextAt_later rfl rfl tie noOwnUnsafe
theorem affineClassesUpto_row_tie : Rows.affineClassesUptoRow.laidByTextAt .later Tryz.pinned [.sentinel, .sentinel] true :=
  OpenClaim.laidByTextAt_later rfl rfl tie2 noOwnUnsafe
theorem topologyFormsUpto_row_tie : Rows.topologyFormsUptoRow.laidByTextAt .later Tryz.pinned [.sentinel, .sentinel] true :=
  OpenClaim.laidByTextAt_later rfl rfl tie3 noOwnUnsafe
theorem topologyPartsUpto_row_tie : Rows.topologyPartsUptoRow.laidByTextAt .later Tryz.pinned [.sentinel, .sentinel] true :=
  OpenClaim.laidByTextAt_later rfl rfl tie3 noOwnUnsafe
end Go.Proofs.YtgiifnbebppbgaaGreatDoor
