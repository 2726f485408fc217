/-
  DERIVED. GIVEN WITH THE SEED: THE PROGRAM's TIES (one call each: nine closed facts by the kernel) AND EACH ROW's TIE, after the 31st guide's Derived/Test/Toyas{Tie, Card}.lean. No idea stands in it: it is a product of the set-up. Laid BY PROGRAM, IN A SANDBOX (cutbox-door.mjs). By AI agents, Wed Nov 11 2026. No macro, syntax, notation, axiom, sorry.
-/
import Derived.Test.YtdmmjckhpagibaaGreatDoorRows
import Derived.LaidByTextLater
import Derived.SevenTiedAt
import Derived.LaidSub
import Derived.LaidOnce
namespace Go.Proofs.YtdmmjckhpagibaaGreatDoor
open Go
set_option maxRecDepth 100000
theorem seatTie1 : Tryz.prog.laidByTextLater [("chrysalis/flow.number", Rows.laid_chrysalis_flow_number), ("chrysalis/flow.octets", Rows.laid_chrysalis_flow_octets), ("chrysalis/flow.words", Rows.laid_chrysalis_flow_words), ("chrysalis/flow.refs", Rows.laid_chrysalis_flow_refs), ("chrysalis/flow.use", Rows.laid_chrysalis_flow_use)] [.data, .data, .data, .data, .data] true :=
  Program.laidByTextLater_by_one 34 8 3 (by kernel_rfl) (by kernel_rfl) (by kernel_rfl) (by kernel_rfl) (by kernel_rfl) (by kernel_rfl) (fun _ _ => by kernel_rfl)
theorem noOwnUnsafe : Tryz.pinned.checked.prog.headLifts.contains "ownunsafe" = false := by kernel_rfl
theorem tie : Tryz.prog.laidByTextLater [("chrysalis/flow.number", Rows.laid_chrysalis_flow_number), ("chrysalis/flow.octets", Rows.laid_chrysalis_flow_octets), ("chrysalis/flow.words", Rows.laid_chrysalis_flow_words), ("chrysalis/flow.refs", Rows.laid_chrysalis_flow_refs), ("chrysalis/flow.use", Rows.laid_chrysalis_flow_use)] [.data, .data, .data, .data, .data] true :=
  Program.laidByTextLater.sub seatTie1 ["chrysalis/flow.number", "chrysalis/flow.octets", "chrysalis/flow.words", "chrysalis/flow.refs", "chrysalis/flow.use"] (by kernel_rfl) (by kernel_rfl)
theorem stepTraps_row_tie : Rows.stepTrapsRow.laidByTextAt .later Tryz.pinned [.data, .data, .data, .data, .data] true :=
  OpenClaim.laidByTextAt_later rfl rfl tie noOwnUnsafe
theorem stepDepth_row_tie : Rows.stepDepthRow.laidByTextAt .later Tryz.pinned [.data, .data, .data, .data, .data] true :=
  OpenClaim.laidByTextAt_later rfl rfl tie noOwnUnsafe
theorem stepNone_row_tie : Rows.stepNoneRow.laidByTextAt .later Tryz.pinned [.data, .data, .data, .data, .data] true :=
  OpenClaim.laidByTextAt_later rfl rfl tie noOwnUnsafe
theorem execDeep_row_tie : Rows.execDeepRow.laidByTextAt .later Tryz.pinned [.data, .data, .data, .data, .data] true :=
  OpenClaim.laidByTextAt_later rfl rfl tie noOwnUnsafe
theorem runNone_row_tie : Rows.runNoneRow.laidByTextAt .later Tryz.pinned [.data, .data, .data, .data, .data] true :=
  OpenClaim.laidByTextAt_later rfl rfl tie noOwnUnsafe
theorem runStops_row_tie : Rows.runStopsRow.laidByTextAt .later Tryz.pinned [.data, .data, .data, .data, .data] true :=
  OpenClaim.laidByTextAt_later rfl rfl tie noOwnUnsafe
theorem execNone_row_tie : Rows.execNoneRow.laidByTextAt .later Tryz.pinned [.data, .data, .data, .data, .data] true :=
  OpenClaim.laidByTextAt_later rfl rfl tie noOwnUnsafe
theorem stepTrapsUpto_row_tie : Rows.stepTrapsUptoRow.laidByTextAt .later Tryz.pinned [.data, .data, .data, .data, .data] true :=
  OpenClaim.laidByTextAt_later rfl rfl tie noOwnUnsafe
theorem stepDepthUpto_row_tie : Rows.stepDepthUptoRow.laidByTextAt .later Tryz.pinned [.data, .data, .data, .data, .data] true :=
  OpenClaim.laidByTextAt_later rfl rfl tie noOwnUnsafe
theorem stepNoneUpto_row_tie : Rows.stepNoneUptoRow.laidByTextAt .later Tryz.pinned [.data, .data, .data, .data, .data] true :=
  OpenClaim.laidByTextAt_later rfl rfl tie noOwnUnsafe
theorem execDeepUpto_row_tie : Rows.execDeepUptoRow.laidByTextAt .later Tryz.pinned [.data, .data, .data, .data, .data] true :=
  OpenClaim.laidByTextAt_later rfl rfl tie noOwnUnsafe
theorem runNoneUpto_row_tie : Rows.runNoneUptoRow.laidByTextAt .later Tryz.pinned [.data, .data, .data, .data, .data] true :=
  OpenClaim.laidByTextAt_later rfl rfl tie noOwnUnsafe
theorem runStopsUpto_row_tie : Rows.runStopsUptoRow.laidByTextAt .later Tryz.pinned [.data, .data, .data, .data, .data] true :=
  OpenClaim.laidByTextAt_later rfl rfl tie noOwnUnsafe
theorem execNoneUpto_row_tie : Rows.execNoneUptoRow.laidByTextAt .later Tryz.pinned [.data, .data, .data, .data, .data] true :=
  OpenClaim.laidByTextAt_later rfl rfl tie noOwnUnsafe
end Go.Proofs.YtdmmjckhpagibaaGreatDoor
