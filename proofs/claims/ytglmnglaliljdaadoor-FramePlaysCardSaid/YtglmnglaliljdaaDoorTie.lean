/-
  DERIVED. GIVEN WITH THE SEED: THE PROGRAM's TIES (one call each: nine closed facts by the kernel) AND EACH ROW's TIE, after the 31st guide's Derived/Test/Toyas{Tie, Card}.lean. No idea stands in it: it is a product of the set-up. Laid BY PROGRAM, IN A SANDBOX (cutbox-door.mjs). By AI agents, Wed Nov 11 2026. No macro, syntax, notation, axiom, sorry.
-/
import Derived.Test.YtglmnglaliljdaaDoorRows
import Derived.LaidByTextLater
import Derived.SevenTiedAt
import Derived.LaidSub
import Derived.LaidOnce
namespace Go.Proofs.YtglmnglaliljdaaDoor
open Go
set_option maxRecDepth 100000
theorem seatTie1 : Tryd.prog.laidByTextLater [("errors.errorType", Rows.laid_errors_errorType), ("latiner/size.errShort", Rows.laid_latiner_size_errShort), ("latiner/size.errForm", Rows.laid_latiner_size_errForm), ("latiner/size.errSize", Rows.laid_latiner_size_errSize), ("latiner/frame.errTag", Rows.laid_latiner_frame_errTag), ("latiner/frame.errForm", Rows.laid_latiner_frame_errForm), ("latiner/frame.errLarge", Rows.laid_latiner_frame_errLarge), ("latiner/frame.errMore", Rows.laid_latiner_frame_errMore)] [.handle, .sentinel, .sentinel, .sentinel, .sentinel, .sentinel, .sentinel, .sentinel] true :=
  Program.laidByTextLater_by_one 149 8 2 (by kernel_rfl) (by kernel_rfl) (by kernel_rfl) (by kernel_rfl) (by kernel_rfl) (by kernel_rfl) (fun _ _ => by kernel_rfl)
theorem noOwnUnsafe : Tryd.pinned.checked.prog.headLifts.contains "ownunsafe" = false := by kernel_rfl
theorem tie : Tryd.prog.laidByTextLater [("errors.errorType", Rows.laid_errors_errorType), ("latiner/size.errShort", Rows.laid_latiner_size_errShort), ("latiner/size.errForm", Rows.laid_latiner_size_errForm), ("latiner/size.errSize", Rows.laid_latiner_size_errSize), ("latiner/frame.errTag", Rows.laid_latiner_frame_errTag), ("latiner/frame.errForm", Rows.laid_latiner_frame_errForm), ("latiner/frame.errLarge", Rows.laid_latiner_frame_errLarge), ("latiner/frame.errMore", Rows.laid_latiner_frame_errMore)] [.handle, .sentinel, .sentinel, .sentinel, .sentinel, .sentinel, .sentinel, .sentinel] true :=
  Program.laidByTextLater.sub seatTie1 ["errors.errorType", "latiner/size.errShort", "latiner/size.errForm", "latiner/size.errSize", "latiner/frame.errTag", "latiner/frame.errForm", "latiner/frame.errLarge", "latiner/frame.errMore"] (by kernel_rfl) (by kernel_rfl)
theorem framePlays_row_tie : Rows.framePlaysRow.laidByTextAt .later Tryd.pinned [.handle, .sentinel, .sentinel, .sentinel, .sentinel, .sentinel, .sentinel, .sentinel] true :=
  OpenClaim.laidByTextAt_later rfl rfl tie noOwnUnsafe
theorem frameCuts_row_tie : Rows.frameCutsRow.laidByTextAt .later Tryd.pinned [.handle, .sentinel, .sentinel, .sentinel, .sentinel, .sentinel, .sentinel, .sentinel] true :=
  OpenClaim.laidByTextAt_later rfl rfl tie noOwnUnsafe
theorem frameWhole_row_tie : Rows.frameWholeRow.laidByTextAt .later Tryd.pinned [.handle, .sentinel, .sentinel, .sentinel, .sentinel, .sentinel, .sentinel, .sentinel] true :=
  OpenClaim.laidByTextAt_later rfl rfl tie noOwnUnsafe
theorem frameLarge_row_tie : Rows.frameLargeRow.laidByTextAt .later Tryd.pinned [.handle, .sentinel, .sentinel, .sentinel, .sentinel, .sentinel, .sentinel, .sentinel] true :=
  OpenClaim.laidByTextAt_later rfl rfl tie noOwnUnsafe
theorem framePlaysUpto_row_tie : Rows.framePlaysUptoRow.laidByTextAt .later Tryd.pinned [.handle, .sentinel, .sentinel, .sentinel, .sentinel, .sentinel, .sentinel, .sentinel] true :=
  OpenClaim.laidByTextAt_later rfl rfl tie noOwnUnsafe
theorem frameCutsUpto_row_tie : Rows.frameCutsUptoRow.laidByTextAt .later Tryd.pinned [.handle, .sentinel, .sentinel, .sentinel, .sentinel, .sentinel, .sentinel, .sentinel] true :=
  OpenClaim.laidByTextAt_later rfl rfl tie noOwnUnsafe
theorem frameWholeUpto_row_tie : Rows.frameWholeUptoRow.laidByTextAt .later Tryd.pinned [.handle, .sentinel, .sentinel, .sentinel, .sentinel, .sentinel, .sentinel, .sentinel] true :=
  OpenClaim.laidByTextAt_later rfl rfl tie noOwnUnsafe
theorem frameLargeUpto_row_tie : Rows.frameLargeUptoRow.laidByTextAt .later Tryd.pinned [.handle, .sentinel, .sentinel, .sentinel, .sentinel, .sentinel, .sentinel, .sentinel] true :=
  OpenClaim.laidByTextAt_later rfl rfl tie noOwnUnsafe
end Go.Proofs.YtglmnglaliljdaaDoor
