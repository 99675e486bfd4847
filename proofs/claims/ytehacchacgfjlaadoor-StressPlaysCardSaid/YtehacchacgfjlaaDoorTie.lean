/-
  DERIVED. GIVEN WITH THE SEED: THE PROGRAM's TIES (one call each: nine closed facts by the kernel) AND EACH ROW's TIE, after the 31st guide's Derived/Test/Toyas{Tie, Card}.lean. No idea stands in it: it is a product of the set-up. Laid BY PROGRAM, IN A SANDBOX (cutbox-door.mjs). By AI agents, Wed Nov 11 2026. No macro, syntax, notation, axiom, sorry.
-/
import Derived.Test.YtehacchacgfjlaaDoorRows
import Derived.LaidByTextLater
import Derived.SevenTiedAt
import Derived.LaidSub
import Derived.LaidOnce
namespace Go.Proofs.YtehacchacgfjlaaDoor
open Go
set_option maxRecDepth 100000
theorem seatTie1 : Tryd.prog.laidByTextLater [("pledge/api.ErrEnd", Rows.laid_pledge_api_ErrEnd), ("pledge/api.ErrShape", Rows.laid_pledge_api_ErrShape), ("pledge/api.ErrRange", Rows.laid_pledge_api_ErrRange), ("pledge/api.ErrOver", Rows.laid_pledge_api_ErrOver), ("pledge/api.ErrMany", Rows.laid_pledge_api_ErrMany), ("pledge/api.ErrNone", Rows.laid_pledge_api_ErrNone), ("pledge/api.ErrThere", Rows.laid_pledge_api_ErrThere), ("pledge/api.ErrFull", Rows.laid_pledge_api_ErrFull), ("pledge/api.ErrCrash", Rows.laid_pledge_api_ErrCrash), ("pledge/api.ErrTwice", Rows.laid_pledge_api_ErrTwice), ("pledge/api.ErrKind", Rows.laid_pledge_api_ErrKind), ("pledge/api.ErrBarred", Rows.laid_pledge_api_ErrBarred), ("pledge/api.ErrShort", Rows.laid_pledge_api_ErrShort), ("pledge/api.ErrBreach", Rows.laid_pledge_api_ErrBreach), ("pledge/api.ErrNeed", Rows.laid_pledge_api_ErrNeed), ("pledge/api.ErrBound", Rows.laid_pledge_api_ErrBound), ("pledge/api.ErrDay", Rows.laid_pledge_api_ErrDay), ("pledge/api.ErrWord", Rows.laid_pledge_api_ErrWord), ("pledge/api.ErrNumber", Rows.laid_pledge_api_ErrNumber), ("pledge/api.ErrBudget", Rows.laid_pledge_api_ErrBudget), ("pledge/api.ErrNothing", Rows.laid_pledge_api_ErrNothing)] [.sentinel, .sentinel, .sentinel, .sentinel, .sentinel, .sentinel, .sentinel, .sentinel, .sentinel, .sentinel, .sentinel, .sentinel, .sentinel, .sentinel, .sentinel, .sentinel, .sentinel, .sentinel, .sentinel, .sentinel, .sentinel] true :=
  Program.laidByTextLater_by_one 408 8 2 (by kernel_rfl) (by kernel_rfl) (by kernel_rfl) (by kernel_rfl) (by kernel_rfl) (by kernel_rfl) (fun _ _ => by kernel_rfl)
theorem noOwnUnsafe : Tryd.pinned.checked.prog.headLifts.contains "ownunsafe" = false := by kernel_rfl
theorem tie : Tryd.prog.laidByTextLater [("pledge/api.ErrEnd", Rows.laid_pledge_api_ErrEnd), ("pledge/api.ErrShape", Rows.laid_pledge_api_ErrShape), ("pledge/api.ErrRange", Rows.laid_pledge_api_ErrRange), ("pledge/api.ErrOver", Rows.laid_pledge_api_ErrOver), ("pledge/api.ErrMany", Rows.laid_pledge_api_ErrMany), ("pledge/api.ErrNone", Rows.laid_pledge_api_ErrNone), ("pledge/api.ErrThere", Rows.laid_pledge_api_ErrThere), ("pledge/api.ErrFull", Rows.laid_pledge_api_ErrFull), ("pledge/api.ErrCrash", Rows.laid_pledge_api_ErrCrash), ("pledge/api.ErrTwice", Rows.laid_pledge_api_ErrTwice), ("pledge/api.ErrKind", Rows.laid_pledge_api_ErrKind), ("pledge/api.ErrBarred", Rows.laid_pledge_api_ErrBarred), ("pledge/api.ErrShort", Rows.laid_pledge_api_ErrShort), ("pledge/api.ErrBreach", Rows.laid_pledge_api_ErrBreach), ("pledge/api.ErrNeed", Rows.laid_pledge_api_ErrNeed), ("pledge/api.ErrBound", Rows.laid_pledge_api_ErrBound), ("pledge/api.ErrDay", Rows.laid_pledge_api_ErrDay), ("pledge/api.ErrWord", Rows.laid_pledge_api_ErrWord), ("pledge/api.ErrNumber", Rows.laid_pledge_api_ErrNumber), ("pledge/api.ErrBudget", Rows.laid_pledge_api_ErrBudget), ("pledge/api.ErrNothing", Rows.laid_pledge_api_ErrNothing)] [.sentinel, .sentinel, .sentinel, .sentinel, .sentinel, .sentinel, .sentinel, .sentinel, .sentinel, .sentinel, .sentinel, .sentinel, .sentinel, .sentinel, .sentinel, .sentinel, .sentinel, .sentinel, .sentinel, .sentinel, .sentinel] true :=
  Program.laidByTextLater.sub seatTie1 ["pledge/api.ErrEnd", "pledge/api.ErrShape", "pledge/api.ErrRange", "pledge/api.ErrOver", "pledge/api.ErrMany", "pledge/api.ErrNone", "pledge/api.ErrThere", "pledge/api.ErrFull", "pledge/api.ErrCrash", "pledge/api.ErrTwice", "pledge/api.ErrKind", "pledge/api.ErrBarred", "pledge/api.ErrShort", "pledge/api.ErrBreach", "pledge/api.ErrNeed", "pledge/api.ErrBound", "pledge/api.ErrDay", "pledge/api.ErrWord", "pledge/api.ErrNumber", "pledge/api.ErrBudget", "pledge/api.ErrNothing"] (by kernel_rfl) (by kernel_rfl)
theorem diskShapes_row_tie : Rows.diskShapesRow.laidByTextAt .later Tryd.pinned [.sentinel, .sentinel, .sentinel, .sentinel, .sentinel, .sentinel, .sentinel, .sentinel, .sentinel, .sentinel, .sentinel, .sentinel, .sentinel, .sentinel, .sentinel, .sentinel, .sentinel, .sentinel, .sentinel, .sentinel, .sentinel] true :=
  OpenClaim.laidByTextAt_later rfl rfl tie noOwnUnsafe
theorem diskArms_row_tie : Rows.diskArmsRow.laidByTextAt .later Tryd.pinned [.sentinel, .sentinel, .sentinel, .sentinel, .sentinel, .sentinel, .sentinel, .sentinel, .sentinel, .sentinel, .sentinel, .sentinel, .sentinel, .sentinel, .sentinel, .sentinel, .sentinel, .sentinel, .sentinel, .sentinel, .sentinel] true :=
  OpenClaim.laidByTextAt_later rfl rfl tie noOwnUnsafe
theorem rootBytes_row_tie : Rows.rootBytesRow.laidByTextAt .later Tryd.pinned [.sentinel, .sentinel, .sentinel, .sentinel, .sentinel, .sentinel, .sentinel, .sentinel, .sentinel, .sentinel, .sentinel, .sentinel, .sentinel, .sentinel, .sentinel, .sentinel, .sentinel, .sentinel, .sentinel, .sentinel, .sentinel] true :=
  OpenClaim.laidByTextAt_later rfl rfl tie noOwnUnsafe
theorem rootGreater_row_tie : Rows.rootGreaterRow.laidByTextAt .later Tryd.pinned [.sentinel, .sentinel, .sentinel, .sentinel, .sentinel, .sentinel, .sentinel, .sentinel, .sentinel, .sentinel, .sentinel, .sentinel, .sentinel, .sentinel, .sentinel, .sentinel, .sentinel, .sentinel, .sentinel, .sentinel, .sentinel] true :=
  OpenClaim.laidByTextAt_later rfl rfl tie noOwnUnsafe
theorem rootSaves_row_tie : Rows.rootSavesRow.laidByTextAt .later Tryd.pinned [.sentinel, .sentinel, .sentinel, .sentinel, .sentinel, .sentinel, .sentinel, .sentinel, .sentinel, .sentinel, .sentinel, .sentinel, .sentinel, .sentinel, .sentinel, .sentinel, .sentinel, .sentinel, .sentinel, .sentinel, .sentinel] true :=
  OpenClaim.laidByTextAt_later rfl rfl tie noOwnUnsafe
theorem cutPlays_row_tie : Rows.cutPlaysRow.laidByTextAt .later Tryd.pinned [.sentinel, .sentinel, .sentinel, .sentinel, .sentinel, .sentinel, .sentinel, .sentinel, .sentinel, .sentinel, .sentinel, .sentinel, .sentinel, .sentinel, .sentinel, .sentinel, .sentinel, .sentinel, .sentinel, .sentinel, .sentinel] true :=
  OpenClaim.laidByTextAt_later rfl rfl tie noOwnUnsafe
theorem stressPlays_row_tie : Rows.stressPlaysRow.laidByTextAt .later Tryd.pinned [.sentinel, .sentinel, .sentinel, .sentinel, .sentinel, .sentinel, .sentinel, .sentinel, .sentinel, .sentinel, .sentinel, .sentinel, .sentinel, .sentinel, .sentinel, .sentinel, .sentinel, .sentinel, .sentinel, .sentinel, .sentinel] true :=
  OpenClaim.laidByTextAt_later rfl rfl tie noOwnUnsafe
theorem tie2 : Tryd.prog.laidByTextLater [("pledge/api.ErrShape", Rows.laid_pledge_api_ErrShape), ("pledge/api.ErrRange", Rows.laid_pledge_api_ErrRange), ("pledge/api.ErrFull", Rows.laid_pledge_api_ErrFull), ("pledge/api.ErrCrash", Rows.laid_pledge_api_ErrCrash)] [.sentinel, .sentinel, .sentinel, .sentinel] true :=
  Program.laidByTextLater.sub seatTie1 ["pledge/api.ErrShape", "pledge/api.ErrRange", "pledge/api.ErrFull", "pledge/api.ErrCrash"] (by kernel_rfl) (by kernel_rfl)
theorem diskTears_row_tie : Rows.diskTearsRow.laidByTextAt .later Tryd.pinned [.sentinel, .sentinel, .sentinel, .sentinel] true :=
  OpenClaim.laidByTextAt_later rfl rfl tie2 noOwnUnsafe
theorem diskKeeps_row_tie : Rows.diskKeepsRow.laidByTextAt .later Tryd.pinned [.sentinel, .sentinel, .sentinel, .sentinel] true :=
  OpenClaim.laidByTextAt_later rfl rfl tie2 noOwnUnsafe
theorem diskTwins_row_tie : Rows.diskTwinsRow.laidByTextAt .later Tryd.pinned [.sentinel, .sentinel, .sentinel, .sentinel] true :=
  OpenClaim.laidByTextAt_later rfl rfl tie2 noOwnUnsafe
theorem tie3 : Tryd.prog.laidByTextLater [("pledge/api.ErrShape", Rows.laid_pledge_api_ErrShape), ("pledge/api.ErrRange", Rows.laid_pledge_api_ErrRange), ("pledge/api.ErrMany", Rows.laid_pledge_api_ErrMany), ("pledge/api.ErrFull", Rows.laid_pledge_api_ErrFull), ("pledge/api.ErrCrash", Rows.laid_pledge_api_ErrCrash)] [.sentinel, .sentinel, .sentinel, .sentinel, .sentinel] true :=
  Program.laidByTextLater.sub seatTie1 ["pledge/api.ErrShape", "pledge/api.ErrRange", "pledge/api.ErrMany", "pledge/api.ErrFull", "pledge/api.ErrCrash"] (by kernel_rfl) (by kernel_rfl)
theorem rootTears_row_tie : Rows.rootTearsRow.laidByTextAt .later Tryd.pinned [.sentinel, .sentinel, .sentinel, .sentinel, .sentinel] true :=
  OpenClaim.laidByTextAt_later rfl rfl tie3 noOwnUnsafe
theorem tie4 : Tryd.prog.laidByTextLater [("pledge/api.ErrRange", Rows.laid_pledge_api_ErrRange)] [.sentinel] true :=
  Program.laidByTextLater.sub seatTie1 ["pledge/api.ErrRange"] (by kernel_rfl) (by kernel_rfl)
theorem cutSteps_row_tie : Rows.cutStepsRow.laidByTextAt .later Tryd.pinned [.sentinel] true :=
  OpenClaim.laidByTextAt_later rfl rfl tie4 noOwnUnsafe
theorem diskShapesUpto_row_tie : Rows.diskShapesUptoRow.laidByTextAt .later Tryd.pinned [.sentinel, .sentinel, .sentinel, .sentinel, .sentinel, .sentinel, .sentinel, .sentinel, .sentinel, .sentinel, .sentinel, .sentinel, .sentinel, .sentinel, .sentinel, .sentinel, .sentinel, .sentinel, .sentinel, .sentinel, .sentinel] true :=
  OpenClaim.laidByTextAt_later rfl rfl tie noOwnUnsafe
theorem diskTearsUpto_row_tie : Rows.diskTearsUptoRow.laidByTextAt .later Tryd.pinned [.sentinel, .sentinel, .sentinel, .sentinel] true :=
  OpenClaim.laidByTextAt_later rfl rfl tie2 noOwnUnsafe
theorem diskArmsUpto_row_tie : Rows.diskArmsUptoRow.laidByTextAt .later Tryd.pinned [.sentinel, .sentinel, .sentinel, .sentinel, .sentinel, .sentinel, .sentinel, .sentinel, .sentinel, .sentinel, .sentinel, .sentinel, .sentinel, .sentinel, .sentinel, .sentinel, .sentinel, .sentinel, .sentinel, .sentinel, .sentinel] true :=
  OpenClaim.laidByTextAt_later rfl rfl tie noOwnUnsafe
theorem diskKeepsUpto_row_tie : Rows.diskKeepsUptoRow.laidByTextAt .later Tryd.pinned [.sentinel, .sentinel, .sentinel, .sentinel] true :=
  OpenClaim.laidByTextAt_later rfl rfl tie2 noOwnUnsafe
theorem diskTwinsUpto_row_tie : Rows.diskTwinsUptoRow.laidByTextAt .later Tryd.pinned [.sentinel, .sentinel, .sentinel, .sentinel] true :=
  OpenClaim.laidByTextAt_later rfl rfl tie2 noOwnUnsafe
theorem rootBytesUpto_row_tie : Rows.rootBytesUptoRow.laidByTextAt .later Tryd.pinned [.sentinel, .sentinel, .sentinel, .sentinel, .sentinel, .sentinel, .sentinel, .sentinel, .sentinel, .sentinel, .sentinel, .sentinel, .sentinel, .sentinel, .sentinel, .sentinel, .sentinel, .sentinel, .sentinel, .sentinel, .sentinel] true :=
  OpenClaim.laidByTextAt_later rfl rfl tie noOwnUnsafe
theorem rootTearsUpto_row_tie : Rows.rootTearsUptoRow.laidByTextAt .later Tryd.pinned [.sentinel, .sentinel, .sentinel, .sentinel, .sentinel] true :=
  OpenClaim.laidByTextAt_later rfl rfl tie3 noOwnUnsafe
theorem rootGreaterUpto_row_tie : Rows.rootGreaterUptoRow.laidByTextAt .later Tryd.pinned [.sentinel, .sentinel, .sentinel, .sentinel, .sentinel, .sentinel, .sentinel, .sentinel, .sentinel, .sentinel, .sentinel, .sentinel, .sentinel, .sentinel, .sentinel, .sentinel, .sentinel, .sentinel, .sentinel, .sentinel, .sentinel] true :=
  OpenClaim.laidByTextAt_later rfl rfl tie noOwnUnsafe
theorem rootSavesUpto_row_tie : Rows.rootSavesUptoRow.laidByTextAt .later Tryd.pinned [.sentinel, .sentinel, .sentinel, .sentinel, .sentinel, .sentinel, .sentinel, .sentinel, .sentinel, .sentinel, .sentinel, .sentinel, .sentinel, .sentinel, .sentinel, .sentinel, .sentinel, .sentinel, .sentinel, .sentinel, .sentinel] true :=
  OpenClaim.laidByTextAt_later rfl rfl tie noOwnUnsafe
theorem cutStepsUpto_row_tie : Rows.cutStepsUptoRow.laidByTextAt .later Tryd.pinned [.sentinel] true :=
  OpenClaim.laidByTextAt_later rfl rfl tie4 noOwnUnsafe
theorem cutPlaysUpto_row_tie : Rows.cutPlaysUptoRow.laidByTextAt .later Tryd.pinned [.sentinel, .sentinel, .sentinel, .sentinel, .sentinel, .sentinel, .sentinel, .sentinel, .sentinel, .sentinel, .sentinel, .sentinel, .sentinel, .sentinel, .sentinel, .sentinel, .sentinel, .sentinel, .sentinel, .sentinel, .sentinel] true :=
  OpenClaim.laidByTextAt_later rfl rfl tie noOwnUnsafe
theorem stressPlaysUpto_row_tie : Rows.stressPlaysUptoRow.laidByTextAt .later Tryd.pinned [.sentinel, .sentinel, .sentinel, .sentinel, .sentinel, .sentinel, .sentinel, .sentinel, .sentinel, .sentinel, .sentinel, .sentinel, .sentinel, .sentinel, .sentinel, .sentinel, .sentinel, .sentinel, .sentinel, .sentinel, .sentinel] true :=
  OpenClaim.laidByTextAt_later rfl rfl tie noOwnUnsafe
end Go.Proofs.YtehacchacgfjlaaDoor
