/-
  DERIVED. GIVEN WITH THE SEED: THE PROGRAM's TIES (one call each: nine closed facts by the kernel) AND EACH ROW's TIE, after the 31st guide's Derived/Test/Toyas{Tie, Card}.lean. No idea stands in it: it is a product of the set-up. Laid BY PROGRAM, IN A SANDBOX (cutbox-door.mjs). By AI agents, Wed Nov 11 2026. No macro, syntax, notation, axiom, sorry.
-/
import Derived.Test.YtlfohdkfpdkhhaaGreatDoorRows
import Derived.LaidByTextLater
import Derived.SevenTiedAt
import Derived.LaidSub
import Derived.LaidOnce
namespace Go.Proofs.YtlfohdkfpdkhhaaGreatDoor
open Go
set_option maxRecDepth 100000
theorem seatTie1 : Tryz.prog.laidByTextLater [("pandect/unit.names", Rows.laid_pandect_unit_names), ("pandect/unit.below", Rows.laid_pandect_unit_below)] [.data, .widerDeep] true :=
  Program.laidByTextLater_by_one 25 8 9 (by kernel_rfl) (by kernel_rfl) (by kernel_rfl) (by kernel_rfl) (by kernel_rfl) (by kernel_rfl) (fun _ _ => by kernel_rfl)
theorem noOwnUnsafe : Tryz.pinned.checked.prog.headLifts.contains "ownunsafe" = false := by kernel_rfl
theorem tie : Tryz.prog.laidByTextLater [("pandect/unit.names", Rows.laid_pandect_unit_names), ("pandect/unit.below", Rows.laid_pandect_unit_below)] [.data, .widerDeep] true :=
  Program.laidByTextLater.sub seatTie1 ["pandect/unit.names", "pandect/unit.below"] (by kernel_rfl) (by kernel_rfl)
theorem editorMarks_row_tie : Rows.editorMarksRow.laidByTextAt .later Tryz.pinned [.data, .widerDeep] true :=
  OpenClaim.laidByTextAt_later rfl rfl tie noOwnUnsafe
theorem editorUndoAll_row_tie : Rows.editorUndoAllRow.laidByTextAt .later Tryz.pinned [.data, .widerDeep] true :=
  OpenClaim.laidByTextAt_later rfl rfl tie noOwnUnsafe
theorem editorStands_row_tie : Rows.editorStandsRow.laidByTextAt .later Tryz.pinned [.data, .widerDeep] true :=
  OpenClaim.laidByTextAt_later rfl rfl tie noOwnUnsafe
theorem editorOpen_row_tie : Rows.editorOpenRow.laidByTextAt .later Tryz.pinned [.data, .widerDeep] true :=
  OpenClaim.laidByTextAt_later rfl rfl tie noOwnUnsafe
theorem editorSession_row_tie : Rows.editorSessionRow.laidByTextAt .later Tryz.pinned [.data, .widerDeep] true :=
  OpenClaim.laidByTextAt_later rfl rfl tie noOwnUnsafe
theorem editorReplay_row_tie : Rows.editorReplayRow.laidByTextAt .later Tryz.pinned [.data, .widerDeep] true :=
  OpenClaim.laidByTextAt_later rfl rfl tie noOwnUnsafe
theorem editorClone_row_tie : Rows.editorCloneRow.laidByTextAt .later Tryz.pinned [.data, .widerDeep] true :=
  OpenClaim.laidByTextAt_later rfl rfl tie noOwnUnsafe
theorem editorMarksUpto_row_tie : Rows.editorMarksUptoRow.laidByTextAt .later Tryz.pinned [.data, .widerDeep] true :=
  OpenClaim.laidByTextAt_later rfl rfl tie noOwnUnsafe
theorem editorUndoAllUpto_row_tie : Rows.editorUndoAllUptoRow.laidByTextAt .later Tryz.pinned [.data, .widerDeep] true :=
  OpenClaim.laidByTextAt_later rfl rfl tie noOwnUnsafe
theorem editorStandsUpto_row_tie : Rows.editorStandsUptoRow.laidByTextAt .later Tryz.pinned [.data, .widerDeep] true :=
  OpenClaim.laidByTextAt_later rfl rfl tie noOwnUnsafe
theorem editorOpenUpto_row_tie : Rows.editorOpenUptoRow.laidByTextAt .later Tryz.pinned [.data, .widerDeep] true :=
  OpenClaim.laidByTextAt_later rfl rfl tie noOwnUnsafe
theorem editorSessionUpto_row_tie : Rows.editorSessionUptoRow.laidByTextAt .later Tryz.pinned [.data, .widerDeep] true :=
  OpenClaim.laidByTextAt_later rfl rfl tie noOwnUnsafe
theorem editorReplayUpto_row_tie : Rows.editorReplayUptoRow.laidByTextAt .later Tryz.pinned [.data, .widerDeep] true :=
  OpenClaim.laidByTextAt_later rfl rfl tie noOwnUnsafe
theorem editorCloneUpto_row_tie : Rows.editorCloneUptoRow.laidByTextAt .later Tryz.pinned [.data, .widerDeep] true :=
  OpenClaim.laidByTextAt_later rfl rfl tie noOwnUnsafe
end Go.Proofs.YtlfohdkfpdkhhaaGreatDoor
