/-
  DERIVED. GIVEN WITH THE SEED: THE PROGRAM's TIES (one call each: nine closed facts by the kernel) AND EACH ROW's TIE, after the 31st guide's Derived/Test/Toyas{Tie, Card}.lean. No idea stands in it: it is a product of the set-up. Laid BY PROGRAM, IN A SANDBOX (cutbox-door.mjs). By AI agents, Wed Nov 11 2026. No macro, syntax, notation, axiom, sorry.
-/
import Derived.Test.YtbchkhjkajagfaaGreatDoorRows
import Derived.LaidByTextLater
import Derived.SevenTiedAt
import Derived.LaidSub
import Derived.LaidOnce
namespace Go.Proofs.YtbchkhjkajagfaaGreatDoor
open Go
set_option maxRecDepth 100000
theorem seatTie1 : Tryz.prog.laidByTextLater [("beck/scan.escapes", Rows.laid_beck_scan_escapes)] [.widerDeep] true :=
  Program.laidByTextLater_by_one 32 8 33 (by kernel_rfl) (by kernel_rfl) (by kernel_rfl) (by kernel_rfl) (by kernel_rfl) (by kernel_rfl) (fun _ _ => by kernel_rfl)
theorem noOwnUnsafe : Tryz.pinned.checked.prog.headLifts.contains "ownunsafe" = false := by kernel_rfl
theorem tie : Tryz.prog.laidByTextLater [("beck/scan.escapes", Rows.laid_beck_scan_escapes)] [.widerDeep] true :=
  Program.laidByTextLater.sub seatTie1 ["beck/scan.escapes"] (by kernel_rfl) (by kernel_rfl)
theorem ntShifts_row_tie : Rows.ntShiftsRow.laidByTextAt .later Tryz.pinned [.widerDeep] true :=
  OpenClaim.laidByTextAt_later rfl rfl tie noOwnUnsafe
theorem ntPrints_row_tie : Rows.ntPrintsRow.laidByTextAt .later Tryz.pinned [.widerDeep] true :=
  OpenClaim.laidByTextAt_later rfl rfl tie noOwnUnsafe
theorem ntParses_row_tie : Rows.ntParsesRow.laidByTextAt .later Tryz.pinned [.widerDeep] true :=
  OpenClaim.laidByTextAt_later rfl rfl tie noOwnUnsafe
theorem ntShiftsUpto_row_tie : Rows.ntShiftsUptoRow.laidByTextAt .later Tryz.pinned [.widerDeep] true :=
  OpenClaim.laidByTextAt_later rfl rfl tie noOwnUnsafe
theorem ntPrintsUpto_row_tie : Rows.ntPrintsUptoRow.laidByTextAt .later Tryz.pinned [.widerDeep] true :=
  OpenClaim.laidByTextAt_later rfl rfl tie noOwnUnsafe
theorem ntParsesUpto_row_tie : Rows.ntParsesUptoRow.laidByTextAt .later Tryz.pinned [.widerDeep] true :=
  OpenClaim.laidByTextAt_later rfl rfl tie noOwnUnsafe
end Go.Proofs.YtbchkhjkajagfaaGreatDoor
