/-
  DERIVED. GIVEN WITH THE SEED: THE PROGRAM's TIES (one call each: nine closed facts by the kernel) AND EACH ROW's TIE, after the 31st guide's Derived/Test/Toyas{Tie, Card}.lean. No idea stands in it: it is a product of the set-up. Laid BY PROGRAM, IN A SANDBOX (cutbox-door.mjs). By AI agents, Wed Nov 11 2026. No macro, syntax, notation, axiom, sorry.
-/
import Derived.Test.YtfmhnfimkpffnaaGreatDoorRows
import Derived.LaidByTextLater
import Derived.SevenTiedAt
import Derived.LaidSub
import Derived.LaidOnce
namespace Go.Proofs.YtfmhnfimkpffnaaGreatDoor
open Go
set_option maxRecDepth 100000
theorem seatTie1 : Tryz.prog.laidByTextLater [("joinery/ins.shapes", Rows.laid_joinery_ins_shapes), ("joinery/shape.kinds", Rows.laid_joinery_shape_kinds), ("joinery/value.open", Rows.laid_joinery_value_open)] [.data, .data, .data] true :=
  Program.laidByTextLater_by_one 61 8 77 (by kernel_rfl) (by kernel_rfl) (by kernel_rfl) (by kernel_rfl) (by kernel_rfl) (by kernel_rfl) (fun _ _ => by kernel_rfl)
theorem noOwnUnsafe : Tryz.pinned.checked.prog.headLifts.contains "ownunsafe" = false := by kernel_rfl
theorem tie : Tryz.prog.laidByTextLater [("joinery/ins.shapes", Rows.laid_joinery_ins_shapes), ("joinery/shape.kinds", Rows.laid_joinery_shape_kinds), ("joinery/value.open", Rows.laid_joinery_value_open)] [.data, .data, .data] true :=
  Program.laidByTextLater.sub seatTie1 ["joinery/ins.shapes", "joinery/shape.kinds", "joinery/value.open"] (by kernel_rfl) (by kernel_rfl)
theorem engineRuns_row_tie : Rows.engineRunsRow.laidByTextAt .later Tryz.pinned [.data, .data, .data] true :=
  OpenClaim.laidByTextAt_later rfl rfl tie noOwnUnsafe
theorem engineSame_row_tie : Rows.engineSameRow.laidByTextAt .later Tryz.pinned [.data, .data, .data] true :=
  OpenClaim.laidByTextAt_later rfl rfl tie noOwnUnsafe
theorem engineRunsUpto_row_tie : Rows.engineRunsUptoRow.laidByTextAt .later Tryz.pinned [.data, .data, .data] true :=
  OpenClaim.laidByTextAt_later rfl rfl tie noOwnUnsafe
theorem engineSameUpto_row_tie : Rows.engineSameUptoRow.laidByTextAt .later Tryz.pinned [.data, .data, .data] true :=
  OpenClaim.laidByTextAt_later rfl rfl tie noOwnUnsafe
end Go.Proofs.YtfmhnfimkpffnaaGreatDoor
