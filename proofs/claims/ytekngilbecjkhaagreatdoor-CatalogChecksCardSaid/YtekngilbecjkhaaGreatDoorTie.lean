/-
  DERIVED. GIVEN WITH THE SEED: THE PROGRAM's TIES (one call each: nine closed facts by the kernel) AND EACH ROW's TIE, after the 31st guide's Derived/Test/Toyas{Tie, Card}.lean. No idea stands in it: it is a product of the set-up. Laid BY PROGRAM, IN A SANDBOX (cutbox-door.mjs). By AI agents, Wed Nov 11 2026. No macro, syntax, notation, axiom, sorry.
-/
import Derived.Test.YtekngilbecjkhaaGreatDoorRows
import Derived.LaidByTextLater
import Derived.SevenTiedAt
import Derived.LaidSub
import Derived.LaidOnce
namespace Go.Proofs.YtekngilbecjkhaaGreatDoor
open Go
set_option maxRecDepth 100000
theorem seatTie1 : Tryz.prog.laidByTextLater [("asof/checker.aggregates", Rows.laid_asof_checker_aggregates), ("asof/checker.unary", Rows.laid_asof_checker_unary), ("asof/checker.binary", Rows.laid_asof_checker_binary)] [.widerDeep, .widerDeep, .widerDeep] true :=
  Program.laidByTextLater_by_one 24 8 11 (by kernel_rfl) (by kernel_rfl) (by kernel_rfl) (by kernel_rfl) (by kernel_rfl) (by kernel_rfl) (fun _ _ => by kernel_rfl)
theorem noOwnUnsafe : Tryz.pinned.checked.prog.headLifts.contains "ownunsafe" = false := by kernel_rfl
theorem tie : Tryz.prog.laidByTextLater [("asof/checker.aggregates", Rows.laid_asof_checker_aggregates), ("asof/checker.unary", Rows.laid_asof_checker_unary), ("asof/checker.binary", Rows.laid_asof_checker_binary)] [.widerDeep, .widerDeep, .widerDeep] true :=
  Program.laidByTextLater.sub seatTie1 ["asof/checker.aggregates", "asof/checker.unary", "asof/checker.binary"] (by kernel_rfl) (by kernel_rfl)
theorem catalogChecks_row_tie : Rows.catalogChecksRow.laidByTextAt .later Tryz.pinned [.widerDeep, .widerDeep, .widerDeep] true :=
  OpenClaim.laidByTextAt_later rfl rfl tie noOwnUnsafe
theorem catalogUses_row_tie : Rows.catalogUsesRow.laidByTextAt .later Tryz.pinned [.widerDeep, .widerDeep, .widerDeep] true :=
  OpenClaim.laidByTextAt_later rfl rfl tie noOwnUnsafe
theorem catalogCycles_row_tie : Rows.catalogCyclesRow.laidByTextAt .later Tryz.pinned [.widerDeep, .widerDeep, .widerDeep] true :=
  OpenClaim.laidByTextAt_later rfl rfl tie noOwnUnsafe
theorem catalogCloses_row_tie : Rows.catalogClosesRow.laidByTextAt .later Tryz.pinned [.widerDeep, .widerDeep, .widerDeep] true :=
  OpenClaim.laidByTextAt_later rfl rfl tie noOwnUnsafe
theorem catalogOrders_row_tie : Rows.catalogOrdersRow.laidByTextAt .later Tryz.pinned [.widerDeep, .widerDeep, .widerDeep] true :=
  OpenClaim.laidByTextAt_later rfl rfl tie noOwnUnsafe
theorem catalogFits_row_tie : Rows.catalogFitsRow.laidByTextAt .later Tryz.pinned [.widerDeep, .widerDeep, .widerDeep] true :=
  OpenClaim.laidByTextAt_later rfl rfl tie noOwnUnsafe
theorem catalogFinds_row_tie : Rows.catalogFindsRow.laidByTextAt .later Tryz.pinned [.widerDeep, .widerDeep, .widerDeep] true :=
  OpenClaim.laidByTextAt_later rfl rfl tie noOwnUnsafe
theorem catalogChecksUpto_row_tie : Rows.catalogChecksUptoRow.laidByTextAt .later Tryz.pinned [.widerDeep, .widerDeep, .widerDeep] true :=
  OpenClaim.laidByTextAt_later rfl rfl tie noOwnUnsafe
theorem catalogUsesUpto_row_tie : Rows.catalogUsesUptoRow.laidByTextAt .later Tryz.pinned [.widerDeep, .widerDeep, .widerDeep] true :=
  OpenClaim.laidByTextAt_later rfl rfl tie noOwnUnsafe
theorem catalogCyclesUpto_row_tie : Rows.catalogCyclesUptoRow.laidByTextAt .later Tryz.pinned [.widerDeep, .widerDeep, .widerDeep] true :=
  OpenClaim.laidByTextAt_later rfl rfl tie noOwnUnsafe
theorem catalogClosesUpto_row_tie : Rows.catalogClosesUptoRow.laidByTextAt .later Tryz.pinned [.widerDeep, .widerDeep, .widerDeep] true :=
  OpenClaim.laidByTextAt_later rfl rfl tie noOwnUnsafe
theorem catalogOrdersUpto_row_tie : Rows.catalogOrdersUptoRow.laidByTextAt .later Tryz.pinned [.widerDeep, .widerDeep, .widerDeep] true :=
  OpenClaim.laidByTextAt_later rfl rfl tie noOwnUnsafe
theorem catalogFitsUpto_row_tie : Rows.catalogFitsUptoRow.laidByTextAt .later Tryz.pinned [.widerDeep, .widerDeep, .widerDeep] true :=
  OpenClaim.laidByTextAt_later rfl rfl tie noOwnUnsafe
theorem catalogFindsUpto_row_tie : Rows.catalogFindsUptoRow.laidByTextAt .later Tryz.pinned [.widerDeep, .widerDeep, .widerDeep] true :=
  OpenClaim.laidByTextAt_later rfl rfl tie noOwnUnsafe
end Go.Proofs.YtekngilbecjkhaaGreatDoor
