/-
  DERIVED. GIVEN WITH THE SEED: THE PROGRAM's TIES (one call each: nine closed facts by the kernel) AND EACH ROW's TIE, after the 31st guide's Derived/Test/Toyas{Tie, Card}.lean. No idea stands in it: it is a product of the set-up. Laid BY PROGRAM, IN A SANDBOX (cutbox-door.mjs). By AI agents, Wed Nov 11 2026. No macro, syntax, notation, axiom, sorry.
-/
import Derived.Test.YtlihbielphcgbaaGreatDoorRows
import Derived.LaidByTextLater
import Derived.SevenTiedAt
import Derived.LaidSub
import Derived.LaidOnce
namespace Go.Proofs.YtlihbielphcgbaaGreatDoor
open Go
set_option maxRecDepth 100000
theorem seatTie1 : Tryz.prog.laidByTextLater [("atlas/cause.causes", Rows.laid_atlas_cause_causes), ("atlas/perm.asks", Rows.laid_atlas_perm_asks), ("atlas/va.sizes", Rows.laid_atlas_va_sizes)] [.data, .funcs, .data] true :=
  Program.laidByTextLater_by_one 27 8 10 (by kernel_rfl) (by kernel_rfl) (by kernel_rfl) (by kernel_rfl) (by kernel_rfl) (by kernel_rfl) (fun _ _ => by kernel_rfl)
theorem noOwnUnsafe : Tryz.pinned.checked.prog.headLifts.contains "ownunsafe" = false := by kernel_rfl
theorem tie : Tryz.prog.laidByTextLater [("atlas/cause.causes", Rows.laid_atlas_cause_causes), ("atlas/perm.asks", Rows.laid_atlas_perm_asks), ("atlas/va.sizes", Rows.laid_atlas_va_sizes)] [.data, .funcs, .data] true :=
  Program.laidByTextLater.sub seatTie1 ["atlas/cause.causes", "atlas/perm.asks", "atlas/va.sizes"] (by kernel_rfl) (by kernel_rfl)
theorem costBills_row_tie : Rows.costBillsRow.laidByTextAt .later Tryz.pinned [.data, .funcs, .data] true :=
  OpenClaim.laidByTextAt_later rfl rfl tie noOwnUnsafe
theorem costFits_row_tie : Rows.costFitsRow.laidByTextAt .later Tryz.pinned [.data, .funcs, .data] true :=
  OpenClaim.laidByTextAt_later rfl rfl tie noOwnUnsafe
theorem costTold_row_tie : Rows.costToldRow.laidByTextAt .later Tryz.pinned [.data, .funcs, .data] true :=
  OpenClaim.laidByTextAt_later rfl rfl tie noOwnUnsafe
theorem costSame_row_tie : Rows.costSameRow.laidByTextAt .later Tryz.pinned [.data, .funcs, .data] true :=
  OpenClaim.laidByTextAt_later rfl rfl tie noOwnUnsafe
theorem costBillsUpto_row_tie : Rows.costBillsUptoRow.laidByTextAt .later Tryz.pinned [.data, .funcs, .data] true :=
  OpenClaim.laidByTextAt_later rfl rfl tie noOwnUnsafe
theorem costFitsUpto_row_tie : Rows.costFitsUptoRow.laidByTextAt .later Tryz.pinned [.data, .funcs, .data] true :=
  OpenClaim.laidByTextAt_later rfl rfl tie noOwnUnsafe
theorem costToldUpto_row_tie : Rows.costToldUptoRow.laidByTextAt .later Tryz.pinned [.data, .funcs, .data] true :=
  OpenClaim.laidByTextAt_later rfl rfl tie noOwnUnsafe
theorem costSameUpto_row_tie : Rows.costSameUptoRow.laidByTextAt .later Tryz.pinned [.data, .funcs, .data] true :=
  OpenClaim.laidByTextAt_later rfl rfl tie noOwnUnsafe
end Go.Proofs.YtlihbielphcgbaaGreatDoor
