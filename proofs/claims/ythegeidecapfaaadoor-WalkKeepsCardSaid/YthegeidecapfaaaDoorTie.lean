/-
  DERIVED. GIVEN WITH THE SEED: THE PROGRAM's TIES (one call each: nine closed facts by the kernel) AND EACH ROW's TIE, after the 31st guide's Derived/Test/Toyas{Tie, Card}.lean. No idea stands in it: it is a product of the set-up. Laid BY PROGRAM, IN A SANDBOX (cutbox-door.mjs). By AI agents, Wed Nov 11 2026. No macro, syntax, notation, axiom, sorry.
-/
import Derived.Test.YthegeidecapfaaaDoorRows
import Derived.LaidByTextLater
import Derived.SevenTiedAt
import Derived.LaidSub
import Derived.LaidOnce
namespace Go.Proofs.YthegeidecapfaaaDoor
open Go
set_option maxRecDepth 100000
theorem seatTie1 : Tryd.prog.laidByTextLater [("atlas/cause.causes", Rows.laid_atlas_cause_causes), ("atlas/perm.asks", Rows.laid_atlas_perm_asks), ("atlas/va.sizes", Rows.laid_atlas_va_sizes)] [.data, .funcs, .data] true :=
  Program.laidByTextLater_by_one 27 8 10 (by kernel_rfl) (by kernel_rfl) (by kernel_rfl) (by kernel_rfl) (by kernel_rfl) (by kernel_rfl) (fun _ _ => by kernel_rfl)
theorem noOwnUnsafe : Tryd.pinned.checked.prog.headLifts.contains "ownunsafe" = false := by kernel_rfl
theorem tie : Tryd.prog.laidByTextLater [("atlas/cause.causes", Rows.laid_atlas_cause_causes), ("atlas/perm.asks", Rows.laid_atlas_perm_asks), ("atlas/va.sizes", Rows.laid_atlas_va_sizes)] [.data, .funcs, .data] true :=
  Program.laidByTextLater.sub seatTie1 ["atlas/cause.causes", "atlas/perm.asks", "atlas/va.sizes"] (by kernel_rfl) (by kernel_rfl)
theorem walkLooks_row_tie : Rows.walkLooksRow.laidByTextAt .later Tryd.pinned [.data, .funcs, .data] true :=
  OpenClaim.laidByTextAt_later rfl rfl tie noOwnUnsafe
theorem walkWalks_row_tie : Rows.walkWalksRow.laidByTextAt .later Tryd.pinned [.data, .funcs, .data] true :=
  OpenClaim.laidByTextAt_later rfl rfl tie noOwnUnsafe
theorem walkTells_row_tie : Rows.walkTellsRow.laidByTextAt .later Tryd.pinned [.data, .funcs, .data] true :=
  OpenClaim.laidByTextAt_later rfl rfl tie noOwnUnsafe
theorem walkNear_row_tie : Rows.walkNearRow.laidByTextAt .later Tryd.pinned [.data, .funcs, .data] true :=
  OpenClaim.laidByTextAt_later rfl rfl tie noOwnUnsafe
theorem walkKeeps_row_tie : Rows.walkKeepsRow.laidByTextAt .later Tryd.pinned [.data, .funcs, .data] true :=
  OpenClaim.laidByTextAt_later rfl rfl tie noOwnUnsafe
theorem walkWays_row_tie : Rows.walkWaysRow.laidByTextAt .later Tryd.pinned [.data, .funcs, .data] true :=
  OpenClaim.laidByTextAt_later rfl rfl tie noOwnUnsafe
theorem walkLooksUpto_row_tie : Rows.walkLooksUptoRow.laidByTextAt .later Tryd.pinned [.data, .funcs, .data] true :=
  OpenClaim.laidByTextAt_later rfl rfl tie noOwnUnsafe
theorem walkWalksUpto_row_tie : Rows.walkWalksUptoRow.laidByTextAt .later Tryd.pinned [.data, .funcs, .data] true :=
  OpenClaim.laidByTextAt_later rfl rfl tie noOwnUnsafe
theorem walkTellsUpto_row_tie : Rows.walkTellsUptoRow.laidByTextAt .later Tryd.pinned [.data, .funcs, .data] true :=
  OpenClaim.laidByTextAt_later rfl rfl tie noOwnUnsafe
theorem walkNearUpto_row_tie : Rows.walkNearUptoRow.laidByTextAt .later Tryd.pinned [.data, .funcs, .data] true :=
  OpenClaim.laidByTextAt_later rfl rfl tie noOwnUnsafe
theorem walkKeepsUpto_row_tie : Rows.walkKeepsUptoRow.laidByTextAt .later Tryd.pinned [.data, .funcs, .data] true :=
  OpenClaim.laidByTextAt_later rfl rfl tie noOwnUnsafe
theorem walkWaysUpto_row_tie : Rows.walkWaysUptoRow.laidByTextAt .later Tryd.pinned [.data, .funcs, .data] true :=
  OpenClaim.laidByTextAt_later rfl rfl tie noOwnUnsafe
end Go.Proofs.YthegeidecapfaaaDoor
