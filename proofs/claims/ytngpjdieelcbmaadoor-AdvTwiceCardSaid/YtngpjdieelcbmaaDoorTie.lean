/-
  DERIVED. GIVEN WITH THE SEED: THE PROGRAM's TIES (one call each: nine closed facts by the kernel) AND EACH ROW's TIE, after the 31st guide's Derived/Test/Toyas{Tie, Card}.lean. No idea stands in it: it is a product of the set-up. Laid BY PROGRAM, IN A SANDBOX (cutbox-door.mjs). By AI agents, Wed Nov 11 2026. No macro, syntax, notation, axiom, sorry.
-/
import Derived.Test.YtngpjdieelcbmaaDoorRows
import Derived.LaidByTextLater
import Derived.SevenTiedAt
import Derived.LaidSub
import Derived.LaidOnce
namespace Go.Proofs.YtngpjdieelcbmaaDoor
open Go
set_option maxRecDepth 100000
theorem seatTie1 : Tryd.prog.laidByTextLater [("atlas/cause.causes", Rows.laid_atlas_cause_causes), ("atlas/plru.touches", Rows.laid_atlas_plru_touches), ("atlas/va.sizes", Rows.laid_atlas_va_sizes)] [.data, .data, .data] true :=
  Program.laidByTextLater_by_one 31 8 10 (by kernel_rfl) (by kernel_rfl) (by kernel_rfl) (by kernel_rfl) (by kernel_rfl) (by kernel_rfl) (fun _ _ => by kernel_rfl)
theorem noOwnUnsafe : Tryd.pinned.checked.prog.headLifts.contains "ownunsafe" = false := by kernel_rfl
theorem tie : Tryd.prog.laidByTextLater [("atlas/cause.causes", Rows.laid_atlas_cause_causes), ("atlas/plru.touches", Rows.laid_atlas_plru_touches), ("atlas/va.sizes", Rows.laid_atlas_va_sizes)] [.data, .data, .data] true :=
  Program.laidByTextLater.sub seatTie1 ["atlas/cause.causes", "atlas/plru.touches", "atlas/va.sizes"] (by kernel_rfl) (by kernel_rfl)
theorem advKeeps_row_tie : Rows.advKeepsRow.laidByTextAt .later Tryd.pinned [.data, .data, .data] true :=
  OpenClaim.laidByTextAt_later rfl rfl tie noOwnUnsafe
theorem advTwice_row_tie : Rows.advTwiceRow.laidByTextAt .later Tryd.pinned [.data, .data, .data] true :=
  OpenClaim.laidByTextAt_later rfl rfl tie noOwnUnsafe
theorem advKeepsUpto_row_tie : Rows.advKeepsUptoRow.laidByTextAt .later Tryd.pinned [.data, .data, .data] true :=
  OpenClaim.laidByTextAt_later rfl rfl tie noOwnUnsafe
theorem advTwiceUpto_row_tie : Rows.advTwiceUptoRow.laidByTextAt .later Tryd.pinned [.data, .data, .data] true :=
  OpenClaim.laidByTextAt_later rfl rfl tie noOwnUnsafe
end Go.Proofs.YtngpjdieelcbmaaDoor
