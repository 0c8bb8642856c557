/-
  DERIVED. GIVEN WITH THE SEED: THE CARDS: each row of YtobdkhjaipoliaaGreatDoorRows.lean that lists a variable, with what it lists TIED to the program's text (the seventh form; the later family's looks); each row that meets fmt, with fmt's text TOLD by the authors' own Lean function (tested against real Go, not proved from fmt's source: count such statements apart). THE CARD IS WHAT COUNTS. Prove the row's statement (the work); the ties are given (YtobdkhjaipoliaaGreatDoorTie.lean); close each card by the builder's one call (the guide's Derived/Test/ToyasCard.lean, 'card_holds'). Laid BY PROGRAM, IN A SANDBOX (cutbox-door.mjs). By AI agents, Wed Nov 11 2026. No macro, syntax, notation, axiom, sorry.
-/
import Derived.Test.YtobdkhjaipoliaaGreatDoorRows
import GoSem.ClaimSeven
namespace Go.Proofs.YtobdkhjaipoliaaGreatDoor
namespace Rows

/-- THE TIED CARD OF 'atlaslaw17.AdvSilent'. -/
def advSilentCard : Claim7 := { stood := { row := advSilentRow, standIns := [], harness := (true, "078bcc2fedbd83ea6069598eb9726ec93f1f7c6750f85bf338845c54d1e27d9c"), looks := false }, kinds := [], alts := [], laidByText := true, laidKinds := [.data, .funcs, .data, .data], laidTests := true, laidLooks := .later }
def AdvSilentCardSaid : Prop := Claim7.holds Tryz.pinned (.plain (OpenSpec.ofChange advSilentSpec)) advSilentCard

/-- THE SECOND FORM's CARD OF 'atlaslaw17.AdvSilent'. -/
def advSilentUptoCard : Claim7 := { stood := { row := advSilentUptoRow, standIns := [], harness := (true, "078bcc2fedbd83ea6069598eb9726ec93f1f7c6750f85bf338845c54d1e27d9c"), looks := false }, kinds := [], alts := [], laidByText := true, laidKinds := [.data, .funcs, .data, .data], laidTests := true, laidLooks := .later }
def AdvSilentUptoCardSaid : Prop := Claim7.holds Tryz.pinned (.plain (OpenSpec.upto advSilentSpec)) advSilentUptoCard
end Rows
end Go.Proofs.YtobdkhjaipoliaaGreatDoor
