/-
  DERIVED. GIVEN WITH THE SEED: THE CARDS: each row of YtngpjdieelcbmaaGreatDoorRows.lean that lists a variable, with what it lists TIED to the program's text (the seventh form; the later family's looks); each row that meets fmt, with fmt's text TOLD by the authors' own Lean function (tested against real Go, not proved from fmt's source: count such statements apart). THE CARD IS WHAT COUNTS. Prove the row's statement (the work); the ties are given (YtngpjdieelcbmaaGreatDoorTie.lean); close each card by the builder's one call (the guide's Derived/Test/ToyasCard.lean, 'card_holds'). Laid BY PROGRAM, IN A SANDBOX (cutbox-door.mjs). By AI agents, Wed Nov 11 2026. No macro, syntax, notation, axiom, sorry.
-/
import Derived.Test.YtngpjdieelcbmaaGreatDoorRows
import GoSem.ClaimSeven
namespace Go.Proofs.YtngpjdieelcbmaaGreatDoor
namespace Rows

/-- THE TIED CARD OF 'atlaslaw17.AdvDoes'. -/
def advDoesCard : Claim7 := { stood := { row := advDoesRow, standIns := [], harness := (true, "c517b6f69327ade7c94f5de9ec6df3a2e0d78759c5c9c4876815bb78ee70cf34"), looks := false }, kinds := [], alts := [], laidByText := true, laidKinds := [.data, .data, .data], laidTests := true, laidLooks := .later }
def AdvDoesCardSaid : Prop := Claim7.holds Tryz.pinned (.plain (OpenSpec.ofChange advDoesSpec)) advDoesCard

/-- THE TIED CARD OF 'atlaslaw17.AdvAgrees'. -/
def advAgreesCard : Claim7 := { stood := { row := advAgreesRow, standIns := [], harness := (true, "c517b6f69327ade7c94f5de9ec6df3a2e0d78759c5c9c4876815bb78ee70cf34"), looks := false }, kinds := [], alts := [], laidByText := true, laidKinds := [.data, .data, .data], laidTests := true, laidLooks := .later }
def AdvAgreesCardSaid : Prop := Claim7.holds Tryz.pinned (.plain (OpenSpec.ofChange advAgreesSpec)) advAgreesCard

/-- THE TIED CARD OF 'atlaslaw17.AdvSilent'. -/
def advSilentCard : Claim7 := { stood := { row := advSilentRow, standIns := [], harness := (true, "c517b6f69327ade7c94f5de9ec6df3a2e0d78759c5c9c4876815bb78ee70cf34"), looks := false }, kinds := [], alts := [], laidByText := true, laidKinds := [.data, .funcs, .data, .data], laidTests := true, laidLooks := .later }
def AdvSilentCardSaid : Prop := Claim7.holds Tryz.pinned (.plain (OpenSpec.ofChange advSilentSpec)) advSilentCard

/-- THE SECOND FORM's CARD OF 'atlaslaw17.AdvDoes'. -/
def advDoesUptoCard : Claim7 := { stood := { row := advDoesUptoRow, standIns := [], harness := (true, "c517b6f69327ade7c94f5de9ec6df3a2e0d78759c5c9c4876815bb78ee70cf34"), looks := false }, kinds := [], alts := [], laidByText := true, laidKinds := [.data, .data, .data], laidTests := true, laidLooks := .later }
def AdvDoesUptoCardSaid : Prop := Claim7.holds Tryz.pinned (.plain (OpenSpec.upto advDoesSpec)) advDoesUptoCard

/-- THE SECOND FORM's CARD OF 'atlaslaw17.AdvAgrees'. -/
def advAgreesUptoCard : Claim7 := { stood := { row := advAgreesUptoRow, standIns := [], harness := (true, "c517b6f69327ade7c94f5de9ec6df3a2e0d78759c5c9c4876815bb78ee70cf34"), looks := false }, kinds := [], alts := [], laidByText := true, laidKinds := [.data, .data, .data], laidTests := true, laidLooks := .later }
def AdvAgreesUptoCardSaid : Prop := Claim7.holds Tryz.pinned (.plain (OpenSpec.upto advAgreesSpec)) advAgreesUptoCard

/-- THE SECOND FORM's CARD OF 'atlaslaw17.AdvSilent'. -/
def advSilentUptoCard : Claim7 := { stood := { row := advSilentUptoRow, standIns := [], harness := (true, "c517b6f69327ade7c94f5de9ec6df3a2e0d78759c5c9c4876815bb78ee70cf34"), looks := false }, kinds := [], alts := [], laidByText := true, laidKinds := [.data, .funcs, .data, .data], laidTests := true, laidLooks := .later }
def AdvSilentUptoCardSaid : Prop := Claim7.holds Tryz.pinned (.plain (OpenSpec.upto advSilentSpec)) advSilentUptoCard
end Rows
end Go.Proofs.YtngpjdieelcbmaaGreatDoor
