/-
  DERIVED. GIVEN WITH THE SEED: THE CARDS: each row of YthegeidecapfaaaDoorRows.lean that lists a variable, with what it lists TIED to the program's text (the seventh form; the later family's looks); each row that meets fmt, with fmt's text TOLD by the authors' own Lean function (tested against real Go, not proved from fmt's source: count such statements apart). THE CARD IS WHAT COUNTS. Prove the row's statement (the work); the ties are given (YthegeidecapfaaaDoorTie.lean); close each card by the builder's one call (the guide's Derived/Test/ToyasCard.lean, 'card_holds'). Laid BY PROGRAM, IN A SANDBOX (cutbox-door.mjs). By AI agents, Wed Nov 11 2026. No macro, syntax, notation, axiom, sorry.
-/
import Derived.Test.YthegeidecapfaaaDoorRows
import GoSem.ClaimSeven
namespace Go.Proofs.YthegeidecapfaaaDoor
namespace Rows

/-- THE TIED CARD OF 'atlaslaw10.WalkLooks'. -/
def walkLooksCard : Claim7 := { stood := { row := walkLooksRow, standIns := [], harness := (true, "e4b87c87e7baa39b11b4e70e680fa8b54e2c5a5454d423b9d81b3ce990e459fc"), looks := false }, kinds := [], alts := [], laidByText := true, laidKinds := [.data, .funcs, .data], laidTests := true, laidLooks := .later }
def WalkLooksCardSaid : Prop := Claim7.holds Tryd.pinned (.plain (OpenSpec.ofChange walkLooksSpec)) walkLooksCard

/-- THE TIED CARD OF 'atlaslaw10.WalkWalks'. -/
def walkWalksCard : Claim7 := { stood := { row := walkWalksRow, standIns := [], harness := (true, "e4b87c87e7baa39b11b4e70e680fa8b54e2c5a5454d423b9d81b3ce990e459fc"), looks := false }, kinds := [], alts := [], laidByText := true, laidKinds := [.data, .funcs, .data], laidTests := true, laidLooks := .later }
def WalkWalksCardSaid : Prop := Claim7.holds Tryd.pinned (.plain (OpenSpec.ofChange walkWalksSpec)) walkWalksCard

/-- THE TIED CARD OF 'atlaslaw10.WalkTells'. -/
def walkTellsCard : Claim7 := { stood := { row := walkTellsRow, standIns := [], harness := (true, "e4b87c87e7baa39b11b4e70e680fa8b54e2c5a5454d423b9d81b3ce990e459fc"), looks := false }, kinds := [], alts := [], laidByText := true, laidKinds := [.data, .funcs, .data], laidTests := true, laidLooks := .later }
def WalkTellsCardSaid : Prop := Claim7.holds Tryd.pinned (.plain (OpenSpec.ofChange walkTellsSpec)) walkTellsCard

/-- THE TIED CARD OF 'atlaslaw10.WalkNear'. -/
def walkNearCard : Claim7 := { stood := { row := walkNearRow, standIns := [], harness := (true, "e4b87c87e7baa39b11b4e70e680fa8b54e2c5a5454d423b9d81b3ce990e459fc"), looks := false }, kinds := [], alts := [], laidByText := true, laidKinds := [.data, .funcs, .data], laidTests := true, laidLooks := .later }
def WalkNearCardSaid : Prop := Claim7.holds Tryd.pinned (.plain (OpenSpec.ofChange walkNearSpec)) walkNearCard

/-- THE TIED CARD OF 'atlaslaw10.WalkKeeps'. -/
def walkKeepsCard : Claim7 := { stood := { row := walkKeepsRow, standIns := [], harness := (true, "e4b87c87e7baa39b11b4e70e680fa8b54e2c5a5454d423b9d81b3ce990e459fc"), looks := false }, kinds := [], alts := [], laidByText := true, laidKinds := [.data, .funcs, .data], laidTests := true, laidLooks := .later }
def WalkKeepsCardSaid : Prop := Claim7.holds Tryd.pinned (.plain (OpenSpec.ofChange walkKeepsSpec)) walkKeepsCard

/-- THE TIED CARD OF 'atlaslaw10.WalkWays'. -/
def walkWaysCard : Claim7 := { stood := { row := walkWaysRow, standIns := [], harness := (true, "e4b87c87e7baa39b11b4e70e680fa8b54e2c5a5454d423b9d81b3ce990e459fc"), looks := false }, kinds := [], alts := [], laidByText := true, laidKinds := [.data, .funcs, .data], laidTests := true, laidLooks := .later }
def WalkWaysCardSaid : Prop := Claim7.holds Tryd.pinned (.plain (OpenSpec.ofChange walkWaysSpec)) walkWaysCard

/-- THE SECOND FORM's CARD OF 'atlaslaw10.WalkLooks'. -/
def walkLooksUptoCard : Claim7 := { stood := { row := walkLooksUptoRow, standIns := [], harness := (true, "e4b87c87e7baa39b11b4e70e680fa8b54e2c5a5454d423b9d81b3ce990e459fc"), looks := false }, kinds := [], alts := [], laidByText := true, laidKinds := [.data, .funcs, .data], laidTests := true, laidLooks := .later }
def WalkLooksUptoCardSaid : Prop := Claim7.holds Tryd.pinned (.plain (OpenSpec.upto walkLooksSpec)) walkLooksUptoCard

/-- THE SECOND FORM's CARD OF 'atlaslaw10.WalkWalks'. -/
def walkWalksUptoCard : Claim7 := { stood := { row := walkWalksUptoRow, standIns := [], harness := (true, "e4b87c87e7baa39b11b4e70e680fa8b54e2c5a5454d423b9d81b3ce990e459fc"), looks := false }, kinds := [], alts := [], laidByText := true, laidKinds := [.data, .funcs, .data], laidTests := true, laidLooks := .later }
def WalkWalksUptoCardSaid : Prop := Claim7.holds Tryd.pinned (.plain (OpenSpec.upto walkWalksSpec)) walkWalksUptoCard

/-- THE SECOND FORM's CARD OF 'atlaslaw10.WalkTells'. -/
def walkTellsUptoCard : Claim7 := { stood := { row := walkTellsUptoRow, standIns := [], harness := (true, "e4b87c87e7baa39b11b4e70e680fa8b54e2c5a5454d423b9d81b3ce990e459fc"), looks := false }, kinds := [], alts := [], laidByText := true, laidKinds := [.data, .funcs, .data], laidTests := true, laidLooks := .later }
def WalkTellsUptoCardSaid : Prop := Claim7.holds Tryd.pinned (.plain (OpenSpec.upto walkTellsSpec)) walkTellsUptoCard

/-- THE SECOND FORM's CARD OF 'atlaslaw10.WalkNear'. -/
def walkNearUptoCard : Claim7 := { stood := { row := walkNearUptoRow, standIns := [], harness := (true, "e4b87c87e7baa39b11b4e70e680fa8b54e2c5a5454d423b9d81b3ce990e459fc"), looks := false }, kinds := [], alts := [], laidByText := true, laidKinds := [.data, .funcs, .data], laidTests := true, laidLooks := .later }
def WalkNearUptoCardSaid : Prop := Claim7.holds Tryd.pinned (.plain (OpenSpec.upto walkNearSpec)) walkNearUptoCard

/-- THE SECOND FORM's CARD OF 'atlaslaw10.WalkKeeps'. -/
def walkKeepsUptoCard : Claim7 := { stood := { row := walkKeepsUptoRow, standIns := [], harness := (true, "e4b87c87e7baa39b11b4e70e680fa8b54e2c5a5454d423b9d81b3ce990e459fc"), looks := false }, kinds := [], alts := [], laidByText := true, laidKinds := [.data, .funcs, .data], laidTests := true, laidLooks := .later }
def WalkKeepsUptoCardSaid : Prop := Claim7.holds Tryd.pinned (.plain (OpenSpec.upto walkKeepsSpec)) walkKeepsUptoCard

/-- THE SECOND FORM's CARD OF 'atlaslaw10.WalkWays'. -/
def walkWaysUptoCard : Claim7 := { stood := { row := walkWaysUptoRow, standIns := [], harness := (true, "e4b87c87e7baa39b11b4e70e680fa8b54e2c5a5454d423b9d81b3ce990e459fc"), looks := false }, kinds := [], alts := [], laidByText := true, laidKinds := [.data, .funcs, .data], laidTests := true, laidLooks := .later }
def WalkWaysUptoCardSaid : Prop := Claim7.holds Tryd.pinned (.plain (OpenSpec.upto walkWaysSpec)) walkWaysUptoCard
end Rows
end Go.Proofs.YthegeidecapfaaaDoor
