/-
  DERIVED. GIVEN WITH THE SEED: THE CARDS: each row of YtkgomfkjeonmfaaDoorRows.lean that lists a variable, with what it lists TIED to the program's text (the seventh form; the later family's looks); each row that meets fmt, with fmt's text TOLD by the authors' own Lean function (tested against real Go, not proved from fmt's source: count such statements apart). THE CARD IS WHAT COUNTS. Prove the row's statement (the work); the ties are given (YtkgomfkjeonmfaaDoorTie.lean); close each card by the builder's one call (the guide's Derived/Test/ToyasCard.lean, 'card_holds'). Laid BY PROGRAM, IN A SANDBOX (cutbox-door.mjs). By AI agents, Wed Nov 11 2026. No macro, syntax, notation, axiom, sorry.
-/
import Derived.Test.YtkgomfkjeonmfaaDoorRows
import GoSem.ClaimSeven
namespace Go.Proofs.YtkgomfkjeonmfaaDoor
namespace Rows

/-- THE TIED CARD OF 'atlaslaw08.PermAsks'. -/
def permAsksCard : Claim7 := { stood := { row := permAsksRow, standIns := [], harness := (true, "dd45012101fef61a5dbf19aa4be212dc646e3dc4c9a682b94ece178cc992a7d1"), looks := false }, kinds := [], alts := [], laidByText := true, laidKinds := [.funcs], laidTests := true, laidLooks := .later }
def PermAsksCardSaid : Prop := Claim7.holds Tryd.pinned (.plain (OpenSpec.ofChange permAsksSpec)) permAsksCard

/-- THE TIED CARD OF 'atlaslaw08.PermDecides'. -/
def permDecidesCard : Claim7 := { stood := { row := permDecidesRow, standIns := [], harness := (true, "dd45012101fef61a5dbf19aa4be212dc646e3dc4c9a682b94ece178cc992a7d1"), looks := false }, kinds := [], alts := [], laidByText := true, laidKinds := [.funcs], laidTests := true, laidLooks := .later }
def PermDecidesCardSaid : Prop := Claim7.holds Tryd.pinned (.plain (OpenSpec.ofChange permDecidesSpec)) permDecidesCard

/-- THE TIED CARD OF 'atlaslaw08.PermLess'. -/
def permLessCard : Claim7 := { stood := { row := permLessRow, standIns := [], harness := (true, "dd45012101fef61a5dbf19aa4be212dc646e3dc4c9a682b94ece178cc992a7d1"), looks := false }, kinds := [], alts := [], laidByText := true, laidKinds := [.funcs], laidTests := true, laidLooks := .later }
def PermLessCardSaid : Prop := Claim7.holds Tryd.pinned (.plain (OpenSpec.ofChange permLessSpec)) permLessCard

/-- THE TIED CARD OF 'atlaslaw08.PermUser'. -/
def permUserCard : Claim7 := { stood := { row := permUserRow, standIns := [], harness := (true, "dd45012101fef61a5dbf19aa4be212dc646e3dc4c9a682b94ece178cc992a7d1"), looks := false }, kinds := [], alts := [], laidByText := true, laidKinds := [.funcs], laidTests := true, laidLooks := .later }
def PermUserCardSaid : Prop := Claim7.holds Tryd.pinned (.plain (OpenSpec.ofChange permUserSpec)) permUserCard

/-- THE SECOND FORM's CARD OF 'atlaslaw08.PermAsks'. -/
def permAsksUptoCard : Claim7 := { stood := { row := permAsksUptoRow, standIns := [], harness := (true, "dd45012101fef61a5dbf19aa4be212dc646e3dc4c9a682b94ece178cc992a7d1"), looks := false }, kinds := [], alts := [], laidByText := true, laidKinds := [.funcs], laidTests := true, laidLooks := .later }
def PermAsksUptoCardSaid : Prop := Claim7.holds Tryd.pinned (.plain (OpenSpec.upto permAsksSpec)) permAsksUptoCard

/-- THE SECOND FORM's CARD OF 'atlaslaw08.PermDecides'. -/
def permDecidesUptoCard : Claim7 := { stood := { row := permDecidesUptoRow, standIns := [], harness := (true, "dd45012101fef61a5dbf19aa4be212dc646e3dc4c9a682b94ece178cc992a7d1"), looks := false }, kinds := [], alts := [], laidByText := true, laidKinds := [.funcs], laidTests := true, laidLooks := .later }
def PermDecidesUptoCardSaid : Prop := Claim7.holds Tryd.pinned (.plain (OpenSpec.upto permDecidesSpec)) permDecidesUptoCard

/-- THE SECOND FORM's CARD OF 'atlaslaw08.PermLess'. -/
def permLessUptoCard : Claim7 := { stood := { row := permLessUptoRow, standIns := [], harness := (true, "dd45012101fef61a5dbf19aa4be212dc646e3dc4c9a682b94ece178cc992a7d1"), looks := false }, kinds := [], alts := [], laidByText := true, laidKinds := [.funcs], laidTests := true, laidLooks := .later }
def PermLessUptoCardSaid : Prop := Claim7.holds Tryd.pinned (.plain (OpenSpec.upto permLessSpec)) permLessUptoCard

/-- THE SECOND FORM's CARD OF 'atlaslaw08.PermUser'. -/
def permUserUptoCard : Claim7 := { stood := { row := permUserUptoRow, standIns := [], harness := (true, "dd45012101fef61a5dbf19aa4be212dc646e3dc4c9a682b94ece178cc992a7d1"), looks := false }, kinds := [], alts := [], laidByText := true, laidKinds := [.funcs], laidTests := true, laidLooks := .later }
def PermUserUptoCardSaid : Prop := Claim7.holds Tryd.pinned (.plain (OpenSpec.upto permUserSpec)) permUserUptoCard
end Rows
end Go.Proofs.YtkgomfkjeonmfaaDoor
