/-
  DERIVED. GIVEN WITH THE SEED: THE CARDS: each row of YtebcdcdcefhdfaaDoorRows.lean that lists a variable, with what it lists TIED to the program's text (the seventh form; the later family's looks); each row that meets fmt, with fmt's text TOLD by the authors' own Lean function (tested against real Go, not proved from fmt's source: count such statements apart). THE CARD IS WHAT COUNTS. Prove the row's statement (the work); the ties are given (YtebcdcdcefhdfaaDoorTie.lean); close each card by the builder's one call (the guide's Derived/Test/ToyasCard.lean, 'card_holds'). Laid BY PROGRAM, IN A SANDBOX (cutbox-door.mjs). By AI agents, Wed Nov 11 2026. No macro, syntax, notation, axiom, sorry.
-/
import Derived.Test.YtebcdcdcefhdfaaDoorRows
import GoSem.ClaimSeven
namespace Go.Proofs.YtebcdcdcefhdfaaDoor
namespace Rows

/-- THE TIED CARD OF 'atlaslaw13.SetDoes'. -/
def setDoesCard : Claim7 := { stood := { row := setDoesRow, standIns := [], harness := (true, "e105cca21bfebd9a0f4b003696f104f44e3aed0316d85f94c87cc121b1da69fb"), looks := false }, kinds := [], alts := [], laidByText := true, laidKinds := [.data, .data], laidTests := true, laidLooks := .later }
def SetDoesCardSaid : Prop := Claim7.holds Tryd.pinned (.plain (OpenSpec.ofChange setDoesSpec)) setDoesCard

/-- THE TIED CARD OF 'atlaslaw13.SetKeeps'. -/
def setKeepsCard : Claim7 := { stood := { row := setKeepsRow, standIns := [], harness := (true, "e105cca21bfebd9a0f4b003696f104f44e3aed0316d85f94c87cc121b1da69fb"), looks := false }, kinds := [], alts := [], laidByText := true, laidKinds := [.data, .data], laidTests := true, laidLooks := .later }
def SetKeepsCardSaid : Prop := Claim7.holds Tryd.pinned (.plain (OpenSpec.ofChange setKeepsSpec)) setKeepsCard

/-- THE TIED CARD OF 'atlaslaw13.SetFinds'. -/
def setFindsCard : Claim7 := { stood := { row := setFindsRow, standIns := [], harness := (true, "e105cca21bfebd9a0f4b003696f104f44e3aed0316d85f94c87cc121b1da69fb"), looks := false }, kinds := [], alts := [], laidByText := true, laidKinds := [.data, .data], laidTests := true, laidLooks := .later }
def SetFindsCardSaid : Prop := Claim7.holds Tryd.pinned (.plain (OpenSpec.ofChange setFindsSpec)) setFindsCard

/-- THE TIED CARD OF 'atlaslaw13.SetFills'. -/
def setFillsCard : Claim7 := { stood := { row := setFillsRow, standIns := [], harness := (true, "e105cca21bfebd9a0f4b003696f104f44e3aed0316d85f94c87cc121b1da69fb"), looks := false }, kinds := [], alts := [], laidByText := true, laidKinds := [.data, .data], laidTests := true, laidLooks := .later }
def SetFillsCardSaid : Prop := Claim7.holds Tryd.pinned (.plain (OpenSpec.ofChange setFillsSpec)) setFillsCard

/-- THE SECOND FORM's CARD OF 'atlaslaw13.SetDoes'. -/
def setDoesUptoCard : Claim7 := { stood := { row := setDoesUptoRow, standIns := [], harness := (true, "e105cca21bfebd9a0f4b003696f104f44e3aed0316d85f94c87cc121b1da69fb"), looks := false }, kinds := [], alts := [], laidByText := true, laidKinds := [.data, .data], laidTests := true, laidLooks := .later }
def SetDoesUptoCardSaid : Prop := Claim7.holds Tryd.pinned (.plain (OpenSpec.upto setDoesSpec)) setDoesUptoCard

/-- THE SECOND FORM's CARD OF 'atlaslaw13.SetKeeps'. -/
def setKeepsUptoCard : Claim7 := { stood := { row := setKeepsUptoRow, standIns := [], harness := (true, "e105cca21bfebd9a0f4b003696f104f44e3aed0316d85f94c87cc121b1da69fb"), looks := false }, kinds := [], alts := [], laidByText := true, laidKinds := [.data, .data], laidTests := true, laidLooks := .later }
def SetKeepsUptoCardSaid : Prop := Claim7.holds Tryd.pinned (.plain (OpenSpec.upto setKeepsSpec)) setKeepsUptoCard

/-- THE SECOND FORM's CARD OF 'atlaslaw13.SetFinds'. -/
def setFindsUptoCard : Claim7 := { stood := { row := setFindsUptoRow, standIns := [], harness := (true, "e105cca21bfebd9a0f4b003696f104f44e3aed0316d85f94c87cc121b1da69fb"), looks := false }, kinds := [], alts := [], laidByText := true, laidKinds := [.data, .data], laidTests := true, laidLooks := .later }
def SetFindsUptoCardSaid : Prop := Claim7.holds Tryd.pinned (.plain (OpenSpec.upto setFindsSpec)) setFindsUptoCard

/-- THE SECOND FORM's CARD OF 'atlaslaw13.SetFills'. -/
def setFillsUptoCard : Claim7 := { stood := { row := setFillsUptoRow, standIns := [], harness := (true, "e105cca21bfebd9a0f4b003696f104f44e3aed0316d85f94c87cc121b1da69fb"), looks := false }, kinds := [], alts := [], laidByText := true, laidKinds := [.data, .data], laidTests := true, laidLooks := .later }
def SetFillsUptoCardSaid : Prop := Claim7.holds Tryd.pinned (.plain (OpenSpec.upto setFillsSpec)) setFillsUptoCard
end Rows
end Go.Proofs.YtebcdcdcefhdfaaDoor
