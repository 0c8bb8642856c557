/-
  DERIVED. GIVEN WITH THE SEED: THE CARDS: each row of YtmmppghdnoeheaaGreatDoorRows.lean that lists a variable, with what it lists TIED to the program's text (the seventh form; the later family's looks); each row that meets fmt, with fmt's text TOLD by the authors' own Lean function (tested against real Go, not proved from fmt's source: count such statements apart). THE CARD IS WHAT COUNTS. Prove the row's statement (the work); the ties are given (YtmmppghdnoeheaaGreatDoorTie.lean); close each card by the builder's one call (the guide's Derived/Test/ToyasCard.lean, 'card_holds'). Laid BY PROGRAM, IN A SANDBOX (cutbox-door.mjs). By AI agents, Wed Nov 11 2026. No macro, syntax, notation, axiom, sorry.
-/
import Derived.Test.YtmmppghdnoeheaaGreatDoorRows
import GoSem.ClaimSeven
namespace Go.Proofs.YtmmppghdnoeheaaGreatDoor
namespace Rows

/-- THE TIED CARD OF 'atlaslaw16.HartFlat'. -/
def hartFlatCard : Claim7 := { stood := { row := hartFlatRow, standIns := [], harness := (true, "8e0c0280cba8b610eade7d02bf6937cbc32e6500df2b70b96567acd8c5b2bb43"), looks := false }, kinds := [], alts := [], laidByText := true, laidKinds := [.data, .funcs, .data, .data], laidTests := true, laidLooks := .later }
def HartFlatCardSaid : Prop := Claim7.holds Tryz.pinned (.plain (OpenSpec.ofChange hartFlatSpec)) hartFlatCard

/-- THE TIED CARD OF 'atlaslaw16.HartStays'. -/
def hartStaysCard : Claim7 := { stood := { row := hartStaysRow, standIns := [], harness := (true, "8e0c0280cba8b610eade7d02bf6937cbc32e6500df2b70b96567acd8c5b2bb43"), looks := false }, kinds := [], alts := [], laidByText := true, laidKinds := [.data, .funcs, .data, .data], laidTests := true, laidLooks := .later }
def HartStaysCardSaid : Prop := Claim7.holds Tryz.pinned (.plain (OpenSpec.ofChange hartStaysSpec)) hartStaysCard

/-- THE TIED CARD OF 'atlaslaw16.HartAgain'. -/
def hartAgainCard : Claim7 := { stood := { row := hartAgainRow, standIns := [], harness := (true, "8e0c0280cba8b610eade7d02bf6937cbc32e6500df2b70b96567acd8c5b2bb43"), looks := false }, kinds := [], alts := [], laidByText := true, laidKinds := [.data, .funcs, .data, .data], laidTests := true, laidLooks := .later }
def HartAgainCardSaid : Prop := Claim7.holds Tryz.pinned (.plain (OpenSpec.ofChange hartAgainSpec)) hartAgainCard

/-- THE TIED CARD OF 'atlaslaw16.HartKeeps'. -/
def hartKeepsCard : Claim7 := { stood := { row := hartKeepsRow, standIns := [], harness := (true, "8e0c0280cba8b610eade7d02bf6937cbc32e6500df2b70b96567acd8c5b2bb43"), looks := false }, kinds := [], alts := [], laidByText := true, laidKinds := [.data, .funcs, .data, .data], laidTests := true, laidLooks := .later }
def HartKeepsCardSaid : Prop := Claim7.holds Tryz.pinned (.plain (OpenSpec.ofChange hartKeepsSpec)) hartKeepsCard

/-- THE TIED CARD OF 'atlaslaw16.HartNone'. -/
def hartNoneCard : Claim7 := { stood := { row := hartNoneRow, standIns := [], harness := (true, "8e0c0280cba8b610eade7d02bf6937cbc32e6500df2b70b96567acd8c5b2bb43"), looks := false }, kinds := [], alts := [], laidByText := true, laidKinds := [.data, .funcs, .data, .data], laidTests := true, laidLooks := .later }
def HartNoneCardSaid : Prop := Claim7.holds Tryz.pinned (.plain (OpenSpec.ofChange hartNoneSpec)) hartNoneCard

/-- THE SECOND FORM's CARD OF 'atlaslaw16.HartFlat'. -/
def hartFlatUptoCard : Claim7 := { stood := { row := hartFlatUptoRow, standIns := [], harness := (true, "8e0c0280cba8b610eade7d02bf6937cbc32e6500df2b70b96567acd8c5b2bb43"), looks := false }, kinds := [], alts := [], laidByText := true, laidKinds := [.data, .funcs, .data, .data], laidTests := true, laidLooks := .later }
def HartFlatUptoCardSaid : Prop := Claim7.holds Tryz.pinned (.plain (OpenSpec.upto hartFlatSpec)) hartFlatUptoCard

/-- THE SECOND FORM's CARD OF 'atlaslaw16.HartStays'. -/
def hartStaysUptoCard : Claim7 := { stood := { row := hartStaysUptoRow, standIns := [], harness := (true, "8e0c0280cba8b610eade7d02bf6937cbc32e6500df2b70b96567acd8c5b2bb43"), looks := false }, kinds := [], alts := [], laidByText := true, laidKinds := [.data, .funcs, .data, .data], laidTests := true, laidLooks := .later }
def HartStaysUptoCardSaid : Prop := Claim7.holds Tryz.pinned (.plain (OpenSpec.upto hartStaysSpec)) hartStaysUptoCard

/-- THE SECOND FORM's CARD OF 'atlaslaw16.HartAgain'. -/
def hartAgainUptoCard : Claim7 := { stood := { row := hartAgainUptoRow, standIns := [], harness := (true, "8e0c0280cba8b610eade7d02bf6937cbc32e6500df2b70b96567acd8c5b2bb43"), looks := false }, kinds := [], alts := [], laidByText := true, laidKinds := [.data, .funcs, .data, .data], laidTests := true, laidLooks := .later }
def HartAgainUptoCardSaid : Prop := Claim7.holds Tryz.pinned (.plain (OpenSpec.upto hartAgainSpec)) hartAgainUptoCard

/-- THE SECOND FORM's CARD OF 'atlaslaw16.HartKeeps'. -/
def hartKeepsUptoCard : Claim7 := { stood := { row := hartKeepsUptoRow, standIns := [], harness := (true, "8e0c0280cba8b610eade7d02bf6937cbc32e6500df2b70b96567acd8c5b2bb43"), looks := false }, kinds := [], alts := [], laidByText := true, laidKinds := [.data, .funcs, .data, .data], laidTests := true, laidLooks := .later }
def HartKeepsUptoCardSaid : Prop := Claim7.holds Tryz.pinned (.plain (OpenSpec.upto hartKeepsSpec)) hartKeepsUptoCard

/-- THE SECOND FORM's CARD OF 'atlaslaw16.HartNone'. -/
def hartNoneUptoCard : Claim7 := { stood := { row := hartNoneUptoRow, standIns := [], harness := (true, "8e0c0280cba8b610eade7d02bf6937cbc32e6500df2b70b96567acd8c5b2bb43"), looks := false }, kinds := [], alts := [], laidByText := true, laidKinds := [.data, .funcs, .data, .data], laidTests := true, laidLooks := .later }
def HartNoneUptoCardSaid : Prop := Claim7.holds Tryz.pinned (.plain (OpenSpec.upto hartNoneSpec)) hartNoneUptoCard
end Rows
end Go.Proofs.YtmmppghdnoeheaaGreatDoor
