/-
  DERIVED. GIVEN WITH THE SEED: THE CARDS: each row of YtnkjmocacielmaaDoorRows.lean that lists a variable, with what it lists TIED to the program's text (the seventh form; the later family's looks); each row that meets fmt, with fmt's text TOLD by the authors' own Lean function (tested against real Go, not proved from fmt's source: count such statements apart). THE CARD IS WHAT COUNTS. Prove the row's statement (the work); the ties are given (YtnkjmocacielmaaDoorTie.lean); close each card by the builder's one call (the guide's Derived/Test/ToyasCard.lean, 'card_holds'). Laid BY PROGRAM, IN A SANDBOX (cutbox-door.mjs). By AI agents, Wed Nov 11 2026. No macro, syntax, notation, axiom, sorry.
-/
import Derived.Test.YtnkjmocacielmaaDoorRows
import GoSem.ClaimSeven
namespace Go.Proofs.YtnkjmocacielmaaDoor
namespace Rows

/-- THE TIED CARD OF 'atlaslaw20.SplitDoes'. -/
def splitDoesCard : Claim7 := { stood := { row := splitDoesRow, standIns := [], harness := (true, "04dd2fd301c892f84df2243da790aa0563d82a5400502f4f2fb9cf4731b88bcc"), looks := false }, kinds := [], alts := [], laidByText := true, laidKinds := [.data, .data], laidTests := true, laidLooks := .later }
def SplitDoesCardSaid : Prop := Claim7.holds Tryd.pinned (.plain (OpenSpec.ofChange splitDoesSpec)) splitDoesCard

/-- THE TIED CARD OF 'atlaslaw20.SplitPrunes'. -/
def splitPrunesCard : Claim7 := { stood := { row := splitPrunesRow, standIns := [], harness := (true, "04dd2fd301c892f84df2243da790aa0563d82a5400502f4f2fb9cf4731b88bcc"), looks := false }, kinds := [], alts := [], laidByText := true, laidKinds := [.data, .data], laidTests := true, laidLooks := .later }
def SplitPrunesCardSaid : Prop := Claim7.holds Tryd.pinned (.plain (OpenSpec.ofChange splitPrunesSpec)) splitPrunesCard

/-- THE TIED CARD OF 'atlaslaw20.SplitKeeps'. -/
def splitKeepsCard : Claim7 := { stood := { row := splitKeepsRow, standIns := [], harness := (true, "04dd2fd301c892f84df2243da790aa0563d82a5400502f4f2fb9cf4731b88bcc"), looks := false }, kinds := [], alts := [], laidByText := true, laidKinds := [.data, .data], laidTests := true, laidLooks := .later }
def SplitKeepsCardSaid : Prop := Claim7.holds Tryd.pinned (.plain (OpenSpec.ofChange splitKeepsSpec)) splitKeepsCard

/-- THE TIED CARD OF 'atlaslaw20.SplitTwice'. -/
def splitTwiceCard : Claim7 := { stood := { row := splitTwiceRow, standIns := [], harness := (true, "04dd2fd301c892f84df2243da790aa0563d82a5400502f4f2fb9cf4731b88bcc"), looks := false }, kinds := [], alts := [], laidByText := true, laidKinds := [.data, .data], laidTests := true, laidLooks := .later }
def SplitTwiceCardSaid : Prop := Claim7.holds Tryd.pinned (.plain (OpenSpec.ofChange splitTwiceSpec)) splitTwiceCard

/-- THE SECOND FORM's CARD OF 'atlaslaw20.SplitDoes'. -/
def splitDoesUptoCard : Claim7 := { stood := { row := splitDoesUptoRow, standIns := [], harness := (true, "04dd2fd301c892f84df2243da790aa0563d82a5400502f4f2fb9cf4731b88bcc"), looks := false }, kinds := [], alts := [], laidByText := true, laidKinds := [.data, .data], laidTests := true, laidLooks := .later }
def SplitDoesUptoCardSaid : Prop := Claim7.holds Tryd.pinned (.plain (OpenSpec.upto splitDoesSpec)) splitDoesUptoCard

/-- THE SECOND FORM's CARD OF 'atlaslaw20.SplitPrunes'. -/
def splitPrunesUptoCard : Claim7 := { stood := { row := splitPrunesUptoRow, standIns := [], harness := (true, "04dd2fd301c892f84df2243da790aa0563d82a5400502f4f2fb9cf4731b88bcc"), looks := false }, kinds := [], alts := [], laidByText := true, laidKinds := [.data, .data], laidTests := true, laidLooks := .later }
def SplitPrunesUptoCardSaid : Prop := Claim7.holds Tryd.pinned (.plain (OpenSpec.upto splitPrunesSpec)) splitPrunesUptoCard

/-- THE SECOND FORM's CARD OF 'atlaslaw20.SplitKeeps'. -/
def splitKeepsUptoCard : Claim7 := { stood := { row := splitKeepsUptoRow, standIns := [], harness := (true, "04dd2fd301c892f84df2243da790aa0563d82a5400502f4f2fb9cf4731b88bcc"), looks := false }, kinds := [], alts := [], laidByText := true, laidKinds := [.data, .data], laidTests := true, laidLooks := .later }
def SplitKeepsUptoCardSaid : Prop := Claim7.holds Tryd.pinned (.plain (OpenSpec.upto splitKeepsSpec)) splitKeepsUptoCard

/-- THE SECOND FORM's CARD OF 'atlaslaw20.SplitTwice'. -/
def splitTwiceUptoCard : Claim7 := { stood := { row := splitTwiceUptoRow, standIns := [], harness := (true, "04dd2fd301c892f84df2243da790aa0563d82a5400502f4f2fb9cf4731b88bcc"), looks := false }, kinds := [], alts := [], laidByText := true, laidKinds := [.data, .data], laidTests := true, laidLooks := .later }
def SplitTwiceUptoCardSaid : Prop := Claim7.holds Tryd.pinned (.plain (OpenSpec.upto splitTwiceSpec)) splitTwiceUptoCard
end Rows
end Go.Proofs.YtnkjmocacielmaaDoor
