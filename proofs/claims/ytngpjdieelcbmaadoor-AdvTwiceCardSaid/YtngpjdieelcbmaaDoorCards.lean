/-
  DERIVED. GIVEN WITH THE SEED: THE CARDS: each row of YtngpjdieelcbmaaDoorRows.lean that lists a variable, with what it lists TIED to the program's text (the seventh form; the later family's looks); each row that meets fmt, with fmt's text TOLD by the authors' own Lean function (tested against real Go, not proved from fmt's source: count such statements apart). THE CARD IS WHAT COUNTS. Prove the row's statement (the work); the ties are given (YtngpjdieelcbmaaDoorTie.lean); close each card by the builder's one call (the guide's Derived/Test/ToyasCard.lean, 'card_holds'). Laid BY PROGRAM, IN A SANDBOX (cutbox-door.mjs). By AI agents, Wed Nov 11 2026. No macro, syntax, notation, axiom, sorry.
-/
import Derived.Test.YtngpjdieelcbmaaDoorRows
import GoSem.ClaimSeven
namespace Go.Proofs.YtngpjdieelcbmaaDoor
namespace Rows

/-- THE TIED CARD OF 'atlaslaw17.AdvKeeps'. -/
def advKeepsCard : Claim7 := { stood := { row := advKeepsRow, standIns := [], harness := (true, "151acd44cc441c1429387c3f688918a473bfc117105716cdb2f0d4afd8327ce5"), looks := false }, kinds := [], alts := [], laidByText := true, laidKinds := [.data, .data, .data], laidTests := true, laidLooks := .later }
def AdvKeepsCardSaid : Prop := Claim7.holds Tryd.pinned (.plain (OpenSpec.ofChange advKeepsSpec)) advKeepsCard

/-- THE TIED CARD OF 'atlaslaw17.AdvTwice'. -/
def advTwiceCard : Claim7 := { stood := { row := advTwiceRow, standIns := [], harness := (true, "151acd44cc441c1429387c3f688918a473bfc117105716cdb2f0d4afd8327ce5"), looks := false }, kinds := [], alts := [], laidByText := true, laidKinds := [.data, .data, .data], laidTests := true, laidLooks := .later }
def AdvTwiceCardSaid : Prop := Claim7.holds Tryd.pinned (.plain (OpenSpec.ofChange advTwiceSpec)) advTwiceCard

/-- THE SECOND FORM's CARD OF 'atlaslaw17.AdvKeeps'. -/
def advKeepsUptoCard : Claim7 := { stood := { row := advKeepsUptoRow, standIns := [], harness := (true, "151acd44cc441c1429387c3f688918a473bfc117105716cdb2f0d4afd8327ce5"), looks := false }, kinds := [], alts := [], laidByText := true, laidKinds := [.data, .data, .data], laidTests := true, laidLooks := .later }
def AdvKeepsUptoCardSaid : Prop := Claim7.holds Tryd.pinned (.plain (OpenSpec.upto advKeepsSpec)) advKeepsUptoCard

/-- THE SECOND FORM's CARD OF 'atlaslaw17.AdvTwice'. -/
def advTwiceUptoCard : Claim7 := { stood := { row := advTwiceUptoRow, standIns := [], harness := (true, "151acd44cc441c1429387c3f688918a473bfc117105716cdb2f0d4afd8327ce5"), looks := false }, kinds := [], alts := [], laidByText := true, laidKinds := [.data, .data, .data], laidTests := true, laidLooks := .later }
def AdvTwiceUptoCardSaid : Prop := Claim7.holds Tryd.pinned (.plain (OpenSpec.upto advTwiceSpec)) advTwiceUptoCard
end Rows
end Go.Proofs.YtngpjdieelcbmaaDoor
