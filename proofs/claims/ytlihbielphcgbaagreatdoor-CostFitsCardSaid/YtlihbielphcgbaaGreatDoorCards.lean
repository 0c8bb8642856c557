/-
  DERIVED. GIVEN WITH THE SEED: THE CARDS: each row of YtlihbielphcgbaaGreatDoorRows.lean that lists a variable, with what it lists TIED to the program's text (the seventh form; the later family's looks); each row that meets fmt, with fmt's text TOLD by the authors' own Lean function (tested against real Go, not proved from fmt's source: count such statements apart). THE CARD IS WHAT COUNTS. Prove the row's statement (the work); the ties are given (YtlihbielphcgbaaGreatDoorTie.lean); close each card by the builder's one call (the guide's Derived/Test/ToyasCard.lean, 'card_holds'). Laid BY PROGRAM, IN A SANDBOX (cutbox-door.mjs). By AI agents, Wed Nov 11 2026. No macro, syntax, notation, axiom, sorry.
-/
import Derived.Test.YtlihbielphcgbaaGreatDoorRows
import GoSem.ClaimSeven
namespace Go.Proofs.YtlihbielphcgbaaGreatDoor
namespace Rows

/-- THE TIED CARD OF 'atlaslaw26.CostBills'. -/
def costBillsCard : Claim7 := { stood := { row := costBillsRow, standIns := [], harness := (true, "146779b1e677d5d075aef409cc8209240c920c5b29244e7900ceae1f819efb90"), looks := false }, kinds := [], alts := [], laidByText := true, laidKinds := [.data, .funcs, .data], laidTests := true, laidLooks := .later }
def CostBillsCardSaid : Prop := Claim7.holds Tryz.pinned (.plain (OpenSpec.ofChange costBillsSpec)) costBillsCard

/-- THE TIED CARD OF 'atlaslaw26.CostFits'. -/
def costFitsCard : Claim7 := { stood := { row := costFitsRow, standIns := [], harness := (true, "146779b1e677d5d075aef409cc8209240c920c5b29244e7900ceae1f819efb90"), looks := false }, kinds := [], alts := [], laidByText := true, laidKinds := [.data, .funcs, .data], laidTests := true, laidLooks := .later }
def CostFitsCardSaid : Prop := Claim7.holds Tryz.pinned (.plain (OpenSpec.ofChange costFitsSpec)) costFitsCard

/-- THE TIED CARD OF 'atlaslaw26.CostTold'. -/
def costToldCard : Claim7 := { stood := { row := costToldRow, standIns := [], harness := (true, "146779b1e677d5d075aef409cc8209240c920c5b29244e7900ceae1f819efb90"), looks := false }, kinds := [], alts := [], laidByText := true, laidKinds := [.data, .funcs, .data], laidTests := true, laidLooks := .later }
def CostToldCardSaid : Prop := Claim7.holds Tryz.pinned (.plain (OpenSpec.ofChange costToldSpec)) costToldCard

/-- THE TIED CARD OF 'atlaslaw26.CostSame'. -/
def costSameCard : Claim7 := { stood := { row := costSameRow, standIns := [], harness := (true, "146779b1e677d5d075aef409cc8209240c920c5b29244e7900ceae1f819efb90"), looks := false }, kinds := [], alts := [], laidByText := true, laidKinds := [.data, .funcs, .data], laidTests := true, laidLooks := .later }
def CostSameCardSaid : Prop := Claim7.holds Tryz.pinned (.plain (OpenSpec.ofChange costSameSpec)) costSameCard

/-- THE SECOND FORM's CARD OF 'atlaslaw26.CostBills'. -/
def costBillsUptoCard : Claim7 := { stood := { row := costBillsUptoRow, standIns := [], harness := (true, "146779b1e677d5d075aef409cc8209240c920c5b29244e7900ceae1f819efb90"), looks := false }, kinds := [], alts := [], laidByText := true, laidKinds := [.data, .funcs, .data], laidTests := true, laidLooks := .later }
def CostBillsUptoCardSaid : Prop := Claim7.holds Tryz.pinned (.plain (OpenSpec.upto costBillsSpec)) costBillsUptoCard

/-- THE SECOND FORM's CARD OF 'atlaslaw26.CostFits'. -/
def costFitsUptoCard : Claim7 := { stood := { row := costFitsUptoRow, standIns := [], harness := (true, "146779b1e677d5d075aef409cc8209240c920c5b29244e7900ceae1f819efb90"), looks := false }, kinds := [], alts := [], laidByText := true, laidKinds := [.data, .funcs, .data], laidTests := true, laidLooks := .later }
def CostFitsUptoCardSaid : Prop := Claim7.holds Tryz.pinned (.plain (OpenSpec.upto costFitsSpec)) costFitsUptoCard

/-- THE SECOND FORM's CARD OF 'atlaslaw26.CostTold'. -/
def costToldUptoCard : Claim7 := { stood := { row := costToldUptoRow, standIns := [], harness := (true, "146779b1e677d5d075aef409cc8209240c920c5b29244e7900ceae1f819efb90"), looks := false }, kinds := [], alts := [], laidByText := true, laidKinds := [.data, .funcs, .data], laidTests := true, laidLooks := .later }
def CostToldUptoCardSaid : Prop := Claim7.holds Tryz.pinned (.plain (OpenSpec.upto costToldSpec)) costToldUptoCard

/-- THE SECOND FORM's CARD OF 'atlaslaw26.CostSame'. -/
def costSameUptoCard : Claim7 := { stood := { row := costSameUptoRow, standIns := [], harness := (true, "146779b1e677d5d075aef409cc8209240c920c5b29244e7900ceae1f819efb90"), looks := false }, kinds := [], alts := [], laidByText := true, laidKinds := [.data, .funcs, .data], laidTests := true, laidLooks := .later }
def CostSameUptoCardSaid : Prop := Claim7.holds Tryz.pinned (.plain (OpenSpec.upto costSameSpec)) costSameUptoCard
end Rows
end Go.Proofs.YtlihbielphcgbaaGreatDoor
