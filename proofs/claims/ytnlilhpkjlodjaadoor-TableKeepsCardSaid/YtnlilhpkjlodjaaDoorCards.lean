/-
  DERIVED. GIVEN WITH THE SEED: THE CARDS: each row of YtnlilhpkjlodjaaDoorRows.lean that lists a variable, with what it lists TIED to the program's text (the seventh form; the later family's looks); each row that meets fmt, with fmt's text TOLD by the authors' own Lean function (tested against real Go, not proved from fmt's source: count such statements apart). THE CARD IS WHAT COUNTS. Prove the row's statement (the work); the ties are given (YtnlilhpkjlodjaaDoorTie.lean); close each card by the builder's one call (the guide's Derived/Test/ToyasCard.lean, 'card_holds'). Laid BY PROGRAM, IN A SANDBOX (cutbox-door.mjs). By AI agents, Wed Nov 11 2026. No macro, syntax, notation, axiom, sorry.
-/
import Derived.Test.YtnlilhpkjlodjaaDoorRows
import GoSem.ClaimSeven
namespace Go.Proofs.YtnlilhpkjlodjaaDoor
namespace Rows

/-- THE TIED CARD OF 'atlaslaw19.TableFrames'. -/
def tableFramesCard : Claim7 := { stood := { row := tableFramesRow, standIns := [], harness := (true, "2cb037824d0e276d137b416e0898027e363bb752461605a8ecb85d19cc25501f"), looks := false }, kinds := [], alts := [], laidByText := true, laidKinds := [.data, .data], laidTests := true, laidLooks := .later }
def TableFramesCardSaid : Prop := Claim7.holds Tryd.pinned (.plain (OpenSpec.ofChange tableFramesSpec)) tableFramesCard

/-- THE TIED CARD OF 'atlaslaw19.TablePages'. -/
def tablePagesCard : Claim7 := { stood := { row := tablePagesRow, standIns := [], harness := (true, "2cb037824d0e276d137b416e0898027e363bb752461605a8ecb85d19cc25501f"), looks := false }, kinds := [], alts := [], laidByText := true, laidKinds := [.data, .data], laidTests := true, laidLooks := .later }
def TablePagesCardSaid : Prop := Claim7.holds Tryd.pinned (.plain (OpenSpec.ofChange tablePagesSpec)) tablePagesCard

/-- THE TIED CARD OF 'atlaslaw19.TableWrites'. -/
def tableWritesCard : Claim7 := { stood := { row := tableWritesRow, standIns := [], harness := (true, "2cb037824d0e276d137b416e0898027e363bb752461605a8ecb85d19cc25501f"), looks := false }, kinds := [], alts := [], laidByText := true, laidKinds := [.data, .data], laidTests := true, laidLooks := .later }
def TableWritesCardSaid : Prop := Claim7.holds Tryd.pinned (.plain (OpenSpec.ofChange tableWritesSpec)) tableWritesCard

/-- THE TIED CARD OF 'atlaslaw19.TableKeeps'. -/
def tableKeepsCard : Claim7 := { stood := { row := tableKeepsRow, standIns := [], harness := (true, "2cb037824d0e276d137b416e0898027e363bb752461605a8ecb85d19cc25501f"), looks := false }, kinds := [], alts := [], laidByText := true, laidKinds := [.data, .data], laidTests := true, laidLooks := .later }
def TableKeepsCardSaid : Prop := Claim7.holds Tryd.pinned (.plain (OpenSpec.ofChange tableKeepsSpec)) tableKeepsCard

/-- THE TIED CARD OF 'atlaslaw19.TableOnes'. -/
def tableOnesCard : Claim7 := { stood := { row := tableOnesRow, standIns := [], harness := (true, "2cb037824d0e276d137b416e0898027e363bb752461605a8ecb85d19cc25501f"), looks := false }, kinds := [], alts := [], laidByText := true, laidKinds := [.data, .data], laidTests := true, laidLooks := .later }
def TableOnesCardSaid : Prop := Claim7.holds Tryd.pinned (.plain (OpenSpec.ofChange tableOnesSpec)) tableOnesCard

/-- THE SECOND FORM's CARD OF 'atlaslaw19.TableFrames'. -/
def tableFramesUptoCard : Claim7 := { stood := { row := tableFramesUptoRow, standIns := [], harness := (true, "2cb037824d0e276d137b416e0898027e363bb752461605a8ecb85d19cc25501f"), looks := false }, kinds := [], alts := [], laidByText := true, laidKinds := [.data, .data], laidTests := true, laidLooks := .later }
def TableFramesUptoCardSaid : Prop := Claim7.holds Tryd.pinned (.plain (OpenSpec.upto tableFramesSpec)) tableFramesUptoCard

/-- THE SECOND FORM's CARD OF 'atlaslaw19.TablePages'. -/
def tablePagesUptoCard : Claim7 := { stood := { row := tablePagesUptoRow, standIns := [], harness := (true, "2cb037824d0e276d137b416e0898027e363bb752461605a8ecb85d19cc25501f"), looks := false }, kinds := [], alts := [], laidByText := true, laidKinds := [.data, .data], laidTests := true, laidLooks := .later }
def TablePagesUptoCardSaid : Prop := Claim7.holds Tryd.pinned (.plain (OpenSpec.upto tablePagesSpec)) tablePagesUptoCard

/-- THE SECOND FORM's CARD OF 'atlaslaw19.TableWrites'. -/
def tableWritesUptoCard : Claim7 := { stood := { row := tableWritesUptoRow, standIns := [], harness := (true, "2cb037824d0e276d137b416e0898027e363bb752461605a8ecb85d19cc25501f"), looks := false }, kinds := [], alts := [], laidByText := true, laidKinds := [.data, .data], laidTests := true, laidLooks := .later }
def TableWritesUptoCardSaid : Prop := Claim7.holds Tryd.pinned (.plain (OpenSpec.upto tableWritesSpec)) tableWritesUptoCard

/-- THE SECOND FORM's CARD OF 'atlaslaw19.TableKeeps'. -/
def tableKeepsUptoCard : Claim7 := { stood := { row := tableKeepsUptoRow, standIns := [], harness := (true, "2cb037824d0e276d137b416e0898027e363bb752461605a8ecb85d19cc25501f"), looks := false }, kinds := [], alts := [], laidByText := true, laidKinds := [.data, .data], laidTests := true, laidLooks := .later }
def TableKeepsUptoCardSaid : Prop := Claim7.holds Tryd.pinned (.plain (OpenSpec.upto tableKeepsSpec)) tableKeepsUptoCard

/-- THE SECOND FORM's CARD OF 'atlaslaw19.TableOnes'. -/
def tableOnesUptoCard : Claim7 := { stood := { row := tableOnesUptoRow, standIns := [], harness := (true, "2cb037824d0e276d137b416e0898027e363bb752461605a8ecb85d19cc25501f"), looks := false }, kinds := [], alts := [], laidByText := true, laidKinds := [.data, .data], laidTests := true, laidLooks := .later }
def TableOnesUptoCardSaid : Prop := Claim7.holds Tryd.pinned (.plain (OpenSpec.upto tableOnesSpec)) tableOnesUptoCard
end Rows
end Go.Proofs.YtnlilhpkjlodjaaDoor
