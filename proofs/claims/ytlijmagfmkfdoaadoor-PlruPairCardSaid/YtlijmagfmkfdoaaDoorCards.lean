/-
  DERIVED. GIVEN WITH THE SEED: THE CARDS: each row of YtlijmagfmkfdoaaDoorRows.lean that lists a variable, with what it lists TIED to the program's text (the seventh form; the later family's looks); each row that meets fmt, with fmt's text TOLD by the authors' own Lean function (tested against real Go, not proved from fmt's source: count such statements apart). THE CARD IS WHAT COUNTS. Prove the row's statement (the work); the ties are given (YtlijmagfmkfdoaaDoorTie.lean); close each card by the builder's one call (the guide's Derived/Test/ToyasCard.lean, 'card_holds'). Laid BY PROGRAM, IN A SANDBOX (cutbox-door.mjs). By AI agents, Wed Nov 11 2026. No macro, syntax, notation, axiom, sorry.
-/
import Derived.Test.YtlijmagfmkfdoaaDoorRows
import GoSem.ClaimSeven
namespace Go.Proofs.YtlijmagfmkfdoaaDoor
namespace Rows

/-- THE TIED CARD OF 'atlaslaw11.PlruTrees'. -/
def plruTreesCard : Claim7 := { stood := { row := plruTreesRow, standIns := [], harness := (true, "cfd92ab09b813e14fe0a849ab9b23cbaf5fe2f784ee95dc7deaacf3c9b557e4f"), looks := false }, kinds := [], alts := [], laidByText := true, laidKinds := [.data], laidTests := true, laidLooks := .later }
def PlruTreesCardSaid : Prop := Claim7.holds Tryd.pinned (.plain (OpenSpec.ofChange plruTreesSpec)) plruTreesCard

/-- THE TIED CARD OF 'atlaslaw11.PlruAway'. -/
def plruAwayCard : Claim7 := { stood := { row := plruAwayRow, standIns := [], harness := (true, "cfd92ab09b813e14fe0a849ab9b23cbaf5fe2f784ee95dc7deaacf3c9b557e4f"), looks := false }, kinds := [], alts := [], laidByText := true, laidKinds := [.data], laidTests := true, laidLooks := .later }
def PlruAwayCardSaid : Prop := Claim7.holds Tryd.pinned (.plain (OpenSpec.ofChange plruAwaySpec)) plruAwayCard

/-- THE TIED CARD OF 'atlaslaw11.PlruAll'. -/
def plruAllCard : Claim7 := { stood := { row := plruAllRow, standIns := [], harness := (true, "cfd92ab09b813e14fe0a849ab9b23cbaf5fe2f784ee95dc7deaacf3c9b557e4f"), looks := false }, kinds := [], alts := [], laidByText := true, laidKinds := [.data], laidTests := true, laidLooks := .later }
def PlruAllCardSaid : Prop := Claim7.holds Tryd.pinned (.plain (OpenSpec.ofChange plruAllSpec)) plruAllCard

/-- THE TIED CARD OF 'atlaslaw11.PlruPair'. -/
def plruPairCard : Claim7 := { stood := { row := plruPairRow, standIns := [], harness := (true, "cfd92ab09b813e14fe0a849ab9b23cbaf5fe2f784ee95dc7deaacf3c9b557e4f"), looks := false }, kinds := [], alts := [], laidByText := true, laidKinds := [.data], laidTests := true, laidLooks := .later }
def PlruPairCardSaid : Prop := Claim7.holds Tryd.pinned (.plain (OpenSpec.ofChange plruPairSpec)) plruPairCard

/-- THE SECOND FORM's CARD OF 'atlaslaw11.PlruTrees'. -/
def plruTreesUptoCard : Claim7 := { stood := { row := plruTreesUptoRow, standIns := [], harness := (true, "cfd92ab09b813e14fe0a849ab9b23cbaf5fe2f784ee95dc7deaacf3c9b557e4f"), looks := false }, kinds := [], alts := [], laidByText := true, laidKinds := [.data], laidTests := true, laidLooks := .later }
def PlruTreesUptoCardSaid : Prop := Claim7.holds Tryd.pinned (.plain (OpenSpec.upto plruTreesSpec)) plruTreesUptoCard

/-- THE SECOND FORM's CARD OF 'atlaslaw11.PlruAway'. -/
def plruAwayUptoCard : Claim7 := { stood := { row := plruAwayUptoRow, standIns := [], harness := (true, "cfd92ab09b813e14fe0a849ab9b23cbaf5fe2f784ee95dc7deaacf3c9b557e4f"), looks := false }, kinds := [], alts := [], laidByText := true, laidKinds := [.data], laidTests := true, laidLooks := .later }
def PlruAwayUptoCardSaid : Prop := Claim7.holds Tryd.pinned (.plain (OpenSpec.upto plruAwaySpec)) plruAwayUptoCard

/-- THE SECOND FORM's CARD OF 'atlaslaw11.PlruAll'. -/
def plruAllUptoCard : Claim7 := { stood := { row := plruAllUptoRow, standIns := [], harness := (true, "cfd92ab09b813e14fe0a849ab9b23cbaf5fe2f784ee95dc7deaacf3c9b557e4f"), looks := false }, kinds := [], alts := [], laidByText := true, laidKinds := [.data], laidTests := true, laidLooks := .later }
def PlruAllUptoCardSaid : Prop := Claim7.holds Tryd.pinned (.plain (OpenSpec.upto plruAllSpec)) plruAllUptoCard

/-- THE SECOND FORM's CARD OF 'atlaslaw11.PlruPair'. -/
def plruPairUptoCard : Claim7 := { stood := { row := plruPairUptoRow, standIns := [], harness := (true, "cfd92ab09b813e14fe0a849ab9b23cbaf5fe2f784ee95dc7deaacf3c9b557e4f"), looks := false }, kinds := [], alts := [], laidByText := true, laidKinds := [.data], laidTests := true, laidLooks := .later }
def PlruPairUptoCardSaid : Prop := Claim7.holds Tryd.pinned (.plain (OpenSpec.upto plruPairSpec)) plruPairUptoCard
end Rows
end Go.Proofs.YtlijmagfmkfdoaaDoor
