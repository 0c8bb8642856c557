/-
  DERIVED. GIVEN WITH THE SEED: THE CARDS: each row of YtmjhghclgockjaaDoorRows.lean that lists a variable, with what it lists TIED to the program's text (the seventh form; the later family's looks); each row that meets fmt, with fmt's text TOLD by the authors' own Lean function (tested against real Go, not proved from fmt's source: count such statements apart). THE CARD IS WHAT COUNTS. Prove the row's statement (the work); the ties are given (YtmjhghclgockjaaDoorTie.lean); close each card by the builder's one call (the guide's Derived/Test/ToyasCard.lean, 'card_holds'). Laid BY PROGRAM, IN A SANDBOX (cutbox-door.mjs). By AI agents, Wed Nov 11 2026. No macro, syntax, notation, axiom, sorry.
-/
import Derived.Test.YtmjhghclgockjaaDoorRows
import GoSem.ClaimSeven
namespace Go.Proofs.YtmjhghclgockjaaDoor
namespace Rows

/-- THE TIED CARD OF 'atlaslaw14.TlbFinds'. -/
def tlbFindsCard : Claim7 := { stood := { row := tlbFindsRow, standIns := [], harness := (true, "62b79b82422d925c732d3266e7c0c63a747ce4ef559254edabcc76ad1556d6ed"), looks := false }, kinds := [], alts := [], laidByText := true, laidKinds := [.data, .data], laidTests := true, laidLooks := .later }
def TlbFindsCardSaid : Prop := Claim7.holds Tryd.pinned (.plain (OpenSpec.ofChange tlbFindsSpec)) tlbFindsCard

/-- THE TIED CARD OF 'atlaslaw14.TlbUnlike'. -/
def tlbUnlikeCard : Claim7 := { stood := { row := tlbUnlikeRow, standIns := [], harness := (true, "62b79b82422d925c732d3266e7c0c63a747ce4ef559254edabcc76ad1556d6ed"), looks := false }, kinds := [], alts := [], laidByText := true, laidKinds := [.data, .data], laidTests := true, laidLooks := .later }
def TlbUnlikeCardSaid : Prop := Claim7.holds Tryd.pinned (.plain (OpenSpec.ofChange tlbUnlikeSpec)) tlbUnlikeCard

/-- THE TIED CARD OF 'atlaslaw14.TlbAsid'. -/
def tlbAsidCard : Claim7 := { stood := { row := tlbAsidRow, standIns := [], harness := (true, "62b79b82422d925c732d3266e7c0c63a747ce4ef559254edabcc76ad1556d6ed"), looks := false }, kinds := [], alts := [], laidByText := true, laidKinds := [.data, .data], laidTests := true, laidLooks := .later }
def TlbAsidCardSaid : Prop := Claim7.holds Tryd.pinned (.plain (OpenSpec.ofChange tlbAsidSpec)) tlbAsidCard

/-- THE TIED CARD OF 'atlaslaw14.TlbDoes'. -/
def tlbDoesCard : Claim7 := { stood := { row := tlbDoesRow, standIns := [], harness := (true, "62b79b82422d925c732d3266e7c0c63a747ce4ef559254edabcc76ad1556d6ed"), looks := false }, kinds := [], alts := [], laidByText := true, laidKinds := [.data, .data], laidTests := true, laidLooks := .later }
def TlbDoesCardSaid : Prop := Claim7.holds Tryd.pinned (.plain (OpenSpec.ofChange tlbDoesSpec)) tlbDoesCard

/-- THE TIED CARD OF 'atlaslaw14.TlbOne'. -/
def tlbOneCard : Claim7 := { stood := { row := tlbOneRow, standIns := [], harness := (true, "62b79b82422d925c732d3266e7c0c63a747ce4ef559254edabcc76ad1556d6ed"), looks := false }, kinds := [], alts := [], laidByText := true, laidKinds := [.data, .data], laidTests := true, laidLooks := .later }
def TlbOneCardSaid : Prop := Claim7.holds Tryd.pinned (.plain (OpenSpec.ofChange tlbOneSpec)) tlbOneCard

/-- THE TIED CARD OF 'atlaslaw14.TlbKeeps'. -/
def tlbKeepsCard : Claim7 := { stood := { row := tlbKeepsRow, standIns := [], harness := (true, "62b79b82422d925c732d3266e7c0c63a747ce4ef559254edabcc76ad1556d6ed"), looks := false }, kinds := [], alts := [], laidByText := true, laidKinds := [.data, .data], laidTests := true, laidLooks := .later }
def TlbKeepsCardSaid : Prop := Claim7.holds Tryd.pinned (.plain (OpenSpec.ofChange tlbKeepsSpec)) tlbKeepsCard

/-- THE SECOND FORM's CARD OF 'atlaslaw14.TlbFinds'. -/
def tlbFindsUptoCard : Claim7 := { stood := { row := tlbFindsUptoRow, standIns := [], harness := (true, "62b79b82422d925c732d3266e7c0c63a747ce4ef559254edabcc76ad1556d6ed"), looks := false }, kinds := [], alts := [], laidByText := true, laidKinds := [.data, .data], laidTests := true, laidLooks := .later }
def TlbFindsUptoCardSaid : Prop := Claim7.holds Tryd.pinned (.plain (OpenSpec.upto tlbFindsSpec)) tlbFindsUptoCard

/-- THE SECOND FORM's CARD OF 'atlaslaw14.TlbUnlike'. -/
def tlbUnlikeUptoCard : Claim7 := { stood := { row := tlbUnlikeUptoRow, standIns := [], harness := (true, "62b79b82422d925c732d3266e7c0c63a747ce4ef559254edabcc76ad1556d6ed"), looks := false }, kinds := [], alts := [], laidByText := true, laidKinds := [.data, .data], laidTests := true, laidLooks := .later }
def TlbUnlikeUptoCardSaid : Prop := Claim7.holds Tryd.pinned (.plain (OpenSpec.upto tlbUnlikeSpec)) tlbUnlikeUptoCard

/-- THE SECOND FORM's CARD OF 'atlaslaw14.TlbAsid'. -/
def tlbAsidUptoCard : Claim7 := { stood := { row := tlbAsidUptoRow, standIns := [], harness := (true, "62b79b82422d925c732d3266e7c0c63a747ce4ef559254edabcc76ad1556d6ed"), looks := false }, kinds := [], alts := [], laidByText := true, laidKinds := [.data, .data], laidTests := true, laidLooks := .later }
def TlbAsidUptoCardSaid : Prop := Claim7.holds Tryd.pinned (.plain (OpenSpec.upto tlbAsidSpec)) tlbAsidUptoCard

/-- THE SECOND FORM's CARD OF 'atlaslaw14.TlbDoes'. -/
def tlbDoesUptoCard : Claim7 := { stood := { row := tlbDoesUptoRow, standIns := [], harness := (true, "62b79b82422d925c732d3266e7c0c63a747ce4ef559254edabcc76ad1556d6ed"), looks := false }, kinds := [], alts := [], laidByText := true, laidKinds := [.data, .data], laidTests := true, laidLooks := .later }
def TlbDoesUptoCardSaid : Prop := Claim7.holds Tryd.pinned (.plain (OpenSpec.upto tlbDoesSpec)) tlbDoesUptoCard

/-- THE SECOND FORM's CARD OF 'atlaslaw14.TlbOne'. -/
def tlbOneUptoCard : Claim7 := { stood := { row := tlbOneUptoRow, standIns := [], harness := (true, "62b79b82422d925c732d3266e7c0c63a747ce4ef559254edabcc76ad1556d6ed"), looks := false }, kinds := [], alts := [], laidByText := true, laidKinds := [.data, .data], laidTests := true, laidLooks := .later }
def TlbOneUptoCardSaid : Prop := Claim7.holds Tryd.pinned (.plain (OpenSpec.upto tlbOneSpec)) tlbOneUptoCard

/-- THE SECOND FORM's CARD OF 'atlaslaw14.TlbKeeps'. -/
def tlbKeepsUptoCard : Claim7 := { stood := { row := tlbKeepsUptoRow, standIns := [], harness := (true, "62b79b82422d925c732d3266e7c0c63a747ce4ef559254edabcc76ad1556d6ed"), looks := false }, kinds := [], alts := [], laidByText := true, laidKinds := [.data, .data], laidTests := true, laidLooks := .later }
def TlbKeepsUptoCardSaid : Prop := Claim7.holds Tryd.pinned (.plain (OpenSpec.upto tlbKeepsSpec)) tlbKeepsUptoCard
end Rows
end Go.Proofs.YtmjhghclgockjaaDoor
