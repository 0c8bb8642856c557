/-
  No cell of these rows narrows 'for every input' (looked for: loops, veiled, ifaces, maps, wideKeys, modest, calm, conditions, laid).
  DERIVED. THE GIVEN ROWS OF THIS SEAT. 6 by the template 'for every input the law returns true; each argument reads behind the call as it read before'; 0 by the template 'total and deterministic' (their statements: YtffahdloddkcfaaTotals.lean).
  GIVEN WITH THE SEED: the statements are not yours to turn. If you find one false, say at which input.
  Laid BY PROGRAM, IN A SANDBOX (cutbox-rows.mjs): the forced cells as the released guide's own fill.sh prints them over the translation db11d452337eb976… (all of the seat's roots in one cut). By AI agents, Wed Nov 11 2026. No macro, syntax, notation, axiom, sorry.
-/
import Derived.Test.YtffahdloddkcfaaChecked
import GoSem.Claim
import GoSem.ClaimJoined
import GoSem.ClaimMapViews
import Derived.JoinedTies
import Derived.KernelRfl
namespace Go.Proofs.Ytffahdloddkcfaa
/- THE CELL 'sum', in the pinned program and in every row, IS THE sha256 OF THE DUMP (.gsa) THAT YtffahdloddkcfaaProg.lean LOADS. Nothing in Lean hashes anything: it is a label: what it is worth is what the hold of that sum in a sandbox is worth. -/
noncomputable def Try.pinned : Pinned := { name := "ytffahdloddkcfaa", sum := "db11d452337eb976a1f73ba147975e88c3c29d87c2c766e127b55dee89cf83b7", checked := Try.checked }
namespace Rows
def none {H : Type} : Left H := { results := [], args := [] }

/-- 'atlaslaw03.MemDoes': WHATEVER THE INPUT: true; the input reads as it did. -/
def memDoesSpec : ChangeSpec := { name := "memDoes", fn := fun _ => fun
  | [d1, d2, d3, d4, d5] => { results := [.lit (.bool true)], args := [d1, d2, d3, d4, d5] }
  | _ => none }
def memDoesRow : OpenClaim := { program := "ytffahdloddkcfaa", sum := "db11d452337eb976a1f73ba147975e88c3c29d87c2c766e127b55dee89cf83b7", func := "atlas/atlaslaw03.MemDoes", spec := "memDoes", inPlace := ["slices.overlaps[atlas/api.Cell]"], unfollowed := true, recurses := true, apart := false }
def MemDoesSaid : Prop := memDoesRow.holds Try.pinned (OpenSpec.ofChange memDoesSpec)

/-- ITS FALSE NEIGHBOUR: 'it returns false'. Refute it at one input. -/
def memDoesWrong : ChangeSpec := { name := "memDoes", fn := fun _ => fun
  | [d1, d2, d3, d4, d5] => { results := [.lit (.bool false)], args := [d1, d2, d3, d4, d5] }
  | _ => none }
def MemDoesWrongFalsely : Prop := memDoesRow.holds Try.pinned (OpenSpec.ofChange memDoesWrong)

/-- 'atlaslaw03.MemClears': WHATEVER THE INPUT: true; the input reads as it did. -/
def memClearsSpec : ChangeSpec := { name := "memClears", fn := fun _ => fun
  | [d1, d2, d3, d4] => { results := [.lit (.bool true)], args := [d1, d2, d3, d4] }
  | _ => none }
def memClearsRow : OpenClaim := { program := "ytffahdloddkcfaa", sum := "db11d452337eb976a1f73ba147975e88c3c29d87c2c766e127b55dee89cf83b7", func := "atlas/atlaslaw03.MemClears", spec := "memClears", inPlace := ["slices.overlaps[atlas/api.Cell]"], unfollowed := true, recurses := true, apart := false }
def MemClearsSaid : Prop := memClearsRow.holds Try.pinned (OpenSpec.ofChange memClearsSpec)

/-- ITS FALSE NEIGHBOUR: 'it returns false'. Refute it at one input. -/
def memClearsWrong : ChangeSpec := { name := "memClears", fn := fun _ => fun
  | [d1, d2, d3, d4] => { results := [.lit (.bool false)], args := [d1, d2, d3, d4] }
  | _ => none }
def MemClearsWrongFalsely : Prop := memClearsRow.holds Try.pinned (OpenSpec.ofChange memClearsWrong)

/-- 'atlaslaw03.MemHolds': WHATEVER THE INPUT: true; the input reads as it did. -/
def memHoldsSpec : ChangeSpec := { name := "memHolds", fn := fun _ => fun
  | [d1, d2, d3, d4, d5, d6] => { results := [.lit (.bool true)], args := [d1, d2, d3, d4, d5, d6] }
  | _ => none }
def memHoldsRow : OpenClaim := { program := "ytffahdloddkcfaa", sum := "db11d452337eb976a1f73ba147975e88c3c29d87c2c766e127b55dee89cf83b7", func := "atlas/atlaslaw03.MemHolds", spec := "memHolds", inPlace := ["slices.overlaps[atlas/api.Cell]"], unfollowed := true, recurses := true, apart := false }
def MemHoldsSaid : Prop := memHoldsRow.holds Try.pinned (OpenSpec.ofChange memHoldsSpec)

/-- ITS FALSE NEIGHBOUR: 'it returns false'. Refute it at one input. -/
def memHoldsWrong : ChangeSpec := { name := "memHolds", fn := fun _ => fun
  | [d1, d2, d3, d4, d5, d6] => { results := [.lit (.bool false)], args := [d1, d2, d3, d4, d5, d6] }
  | _ => none }
def MemHoldsWrongFalsely : Prop := memHoldsRow.holds Try.pinned (OpenSpec.ofChange memHoldsWrong)

/-- 'atlaslaw03.MemTurned': WHATEVER THE INPUT: true; the input reads as it did. -/
def memTurnedSpec : ChangeSpec := { name := "memTurned", fn := fun _ => fun
  | [d1, d2, d3, d4, d5, d6, d7] => { results := [.lit (.bool true)], args := [d1, d2, d3, d4, d5, d6, d7] }
  | _ => none }
def memTurnedRow : OpenClaim := { program := "ytffahdloddkcfaa", sum := "db11d452337eb976a1f73ba147975e88c3c29d87c2c766e127b55dee89cf83b7", func := "atlas/atlaslaw03.MemTurned", spec := "memTurned", inPlace := ["slices.overlaps[atlas/api.Cell]"], unfollowed := true, recurses := true, apart := false }
def MemTurnedSaid : Prop := memTurnedRow.holds Try.pinned (OpenSpec.ofChange memTurnedSpec)

/-- ITS FALSE NEIGHBOUR: 'it returns false'. Refute it at one input. -/
def memTurnedWrong : ChangeSpec := { name := "memTurned", fn := fun _ => fun
  | [d1, d2, d3, d4, d5, d6, d7] => { results := [.lit (.bool false)], args := [d1, d2, d3, d4, d5, d6, d7] }
  | _ => none }
def MemTurnedWrongFalsely : Prop := memTurnedRow.holds Try.pinned (OpenSpec.ofChange memTurnedWrong)

/-- 'atlaslaw03.MemKeeps': WHATEVER THE INPUT: true; the input reads as it did. -/
def memKeepsSpec : ChangeSpec := { name := "memKeeps", fn := fun _ => fun
  | [d1, d2, d3, d4] => { results := [.lit (.bool true)], args := [d1, d2, d3, d4] }
  | _ => none }
def memKeepsRow : OpenClaim := { program := "ytffahdloddkcfaa", sum := "db11d452337eb976a1f73ba147975e88c3c29d87c2c766e127b55dee89cf83b7", func := "atlas/atlaslaw03.MemKeeps", spec := "memKeeps", inPlace := ["slices.overlaps[atlas/api.Cell]"], unfollowed := true, recurses := true, apart := false }
def MemKeepsSaid : Prop := memKeepsRow.holds Try.pinned (OpenSpec.ofChange memKeepsSpec)

/-- ITS FALSE NEIGHBOUR: 'it returns false'. Refute it at one input. -/
def memKeepsWrong : ChangeSpec := { name := "memKeeps", fn := fun _ => fun
  | [d1, d2, d3, d4] => { results := [.lit (.bool false)], args := [d1, d2, d3, d4] }
  | _ => none }
def MemKeepsWrongFalsely : Prop := memKeepsRow.holds Try.pinned (OpenSpec.ofChange memKeepsWrong)

/-- 'atlaslaw03.MemHalves': WHATEVER THE INPUT: true; the input reads as it did. -/
def memHalvesSpec : ChangeSpec := { name := "memHalves", fn := fun _ => fun
  | [d1, d2, d3, d4] => { results := [.lit (.bool true)], args := [d1, d2, d3, d4] }
  | _ => none }
def memHalvesRow : OpenClaim := { program := "ytffahdloddkcfaa", sum := "db11d452337eb976a1f73ba147975e88c3c29d87c2c766e127b55dee89cf83b7", func := "atlas/atlaslaw03.MemHalves", spec := "memHalves", inPlace := ["slices.overlaps[atlas/api.Cell]"], unfollowed := true, recurses := true, apart := false }
def MemHalvesSaid : Prop := memHalvesRow.holds Try.pinned (OpenSpec.ofChange memHalvesSpec)

/-- ITS FALSE NEIGHBOUR: 'it returns false'. Refute it at one input. -/
def memHalvesWrong : ChangeSpec := { name := "memHalves", fn := fun _ => fun
  | [d1, d2, d3, d4] => { results := [.lit (.bool false)], args := [d1, d2, d3, d4] }
  | _ => none }
def MemHalvesWrongFalsely : Prop := memHalvesRow.holds Try.pinned (OpenSpec.ofChange memHalvesWrong)

/- THE SECOND FORM. 'bulk': how many values and letters a reading holds, each counted each time it is reached (what is shared counts as often as it is met; a slice's spare places count too). A statement '..UptoSaid' is the law's where the arguments, and the package variables that the reading takes, are together of bulk at most 1048576: NARROWER than '..Said'. Prove '..Said' where nothing that the law and all that it calls make is longer than what came in: it says more and counts as full. Else prove '..UptoSaid'. A law counts once. -/
mutual
def uptoBulk {H : Type} : DataW H → Nat
  | .lit (.string bytes) => bytes.length + 1
  | .lit _ => 1
  | .nil => 1
  | .ptr d => uptoBulk d + 1
  | .slice elems spare => uptoBulkAll elems + uptoBulkAll spare + 1
  | .agg parts => uptoBulkAll parts + 1
  | .iface _ d => uptoBulk d + 1
  | .map entries => uptoBulkEntries entries + 1
  | .held _ => 1
def uptoBulkAll {H : Type} : List (DataW H) → Nat
  | [] => 0
  | d :: r => uptoBulk d + uptoBulkAll r
def uptoBulkEntries {H : Type} : List (Lit × DataW H) → Nat
  | [] => 0
  | x :: r => uptoBulkEntry x + uptoBulkEntries r
def uptoBulkEntry {H : Type} : Lit × DataW H → Nat
  | (.string bytes, d) => bytes.length + uptoBulk d + 1
  | (_, d) => uptoBulk d + 1
 end
def uptoSmall : (H : Type) → List (DataW H) → Bool := fun _ ds => decide (uptoBulkAll ds ≤ 1048576)
def OpenSpec.upto (s : _root_.Go.ChangeSpec) : _root_.Go.OpenSpec := { _root_.Go.OpenSpec.ofChange s with cond := some uptoSmall }

/-- 'atlaslaw03.MemDoes', WHERE WHAT IT READS IS OF BULK AT MOST 1048576: true; the input reads as it did. -/
def memDoesUptoRow : OpenClaim := { program := "ytffahdloddkcfaa", sum := "db11d452337eb976a1f73ba147975e88c3c29d87c2c766e127b55dee89cf83b7", func := "atlas/atlaslaw03.MemDoes", spec := "memDoes", inPlace := ["slices.overlaps[atlas/api.Cell]"], unfollowed := true, recurses := true, apart := false, narrowed := true }
def MemDoesUptoSaid : Prop := memDoesUptoRow.holds Try.pinned (OpenSpec.upto memDoesSpec)

/-- 'atlaslaw03.MemClears', WHERE WHAT IT READS IS OF BULK AT MOST 1048576: true; the input reads as it did. -/
def memClearsUptoRow : OpenClaim := { program := "ytffahdloddkcfaa", sum := "db11d452337eb976a1f73ba147975e88c3c29d87c2c766e127b55dee89cf83b7", func := "atlas/atlaslaw03.MemClears", spec := "memClears", inPlace := ["slices.overlaps[atlas/api.Cell]"], unfollowed := true, recurses := true, apart := false, narrowed := true }
def MemClearsUptoSaid : Prop := memClearsUptoRow.holds Try.pinned (OpenSpec.upto memClearsSpec)

/-- 'atlaslaw03.MemHolds', WHERE WHAT IT READS IS OF BULK AT MOST 1048576: true; the input reads as it did. -/
def memHoldsUptoRow : OpenClaim := { program := "ytffahdloddkcfaa", sum := "db11d452337eb976a1f73ba147975e88c3c29d87c2c766e127b55dee89cf83b7", func := "atlas/atlaslaw03.MemHolds", spec := "memHolds", inPlace := ["slices.overlaps[atlas/api.Cell]"], unfollowed := true, recurses := true, apart := false, narrowed := true }
def MemHoldsUptoSaid : Prop := memHoldsUptoRow.holds Try.pinned (OpenSpec.upto memHoldsSpec)

/-- 'atlaslaw03.MemTurned', WHERE WHAT IT READS IS OF BULK AT MOST 1048576: true; the input reads as it did. -/
def memTurnedUptoRow : OpenClaim := { program := "ytffahdloddkcfaa", sum := "db11d452337eb976a1f73ba147975e88c3c29d87c2c766e127b55dee89cf83b7", func := "atlas/atlaslaw03.MemTurned", spec := "memTurned", inPlace := ["slices.overlaps[atlas/api.Cell]"], unfollowed := true, recurses := true, apart := false, narrowed := true }
def MemTurnedUptoSaid : Prop := memTurnedUptoRow.holds Try.pinned (OpenSpec.upto memTurnedSpec)

/-- 'atlaslaw03.MemKeeps', WHERE WHAT IT READS IS OF BULK AT MOST 1048576: true; the input reads as it did. -/
def memKeepsUptoRow : OpenClaim := { program := "ytffahdloddkcfaa", sum := "db11d452337eb976a1f73ba147975e88c3c29d87c2c766e127b55dee89cf83b7", func := "atlas/atlaslaw03.MemKeeps", spec := "memKeeps", inPlace := ["slices.overlaps[atlas/api.Cell]"], unfollowed := true, recurses := true, apart := false, narrowed := true }
def MemKeepsUptoSaid : Prop := memKeepsUptoRow.holds Try.pinned (OpenSpec.upto memKeepsSpec)

/-- 'atlaslaw03.MemHalves', WHERE WHAT IT READS IS OF BULK AT MOST 1048576: true; the input reads as it did. -/
def memHalvesUptoRow : OpenClaim := { program := "ytffahdloddkcfaa", sum := "db11d452337eb976a1f73ba147975e88c3c29d87c2c766e127b55dee89cf83b7", func := "atlas/atlaslaw03.MemHalves", spec := "memHalves", inPlace := ["slices.overlaps[atlas/api.Cell]"], unfollowed := true, recurses := true, apart := false, narrowed := true }
def MemHalvesUptoSaid : Prop := memHalvesUptoRow.holds Try.pinned (OpenSpec.upto memHalvesSpec)

end Rows
end Go.Proofs.Ytffahdloddkcfaa
