/-
  NARROWER THAN 'FOR EVERY INPUT', by the rows' own cells (each row's printed sentence says how): PlruTrees: laid · PlruAway: laid · PlruAll: laid · PlruPair: laid.
  DERIVED. THE GIVEN ROWS OF THIS SEAT. 4 by the template 'for every input the law returns true; each argument reads behind the call as it read before'; 0 by the template 'total and deterministic' (their statements: YtlijmagfmkfdoaaDoorTotals.lean).
  GIVEN WITH THE SEED: the statements are not yours to turn. If you find one false, say at which input.
  Laid BY PROGRAM, IN A SANDBOX (cutbox-rows.mjs): the forced cells as the released guide's own fill.sh prints them over the translation 427742c34ba4ecb8… (all of the seat's roots in one cut). By AI agents, Wed Nov 11 2026. No macro, syntax, notation, axiom, sorry.
-/
import Derived.Test.YtlijmagfmkfdoaaDoorChecked
import GoSem.Claim
import GoSem.ClaimJoined
import GoSem.ClaimMapViews
import Derived.JoinedTies
import Derived.KernelRfl
namespace Go.Proofs.YtlijmagfmkfdoaaDoor
/- THE CELL 'sum', in the pinned program and in every row, IS THE sha256 OF THE DUMP (.gsa) THAT YtlijmagfmkfdoaaDoorProg.lean LOADS. Nothing in Lean hashes anything: it is a label: what it is worth is what the hold of that sum in a sandbox is worth. -/
noncomputable def Tryd.pinned : Pinned := { name := "ytlijmagfmkfdoaadoor", sum := "427742c34ba4ecb8e125664e3d50837cfa32b430887f3463726d5a2afc98ddf0", checked := Tryd.checked }
namespace Rows
def none {H : Type} : Left H := { results := [], args := [] }

/- WHAT THE LISTED PACKAGE-LEVEL VARIABLES READ AS WHEN THE CALL BEGINS. Each datum BY PROGRAM (the guide's laid-datum.mjs) off the statement by which the dump's own 'gosem.cut.vars' lays the variable. In a bare row this is a premise. The card (YtlijmagfmkfdoaaDoorCards.lean) ties it to the program's text. -/
def laid_atlas_plru_touches {H : Type} : DataW H := .agg [.agg [.lit (.int .u8 3), .lit (.int .u8 0)], .agg [.lit (.int .u8 1), .lit (.int .u8 2)], .agg [.lit (.int .u8 4), .lit (.int .u8 1)], .agg [.lit (.int .u8 0), .lit (.int .u8 5)]]

/-- 'atlaslaw11.PlruTrees': WHATEVER THE INPUT: true; the input reads as it did. -/
def plruTreesSpec : ChangeSpec := { name := "plruTrees", fn := fun _ => fun
  | [d1, d2] => { results := [.lit (.bool true)], args := [d1, d2] }
  | _ => none }
def plruTreesRow : OpenClaim := { program := "ytlijmagfmkfdoaadoor", sum := "427742c34ba4ecb8e125664e3d50837cfa32b430887f3463726d5a2afc98ddf0", func := "atlas/atlaslaw11.PlruTrees", spec := "plruTrees", named := ["atlas/plru.touches"], apart := false, laid := [("atlas/plru.touches", laid_atlas_plru_touches)] }
def PlruTreesSaid : Prop := plruTreesRow.holds Tryd.pinned (OpenSpec.ofChange plruTreesSpec)

/-- ITS FALSE NEIGHBOUR: 'it returns false'. Refute it at one input. -/
def plruTreesWrong : ChangeSpec := { name := "plruTrees", fn := fun _ => fun
  | [d1, d2] => { results := [.lit (.bool false)], args := [d1, d2] }
  | _ => none }
def PlruTreesWrongFalsely : Prop := plruTreesRow.holds Tryd.pinned (OpenSpec.ofChange plruTreesWrong)

/-- 'atlaslaw11.PlruAway': WHATEVER THE INPUT: true; the input reads as it did. -/
def plruAwaySpec : ChangeSpec := { name := "plruAway", fn := fun _ => fun
  | [d1, d2] => { results := [.lit (.bool true)], args := [d1, d2] }
  | _ => none }
def plruAwayRow : OpenClaim := { program := "ytlijmagfmkfdoaadoor", sum := "427742c34ba4ecb8e125664e3d50837cfa32b430887f3463726d5a2afc98ddf0", func := "atlas/atlaslaw11.PlruAway", spec := "plruAway", named := ["atlas/plru.touches"], apart := false, laid := [("atlas/plru.touches", laid_atlas_plru_touches)] }
def PlruAwaySaid : Prop := plruAwayRow.holds Tryd.pinned (OpenSpec.ofChange plruAwaySpec)

/-- ITS FALSE NEIGHBOUR: 'it returns false'. Refute it at one input. -/
def plruAwayWrong : ChangeSpec := { name := "plruAway", fn := fun _ => fun
  | [d1, d2] => { results := [.lit (.bool false)], args := [d1, d2] }
  | _ => none }
def PlruAwayWrongFalsely : Prop := plruAwayRow.holds Tryd.pinned (OpenSpec.ofChange plruAwayWrong)

/-- 'atlaslaw11.PlruAll': WHATEVER THE INPUT: true; the input reads as it did. -/
def plruAllSpec : ChangeSpec := { name := "plruAll", fn := fun _ => fun
  | [d] => { results := [.lit (.bool true)], args := [d] }
  | _ => none }
def plruAllRow : OpenClaim := { program := "ytlijmagfmkfdoaadoor", sum := "427742c34ba4ecb8e125664e3d50837cfa32b430887f3463726d5a2afc98ddf0", func := "atlas/atlaslaw11.PlruAll", spec := "plruAll", named := ["atlas/plru.touches"], apart := false, laid := [("atlas/plru.touches", laid_atlas_plru_touches)] }
def PlruAllSaid : Prop := plruAllRow.holds Tryd.pinned (OpenSpec.ofChange plruAllSpec)

/-- ITS FALSE NEIGHBOUR: 'it returns false'. Refute it at one input. -/
def plruAllWrong : ChangeSpec := { name := "plruAll", fn := fun _ => fun
  | [d] => { results := [.lit (.bool false)], args := [d] }
  | _ => none }
def PlruAllWrongFalsely : Prop := plruAllRow.holds Tryd.pinned (OpenSpec.ofChange plruAllWrong)

/-- 'atlaslaw11.PlruPair': WHATEVER THE INPUT: true; the input reads as it did. -/
def plruPairSpec : ChangeSpec := { name := "plruPair", fn := fun _ => fun
  | [d1, d2, d3] => { results := [.lit (.bool true)], args := [d1, d2, d3] }
  | _ => none }
def plruPairRow : OpenClaim := { program := "ytlijmagfmkfdoaadoor", sum := "427742c34ba4ecb8e125664e3d50837cfa32b430887f3463726d5a2afc98ddf0", func := "atlas/atlaslaw11.PlruPair", spec := "plruPair", named := ["atlas/plru.touches"], apart := false, laid := [("atlas/plru.touches", laid_atlas_plru_touches)] }
def PlruPairSaid : Prop := plruPairRow.holds Tryd.pinned (OpenSpec.ofChange plruPairSpec)

/-- ITS FALSE NEIGHBOUR: 'it returns false'. Refute it at one input. -/
def plruPairWrong : ChangeSpec := { name := "plruPair", fn := fun _ => fun
  | [d1, d2, d3] => { results := [.lit (.bool false)], args := [d1, d2, d3] }
  | _ => none }
def PlruPairWrongFalsely : Prop := plruPairRow.holds Tryd.pinned (OpenSpec.ofChange plruPairWrong)

/- THE SECOND FORM. 'bulk': how many values and letters a reading holds, each counted each time it is reached (what is shared counts as often as it is met; a slice's spare places count too). A statement '..UptoSaid' is the law's where the arguments, and the package variables that the reading takes, are together of bulk at most 1048576: NARROWER than '..Said'. Prove '..Said' where nothing that the law and all that it calls make is longer than what came in: it says more and counts as full. Else prove '..UptoSaid'. A law counts once. -/
mutual
def uptoBulk {H : Type} : DataW H → Nat
  | .lit (.string bytes) => bytes.length + 1
  | .lit _ => 1
  | .nil => 1
  | .ptr d => uptoBulk d + 1
  | .slice elems spare => uptoBulkAll elems + uptoBulkAll spare + 1
  | .agg parts => uptoBulkAll parts + 1
  | .iface _ d => uptoBulk d + 1
  | .map entries => uptoBulkEntries entries + 1
  | .held _ => 1
def uptoBulkAll {H : Type} : List (DataW H) → Nat
  | [] => 0
  | d :: r => uptoBulk d + uptoBulkAll r
def uptoBulkEntries {H : Type} : List (Lit × DataW H) → Nat
  | [] => 0
  | x :: r => uptoBulkEntry x + uptoBulkEntries r
def uptoBulkEntry {H : Type} : Lit × DataW H → Nat
  | (.string bytes, d) => bytes.length + uptoBulk d + 1
  | (_, d) => uptoBulk d + 1
 end
def uptoSmall : (H : Type) → List (DataW H) → Bool := fun _ ds => decide (uptoBulkAll ds ≤ 1048576)
def OpenSpec.upto (s : _root_.Go.ChangeSpec) : _root_.Go.OpenSpec := { _root_.Go.OpenSpec.ofChange s with cond := some uptoSmall }

/-- 'atlaslaw11.PlruTrees', WHERE WHAT IT READS IS OF BULK AT MOST 1048576: true; the input reads as it did. -/
def plruTreesUptoRow : OpenClaim := { program := "ytlijmagfmkfdoaadoor", sum := "427742c34ba4ecb8e125664e3d50837cfa32b430887f3463726d5a2afc98ddf0", func := "atlas/atlaslaw11.PlruTrees", spec := "plruTrees", named := ["atlas/plru.touches"], apart := false, laid := [("atlas/plru.touches", laid_atlas_plru_touches)], narrowed := true }
def PlruTreesUptoSaid : Prop := plruTreesUptoRow.holds Tryd.pinned (OpenSpec.upto plruTreesSpec)

/-- 'atlaslaw11.PlruAway', WHERE WHAT IT READS IS OF BULK AT MOST 1048576: true; the input reads as it did. -/
def plruAwayUptoRow : OpenClaim := { program := "ytlijmagfmkfdoaadoor", sum := "427742c34ba4ecb8e125664e3d50837cfa32b430887f3463726d5a2afc98ddf0", func := "atlas/atlaslaw11.PlruAway", spec := "plruAway", named := ["atlas/plru.touches"], apart := false, laid := [("atlas/plru.touches", laid_atlas_plru_touches)], narrowed := true }
def PlruAwayUptoSaid : Prop := plruAwayUptoRow.holds Tryd.pinned (OpenSpec.upto plruAwaySpec)

/-- 'atlaslaw11.PlruAll', WHERE WHAT IT READS IS OF BULK AT MOST 1048576: true; the input reads as it did. -/
def plruAllUptoRow : OpenClaim := { program := "ytlijmagfmkfdoaadoor", sum := "427742c34ba4ecb8e125664e3d50837cfa32b430887f3463726d5a2afc98ddf0", func := "atlas/atlaslaw11.PlruAll", spec := "plruAll", named := ["atlas/plru.touches"], apart := false, laid := [("atlas/plru.touches", laid_atlas_plru_touches)], narrowed := true }
def PlruAllUptoSaid : Prop := plruAllUptoRow.holds Tryd.pinned (OpenSpec.upto plruAllSpec)

/-- 'atlaslaw11.PlruPair', WHERE WHAT IT READS IS OF BULK AT MOST 1048576: true; the input reads as it did. -/
def plruPairUptoRow : OpenClaim := { program := "ytlijmagfmkfdoaadoor", sum := "427742c34ba4ecb8e125664e3d50837cfa32b430887f3463726d5a2afc98ddf0", func := "atlas/atlaslaw11.PlruPair", spec := "plruPair", named := ["atlas/plru.touches"], apart := false, laid := [("atlas/plru.touches", laid_atlas_plru_touches)], narrowed := true }
def PlruPairUptoSaid : Prop := plruPairUptoRow.holds Tryd.pinned (OpenSpec.upto plruPairSpec)

end Rows
end Go.Proofs.YtlijmagfmkfdoaaDoor
