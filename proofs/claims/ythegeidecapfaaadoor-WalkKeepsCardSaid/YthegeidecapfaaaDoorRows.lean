/-
  NARROWER THAN 'FOR EVERY INPUT', by the rows' own cells (each row's printed sentence says how): WalkLooks: laid · WalkWalks: laid · WalkTells: laid · WalkNear: laid · WalkKeeps: laid · WalkWays: laid.
  DERIVED. THE GIVEN ROWS OF THIS SEAT. 6 by the template 'for every input the law returns true; each argument reads behind the call as it read before'; 0 by the template 'total and deterministic' (their statements: YthegeidecapfaaaDoorTotals.lean).
  GIVEN WITH THE SEED: the statements are not yours to turn. If you find one false, say at which input.
  Laid BY PROGRAM, IN A SANDBOX (cutbox-rows.mjs): the forced cells as the released guide's own fill.sh prints them over the translation 740e067878a455fc… (all of the seat's roots in one cut). By AI agents, Wed Nov 11 2026. No macro, syntax, notation, axiom, sorry.
-/
import Derived.Test.YthegeidecapfaaaDoorChecked
import GoSem.Claim
import GoSem.ClaimJoined
import GoSem.ClaimMapViews
import Derived.JoinedTies
import Derived.KernelRfl
namespace Go.Proofs.YthegeidecapfaaaDoor
/- THE CELL 'sum', in the pinned program and in every row, IS THE sha256 OF THE DUMP (.gsa) THAT YthegeidecapfaaaDoorProg.lean LOADS. Nothing in Lean hashes anything: it is a label: what it is worth is what the hold of that sum in a sandbox is worth. -/
noncomputable def Tryd.pinned : Pinned := { name := "ythegeidecapfaaadoor", sum := "740e067878a455fc425c492a58464112237e0bec75424fce164004d399027ae6", checked := Tryd.checked }
namespace Rows
def none {H : Type} : Left H := { results := [], args := [] }

/- WHAT THE LISTED PACKAGE-LEVEL VARIABLES READ AS WHEN THE CALL BEGINS. Each datum BY PROGRAM (the guide's laid-datum.mjs) off the statement by which the dump's own 'gosem.cut.vars' lays the variable. In a bare row this is a premise. The card (YthegeidecapfaaaDoorCards.lean) ties it to the program's text. -/
def laid_atlas_cause_causes {H : Type} : DataW H := .agg [.agg [.lit (.int .i64 0), .lit (.int .i64 4), .lit (.int .i64 6)], .agg [.lit (.int .i64 1), .lit (.int .i64 5), .lit (.int .i64 7)], .agg [.lit (.int .i64 12), .lit (.int .i64 13), .lit (.int .i64 15)]]
def laid_atlas_perm_asks {H : Type} : DataW H := .iface "func table" (.agg [.iface "func" (.lit (.string [97, 116, 108, 97, 115, 47, 112, 101, 114, 109, 46, 97, 115, 107, 115, 36, 49])), .iface "func" (.lit (.string [97, 116, 108, 97, 115, 47, 112, 101, 114, 109, 46, 97, 115, 107, 115, 36, 50])), .iface "func" (.lit (.string [97, 116, 108, 97, 115, 47, 112, 101, 114, 109, 46, 97, 115, 107, 115, 36, 51]))])
def laid_atlas_va_sizes {H : Type} : DataW H := .agg [.lit (.int .u64 4096), .lit (.int .u64 2097152), .lit (.int .u64 1073741824)]

/-- 'atlaslaw10.WalkLooks': WHATEVER THE INPUT: true; the input reads as it did. -/
def walkLooksSpec : ChangeSpec := { name := "walkLooks", fn := fun _ => fun
  | [d1, d2, d3, d4] => { results := [.lit (.bool true)], args := [d1, d2, d3, d4] }
  | _ => none }
def walkLooksRow : OpenClaim := { program := "ythegeidecapfaaadoor", sum := "740e067878a455fc425c492a58464112237e0bec75424fce164004d399027ae6", func := "atlas/atlaslaw10.WalkLooks", spec := "walkLooks", inPlace := ["slices.overlaps[atlas/api.Cell]"], unfollowed := true, recurses := true, named := ["atlas/cause.causes", "atlas/va.sizes", "atlas/perm.asks"], apart := false, laid := [("atlas/cause.causes", laid_atlas_cause_causes), ("atlas/perm.asks", laid_atlas_perm_asks), ("atlas/va.sizes", laid_atlas_va_sizes)] }
def WalkLooksSaid : Prop := walkLooksRow.holds Tryd.pinned (OpenSpec.ofChange walkLooksSpec)

/-- ITS FALSE NEIGHBOUR: 'it returns false'. Refute it at one input. -/
def walkLooksWrong : ChangeSpec := { name := "walkLooks", fn := fun _ => fun
  | [d1, d2, d3, d4] => { results := [.lit (.bool false)], args := [d1, d2, d3, d4] }
  | _ => none }
def WalkLooksWrongFalsely : Prop := walkLooksRow.holds Tryd.pinned (OpenSpec.ofChange walkLooksWrong)

/-- 'atlaslaw10.WalkWalks': WHATEVER THE INPUT: true; the input reads as it did. -/
def walkWalksSpec : ChangeSpec := { name := "walkWalks", fn := fun _ => fun
  | [d1, d2, d3, d4, d5] => { results := [.lit (.bool true)], args := [d1, d2, d3, d4, d5] }
  | _ => none }
def walkWalksRow : OpenClaim := { program := "ythegeidecapfaaadoor", sum := "740e067878a455fc425c492a58464112237e0bec75424fce164004d399027ae6", func := "atlas/atlaslaw10.WalkWalks", spec := "walkWalks", inPlace := ["slices.overlaps[atlas/api.Cell]"], unfollowed := true, recurses := true, named := ["atlas/cause.causes", "atlas/va.sizes", "atlas/perm.asks"], apart := false, laid := [("atlas/cause.causes", laid_atlas_cause_causes), ("atlas/perm.asks", laid_atlas_perm_asks), ("atlas/va.sizes", laid_atlas_va_sizes)] }
def WalkWalksSaid : Prop := walkWalksRow.holds Tryd.pinned (OpenSpec.ofChange walkWalksSpec)

/-- ITS FALSE NEIGHBOUR: 'it returns false'. Refute it at one input. -/
def walkWalksWrong : ChangeSpec := { name := "walkWalks", fn := fun _ => fun
  | [d1, d2, d3, d4, d5] => { results := [.lit (.bool false)], args := [d1, d2, d3, d4, d5] }
  | _ => none }
def WalkWalksWrongFalsely : Prop := walkWalksRow.holds Tryd.pinned (OpenSpec.ofChange walkWalksWrong)

/-- 'atlaslaw10.WalkTells': WHATEVER THE INPUT: true; the input reads as it did. -/
def walkTellsSpec : ChangeSpec := { name := "walkTells", fn := fun _ => fun
  | [d1, d2, d3, d4, d5] => { results := [.lit (.bool true)], args := [d1, d2, d3, d4, d5] }
  | _ => none }
def walkTellsRow : OpenClaim := { program := "ythegeidecapfaaadoor", sum := "740e067878a455fc425c492a58464112237e0bec75424fce164004d399027ae6", func := "atlas/atlaslaw10.WalkTells", spec := "walkTells", inPlace := ["slices.overlaps[atlas/api.Cell]"], unfollowed := true, recurses := true, named := ["atlas/cause.causes", "atlas/va.sizes", "atlas/perm.asks"], apart := false, laid := [("atlas/cause.causes", laid_atlas_cause_causes), ("atlas/perm.asks", laid_atlas_perm_asks), ("atlas/va.sizes", laid_atlas_va_sizes)] }
def WalkTellsSaid : Prop := walkTellsRow.holds Tryd.pinned (OpenSpec.ofChange walkTellsSpec)

/-- ITS FALSE NEIGHBOUR: 'it returns false'. Refute it at one input. -/
def walkTellsWrong : ChangeSpec := { name := "walkTells", fn := fun _ => fun
  | [d1, d2, d3, d4, d5] => { results := [.lit (.bool false)], args := [d1, d2, d3, d4, d5] }
  | _ => none }
def WalkTellsWrongFalsely : Prop := walkTellsRow.holds Tryd.pinned (OpenSpec.ofChange walkTellsWrong)

/-- 'atlaslaw10.WalkNear': WHATEVER THE INPUT: true; the input reads as it did. -/
def walkNearSpec : ChangeSpec := { name := "walkNear", fn := fun _ => fun
  | [d1, d2, d3, d4, d5, d6] => { results := [.lit (.bool true)], args := [d1, d2, d3, d4, d5, d6] }
  | _ => none }
def walkNearRow : OpenClaim := { program := "ythegeidecapfaaadoor", sum := "740e067878a455fc425c492a58464112237e0bec75424fce164004d399027ae6", func := "atlas/atlaslaw10.WalkNear", spec := "walkNear", inPlace := ["slices.overlaps[atlas/api.Cell]"], unfollowed := true, recurses := true, named := ["atlas/cause.causes", "atlas/va.sizes", "atlas/perm.asks"], apart := false, laid := [("atlas/cause.causes", laid_atlas_cause_causes), ("atlas/perm.asks", laid_atlas_perm_asks), ("atlas/va.sizes", laid_atlas_va_sizes)] }
def WalkNearSaid : Prop := walkNearRow.holds Tryd.pinned (OpenSpec.ofChange walkNearSpec)

/-- ITS FALSE NEIGHBOUR: 'it returns false'. Refute it at one input. -/
def walkNearWrong : ChangeSpec := { name := "walkNear", fn := fun _ => fun
  | [d1, d2, d3, d4, d5, d6] => { results := [.lit (.bool false)], args := [d1, d2, d3, d4, d5, d6] }
  | _ => none }
def WalkNearWrongFalsely : Prop := walkNearRow.holds Tryd.pinned (OpenSpec.ofChange walkNearWrong)

/-- 'atlaslaw10.WalkKeeps': WHATEVER THE INPUT: true; the input reads as it did. -/
def walkKeepsSpec : ChangeSpec := { name := "walkKeeps", fn := fun _ => fun
  | [d1, d2, d3, d4] => { results := [.lit (.bool true)], args := [d1, d2, d3, d4] }
  | _ => none }
def walkKeepsRow : OpenClaim := { program := "ythegeidecapfaaadoor", sum := "740e067878a455fc425c492a58464112237e0bec75424fce164004d399027ae6", func := "atlas/atlaslaw10.WalkKeeps", spec := "walkKeeps", inPlace := ["slices.overlaps[atlas/api.Cell]"], unfollowed := true, recurses := true, named := ["atlas/cause.causes", "atlas/va.sizes", "atlas/perm.asks"], apart := false, laid := [("atlas/cause.causes", laid_atlas_cause_causes), ("atlas/perm.asks", laid_atlas_perm_asks), ("atlas/va.sizes", laid_atlas_va_sizes)] }
def WalkKeepsSaid : Prop := walkKeepsRow.holds Tryd.pinned (OpenSpec.ofChange walkKeepsSpec)

/-- ITS FALSE NEIGHBOUR: 'it returns false'. Refute it at one input. -/
def walkKeepsWrong : ChangeSpec := { name := "walkKeeps", fn := fun _ => fun
  | [d1, d2, d3, d4] => { results := [.lit (.bool false)], args := [d1, d2, d3, d4] }
  | _ => none }
def WalkKeepsWrongFalsely : Prop := walkKeepsRow.holds Tryd.pinned (OpenSpec.ofChange walkKeepsWrong)

/-- 'atlaslaw10.WalkWays': WHATEVER THE INPUT: true; the input reads as it did. -/
def walkWaysSpec : ChangeSpec := { name := "walkWays", fn := fun _ => fun
  | [d1, d2, d3, d4, d5] => { results := [.lit (.bool true)], args := [d1, d2, d3, d4, d5] }
  | _ => none }
def walkWaysRow : OpenClaim := { program := "ythegeidecapfaaadoor", sum := "740e067878a455fc425c492a58464112237e0bec75424fce164004d399027ae6", func := "atlas/atlaslaw10.WalkWays", spec := "walkWays", inPlace := ["slices.overlaps[atlas/api.Cell]"], unfollowed := true, recurses := true, named := ["atlas/cause.causes", "atlas/va.sizes", "atlas/perm.asks"], apart := false, laid := [("atlas/cause.causes", laid_atlas_cause_causes), ("atlas/perm.asks", laid_atlas_perm_asks), ("atlas/va.sizes", laid_atlas_va_sizes)] }
def WalkWaysSaid : Prop := walkWaysRow.holds Tryd.pinned (OpenSpec.ofChange walkWaysSpec)

/-- ITS FALSE NEIGHBOUR: 'it returns false'. Refute it at one input. -/
def walkWaysWrong : ChangeSpec := { name := "walkWays", fn := fun _ => fun
  | [d1, d2, d3, d4, d5] => { results := [.lit (.bool false)], args := [d1, d2, d3, d4, d5] }
  | _ => none }
def WalkWaysWrongFalsely : Prop := walkWaysRow.holds Tryd.pinned (OpenSpec.ofChange walkWaysWrong)

/- THE SECOND FORM. 'bulk': how many values and letters a reading holds, each counted each time it is reached (what is shared counts as often as it is met; a slice's spare places count too). A statement '..UptoSaid' is the law's where the arguments, and the package variables that the reading takes, are together of bulk at most 1048576: NARROWER than '..Said'. Prove '..Said' where nothing that the law and all that it calls make is longer than what came in: it says more and counts as full. Else prove '..UptoSaid'. A law counts once. -/
mutual
def uptoBulk {H : Type} : DataW H → Nat
  | .lit (.string bytes) => bytes.length + 1
  | .lit _ => 1
  | .nil => 1
  | .ptr d => uptoBulk d + 1
  | .slice elems spare => uptoBulkAll elems + uptoBulkAll spare + 1
  | .agg parts => uptoBulkAll parts + 1
  | .iface _ d => uptoBulk d + 1
  | .map entries => uptoBulkEntries entries + 1
  | .held _ => 1
def uptoBulkAll {H : Type} : List (DataW H) → Nat
  | [] => 0
  | d :: r => uptoBulk d + uptoBulkAll r
def uptoBulkEntries {H : Type} : List (Lit × DataW H) → Nat
  | [] => 0
  | x :: r => uptoBulkEntry x + uptoBulkEntries r
def uptoBulkEntry {H : Type} : Lit × DataW H → Nat
  | (.string bytes, d) => bytes.length + uptoBulk d + 1
  | (_, d) => uptoBulk d + 1
 end
def uptoSmall : (H : Type) → List (DataW H) → Bool := fun _ ds => decide (uptoBulkAll ds ≤ 1048576)
def OpenSpec.upto (s : _root_.Go.ChangeSpec) : _root_.Go.OpenSpec := { _root_.Go.OpenSpec.ofChange s with cond := some uptoSmall }

/-- 'atlaslaw10.WalkLooks', WHERE WHAT IT READS IS OF BULK AT MOST 1048576: true; the input reads as it did. -/
def walkLooksUptoRow : OpenClaim := { program := "ythegeidecapfaaadoor", sum := "740e067878a455fc425c492a58464112237e0bec75424fce164004d399027ae6", func := "atlas/atlaslaw10.WalkLooks", spec := "walkLooks", inPlace := ["slices.overlaps[atlas/api.Cell]"], unfollowed := true, recurses := true, named := ["atlas/cause.causes", "atlas/va.sizes", "atlas/perm.asks"], apart := false, laid := [("atlas/cause.causes", laid_atlas_cause_causes), ("atlas/perm.asks", laid_atlas_perm_asks), ("atlas/va.sizes", laid_atlas_va_sizes)], narrowed := true }
def WalkLooksUptoSaid : Prop := walkLooksUptoRow.holds Tryd.pinned (OpenSpec.upto walkLooksSpec)

/-- 'atlaslaw10.WalkWalks', WHERE WHAT IT READS IS OF BULK AT MOST 1048576: true; the input reads as it did. -/
def walkWalksUptoRow : OpenClaim := { program := "ythegeidecapfaaadoor", sum := "740e067878a455fc425c492a58464112237e0bec75424fce164004d399027ae6", func := "atlas/atlaslaw10.WalkWalks", spec := "walkWalks", inPlace := ["slices.overlaps[atlas/api.Cell]"], unfollowed := true, recurses := true, named := ["atlas/cause.causes", "atlas/va.sizes", "atlas/perm.asks"], apart := false, laid := [("atlas/cause.causes", laid_atlas_cause_causes), ("atlas/perm.asks", laid_atlas_perm_asks), ("atlas/va.sizes", laid_atlas_va_sizes)], narrowed := true }
def WalkWalksUptoSaid : Prop := walkWalksUptoRow.holds Tryd.pinned (OpenSpec.upto walkWalksSpec)

/-- 'atlaslaw10.WalkTells', WHERE WHAT IT READS IS OF BULK AT MOST 1048576: true; the input reads as it did. -/
def walkTellsUptoRow : OpenClaim := { program := "ythegeidecapfaaadoor", sum := "740e067878a455fc425c492a58464112237e0bec75424fce164004d399027ae6", func := "atlas/atlaslaw10.WalkTells", spec := "walkTells", inPlace := ["slices.overlaps[atlas/api.Cell]"], unfollowed := true, recurses := true, named := ["atlas/cause.causes", "atlas/va.sizes", "atlas/perm.asks"], apart := false, laid := [("atlas/cause.causes", laid_atlas_cause_causes), ("atlas/perm.asks", laid_atlas_perm_asks), ("atlas/va.sizes", laid_atlas_va_sizes)], narrowed := true }
def WalkTellsUptoSaid : Prop := walkTellsUptoRow.holds Tryd.pinned (OpenSpec.upto walkTellsSpec)

/-- 'atlaslaw10.WalkNear', WHERE WHAT IT READS IS OF BULK AT MOST 1048576: true; the input reads as it did. -/
def walkNearUptoRow : OpenClaim := { program := "ythegeidecapfaaadoor", sum := "740e067878a455fc425c492a58464112237e0bec75424fce164004d399027ae6", func := "atlas/atlaslaw10.WalkNear", spec := "walkNear", inPlace := ["slices.overlaps[atlas/api.Cell]"], unfollowed := true, recurses := true, named := ["atlas/cause.causes", "atlas/va.sizes", "atlas/perm.asks"], apart := false, laid := [("atlas/cause.causes", laid_atlas_cause_causes), ("atlas/perm.asks", laid_atlas_perm_asks), ("atlas/va.sizes", laid_atlas_va_sizes)], narrowed := true }
def WalkNearUptoSaid : Prop := walkNearUptoRow.holds Tryd.pinned (OpenSpec.upto walkNearSpec)

/-- 'atlaslaw10.WalkKeeps', WHERE WHAT IT READS IS OF BULK AT MOST 1048576: true; the input reads as it did. -/
def walkKeepsUptoRow : OpenClaim := { program := "ythegeidecapfaaadoor", sum := "740e067878a455fc425c492a58464112237e0bec75424fce164004d399027ae6", func := "atlas/atlaslaw10.WalkKeeps", spec := "walkKeeps", inPlace := ["slices.overlaps[atlas/api.Cell]"], unfollowed := true, recurses := true, named := ["atlas/cause.causes", "atlas/va.sizes", "atlas/perm.asks"], apart := false, laid := [("atlas/cause.causes", laid_atlas_cause_causes), ("atlas/perm.asks", laid_atlas_perm_asks), ("atlas/va.sizes", laid_atlas_va_sizes)], narrowed := true }
def WalkKeepsUptoSaid : Prop := walkKeepsUptoRow.holds Tryd.pinned (OpenSpec.upto walkKeepsSpec)

/-- 'atlaslaw10.WalkWays', WHERE WHAT IT READS IS OF BULK AT MOST 1048576: true; the input reads as it did. -/
def walkWaysUptoRow : OpenClaim := { program := "ythegeidecapfaaadoor", sum := "740e067878a455fc425c492a58464112237e0bec75424fce164004d399027ae6", func := "atlas/atlaslaw10.WalkWays", spec := "walkWays", inPlace := ["slices.overlaps[atlas/api.Cell]"], unfollowed := true, recurses := true, named := ["atlas/cause.causes", "atlas/va.sizes", "atlas/perm.asks"], apart := false, laid := [("atlas/cause.causes", laid_atlas_cause_causes), ("atlas/perm.asks", laid_atlas_perm_asks), ("atlas/va.sizes", laid_atlas_va_sizes)], narrowed := true }
def WalkWaysUptoSaid : Prop := walkWaysUptoRow.holds Tryd.pinned (OpenSpec.upto walkWaysSpec)

end Rows
end Go.Proofs.YthegeidecapfaaaDoor
