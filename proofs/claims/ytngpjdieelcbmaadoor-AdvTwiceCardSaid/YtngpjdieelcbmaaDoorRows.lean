/-
  NARROWER THAN 'FOR EVERY INPUT', by the rows' own cells (each row's printed sentence says how): AdvKeeps: laid · AdvTwice: laid.
  DERIVED. THE GIVEN ROWS OF THIS SEAT. 2 by the template 'for every input the law returns true; each argument reads behind the call as it read before'; 0 by the template 'total and deterministic' (their statements: YtngpjdieelcbmaaDoorTotals.lean).
  GIVEN WITH THE SEED: the statements are not yours to turn. If you find one false, say at which input.
  Laid BY PROGRAM, IN A SANDBOX (cutbox-rows.mjs): the forced cells as the released guide's own fill.sh prints them over the translation f1a43724a043987f… (all of the seat's roots in one cut). By AI agents, Wed Nov 11 2026. No macro, syntax, notation, axiom, sorry.
-/
import Derived.Test.YtngpjdieelcbmaaDoorChecked
import GoSem.Claim
import GoSem.ClaimJoined
import GoSem.ClaimMapViews
import Derived.JoinedTies
import Derived.KernelRfl
namespace Go.Proofs.YtngpjdieelcbmaaDoor
/- THE CELL 'sum', in the pinned program and in every row, IS THE sha256 OF THE DUMP (.gsa) THAT YtngpjdieelcbmaaDoorProg.lean LOADS. Nothing in Lean hashes anything: it is a label: what it is worth is what the hold of that sum in a sandbox is worth. -/
noncomputable def Tryd.pinned : Pinned := { name := "ytngpjdieelcbmaadoor", sum := "f1a43724a043987f71790d23e78b1a975cd2f32fdb6ebda8571aa1e9dee724ad", checked := Tryd.checked }
namespace Rows
def none {H : Type} : Left H := { results := [], args := [] }

/- WHAT THE LISTED PACKAGE-LEVEL VARIABLES READ AS WHEN THE CALL BEGINS. Each datum BY PROGRAM (the guide's laid-datum.mjs) off the statement by which the dump's own 'gosem.cut.vars' lays the variable. In a bare row this is a premise. The card (YtngpjdieelcbmaaDoorCards.lean) ties it to the program's text. -/
def laid_atlas_cause_causes {H : Type} : DataW H := .agg [.agg [.lit (.int .i64 0), .lit (.int .i64 4), .lit (.int .i64 6)], .agg [.lit (.int .i64 1), .lit (.int .i64 5), .lit (.int .i64 7)], .agg [.lit (.int .i64 12), .lit (.int .i64 13), .lit (.int .i64 15)]]
def laid_atlas_plru_touches {H : Type} : DataW H := .agg [.agg [.lit (.int .u8 3), .lit (.int .u8 0)], .agg [.lit (.int .u8 1), .lit (.int .u8 2)], .agg [.lit (.int .u8 4), .lit (.int .u8 1)], .agg [.lit (.int .u8 0), .lit (.int .u8 5)]]
def laid_atlas_va_sizes {H : Type} : DataW H := .agg [.lit (.int .u64 4096), .lit (.int .u64 2097152), .lit (.int .u64 1073741824)]

/-- 'atlaslaw17.AdvKeeps': WHATEVER THE INPUT: true; the input reads as it did. -/
def advKeepsSpec : ChangeSpec := { name := "advKeeps", fn := fun _ => fun
  | [d1, d2, d3, d4, d5, d6] => { results := [.lit (.bool true)], args := [d1, d2, d3, d4, d5, d6] }
  | _ => none }
def advKeepsRow : OpenClaim := { program := "ytngpjdieelcbmaadoor", sum := "f1a43724a043987f71790d23e78b1a975cd2f32fdb6ebda8571aa1e9dee724ad", func := "atlas/atlaslaw17.AdvKeeps", spec := "advKeeps", inPlace := ["slices.overlaps[atlas/api.Cell]"], unfollowed := true, recurses := true, named := ["atlas/cause.causes", "atlas/va.sizes", "atlas/plru.touches"], apart := false, laid := [("atlas/cause.causes", laid_atlas_cause_causes), ("atlas/plru.touches", laid_atlas_plru_touches), ("atlas/va.sizes", laid_atlas_va_sizes)] }
def AdvKeepsSaid : Prop := advKeepsRow.holds Tryd.pinned (OpenSpec.ofChange advKeepsSpec)

/-- ITS FALSE NEIGHBOUR: 'it returns false'. Refute it at one input. -/
def advKeepsWrong : ChangeSpec := { name := "advKeeps", fn := fun _ => fun
  | [d1, d2, d3, d4, d5, d6] => { results := [.lit (.bool false)], args := [d1, d2, d3, d4, d5, d6] }
  | _ => none }
def AdvKeepsWrongFalsely : Prop := advKeepsRow.holds Tryd.pinned (OpenSpec.ofChange advKeepsWrong)

/-- 'atlaslaw17.AdvTwice': WHATEVER THE INPUT: true; the input reads as it did. -/
def advTwiceSpec : ChangeSpec := { name := "advTwice", fn := fun _ => fun
  | [d1, d2, d3, d4, d5] => { results := [.lit (.bool true)], args := [d1, d2, d3, d4, d5] }
  | _ => none }
def advTwiceRow : OpenClaim := { program := "ytngpjdieelcbmaadoor", sum := "f1a43724a043987f71790d23e78b1a975cd2f32fdb6ebda8571aa1e9dee724ad", func := "atlas/atlaslaw17.AdvTwice", spec := "advTwice", inPlace := ["slices.overlaps[atlas/api.Cell]"], unfollowed := true, recurses := true, named := ["atlas/cause.causes", "atlas/va.sizes", "atlas/plru.touches"], apart := false, laid := [("atlas/cause.causes", laid_atlas_cause_causes), ("atlas/plru.touches", laid_atlas_plru_touches), ("atlas/va.sizes", laid_atlas_va_sizes)] }
def AdvTwiceSaid : Prop := advTwiceRow.holds Tryd.pinned (OpenSpec.ofChange advTwiceSpec)

/-- ITS FALSE NEIGHBOUR: 'it returns false'. Refute it at one input. -/
def advTwiceWrong : ChangeSpec := { name := "advTwice", fn := fun _ => fun
  | [d1, d2, d3, d4, d5] => { results := [.lit (.bool false)], args := [d1, d2, d3, d4, d5] }
  | _ => none }
def AdvTwiceWrongFalsely : Prop := advTwiceRow.holds Tryd.pinned (OpenSpec.ofChange advTwiceWrong)

/- THE SECOND FORM. 'bulk': how many values and letters a reading holds, each counted each time it is reached (what is shared counts as often as it is met; a slice's spare places count too). A statement '..UptoSaid' is the law's where the arguments, and the package variables that the reading takes, are together of bulk at most 1048576: NARROWER than '..Said'. Prove '..Said' where nothing that the law and all that it calls make is longer than what came in: it says more and counts as full. Else prove '..UptoSaid'. A law counts once. -/
mutual
def uptoBulk {H : Type} : DataW H → Nat
  | .lit (.string bytes) => bytes.length + 1
  | .lit _ => 1
  | .nil => 1
  | .ptr d => uptoBulk d + 1
  | .slice elems spare => uptoBulkAll elems + uptoBulkAll spare + 1
  | .agg parts => uptoBulkAll parts + 1
  | .iface _ d => uptoBulk d + 1
  | .map entries => uptoBulkEntries entries + 1
  | .held _ => 1
def uptoBulkAll {H : Type} : List (DataW H) → Nat
  | [] => 0
  | d :: r => uptoBulk d + uptoBulkAll r
def uptoBulkEntries {H : Type} : List (Lit × DataW H) → Nat
  | [] => 0
  | x :: r => uptoBulkEntry x + uptoBulkEntries r
def uptoBulkEntry {H : Type} : Lit × DataW H → Nat
  | (.string bytes, d) => bytes.length + uptoBulk d + 1
  | (_, d) => uptoBulk d + 1
 end
def uptoSmall : (H : Type) → List (DataW H) → Bool := fun _ ds => decide (uptoBulkAll ds ≤ 1048576)
def OpenSpec.upto (s : _root_.Go.ChangeSpec) : _root_.Go.OpenSpec := { _root_.Go.OpenSpec.ofChange s with cond := some uptoSmall }

/-- 'atlaslaw17.AdvKeeps', WHERE WHAT IT READS IS OF BULK AT MOST 1048576: true; the input reads as it did. -/
def advKeepsUptoRow : OpenClaim := { program := "ytngpjdieelcbmaadoor", sum := "f1a43724a043987f71790d23e78b1a975cd2f32fdb6ebda8571aa1e9dee724ad", func := "atlas/atlaslaw17.AdvKeeps", spec := "advKeeps", inPlace := ["slices.overlaps[atlas/api.Cell]"], unfollowed := true, recurses := true, named := ["atlas/cause.causes", "atlas/va.sizes", "atlas/plru.touches"], apart := false, laid := [("atlas/cause.causes", laid_atlas_cause_causes), ("atlas/plru.touches", laid_atlas_plru_touches), ("atlas/va.sizes", laid_atlas_va_sizes)], narrowed := true }
def AdvKeepsUptoSaid : Prop := advKeepsUptoRow.holds Tryd.pinned (OpenSpec.upto advKeepsSpec)

/-- 'atlaslaw17.AdvTwice', WHERE WHAT IT READS IS OF BULK AT MOST 1048576: true; the input reads as it did. -/
def advTwiceUptoRow : OpenClaim := { program := "ytngpjdieelcbmaadoor", sum := "f1a43724a043987f71790d23e78b1a975cd2f32fdb6ebda8571aa1e9dee724ad", func := "atlas/atlaslaw17.AdvTwice", spec := "advTwice", inPlace := ["slices.overlaps[atlas/api.Cell]"], unfollowed := true, recurses := true, named := ["atlas/cause.causes", "atlas/va.sizes", "atlas/plru.touches"], apart := false, laid := [("atlas/cause.causes", laid_atlas_cause_causes), ("atlas/plru.touches", laid_atlas_plru_touches), ("atlas/va.sizes", laid_atlas_va_sizes)], narrowed := true }
def AdvTwiceUptoSaid : Prop := advTwiceUptoRow.holds Tryd.pinned (OpenSpec.upto advTwiceSpec)

end Rows
end Go.Proofs.YtngpjdieelcbmaaDoor
