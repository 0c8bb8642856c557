/-
  NARROWER THAN 'FOR EVERY INPUT', by the rows' own cells (each row's printed sentence says how): AdvSilent: laid.
  DERIVED. THE GIVEN ROWS OF THIS SEAT. 1 by the template 'for every input the law returns true; each argument reads behind the call as it read before'; 0 by the template 'total and deterministic' (their statements: YtobdkhjaipoliaaGreatDoorTotals.lean).
  GIVEN WITH THE SEED: the statements are not yours to turn. If you find one false, say at which input.
  Laid BY PROGRAM, IN A SANDBOX (cutbox-rows.mjs): the forced cells as the released guide's own fill.sh prints them over the translation db0a3424095b9e19… (all of the seat's roots in one cut). By AI agents, Wed Nov 11 2026. No macro, syntax, notation, axiom, sorry.
-/
import Derived.Test.YtobdkhjaipoliaaGreatDoorChecked
import GoSem.Claim
import GoSem.ClaimJoined
import GoSem.ClaimMapViews
import Derived.JoinedTies
import Derived.KernelRfl
namespace Go.Proofs.YtobdkhjaipoliaaGreatDoor
/- THE CELL 'sum', in the pinned program and in every row, IS THE sha256 OF THE DUMP (.gsa) THAT YtobdkhjaipoliaaGreatDoorProg.lean LOADS. Nothing in Lean hashes anything: it is a label: what it is worth is what the hold of that sum in a sandbox is worth. -/
noncomputable def Tryz.pinned : Pinned := { name := "ytobdkhjaipoliaagreatdoor", sum := "db0a3424095b9e195ab4e5a6d739dad3ab3c90661b0ada663fa635f728b7e497", checked := Tryz.checked }
namespace Rows
def none {H : Type} : Left H := { results := [], args := [] }

/- WHAT THE LISTED PACKAGE-LEVEL VARIABLES READ AS WHEN THE CALL BEGINS. Each datum BY PROGRAM (the guide's laid-datum.mjs) off the statement by which the dump's own 'gosem.cut.vars' lays the variable. In a bare row this is a premise. The card (YtobdkhjaipoliaaGreatDoorCards.lean) ties it to the program's text. -/
def laid_atlas_cause_causes {H : Type} : DataW H := .agg [.agg [.lit (.int .i64 0), .lit (.int .i64 4), .lit (.int .i64 6)], .agg [.lit (.int .i64 1), .lit (.int .i64 5), .lit (.int .i64 7)], .agg [.lit (.int .i64 12), .lit (.int .i64 13), .lit (.int .i64 15)]]
def laid_atlas_perm_asks {H : Type} : DataW H := .iface "func table" (.agg [.iface "func" (.lit (.string [97, 116, 108, 97, 115, 47, 112, 101, 114, 109, 46, 97, 115, 107, 115, 36, 49])), .iface "func" (.lit (.string [97, 116, 108, 97, 115, 47, 112, 101, 114, 109, 46, 97, 115, 107, 115, 36, 50])), .iface "func" (.lit (.string [97, 116, 108, 97, 115, 47, 112, 101, 114, 109, 46, 97, 115, 107, 115, 36, 51]))])
def laid_atlas_plru_touches {H : Type} : DataW H := .agg [.agg [.lit (.int .u8 3), .lit (.int .u8 0)], .agg [.lit (.int .u8 1), .lit (.int .u8 2)], .agg [.lit (.int .u8 4), .lit (.int .u8 1)], .agg [.lit (.int .u8 0), .lit (.int .u8 5)]]
def laid_atlas_va_sizes {H : Type} : DataW H := .agg [.lit (.int .u64 4096), .lit (.int .u64 2097152), .lit (.int .u64 1073741824)]

/-- 'atlaslaw17.AdvSilent': WHATEVER THE INPUT: true; the input reads as it did. -/
def advSilentSpec : ChangeSpec := { name := "advSilent", fn := fun _ => fun
  | [d1, d2, d3, d4, d5, d6, d7, d8, d9] => { results := [.lit (.bool true)], args := [d1, d2, d3, d4, d5, d6, d7, d8, d9] }
  | _ => none }
def advSilentRow : OpenClaim := { program := "ytobdkhjaipoliaagreatdoor", sum := "db0a3424095b9e195ab4e5a6d739dad3ab3c90661b0ada663fa635f728b7e497", func := "atlas/atlaslaw17.AdvSilent", spec := "advSilent", inPlace := ["slices.overlaps[atlas/api.Cell]"], unfollowed := true, recurses := true, named := ["atlas/cause.causes", "atlas/va.sizes", "atlas/plru.touches", "atlas/perm.asks"], apart := false, laid := [("atlas/cause.causes", laid_atlas_cause_causes), ("atlas/perm.asks", laid_atlas_perm_asks), ("atlas/plru.touches", laid_atlas_plru_touches), ("atlas/va.sizes", laid_atlas_va_sizes)] }
def AdvSilentSaid : Prop := advSilentRow.holds Tryz.pinned (OpenSpec.ofChange advSilentSpec)

/-- ITS FALSE NEIGHBOUR: 'it returns false'. Refute it at one input. -/
def advSilentWrong : ChangeSpec := { name := "advSilent", fn := fun _ => fun
  | [d1, d2, d3, d4, d5, d6, d7, d8, d9] => { results := [.lit (.bool false)], args := [d1, d2, d3, d4, d5, d6, d7, d8, d9] }
  | _ => none }
def AdvSilentWrongFalsely : Prop := advSilentRow.holds Tryz.pinned (OpenSpec.ofChange advSilentWrong)

/- THE SECOND FORM. 'bulk': how many values and letters a reading holds, each counted each time it is reached (what is shared counts as often as it is met; a slice's spare places count too). A statement '..UptoSaid' is the law's where the arguments, and the package variables that the reading takes, are together of bulk at most 1048576: NARROWER than '..Said'. Prove '..Said' where nothing that the law and all that it calls make is longer than what came in: it says more and counts as full. Else prove '..UptoSaid'. A law counts once. -/
mutual
def uptoBulk {H : Type} : DataW H → Nat
  | .lit (.string bytes) => bytes.length + 1
  | .lit _ => 1
  | .nil => 1
  | .ptr d => uptoBulk d + 1
  | .slice elems spare => uptoBulkAll elems + uptoBulkAll spare + 1
  | .agg parts => uptoBulkAll parts + 1
  | .iface _ d => uptoBulk d + 1
  | .map entries => uptoBulkEntries entries + 1
  | .held _ => 1
def uptoBulkAll {H : Type} : List (DataW H) → Nat
  | [] => 0
  | d :: r => uptoBulk d + uptoBulkAll r
def uptoBulkEntries {H : Type} : List (Lit × DataW H) → Nat
  | [] => 0
  | x :: r => uptoBulkEntry x + uptoBulkEntries r
def uptoBulkEntry {H : Type} : Lit × DataW H → Nat
  | (.string bytes, d) => bytes.length + uptoBulk d + 1
  | (_, d) => uptoBulk d + 1
 end
def uptoSmall : (H : Type) → List (DataW H) → Bool := fun _ ds => decide (uptoBulkAll ds ≤ 1048576)
def OpenSpec.upto (s : _root_.Go.ChangeSpec) : _root_.Go.OpenSpec := { _root_.Go.OpenSpec.ofChange s with cond := some uptoSmall }

/-- 'atlaslaw17.AdvSilent', WHERE WHAT IT READS IS OF BULK AT MOST 1048576: true; the input reads as it did. -/
def advSilentUptoRow : OpenClaim := { program := "ytobdkhjaipoliaagreatdoor", sum := "db0a3424095b9e195ab4e5a6d739dad3ab3c90661b0ada663fa635f728b7e497", func := "atlas/atlaslaw17.AdvSilent", spec := "advSilent", inPlace := ["slices.overlaps[atlas/api.Cell]"], unfollowed := true, recurses := true, named := ["atlas/cause.causes", "atlas/va.sizes", "atlas/plru.touches", "atlas/perm.asks"], apart := false, laid := [("atlas/cause.causes", laid_atlas_cause_causes), ("atlas/perm.asks", laid_atlas_perm_asks), ("atlas/plru.touches", laid_atlas_plru_touches), ("atlas/va.sizes", laid_atlas_va_sizes)], narrowed := true }
def AdvSilentUptoSaid : Prop := advSilentUptoRow.holds Tryz.pinned (OpenSpec.upto advSilentSpec)

end Rows
end Go.Proofs.YtobdkhjaipoliaaGreatDoor
