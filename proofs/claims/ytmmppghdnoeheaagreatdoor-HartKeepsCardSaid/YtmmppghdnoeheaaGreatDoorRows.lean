/-
  NARROWER THAN 'FOR EVERY INPUT', by the rows' own cells (each row's printed sentence says how): HartFlat: laid · HartStays: laid · HartAgain: laid · HartKeeps: laid · HartNone: laid.
  DERIVED. THE GIVEN ROWS OF THIS SEAT. 5 by the template 'for every input the law returns true; each argument reads behind the call as it read before'; 0 by the template 'total and deterministic' (their statements: YtmmppghdnoeheaaGreatDoorTotals.lean).
  GIVEN WITH THE SEED: the statements are not yours to turn. If you find one false, say at which input.
  Laid BY PROGRAM, IN A SANDBOX (cutbox-rows.mjs): the forced cells as the released guide's own fill.sh prints them over the translation df4a6f56ba59fc05… (all of the seat's roots in one cut). By AI agents, Wed Nov 11 2026. No macro, syntax, notation, axiom, sorry.
-/
import Derived.Test.YtmmppghdnoeheaaGreatDoorChecked
import GoSem.Claim
import GoSem.ClaimJoined
import GoSem.ClaimMapViews
import Derived.JoinedTies
import Derived.KernelRfl
namespace Go.Proofs.YtmmppghdnoeheaaGreatDoor
/- THE CELL 'sum', in the pinned program and in every row, IS THE sha256 OF THE DUMP (.gsa) THAT YtmmppghdnoeheaaGreatDoorProg.lean LOADS. Nothing in Lean hashes anything: it is a label: what it is worth is what the hold of that sum in a sandbox is worth. -/
noncomputable def Tryz.pinned : Pinned := { name := "ytmmppghdnoeheaagreatdoor", sum := "df4a6f56ba59fc05b752c6d968570c5b79dba32d2209a875700cc901f6ddc796", checked := Tryz.checked }
namespace Rows
def none {H : Type} : Left H := { results := [], args := [] }

/- WHAT THE LISTED PACKAGE-LEVEL VARIABLES READ AS WHEN THE CALL BEGINS. Each datum BY PROGRAM (the guide's laid-datum.mjs) off the statement by which the dump's own 'gosem.cut.vars' lays the variable. In a bare row this is a premise. The card (YtmmppghdnoeheaaGreatDoorCards.lean) ties it to the program's text. -/
def laid_atlas_cause_causes {H : Type} : DataW H := .agg [.agg [.lit (.int .i64 0), .lit (.int .i64 4), .lit (.int .i64 6)], .agg [.lit (.int .i64 1), .lit (.int .i64 5), .lit (.int .i64 7)], .agg [.lit (.int .i64 12), .lit (.int .i64 13), .lit (.int .i64 15)]]
def laid_atlas_perm_asks {H : Type} : DataW H := .iface "func table" (.agg [.iface "func" (.lit (.string [97, 116, 108, 97, 115, 47, 112, 101, 114, 109, 46, 97, 115, 107, 115, 36, 49])), .iface "func" (.lit (.string [97, 116, 108, 97, 115, 47, 112, 101, 114, 109, 46, 97, 115, 107, 115, 36, 50])), .iface "func" (.lit (.string [97, 116, 108, 97, 115, 47, 112, 101, 114, 109, 46, 97, 115, 107, 115, 36, 51]))])
def laid_atlas_plru_touches {H : Type} : DataW H := .agg [.agg [.lit (.int .u8 3), .lit (.int .u8 0)], .agg [.lit (.int .u8 1), .lit (.int .u8 2)], .agg [.lit (.int .u8 4), .lit (.int .u8 1)], .agg [.lit (.int .u8 0), .lit (.int .u8 5)]]
def laid_atlas_va_sizes {H : Type} : DataW H := .agg [.lit (.int .u64 4096), .lit (.int .u64 2097152), .lit (.int .u64 1073741824)]

/-- 'atlaslaw16.HartFlat': WHATEVER THE INPUT: true; the input reads as it did. -/
def hartFlatSpec : ChangeSpec := { name := "hartFlat", fn := fun _ => fun
  | [d1, d2, d3, d4, d5, d6] => { results := [.lit (.bool true)], args := [d1, d2, d3, d4, d5, d6] }
  | _ => none }
def hartFlatRow : OpenClaim := { program := "ytmmppghdnoeheaagreatdoor", sum := "df4a6f56ba59fc05b752c6d968570c5b79dba32d2209a875700cc901f6ddc796", func := "atlas/atlaslaw16.HartFlat", spec := "hartFlat", inPlace := ["slices.overlaps[atlas/api.Cell]"], unfollowed := true, recurses := true, named := ["atlas/cause.causes", "atlas/va.sizes", "atlas/perm.asks", "atlas/plru.touches"], apart := false, laid := [("atlas/cause.causes", laid_atlas_cause_causes), ("atlas/perm.asks", laid_atlas_perm_asks), ("atlas/plru.touches", laid_atlas_plru_touches), ("atlas/va.sizes", laid_atlas_va_sizes)] }
def HartFlatSaid : Prop := hartFlatRow.holds Tryz.pinned (OpenSpec.ofChange hartFlatSpec)

/-- ITS FALSE NEIGHBOUR: 'it returns false'. Refute it at one input. -/
def hartFlatWrong : ChangeSpec := { name := "hartFlat", fn := fun _ => fun
  | [d1, d2, d3, d4, d5, d6] => { results := [.lit (.bool false)], args := [d1, d2, d3, d4, d5, d6] }
  | _ => none }
def HartFlatWrongFalsely : Prop := hartFlatRow.holds Tryz.pinned (OpenSpec.ofChange hartFlatWrong)

/-- 'atlaslaw16.HartStays': WHATEVER THE INPUT: true; the input reads as it did. -/
def hartStaysSpec : ChangeSpec := { name := "hartStays", fn := fun _ => fun
  | [d1, d2, d3, d4, d5, d6] => { results := [.lit (.bool true)], args := [d1, d2, d3, d4, d5, d6] }
  | _ => none }
def hartStaysRow : OpenClaim := { program := "ytmmppghdnoeheaagreatdoor", sum := "df4a6f56ba59fc05b752c6d968570c5b79dba32d2209a875700cc901f6ddc796", func := "atlas/atlaslaw16.HartStays", spec := "hartStays", inPlace := ["slices.overlaps[atlas/api.Cell]"], unfollowed := true, recurses := true, named := ["atlas/cause.causes", "atlas/va.sizes", "atlas/perm.asks", "atlas/plru.touches"], apart := false, laid := [("atlas/cause.causes", laid_atlas_cause_causes), ("atlas/perm.asks", laid_atlas_perm_asks), ("atlas/plru.touches", laid_atlas_plru_touches), ("atlas/va.sizes", laid_atlas_va_sizes)] }
def HartStaysSaid : Prop := hartStaysRow.holds Tryz.pinned (OpenSpec.ofChange hartStaysSpec)

/-- ITS FALSE NEIGHBOUR: 'it returns false'. Refute it at one input. -/
def hartStaysWrong : ChangeSpec := { name := "hartStays", fn := fun _ => fun
  | [d1, d2, d3, d4, d5, d6] => { results := [.lit (.bool false)], args := [d1, d2, d3, d4, d5, d6] }
  | _ => none }
def HartStaysWrongFalsely : Prop := hartStaysRow.holds Tryz.pinned (OpenSpec.ofChange hartStaysWrong)

/-- 'atlaslaw16.HartAgain': WHATEVER THE INPUT: true; the input reads as it did. -/
def hartAgainSpec : ChangeSpec := { name := "hartAgain", fn := fun _ => fun
  | [d1, d2, d3, d4, d5] => { results := [.lit (.bool true)], args := [d1, d2, d3, d4, d5] }
  | _ => none }
def hartAgainRow : OpenClaim := { program := "ytmmppghdnoeheaagreatdoor", sum := "df4a6f56ba59fc05b752c6d968570c5b79dba32d2209a875700cc901f6ddc796", func := "atlas/atlaslaw16.HartAgain", spec := "hartAgain", inPlace := ["slices.overlaps[atlas/api.Cell]"], unfollowed := true, recurses := true, named := ["atlas/cause.causes", "atlas/va.sizes", "atlas/perm.asks", "atlas/plru.touches"], apart := false, laid := [("atlas/cause.causes", laid_atlas_cause_causes), ("atlas/perm.asks", laid_atlas_perm_asks), ("atlas/plru.touches", laid_atlas_plru_touches), ("atlas/va.sizes", laid_atlas_va_sizes)] }
def HartAgainSaid : Prop := hartAgainRow.holds Tryz.pinned (OpenSpec.ofChange hartAgainSpec)

/-- ITS FALSE NEIGHBOUR: 'it returns false'. Refute it at one input. -/
def hartAgainWrong : ChangeSpec := { name := "hartAgain", fn := fun _ => fun
  | [d1, d2, d3, d4, d5] => { results := [.lit (.bool false)], args := [d1, d2, d3, d4, d5] }
  | _ => none }
def HartAgainWrongFalsely : Prop := hartAgainRow.holds Tryz.pinned (OpenSpec.ofChange hartAgainWrong)

/-- 'atlaslaw16.HartKeeps': WHATEVER THE INPUT: true; the input reads as it did. -/
def hartKeepsSpec : ChangeSpec := { name := "hartKeeps", fn := fun _ => fun
  | [d1, d2, d3, d4, d5, d6] => { results := [.lit (.bool true)], args := [d1, d2, d3, d4, d5, d6] }
  | _ => none }
def hartKeepsRow : OpenClaim := { program := "ytmmppghdnoeheaagreatdoor", sum := "df4a6f56ba59fc05b752c6d968570c5b79dba32d2209a875700cc901f6ddc796", func := "atlas/atlaslaw16.HartKeeps", spec := "hartKeeps", inPlace := ["slices.overlaps[atlas/api.Cell]"], unfollowed := true, recurses := true, named := ["atlas/cause.causes", "atlas/va.sizes", "atlas/perm.asks", "atlas/plru.touches"], apart := false, laid := [("atlas/cause.causes", laid_atlas_cause_causes), ("atlas/perm.asks", laid_atlas_perm_asks), ("atlas/plru.touches", laid_atlas_plru_touches), ("atlas/va.sizes", laid_atlas_va_sizes)] }
def HartKeepsSaid : Prop := hartKeepsRow.holds Tryz.pinned (OpenSpec.ofChange hartKeepsSpec)

/-- ITS FALSE NEIGHBOUR: 'it returns false'. Refute it at one input. -/
def hartKeepsWrong : ChangeSpec := { name := "hartKeeps", fn := fun _ => fun
  | [d1, d2, d3, d4, d5, d6] => { results := [.lit (.bool false)], args := [d1, d2, d3, d4, d5, d6] }
  | _ => none }
def HartKeepsWrongFalsely : Prop := hartKeepsRow.holds Tryz.pinned (OpenSpec.ofChange hartKeepsWrong)

/-- 'atlaslaw16.HartNone': WHATEVER THE INPUT: true; the input reads as it did. -/
def hartNoneSpec : ChangeSpec := { name := "hartNone", fn := fun _ => fun
  | [d1, d2, d3, d4, d5, d6] => { results := [.lit (.bool true)], args := [d1, d2, d3, d4, d5, d6] }
  | _ => none }
def hartNoneRow : OpenClaim := { program := "ytmmppghdnoeheaagreatdoor", sum := "df4a6f56ba59fc05b752c6d968570c5b79dba32d2209a875700cc901f6ddc796", func := "atlas/atlaslaw16.HartNone", spec := "hartNone", inPlace := ["slices.overlaps[atlas/api.Cell]"], unfollowed := true, recurses := true, named := ["atlas/cause.causes", "atlas/va.sizes", "atlas/perm.asks", "atlas/plru.touches"], apart := false, laid := [("atlas/cause.causes", laid_atlas_cause_causes), ("atlas/perm.asks", laid_atlas_perm_asks), ("atlas/plru.touches", laid_atlas_plru_touches), ("atlas/va.sizes", laid_atlas_va_sizes)] }
def HartNoneSaid : Prop := hartNoneRow.holds Tryz.pinned (OpenSpec.ofChange hartNoneSpec)

/-- ITS FALSE NEIGHBOUR: 'it returns false'. Refute it at one input. -/
def hartNoneWrong : ChangeSpec := { name := "hartNone", fn := fun _ => fun
  | [d1, d2, d3, d4, d5, d6] => { results := [.lit (.bool false)], args := [d1, d2, d3, d4, d5, d6] }
  | _ => none }
def HartNoneWrongFalsely : Prop := hartNoneRow.holds Tryz.pinned (OpenSpec.ofChange hartNoneWrong)

/- THE SECOND FORM. 'bulk': how many values and letters a reading holds, each counted each time it is reached (what is shared counts as often as it is met; a slice's spare places count too). A statement '..UptoSaid' is the law's where the arguments, and the package variables that the reading takes, are together of bulk at most 1048576: NARROWER than '..Said'. Prove '..Said' where nothing that the law and all that it calls make is longer than what came in: it says more and counts as full. Else prove '..UptoSaid'. A law counts once. -/
mutual
def uptoBulk {H : Type} : DataW H → Nat
  | .lit (.string bytes) => bytes.length + 1
  | .lit _ => 1
  | .nil => 1
  | .ptr d => uptoBulk d + 1
  | .slice elems spare => uptoBulkAll elems + uptoBulkAll spare + 1
  | .agg parts => uptoBulkAll parts + 1
  | .iface _ d => uptoBulk d + 1
  | .map entries => uptoBulkEntries entries + 1
  | .held _ => 1
def uptoBulkAll {H : Type} : List (DataW H) → Nat
  | [] => 0
  | d :: r => uptoBulk d + uptoBulkAll r
def uptoBulkEntries {H : Type} : List (Lit × DataW H) → Nat
  | [] => 0
  | x :: r => uptoBulkEntry x + uptoBulkEntries r
def uptoBulkEntry {H : Type} : Lit × DataW H → Nat
  | (.string bytes, d) => bytes.length + uptoBulk d + 1
  | (_, d) => uptoBulk d + 1
 end
def uptoSmall : (H : Type) → List (DataW H) → Bool := fun _ ds => decide (uptoBulkAll ds ≤ 1048576)
def OpenSpec.upto (s : _root_.Go.ChangeSpec) : _root_.Go.OpenSpec := { _root_.Go.OpenSpec.ofChange s with cond := some uptoSmall }

/-- 'atlaslaw16.HartFlat', WHERE WHAT IT READS IS OF BULK AT MOST 1048576: true; the input reads as it did. -/
def hartFlatUptoRow : OpenClaim := { program := "ytmmppghdnoeheaagreatdoor", sum := "df4a6f56ba59fc05b752c6d968570c5b79dba32d2209a875700cc901f6ddc796", func := "atlas/atlaslaw16.HartFlat", spec := "hartFlat", inPlace := ["slices.overlaps[atlas/api.Cell]"], unfollowed := true, recurses := true, named := ["atlas/cause.causes", "atlas/va.sizes", "atlas/perm.asks", "atlas/plru.touches"], apart := false, laid := [("atlas/cause.causes", laid_atlas_cause_causes), ("atlas/perm.asks", laid_atlas_perm_asks), ("atlas/plru.touches", laid_atlas_plru_touches), ("atlas/va.sizes", laid_atlas_va_sizes)], narrowed := true }
def HartFlatUptoSaid : Prop := hartFlatUptoRow.holds Tryz.pinned (OpenSpec.upto hartFlatSpec)

/-- 'atlaslaw16.HartStays', WHERE WHAT IT READS IS OF BULK AT MOST 1048576: true; the input reads as it did. -/
def hartStaysUptoRow : OpenClaim := { program := "ytmmppghdnoeheaagreatdoor", sum := "df4a6f56ba59fc05b752c6d968570c5b79dba32d2209a875700cc901f6ddc796", func := "atlas/atlaslaw16.HartStays", spec := "hartStays", inPlace := ["slices.overlaps[atlas/api.Cell]"], unfollowed := true, recurses := true, named := ["atlas/cause.causes", "atlas/va.sizes", "atlas/perm.asks", "atlas/plru.touches"], apart := false, laid := [("atlas/cause.causes", laid_atlas_cause_causes), ("atlas/perm.asks", laid_atlas_perm_asks), ("atlas/plru.touches", laid_atlas_plru_touches), ("atlas/va.sizes", laid_atlas_va_sizes)], narrowed := true }
def HartStaysUptoSaid : Prop := hartStaysUptoRow.holds Tryz.pinned (OpenSpec.upto hartStaysSpec)

/-- 'atlaslaw16.HartAgain', WHERE WHAT IT READS IS OF BULK AT MOST 1048576: true; the input reads as it did. -/
def hartAgainUptoRow : OpenClaim := { program := "ytmmppghdnoeheaagreatdoor", sum := "df4a6f56ba59fc05b752c6d968570c5b79dba32d2209a875700cc901f6ddc796", func := "atlas/atlaslaw16.HartAgain", spec := "hartAgain", inPlace := ["slices.overlaps[atlas/api.Cell]"], unfollowed := true, recurses := true, named := ["atlas/cause.causes", "atlas/va.sizes", "atlas/perm.asks", "atlas/plru.touches"], apart := false, laid := [("atlas/cause.causes", laid_atlas_cause_causes), ("atlas/perm.asks", laid_atlas_perm_asks), ("atlas/plru.touches", laid_atlas_plru_touches), ("atlas/va.sizes", laid_atlas_va_sizes)], narrowed := true }
def HartAgainUptoSaid : Prop := hartAgainUptoRow.holds Tryz.pinned (OpenSpec.upto hartAgainSpec)

/-- 'atlaslaw16.HartKeeps', WHERE WHAT IT READS IS OF BULK AT MOST 1048576: true; the input reads as it did. -/
def hartKeepsUptoRow : OpenClaim := { program := "ytmmppghdnoeheaagreatdoor", sum := "df4a6f56ba59fc05b752c6d968570c5b79dba32d2209a875700cc901f6ddc796", func := "atlas/atlaslaw16.HartKeeps", spec := "hartKeeps", inPlace := ["slices.overlaps[atlas/api.Cell]"], unfollowed := true, recurses := true, named := ["atlas/cause.causes", "atlas/va.sizes", "atlas/perm.asks", "atlas/plru.touches"], apart := false, laid := [("atlas/cause.causes", laid_atlas_cause_causes), ("atlas/perm.asks", laid_atlas_perm_asks), ("atlas/plru.touches", laid_atlas_plru_touches), ("atlas/va.sizes", laid_atlas_va_sizes)], narrowed := true }
def HartKeepsUptoSaid : Prop := hartKeepsUptoRow.holds Tryz.pinned (OpenSpec.upto hartKeepsSpec)

/-- 'atlaslaw16.HartNone', WHERE WHAT IT READS IS OF BULK AT MOST 1048576: true; the input reads as it did. -/
def hartNoneUptoRow : OpenClaim := { program := "ytmmppghdnoeheaagreatdoor", sum := "df4a6f56ba59fc05b752c6d968570c5b79dba32d2209a875700cc901f6ddc796", func := "atlas/atlaslaw16.HartNone", spec := "hartNone", inPlace := ["slices.overlaps[atlas/api.Cell]"], unfollowed := true, recurses := true, named := ["atlas/cause.causes", "atlas/va.sizes", "atlas/perm.asks", "atlas/plru.touches"], apart := false, laid := [("atlas/cause.causes", laid_atlas_cause_causes), ("atlas/perm.asks", laid_atlas_perm_asks), ("atlas/plru.touches", laid_atlas_plru_touches), ("atlas/va.sizes", laid_atlas_va_sizes)], narrowed := true }
def HartNoneUptoSaid : Prop := hartNoneUptoRow.holds Tryz.pinned (OpenSpec.upto hartNoneSpec)

end Rows
end Go.Proofs.YtmmppghdnoeheaaGreatDoor
