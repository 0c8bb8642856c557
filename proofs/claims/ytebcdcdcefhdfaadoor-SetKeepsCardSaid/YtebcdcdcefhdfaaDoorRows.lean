/-
  NARROWER THAN 'FOR EVERY INPUT', by the rows' own cells (each row's printed sentence says how): SetDoes: laid · SetKeeps: laid · SetFinds: laid · SetFills: laid.
  DERIVED. THE GIVEN ROWS OF THIS SEAT. 4 by the template 'for every input the law returns true; each argument reads behind the call as it read before'; 0 by the template 'total and deterministic' (their statements: YtebcdcdcefhdfaaDoorTotals.lean).
  GIVEN WITH THE SEED: the statements are not yours to turn. If you find one false, say at which input.
  Laid BY PROGRAM, IN A SANDBOX (cutbox-rows.mjs): the forced cells as the released guide's own fill.sh prints them over the translation 5d0e7c3897113f98… (all of the seat's roots in one cut). By AI agents, Wed Nov 11 2026. No macro, syntax, notation, axiom, sorry.
-/
import Derived.Test.YtebcdcdcefhdfaaDoorChecked
import GoSem.Claim
import GoSem.ClaimJoined
import GoSem.ClaimMapViews
import Derived.JoinedTies
import Derived.KernelRfl
namespace Go.Proofs.YtebcdcdcefhdfaaDoor
/- THE CELL 'sum', in the pinned program and in every row, IS THE sha256 OF THE DUMP (.gsa) THAT YtebcdcdcefhdfaaDoorProg.lean LOADS. Nothing in Lean hashes anything: it is a label: what it is worth is what the hold of that sum in a sandbox is worth. -/
noncomputable def Tryd.pinned : Pinned := { name := "ytebcdcdcefhdfaadoor", sum := "5d0e7c3897113f98e9ddbce0f81a132f4bc2cbac692c4241ad4b55e5c6d2946b", checked := Tryd.checked }
namespace Rows
def none {H : Type} : Left H := { results := [], args := [] }

/- WHAT THE LISTED PACKAGE-LEVEL VARIABLES READ AS WHEN THE CALL BEGINS. Each datum BY PROGRAM (the guide's laid-datum.mjs) off the statement by which the dump's own 'gosem.cut.vars' lays the variable. In a bare row this is a premise. The card (YtebcdcdcefhdfaaDoorCards.lean) ties it to the program's text. -/
def laid_atlas_plru_touches {H : Type} : DataW H := .agg [.agg [.lit (.int .u8 3), .lit (.int .u8 0)], .agg [.lit (.int .u8 1), .lit (.int .u8 2)], .agg [.lit (.int .u8 4), .lit (.int .u8 1)], .agg [.lit (.int .u8 0), .lit (.int .u8 5)]]
def laid_atlas_va_sizes {H : Type} : DataW H := .agg [.lit (.int .u64 4096), .lit (.int .u64 2097152), .lit (.int .u64 1073741824)]

/-- 'atlaslaw13.SetDoes': WHATEVER THE INPUT: true; the input reads as it did. -/
def setDoesSpec : ChangeSpec := { name := "setDoes", fn := fun _ => fun
  | [d1, d2, d3, d4, d5, d6, d7] => { results := [.lit (.bool true)], args := [d1, d2, d3, d4, d5, d6, d7] }
  | _ => none }
def setDoesRow : OpenClaim := { program := "ytebcdcdcefhdfaadoor", sum := "5d0e7c3897113f98e9ddbce0f81a132f4bc2cbac692c4241ad4b55e5c6d2946b", func := "atlas/atlaslaw13.SetDoes", spec := "setDoes", unfollowed := true, recurses := true, named := ["atlas/plru.touches", "atlas/va.sizes"], apart := false, laid := [("atlas/plru.touches", laid_atlas_plru_touches), ("atlas/va.sizes", laid_atlas_va_sizes)] }
def SetDoesSaid : Prop := setDoesRow.holds Tryd.pinned (OpenSpec.ofChange setDoesSpec)

/-- ITS FALSE NEIGHBOUR: 'it returns false'. Refute it at one input. -/
def setDoesWrong : ChangeSpec := { name := "setDoes", fn := fun _ => fun
  | [d1, d2, d3, d4, d5, d6, d7] => { results := [.lit (.bool false)], args := [d1, d2, d3, d4, d5, d6, d7] }
  | _ => none }
def SetDoesWrongFalsely : Prop := setDoesRow.holds Tryd.pinned (OpenSpec.ofChange setDoesWrong)

/-- 'atlaslaw13.SetKeeps': WHATEVER THE INPUT: true; the input reads as it did. -/
def setKeepsSpec : ChangeSpec := { name := "setKeeps", fn := fun _ => fun
  | [d1, d2, d3] => { results := [.lit (.bool true)], args := [d1, d2, d3] }
  | _ => none }
def setKeepsRow : OpenClaim := { program := "ytebcdcdcefhdfaadoor", sum := "5d0e7c3897113f98e9ddbce0f81a132f4bc2cbac692c4241ad4b55e5c6d2946b", func := "atlas/atlaslaw13.SetKeeps", spec := "setKeeps", unfollowed := true, recurses := true, named := ["atlas/plru.touches", "atlas/va.sizes"], apart := false, laid := [("atlas/plru.touches", laid_atlas_plru_touches), ("atlas/va.sizes", laid_atlas_va_sizes)] }
def SetKeepsSaid : Prop := setKeepsRow.holds Tryd.pinned (OpenSpec.ofChange setKeepsSpec)

/-- ITS FALSE NEIGHBOUR: 'it returns false'. Refute it at one input. -/
def setKeepsWrong : ChangeSpec := { name := "setKeeps", fn := fun _ => fun
  | [d1, d2, d3] => { results := [.lit (.bool false)], args := [d1, d2, d3] }
  | _ => none }
def SetKeepsWrongFalsely : Prop := setKeepsRow.holds Tryd.pinned (OpenSpec.ofChange setKeepsWrong)

/-- 'atlaslaw13.SetFinds': WHATEVER THE INPUT: true; the input reads as it did. -/
def setFindsSpec : ChangeSpec := { name := "setFinds", fn := fun _ => fun
  | [d1, d2, d3, d4, d5] => { results := [.lit (.bool true)], args := [d1, d2, d3, d4, d5] }
  | _ => none }
def setFindsRow : OpenClaim := { program := "ytebcdcdcefhdfaadoor", sum := "5d0e7c3897113f98e9ddbce0f81a132f4bc2cbac692c4241ad4b55e5c6d2946b", func := "atlas/atlaslaw13.SetFinds", spec := "setFinds", unfollowed := true, recurses := true, named := ["atlas/plru.touches", "atlas/va.sizes"], apart := false, laid := [("atlas/plru.touches", laid_atlas_plru_touches), ("atlas/va.sizes", laid_atlas_va_sizes)] }
def SetFindsSaid : Prop := setFindsRow.holds Tryd.pinned (OpenSpec.ofChange setFindsSpec)

/-- ITS FALSE NEIGHBOUR: 'it returns false'. Refute it at one input. -/
def setFindsWrong : ChangeSpec := { name := "setFinds", fn := fun _ => fun
  | [d1, d2, d3, d4, d5] => { results := [.lit (.bool false)], args := [d1, d2, d3, d4, d5] }
  | _ => none }
def SetFindsWrongFalsely : Prop := setFindsRow.holds Tryd.pinned (OpenSpec.ofChange setFindsWrong)

/-- 'atlaslaw13.SetFills': WHATEVER THE INPUT: true; the input reads as it did. -/
def setFillsSpec : ChangeSpec := { name := "setFills", fn := fun _ => fun
  | [d] => { results := [.lit (.bool true)], args := [d] }
  | _ => none }
def setFillsRow : OpenClaim := { program := "ytebcdcdcefhdfaadoor", sum := "5d0e7c3897113f98e9ddbce0f81a132f4bc2cbac692c4241ad4b55e5c6d2946b", func := "atlas/atlaslaw13.SetFills", spec := "setFills", unfollowed := true, recurses := true, named := ["atlas/plru.touches", "atlas/va.sizes"], apart := false, laid := [("atlas/plru.touches", laid_atlas_plru_touches), ("atlas/va.sizes", laid_atlas_va_sizes)] }
def SetFillsSaid : Prop := setFillsRow.holds Tryd.pinned (OpenSpec.ofChange setFillsSpec)

/-- ITS FALSE NEIGHBOUR: 'it returns false'. Refute it at one input. -/
def setFillsWrong : ChangeSpec := { name := "setFills", fn := fun _ => fun
  | [d] => { results := [.lit (.bool false)], args := [d] }
  | _ => none }
def SetFillsWrongFalsely : Prop := setFillsRow.holds Tryd.pinned (OpenSpec.ofChange setFillsWrong)

/- THE SECOND FORM. 'bulk': how many values and letters a reading holds, each counted each time it is reached (what is shared counts as often as it is met; a slice's spare places count too). A statement '..UptoSaid' is the law's where the arguments, and the package variables that the reading takes, are together of bulk at most 1048576: NARROWER than '..Said'. Prove '..Said' where nothing that the law and all that it calls make is longer than what came in: it says more and counts as full. Else prove '..UptoSaid'. A law counts once. -/
mutual
def uptoBulk {H : Type} : DataW H → Nat
  | .lit (.string bytes) => bytes.length + 1
  | .lit _ => 1
  | .nil => 1
  | .ptr d => uptoBulk d + 1
  | .slice elems spare => uptoBulkAll elems + uptoBulkAll spare + 1
  | .agg parts => uptoBulkAll parts + 1
  | .iface _ d => uptoBulk d + 1
  | .map entries => uptoBulkEntries entries + 1
  | .held _ => 1
def uptoBulkAll {H : Type} : List (DataW H) → Nat
  | [] => 0
  | d :: r => uptoBulk d + uptoBulkAll r
def uptoBulkEntries {H : Type} : List (Lit × DataW H) → Nat
  | [] => 0
  | x :: r => uptoBulkEntry x + uptoBulkEntries r
def uptoBulkEntry {H : Type} : Lit × DataW H → Nat
  | (.string bytes, d) => bytes.length + uptoBulk d + 1
  | (_, d) => uptoBulk d + 1
 end
def uptoSmall : (H : Type) → List (DataW H) → Bool := fun _ ds => decide (uptoBulkAll ds ≤ 1048576)
def OpenSpec.upto (s : _root_.Go.ChangeSpec) : _root_.Go.OpenSpec := { _root_.Go.OpenSpec.ofChange s with cond := some uptoSmall }

/-- 'atlaslaw13.SetDoes', WHERE WHAT IT READS IS OF BULK AT MOST 1048576: true; the input reads as it did. -/
def setDoesUptoRow : OpenClaim := { program := "ytebcdcdcefhdfaadoor", sum := "5d0e7c3897113f98e9ddbce0f81a132f4bc2cbac692c4241ad4b55e5c6d2946b", func := "atlas/atlaslaw13.SetDoes", spec := "setDoes", unfollowed := true, recurses := true, named := ["atlas/plru.touches", "atlas/va.sizes"], apart := false, laid := [("atlas/plru.touches", laid_atlas_plru_touches), ("atlas/va.sizes", laid_atlas_va_sizes)], narrowed := true }
def SetDoesUptoSaid : Prop := setDoesUptoRow.holds Tryd.pinned (OpenSpec.upto setDoesSpec)

/-- 'atlaslaw13.SetKeeps', WHERE WHAT IT READS IS OF BULK AT MOST 1048576: true; the input reads as it did. -/
def setKeepsUptoRow : OpenClaim := { program := "ytebcdcdcefhdfaadoor", sum := "5d0e7c3897113f98e9ddbce0f81a132f4bc2cbac692c4241ad4b55e5c6d2946b", func := "atlas/atlaslaw13.SetKeeps", spec := "setKeeps", unfollowed := true, recurses := true, named := ["atlas/plru.touches", "atlas/va.sizes"], apart := false, laid := [("atlas/plru.touches", laid_atlas_plru_touches), ("atlas/va.sizes", laid_atlas_va_sizes)], narrowed := true }
def SetKeepsUptoSaid : Prop := setKeepsUptoRow.holds Tryd.pinned (OpenSpec.upto setKeepsSpec)

/-- 'atlaslaw13.SetFinds', WHERE WHAT IT READS IS OF BULK AT MOST 1048576: true; the input reads as it did. -/
def setFindsUptoRow : OpenClaim := { program := "ytebcdcdcefhdfaadoor", sum := "5d0e7c3897113f98e9ddbce0f81a132f4bc2cbac692c4241ad4b55e5c6d2946b", func := "atlas/atlaslaw13.SetFinds", spec := "setFinds", unfollowed := true, recurses := true, named := ["atlas/plru.touches", "atlas/va.sizes"], apart := false, laid := [("atlas/plru.touches", laid_atlas_plru_touches), ("atlas/va.sizes", laid_atlas_va_sizes)], narrowed := true }
def SetFindsUptoSaid : Prop := setFindsUptoRow.holds Tryd.pinned (OpenSpec.upto setFindsSpec)

/-- 'atlaslaw13.SetFills', WHERE WHAT IT READS IS OF BULK AT MOST 1048576: true; the input reads as it did. -/
def setFillsUptoRow : OpenClaim := { program := "ytebcdcdcefhdfaadoor", sum := "5d0e7c3897113f98e9ddbce0f81a132f4bc2cbac692c4241ad4b55e5c6d2946b", func := "atlas/atlaslaw13.SetFills", spec := "setFills", unfollowed := true, recurses := true, named := ["atlas/plru.touches", "atlas/va.sizes"], apart := false, laid := [("atlas/plru.touches", laid_atlas_plru_touches), ("atlas/va.sizes", laid_atlas_va_sizes)], narrowed := true }
def SetFillsUptoSaid : Prop := setFillsUptoRow.holds Tryd.pinned (OpenSpec.upto setFillsSpec)

end Rows
end Go.Proofs.YtebcdcdcefhdfaaDoor
