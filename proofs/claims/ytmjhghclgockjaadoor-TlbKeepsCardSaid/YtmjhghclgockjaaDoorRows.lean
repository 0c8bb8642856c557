/-
  NARROWER THAN 'FOR EVERY INPUT', by the rows' own cells (each row's printed sentence says how): TlbFinds: laid · TlbUnlike: laid · TlbAsid: laid · TlbDoes: laid · TlbOne: laid · TlbKeeps: laid.
  DERIVED. THE GIVEN ROWS OF THIS SEAT. 6 by the template 'for every input the law returns true; each argument reads behind the call as it read before'; 0 by the template 'total and deterministic' (their statements: YtmjhghclgockjaaDoorTotals.lean).
  GIVEN WITH THE SEED: the statements are not yours to turn. If you find one false, say at which input.
  Laid BY PROGRAM, IN A SANDBOX (cutbox-rows.mjs): the forced cells as the released guide's own fill.sh prints them over the translation 33cb82bc40291112… (all of the seat's roots in one cut). By AI agents, Wed Nov 11 2026. No macro, syntax, notation, axiom, sorry.
-/
import Derived.Test.YtmjhghclgockjaaDoorChecked
import GoSem.Claim
import GoSem.ClaimJoined
import GoSem.ClaimMapViews
import Derived.JoinedTies
import Derived.KernelRfl
namespace Go.Proofs.YtmjhghclgockjaaDoor
/- THE CELL 'sum', in the pinned program and in every row, IS THE sha256 OF THE DUMP (.gsa) THAT YtmjhghclgockjaaDoorProg.lean LOADS. Nothing in Lean hashes anything: it is a label: what it is worth is what the hold of that sum in a sandbox is worth. -/
noncomputable def Tryd.pinned : Pinned := { name := "ytmjhghclgockjaadoor", sum := "33cb82bc40291112b7810d2ac66d01757c78ac98664d28a8fc56abff72219de6", checked := Tryd.checked }
namespace Rows
def none {H : Type} : Left H := { results := [], args := [] }

/- WHAT THE LISTED PACKAGE-LEVEL VARIABLES READ AS WHEN THE CALL BEGINS. Each datum BY PROGRAM (the guide's laid-datum.mjs) off the statement by which the dump's own 'gosem.cut.vars' lays the variable. In a bare row this is a premise. The card (YtmjhghclgockjaaDoorCards.lean) ties it to the program's text. -/
def laid_atlas_plru_touches {H : Type} : DataW H := .agg [.agg [.lit (.int .u8 3), .lit (.int .u8 0)], .agg [.lit (.int .u8 1), .lit (.int .u8 2)], .agg [.lit (.int .u8 4), .lit (.int .u8 1)], .agg [.lit (.int .u8 0), .lit (.int .u8 5)]]
def laid_atlas_va_sizes {H : Type} : DataW H := .agg [.lit (.int .u64 4096), .lit (.int .u64 2097152), .lit (.int .u64 1073741824)]

/-- 'atlaslaw14.TlbFinds': WHATEVER THE INPUT: true; the input reads as it did. -/
def tlbFindsSpec : ChangeSpec := { name := "tlbFinds", fn := fun _ => fun
  | [d1, d2, d3, d4, d5] => { results := [.lit (.bool true)], args := [d1, d2, d3, d4, d5] }
  | _ => none }
def tlbFindsRow : OpenClaim := { program := "ytmjhghclgockjaadoor", sum := "33cb82bc40291112b7810d2ac66d01757c78ac98664d28a8fc56abff72219de6", func := "atlas/atlaslaw14.TlbFinds", spec := "tlbFinds", unfollowed := true, recurses := true, named := ["atlas/va.sizes", "atlas/plru.touches"], apart := false, laid := [("atlas/plru.touches", laid_atlas_plru_touches), ("atlas/va.sizes", laid_atlas_va_sizes)] }
def TlbFindsSaid : Prop := tlbFindsRow.holds Tryd.pinned (OpenSpec.ofChange tlbFindsSpec)

/-- ITS FALSE NEIGHBOUR: 'it returns false'. Refute it at one input. -/
def tlbFindsWrong : ChangeSpec := { name := "tlbFinds", fn := fun _ => fun
  | [d1, d2, d3, d4, d5] => { results := [.lit (.bool false)], args := [d1, d2, d3, d4, d5] }
  | _ => none }
def TlbFindsWrongFalsely : Prop := tlbFindsRow.holds Tryd.pinned (OpenSpec.ofChange tlbFindsWrong)

/-- 'atlaslaw14.TlbUnlike': WHATEVER THE INPUT: true; the input reads as it did. -/
def tlbUnlikeSpec : ChangeSpec := { name := "tlbUnlike", fn := fun _ => fun
  | [d1, d2, d3] => { results := [.lit (.bool true)], args := [d1, d2, d3] }
  | _ => none }
def tlbUnlikeRow : OpenClaim := { program := "ytmjhghclgockjaadoor", sum := "33cb82bc40291112b7810d2ac66d01757c78ac98664d28a8fc56abff72219de6", func := "atlas/atlaslaw14.TlbUnlike", spec := "tlbUnlike", unfollowed := true, recurses := true, named := ["atlas/va.sizes", "atlas/plru.touches"], apart := false, laid := [("atlas/plru.touches", laid_atlas_plru_touches), ("atlas/va.sizes", laid_atlas_va_sizes)] }
def TlbUnlikeSaid : Prop := tlbUnlikeRow.holds Tryd.pinned (OpenSpec.ofChange tlbUnlikeSpec)

/-- ITS FALSE NEIGHBOUR: 'it returns false'. Refute it at one input. -/
def tlbUnlikeWrong : ChangeSpec := { name := "tlbUnlike", fn := fun _ => fun
  | [d1, d2, d3] => { results := [.lit (.bool false)], args := [d1, d2, d3] }
  | _ => none }
def TlbUnlikeWrongFalsely : Prop := tlbUnlikeRow.holds Tryd.pinned (OpenSpec.ofChange tlbUnlikeWrong)

/-- 'atlaslaw14.TlbAsid': WHATEVER THE INPUT: true; the input reads as it did. -/
def tlbAsidSpec : ChangeSpec := { name := "tlbAsid", fn := fun _ => fun
  | [d1, d2, d3, d4] => { results := [.lit (.bool true)], args := [d1, d2, d3, d4] }
  | _ => none }
def tlbAsidRow : OpenClaim := { program := "ytmjhghclgockjaadoor", sum := "33cb82bc40291112b7810d2ac66d01757c78ac98664d28a8fc56abff72219de6", func := "atlas/atlaslaw14.TlbAsid", spec := "tlbAsid", unfollowed := true, recurses := true, named := ["atlas/va.sizes", "atlas/plru.touches"], apart := false, laid := [("atlas/plru.touches", laid_atlas_plru_touches), ("atlas/va.sizes", laid_atlas_va_sizes)] }
def TlbAsidSaid : Prop := tlbAsidRow.holds Tryd.pinned (OpenSpec.ofChange tlbAsidSpec)

/-- ITS FALSE NEIGHBOUR: 'it returns false'. Refute it at one input. -/
def tlbAsidWrong : ChangeSpec := { name := "tlbAsid", fn := fun _ => fun
  | [d1, d2, d3, d4] => { results := [.lit (.bool false)], args := [d1, d2, d3, d4] }
  | _ => none }
def TlbAsidWrongFalsely : Prop := tlbAsidRow.holds Tryd.pinned (OpenSpec.ofChange tlbAsidWrong)

/-- 'atlaslaw14.TlbDoes': WHATEVER THE INPUT: true; the input reads as it did. -/
def tlbDoesSpec : ChangeSpec := { name := "tlbDoes", fn := fun _ => fun
  | [d1, d2, d3, d4, d5, d6, d7, d8] => { results := [.lit (.bool true)], args := [d1, d2, d3, d4, d5, d6, d7, d8] }
  | _ => none }
def tlbDoesRow : OpenClaim := { program := "ytmjhghclgockjaadoor", sum := "33cb82bc40291112b7810d2ac66d01757c78ac98664d28a8fc56abff72219de6", func := "atlas/atlaslaw14.TlbDoes", spec := "tlbDoes", unfollowed := true, recurses := true, named := ["atlas/va.sizes", "atlas/plru.touches"], apart := false, laid := [("atlas/plru.touches", laid_atlas_plru_touches), ("atlas/va.sizes", laid_atlas_va_sizes)] }
def TlbDoesSaid : Prop := tlbDoesRow.holds Tryd.pinned (OpenSpec.ofChange tlbDoesSpec)

/-- ITS FALSE NEIGHBOUR: 'it returns false'. Refute it at one input. -/
def tlbDoesWrong : ChangeSpec := { name := "tlbDoes", fn := fun _ => fun
  | [d1, d2, d3, d4, d5, d6, d7, d8] => { results := [.lit (.bool false)], args := [d1, d2, d3, d4, d5, d6, d7, d8] }
  | _ => none }
def TlbDoesWrongFalsely : Prop := tlbDoesRow.holds Tryd.pinned (OpenSpec.ofChange tlbDoesWrong)

/-- 'atlaslaw14.TlbOne': WHATEVER THE INPUT: true; the input reads as it did. -/
def tlbOneSpec : ChangeSpec := { name := "tlbOne", fn := fun _ => fun
  | [d1, d2, d3, d4, d5] => { results := [.lit (.bool true)], args := [d1, d2, d3, d4, d5] }
  | _ => none }
def tlbOneRow : OpenClaim := { program := "ytmjhghclgockjaadoor", sum := "33cb82bc40291112b7810d2ac66d01757c78ac98664d28a8fc56abff72219de6", func := "atlas/atlaslaw14.TlbOne", spec := "tlbOne", unfollowed := true, recurses := true, named := ["atlas/va.sizes", "atlas/plru.touches"], apart := false, laid := [("atlas/plru.touches", laid_atlas_plru_touches), ("atlas/va.sizes", laid_atlas_va_sizes)] }
def TlbOneSaid : Prop := tlbOneRow.holds Tryd.pinned (OpenSpec.ofChange tlbOneSpec)

/-- ITS FALSE NEIGHBOUR: 'it returns false'. Refute it at one input. -/
def tlbOneWrong : ChangeSpec := { name := "tlbOne", fn := fun _ => fun
  | [d1, d2, d3, d4, d5] => { results := [.lit (.bool false)], args := [d1, d2, d3, d4, d5] }
  | _ => none }
def TlbOneWrongFalsely : Prop := tlbOneRow.holds Tryd.pinned (OpenSpec.ofChange tlbOneWrong)

/-- 'atlaslaw14.TlbKeeps': WHATEVER THE INPUT: true; the input reads as it did. -/
def tlbKeepsSpec : ChangeSpec := { name := "tlbKeeps", fn := fun _ => fun
  | [d1, d2, d3, d4] => { results := [.lit (.bool true)], args := [d1, d2, d3, d4] }
  | _ => none }
def tlbKeepsRow : OpenClaim := { program := "ytmjhghclgockjaadoor", sum := "33cb82bc40291112b7810d2ac66d01757c78ac98664d28a8fc56abff72219de6", func := "atlas/atlaslaw14.TlbKeeps", spec := "tlbKeeps", unfollowed := true, recurses := true, named := ["atlas/va.sizes", "atlas/plru.touches"], apart := false, laid := [("atlas/plru.touches", laid_atlas_plru_touches), ("atlas/va.sizes", laid_atlas_va_sizes)] }
def TlbKeepsSaid : Prop := tlbKeepsRow.holds Tryd.pinned (OpenSpec.ofChange tlbKeepsSpec)

/-- ITS FALSE NEIGHBOUR: 'it returns false'. Refute it at one input. -/
def tlbKeepsWrong : ChangeSpec := { name := "tlbKeeps", fn := fun _ => fun
  | [d1, d2, d3, d4] => { results := [.lit (.bool false)], args := [d1, d2, d3, d4] }
  | _ => none }
def TlbKeepsWrongFalsely : Prop := tlbKeepsRow.holds Tryd.pinned (OpenSpec.ofChange tlbKeepsWrong)

/- THE SECOND FORM. 'bulk': how many values and letters a reading holds, each counted each time it is reached (what is shared counts as often as it is met; a slice's spare places count too). A statement '..UptoSaid' is the law's where the arguments, and the package variables that the reading takes, are together of bulk at most 1048576: NARROWER than '..Said'. Prove '..Said' where nothing that the law and all that it calls make is longer than what came in: it says more and counts as full. Else prove '..UptoSaid'. A law counts once. -/
mutual
def uptoBulk {H : Type} : DataW H → Nat
  | .lit (.string bytes) => bytes.length + 1
  | .lit _ => 1
  | .nil => 1
  | .ptr d => uptoBulk d + 1
  | .slice elems spare => uptoBulkAll elems + uptoBulkAll spare + 1
  | .agg parts => uptoBulkAll parts + 1
  | .iface _ d => uptoBulk d + 1
  | .map entries => uptoBulkEntries entries + 1
  | .held _ => 1
def uptoBulkAll {H : Type} : List (DataW H) → Nat
  | [] => 0
  | d :: r => uptoBulk d + uptoBulkAll r
def uptoBulkEntries {H : Type} : List (Lit × DataW H) → Nat
  | [] => 0
  | x :: r => uptoBulkEntry x + uptoBulkEntries r
def uptoBulkEntry {H : Type} : Lit × DataW H → Nat
  | (.string bytes, d) => bytes.length + uptoBulk d + 1
  | (_, d) => uptoBulk d + 1
 end
def uptoSmall : (H : Type) → List (DataW H) → Bool := fun _ ds => decide (uptoBulkAll ds ≤ 1048576)
def OpenSpec.upto (s : _root_.Go.ChangeSpec) : _root_.Go.OpenSpec := { _root_.Go.OpenSpec.ofChange s with cond := some uptoSmall }

/-- 'atlaslaw14.TlbFinds', WHERE WHAT IT READS IS OF BULK AT MOST 1048576: true; the input reads as it did. -/
def tlbFindsUptoRow : OpenClaim := { program := "ytmjhghclgockjaadoor", sum := "33cb82bc40291112b7810d2ac66d01757c78ac98664d28a8fc56abff72219de6", func := "atlas/atlaslaw14.TlbFinds", spec := "tlbFinds", unfollowed := true, recurses := true, named := ["atlas/va.sizes", "atlas/plru.touches"], apart := false, laid := [("atlas/plru.touches", laid_atlas_plru_touches), ("atlas/va.sizes", laid_atlas_va_sizes)], narrowed := true }
def TlbFindsUptoSaid : Prop := tlbFindsUptoRow.holds Tryd.pinned (OpenSpec.upto tlbFindsSpec)

/-- 'atlaslaw14.TlbUnlike', WHERE WHAT IT READS IS OF BULK AT MOST 1048576: true; the input reads as it did. -/
def tlbUnlikeUptoRow : OpenClaim := { program := "ytmjhghclgockjaadoor", sum := "33cb82bc40291112b7810d2ac66d01757c78ac98664d28a8fc56abff72219de6", func := "atlas/atlaslaw14.TlbUnlike", spec := "tlbUnlike", unfollowed := true, recurses := true, named := ["atlas/va.sizes", "atlas/plru.touches"], apart := false, laid := [("atlas/plru.touches", laid_atlas_plru_touches), ("atlas/va.sizes", laid_atlas_va_sizes)], narrowed := true }
def TlbUnlikeUptoSaid : Prop := tlbUnlikeUptoRow.holds Tryd.pinned (OpenSpec.upto tlbUnlikeSpec)

/-- 'atlaslaw14.TlbAsid', WHERE WHAT IT READS IS OF BULK AT MOST 1048576: true; the input reads as it did. -/
def tlbAsidUptoRow : OpenClaim := { program := "ytmjhghclgockjaadoor", sum := "33cb82bc40291112b7810d2ac66d01757c78ac98664d28a8fc56abff72219de6", func := "atlas/atlaslaw14.TlbAsid", spec := "tlbAsid", unfollowed := true, recurses := true, named := ["atlas/va.sizes", "atlas/plru.touches"], apart := false, laid := [("atlas/plru.touches", laid_atlas_plru_touches), ("atlas/va.sizes", laid_atlas_va_sizes)], narrowed := true }
def TlbAsidUptoSaid : Prop := tlbAsidUptoRow.holds Tryd.pinned (OpenSpec.upto tlbAsidSpec)

/-- 'atlaslaw14.TlbDoes', WHERE WHAT IT READS IS OF BULK AT MOST 1048576: true; the input reads as it did. -/
def tlbDoesUptoRow : OpenClaim := { program := "ytmjhghclgockjaadoor", sum := "33cb82bc40291112b7810d2ac66d01757c78ac98664d28a8fc56abff72219de6", func := "atlas/atlaslaw14.TlbDoes", spec := "tlbDoes", unfollowed := true, recurses := true, named := ["atlas/va.sizes", "atlas/plru.touches"], apart := false, laid := [("atlas/plru.touches", laid_atlas_plru_touches), ("atlas/va.sizes", laid_atlas_va_sizes)], narrowed := true }
def TlbDoesUptoSaid : Prop := tlbDoesUptoRow.holds Tryd.pinned (OpenSpec.upto tlbDoesSpec)

/-- 'atlaslaw14.TlbOne', WHERE WHAT IT READS IS OF BULK AT MOST 1048576: true; the input reads as it did. -/
def tlbOneUptoRow : OpenClaim := { program := "ytmjhghclgockjaadoor", sum := "33cb82bc40291112b7810d2ac66d01757c78ac98664d28a8fc56abff72219de6", func := "atlas/atlaslaw14.TlbOne", spec := "tlbOne", unfollowed := true, recurses := true, named := ["atlas/va.sizes", "atlas/plru.touches"], apart := false, laid := [("atlas/plru.touches", laid_atlas_plru_touches), ("atlas/va.sizes", laid_atlas_va_sizes)], narrowed := true }
def TlbOneUptoSaid : Prop := tlbOneUptoRow.holds Tryd.pinned (OpenSpec.upto tlbOneSpec)

/-- 'atlaslaw14.TlbKeeps', WHERE WHAT IT READS IS OF BULK AT MOST 1048576: true; the input reads as it did. -/
def tlbKeepsUptoRow : OpenClaim := { program := "ytmjhghclgockjaadoor", sum := "33cb82bc40291112b7810d2ac66d01757c78ac98664d28a8fc56abff72219de6", func := "atlas/atlaslaw14.TlbKeeps", spec := "tlbKeeps", unfollowed := true, recurses := true, named := ["atlas/va.sizes", "atlas/plru.touches"], apart := false, laid := [("atlas/plru.touches", laid_atlas_plru_touches), ("atlas/va.sizes", laid_atlas_va_sizes)], narrowed := true }
def TlbKeepsUptoSaid : Prop := tlbKeepsUptoRow.holds Tryd.pinned (OpenSpec.upto tlbKeepsSpec)

end Rows
end Go.Proofs.YtmjhghclgockjaaDoor
