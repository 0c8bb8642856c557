/-
  NARROWER THAN 'FOR EVERY INPUT', by the rows' own cells (each row's printed sentence says how): PermAsks: laid · PermDecides: laid · PermLess: laid · PermUser: laid.
  DERIVED. THE GIVEN ROWS OF THIS SEAT. 4 by the template 'for every input the law returns true; each argument reads behind the call as it read before'; 0 by the template 'total and deterministic' (their statements: YtkgomfkjeonmfaaDoorTotals.lean).
  GIVEN WITH THE SEED: the statements are not yours to turn. If you find one false, say at which input.
  Laid BY PROGRAM, IN A SANDBOX (cutbox-rows.mjs): the forced cells as the released guide's own fill.sh prints them over the translation f7a17b857b10bffa… (all of the seat's roots in one cut). By AI agents, Wed Nov 11 2026. No macro, syntax, notation, axiom, sorry.
-/
import Derived.Test.YtkgomfkjeonmfaaDoorChecked
import GoSem.Claim
import GoSem.ClaimJoined
import GoSem.ClaimMapViews
import Derived.JoinedTies
import Derived.KernelRfl
namespace Go.Proofs.YtkgomfkjeonmfaaDoor
/- THE CELL 'sum', in the pinned program and in every row, IS THE sha256 OF THE DUMP (.gsa) THAT YtkgomfkjeonmfaaDoorProg.lean LOADS. Nothing in Lean hashes anything: it is a label: what it is worth is what the hold of that sum in a sandbox is worth. -/
noncomputable def Tryd.pinned : Pinned := { name := "ytkgomfkjeonmfaadoor", sum := "f7a17b857b10bffad1302e660bd2cbb2f375d0472901eae194ae62bb5ab3e9c3", checked := Tryd.checked }
namespace Rows
def none {H : Type} : Left H := { results := [], args := [] }

/- WHAT THE LISTED PACKAGE-LEVEL VARIABLES READ AS WHEN THE CALL BEGINS. Each datum BY PROGRAM (the guide's laid-datum.mjs) off the statement by which the dump's own 'gosem.cut.vars' lays the variable. In a bare row this is a premise. The card (YtkgomfkjeonmfaaDoorCards.lean) ties it to the program's text. -/
def laid_atlas_perm_asks {H : Type} : DataW H := .iface "func table" (.agg [.iface "func" (.lit (.string [97, 116, 108, 97, 115, 47, 112, 101, 114, 109, 46, 97, 115, 107, 115, 36, 49])), .iface "func" (.lit (.string [97, 116, 108, 97, 115, 47, 112, 101, 114, 109, 46, 97, 115, 107, 115, 36, 50])), .iface "func" (.lit (.string [97, 116, 108, 97, 115, 47, 112, 101, 114, 109, 46, 97, 115, 107, 115, 36, 51]))])

/-- 'atlaslaw08.PermAsks': WHATEVER THE INPUT: true; the input reads as it did. -/
def permAsksSpec : ChangeSpec := { name := "permAsks", fn := fun _ => fun
  | [d1, d2, d3] => { results := [.lit (.bool true)], args := [d1, d2, d3] }
  | _ => none }
def permAsksRow : OpenClaim := { program := "ytkgomfkjeonmfaadoor", sum := "f7a17b857b10bffad1302e660bd2cbb2f375d0472901eae194ae62bb5ab3e9c3", func := "atlas/atlaslaw08.PermAsks", spec := "permAsks", unfollowed := true, recurses := true, named := ["atlas/perm.asks"], apart := false, laid := [("atlas/perm.asks", laid_atlas_perm_asks)] }
def PermAsksSaid : Prop := permAsksRow.holds Tryd.pinned (OpenSpec.ofChange permAsksSpec)

/-- ITS FALSE NEIGHBOUR: 'it returns false'. Refute it at one input. -/
def permAsksWrong : ChangeSpec := { name := "permAsks", fn := fun _ => fun
  | [d1, d2, d3] => { results := [.lit (.bool false)], args := [d1, d2, d3] }
  | _ => none }
def PermAsksWrongFalsely : Prop := permAsksRow.holds Tryd.pinned (OpenSpec.ofChange permAsksWrong)

/-- 'atlaslaw08.PermDecides': WHATEVER THE INPUT: true; the input reads as it did. -/
def permDecidesSpec : ChangeSpec := { name := "permDecides", fn := fun _ => fun
  | [d] => { results := [.lit (.bool true)], args := [d] }
  | _ => none }
def permDecidesRow : OpenClaim := { program := "ytkgomfkjeonmfaadoor", sum := "f7a17b857b10bffad1302e660bd2cbb2f375d0472901eae194ae62bb5ab3e9c3", func := "atlas/atlaslaw08.PermDecides", spec := "permDecides", unfollowed := true, recurses := true, named := ["atlas/perm.asks"], apart := false, laid := [("atlas/perm.asks", laid_atlas_perm_asks)] }
def PermDecidesSaid : Prop := permDecidesRow.holds Tryd.pinned (OpenSpec.ofChange permDecidesSpec)

/-- ITS FALSE NEIGHBOUR: 'it returns false'. Refute it at one input. -/
def permDecidesWrong : ChangeSpec := { name := "permDecides", fn := fun _ => fun
  | [d] => { results := [.lit (.bool false)], args := [d] }
  | _ => none }
def PermDecidesWrongFalsely : Prop := permDecidesRow.holds Tryd.pinned (OpenSpec.ofChange permDecidesWrong)

/-- 'atlaslaw08.PermLess': WHATEVER THE INPUT: true; the input reads as it did. -/
def permLessSpec : ChangeSpec := { name := "permLess", fn := fun _ => fun
  | [d1, d2, d3] => { results := [.lit (.bool true)], args := [d1, d2, d3] }
  | _ => none }
def permLessRow : OpenClaim := { program := "ytkgomfkjeonmfaadoor", sum := "f7a17b857b10bffad1302e660bd2cbb2f375d0472901eae194ae62bb5ab3e9c3", func := "atlas/atlaslaw08.PermLess", spec := "permLess", unfollowed := true, recurses := true, named := ["atlas/perm.asks"], apart := false, laid := [("atlas/perm.asks", laid_atlas_perm_asks)] }
def PermLessSaid : Prop := permLessRow.holds Tryd.pinned (OpenSpec.ofChange permLessSpec)

/-- ITS FALSE NEIGHBOUR: 'it returns false'. Refute it at one input. -/
def permLessWrong : ChangeSpec := { name := "permLess", fn := fun _ => fun
  | [d1, d2, d3] => { results := [.lit (.bool false)], args := [d1, d2, d3] }
  | _ => none }
def PermLessWrongFalsely : Prop := permLessRow.holds Tryd.pinned (OpenSpec.ofChange permLessWrong)

/-- 'atlaslaw08.PermUser': WHATEVER THE INPUT: true; the input reads as it did. -/
def permUserSpec : ChangeSpec := { name := "permUser", fn := fun _ => fun
  | [d1, d2] => { results := [.lit (.bool true)], args := [d1, d2] }
  | _ => none }
def permUserRow : OpenClaim := { program := "ytkgomfkjeonmfaadoor", sum := "f7a17b857b10bffad1302e660bd2cbb2f375d0472901eae194ae62bb5ab3e9c3", func := "atlas/atlaslaw08.PermUser", spec := "permUser", unfollowed := true, recurses := true, named := ["atlas/perm.asks"], apart := false, laid := [("atlas/perm.asks", laid_atlas_perm_asks)] }
def PermUserSaid : Prop := permUserRow.holds Tryd.pinned (OpenSpec.ofChange permUserSpec)

/-- ITS FALSE NEIGHBOUR: 'it returns false'. Refute it at one input. -/
def permUserWrong : ChangeSpec := { name := "permUser", fn := fun _ => fun
  | [d1, d2] => { results := [.lit (.bool false)], args := [d1, d2] }
  | _ => none }
def PermUserWrongFalsely : Prop := permUserRow.holds Tryd.pinned (OpenSpec.ofChange permUserWrong)

/- THE SECOND FORM. 'bulk': how many values and letters a reading holds, each counted each time it is reached (what is shared counts as often as it is met; a slice's spare places count too). A statement '..UptoSaid' is the law's where the arguments, and the package variables that the reading takes, are together of bulk at most 1048576: NARROWER than '..Said'. Prove '..Said' where nothing that the law and all that it calls make is longer than what came in: it says more and counts as full. Else prove '..UptoSaid'. A law counts once. -/
mutual
def uptoBulk {H : Type} : DataW H → Nat
  | .lit (.string bytes) => bytes.length + 1
  | .lit _ => 1
  | .nil => 1
  | .ptr d => uptoBulk d + 1
  | .slice elems spare => uptoBulkAll elems + uptoBulkAll spare + 1
  | .agg parts => uptoBulkAll parts + 1
  | .iface _ d => uptoBulk d + 1
  | .map entries => uptoBulkEntries entries + 1
  | .held _ => 1
def uptoBulkAll {H : Type} : List (DataW H) → Nat
  | [] => 0
  | d :: r => uptoBulk d + uptoBulkAll r
def uptoBulkEntries {H : Type} : List (Lit × DataW H) → Nat
  | [] => 0
  | x :: r => uptoBulkEntry x + uptoBulkEntries r
def uptoBulkEntry {H : Type} : Lit × DataW H → Nat
  | (.string bytes, d) => bytes.length + uptoBulk d + 1
  | (_, d) => uptoBulk d + 1
 end
def uptoSmall : (H : Type) → List (DataW H) → Bool := fun _ ds => decide (uptoBulkAll ds ≤ 1048576)
def OpenSpec.upto (s : _root_.Go.ChangeSpec) : _root_.Go.OpenSpec := { _root_.Go.OpenSpec.ofChange s with cond := some uptoSmall }

/-- 'atlaslaw08.PermAsks', WHERE WHAT IT READS IS OF BULK AT MOST 1048576: true; the input reads as it did. -/
def permAsksUptoRow : OpenClaim := { program := "ytkgomfkjeonmfaadoor", sum := "f7a17b857b10bffad1302e660bd2cbb2f375d0472901eae194ae62bb5ab3e9c3", func := "atlas/atlaslaw08.PermAsks", spec := "permAsks", unfollowed := true, recurses := true, named := ["atlas/perm.asks"], apart := false, laid := [("atlas/perm.asks", laid_atlas_perm_asks)], narrowed := true }
def PermAsksUptoSaid : Prop := permAsksUptoRow.holds Tryd.pinned (OpenSpec.upto permAsksSpec)

/-- 'atlaslaw08.PermDecides', WHERE WHAT IT READS IS OF BULK AT MOST 1048576: true; the input reads as it did. -/
def permDecidesUptoRow : OpenClaim := { program := "ytkgomfkjeonmfaadoor", sum := "f7a17b857b10bffad1302e660bd2cbb2f375d0472901eae194ae62bb5ab3e9c3", func := "atlas/atlaslaw08.PermDecides", spec := "permDecides", unfollowed := true, recurses := true, named := ["atlas/perm.asks"], apart := false, laid := [("atlas/perm.asks", laid_atlas_perm_asks)], narrowed := true }
def PermDecidesUptoSaid : Prop := permDecidesUptoRow.holds Tryd.pinned (OpenSpec.upto permDecidesSpec)

/-- 'atlaslaw08.PermLess', WHERE WHAT IT READS IS OF BULK AT MOST 1048576: true; the input reads as it did. -/
def permLessUptoRow : OpenClaim := { program := "ytkgomfkjeonmfaadoor", sum := "f7a17b857b10bffad1302e660bd2cbb2f375d0472901eae194ae62bb5ab3e9c3", func := "atlas/atlaslaw08.PermLess", spec := "permLess", unfollowed := true, recurses := true, named := ["atlas/perm.asks"], apart := false, laid := [("atlas/perm.asks", laid_atlas_perm_asks)], narrowed := true }
def PermLessUptoSaid : Prop := permLessUptoRow.holds Tryd.pinned (OpenSpec.upto permLessSpec)

/-- 'atlaslaw08.PermUser', WHERE WHAT IT READS IS OF BULK AT MOST 1048576: true; the input reads as it did. -/
def permUserUptoRow : OpenClaim := { program := "ytkgomfkjeonmfaadoor", sum := "f7a17b857b10bffad1302e660bd2cbb2f375d0472901eae194ae62bb5ab3e9c3", func := "atlas/atlaslaw08.PermUser", spec := "permUser", unfollowed := true, recurses := true, named := ["atlas/perm.asks"], apart := false, laid := [("atlas/perm.asks", laid_atlas_perm_asks)], narrowed := true }
def PermUserUptoSaid : Prop := permUserUptoRow.holds Tryd.pinned (OpenSpec.upto permUserSpec)

end Rows
end Go.Proofs.YtkgomfkjeonmfaaDoor
