/-
  NARROWER THAN 'FOR EVERY INPUT', by the rows' own cells (each row's printed sentence says how): CostBills: laid · CostFits: laid · CostTold: laid · CostSame: laid.
  DERIVED. THE GIVEN ROWS OF THIS SEAT. 4 by the template 'for every input the law returns true; each argument reads behind the call as it read before'; 0 by the template 'total and deterministic' (their statements: YtlihbielphcgbaaGreatDoorTotals.lean).
  GIVEN WITH THE SEED: the statements are not yours to turn. If you find one false, say at which input.
  Laid BY PROGRAM, IN A SANDBOX (cutbox-rows.mjs): the forced cells as the released guide's own fill.sh prints them over the translation a5a2e5f858711ec5… (all of the seat's roots in one cut). By AI agents, Wed Nov 11 2026. No macro, syntax, notation, axiom, sorry.
-/
import Derived.Test.YtlihbielphcgbaaGreatDoorChecked
import GoSem.Claim
import GoSem.ClaimJoined
import GoSem.ClaimMapViews
import Derived.JoinedTies
import Derived.KernelRfl
namespace Go.Proofs.YtlihbielphcgbaaGreatDoor
/- THE CELL 'sum', in the pinned program and in every row, IS THE sha256 OF THE DUMP (.gsa) THAT YtlihbielphcgbaaGreatDoorProg.lean LOADS. Nothing in Lean hashes anything: it is a label: what it is worth is what the hold of that sum in a sandbox is worth. -/
noncomputable def Tryz.pinned : Pinned := { name := "ytlihbielphcgbaagreatdoor", sum := "a5a2e5f858711ec5cf9ec5bc7c9f895b16290b069a9304456c3edece495f2acb", checked := Tryz.checked }
namespace Rows
def none {H : Type} : Left H := { results := [], args := [] }

/- WHAT THE LISTED PACKAGE-LEVEL VARIABLES READ AS WHEN THE CALL BEGINS. Each datum BY PROGRAM (the guide's laid-datum.mjs) off the statement by which the dump's own 'gosem.cut.vars' lays the variable. In a bare row this is a premise. The card (YtlihbielphcgbaaGreatDoorCards.lean) ties it to the program's text. -/
def laid_atlas_cause_causes {H : Type} : DataW H := .agg [.agg [.lit (.int .i64 0), .lit (.int .i64 4), .lit (.int .i64 6)], .agg [.lit (.int .i64 1), .lit (.int .i64 5), .lit (.int .i64 7)], .agg [.lit (.int .i64 12), .lit (.int .i64 13), .lit (.int .i64 15)]]
def laid_atlas_perm_asks {H : Type} : DataW H := .iface "func table" (.agg [.iface "func" (.lit (.string [97, 116, 108, 97, 115, 47, 112, 101, 114, 109, 46, 97, 115, 107, 115, 36, 49])), .iface "func" (.lit (.string [97, 116, 108, 97, 115, 47, 112, 101, 114, 109, 46, 97, 115, 107, 115, 36, 50])), .iface "func" (.lit (.string [97, 116, 108, 97, 115, 47, 112, 101, 114, 109, 46, 97, 115, 107, 115, 36, 51]))])
def laid_atlas_va_sizes {H : Type} : DataW H := .agg [.lit (.int .u64 4096), .lit (.int .u64 2097152), .lit (.int .u64 1073741824)]

/-- 'atlaslaw26.CostBills': WHATEVER THE INPUT: true; the input reads as it did. -/
def costBillsSpec : ChangeSpec := { name := "costBills", fn := fun _ => fun
  | [d1, d2, d3] => { results := [.lit (.bool true)], args := [d1, d2, d3] }
  | _ => none }
def costBillsRow : OpenClaim := { program := "ytlihbielphcgbaagreatdoor", sum := "a5a2e5f858711ec5cf9ec5bc7c9f895b16290b069a9304456c3edece495f2acb", func := "atlas/atlaslaw26.CostBills", spec := "costBills", inPlace := ["slices.overlaps[atlas/api.Page]", "slices.overlaps[atlas/api.Cell]"], unfollowed := true, recurses := true, named := ["atlas/va.sizes", "atlas/cause.causes", "atlas/perm.asks"], plainKeys := false, apart := false, laid := [("atlas/cause.causes", laid_atlas_cause_causes), ("atlas/perm.asks", laid_atlas_perm_asks), ("atlas/va.sizes", laid_atlas_va_sizes)] }
def CostBillsSaid : Prop := costBillsRow.holds Tryz.pinned (OpenSpec.ofChange costBillsSpec)

/-- ITS FALSE NEIGHBOUR: 'it returns false'. Refute it at one input. -/
def costBillsWrong : ChangeSpec := { name := "costBills", fn := fun _ => fun
  | [d1, d2, d3] => { results := [.lit (.bool false)], args := [d1, d2, d3] }
  | _ => none }
def CostBillsWrongFalsely : Prop := costBillsRow.holds Tryz.pinned (OpenSpec.ofChange costBillsWrong)

/-- 'atlaslaw26.CostFits': WHATEVER THE INPUT: true; the input reads as it did. -/
def costFitsSpec : ChangeSpec := { name := "costFits", fn := fun _ => fun
  | [d1, d2, d3] => { results := [.lit (.bool true)], args := [d1, d2, d3] }
  | _ => none }
def costFitsRow : OpenClaim := { program := "ytlihbielphcgbaagreatdoor", sum := "a5a2e5f858711ec5cf9ec5bc7c9f895b16290b069a9304456c3edece495f2acb", func := "atlas/atlaslaw26.CostFits", spec := "costFits", inPlace := ["slices.overlaps[atlas/api.Page]", "slices.overlaps[atlas/api.Cell]"], unfollowed := true, recurses := true, named := ["atlas/va.sizes", "atlas/cause.causes", "atlas/perm.asks"], plainKeys := false, apart := false, laid := [("atlas/cause.causes", laid_atlas_cause_causes), ("atlas/perm.asks", laid_atlas_perm_asks), ("atlas/va.sizes", laid_atlas_va_sizes)] }
def CostFitsSaid : Prop := costFitsRow.holds Tryz.pinned (OpenSpec.ofChange costFitsSpec)

/-- ITS FALSE NEIGHBOUR: 'it returns false'. Refute it at one input. -/
def costFitsWrong : ChangeSpec := { name := "costFits", fn := fun _ => fun
  | [d1, d2, d3] => { results := [.lit (.bool false)], args := [d1, d2, d3] }
  | _ => none }
def CostFitsWrongFalsely : Prop := costFitsRow.holds Tryz.pinned (OpenSpec.ofChange costFitsWrong)

/-- 'atlaslaw26.CostTold': WHATEVER THE INPUT: true; the input reads as it did. -/
def costToldSpec : ChangeSpec := { name := "costTold", fn := fun _ => fun
  | [d1, d2, d3] => { results := [.lit (.bool true)], args := [d1, d2, d3] }
  | _ => none }
def costToldRow : OpenClaim := { program := "ytlihbielphcgbaagreatdoor", sum := "a5a2e5f858711ec5cf9ec5bc7c9f895b16290b069a9304456c3edece495f2acb", func := "atlas/atlaslaw26.CostTold", spec := "costTold", inPlace := ["slices.overlaps[atlas/api.Page]", "slices.overlaps[atlas/api.Cell]"], unfollowed := true, recurses := true, named := ["atlas/va.sizes", "atlas/cause.causes", "atlas/perm.asks"], plainKeys := false, apart := false, laid := [("atlas/cause.causes", laid_atlas_cause_causes), ("atlas/perm.asks", laid_atlas_perm_asks), ("atlas/va.sizes", laid_atlas_va_sizes)] }
def CostToldSaid : Prop := costToldRow.holds Tryz.pinned (OpenSpec.ofChange costToldSpec)

/-- ITS FALSE NEIGHBOUR: 'it returns false'. Refute it at one input. -/
def costToldWrong : ChangeSpec := { name := "costTold", fn := fun _ => fun
  | [d1, d2, d3] => { results := [.lit (.bool false)], args := [d1, d2, d3] }
  | _ => none }
def CostToldWrongFalsely : Prop := costToldRow.holds Tryz.pinned (OpenSpec.ofChange costToldWrong)

/-- 'atlaslaw26.CostSame': WHATEVER THE INPUT: true; the input reads as it did. -/
def costSameSpec : ChangeSpec := { name := "costSame", fn := fun _ => fun
  | [d1, d2, d3, d4] => { results := [.lit (.bool true)], args := [d1, d2, d3, d4] }
  | _ => none }
def costSameRow : OpenClaim := { program := "ytlihbielphcgbaagreatdoor", sum := "a5a2e5f858711ec5cf9ec5bc7c9f895b16290b069a9304456c3edece495f2acb", func := "atlas/atlaslaw26.CostSame", spec := "costSame", inPlace := ["slices.overlaps[atlas/api.Page]", "slices.overlaps[atlas/api.Cell]"], unfollowed := true, recurses := true, named := ["atlas/va.sizes", "atlas/cause.causes", "atlas/perm.asks"], plainKeys := false, apart := false, laid := [("atlas/cause.causes", laid_atlas_cause_causes), ("atlas/perm.asks", laid_atlas_perm_asks), ("atlas/va.sizes", laid_atlas_va_sizes)] }
def CostSameSaid : Prop := costSameRow.holds Tryz.pinned (OpenSpec.ofChange costSameSpec)

/-- ITS FALSE NEIGHBOUR: 'it returns false'. Refute it at one input. -/
def costSameWrong : ChangeSpec := { name := "costSame", fn := fun _ => fun
  | [d1, d2, d3, d4] => { results := [.lit (.bool false)], args := [d1, d2, d3, d4] }
  | _ => none }
def CostSameWrongFalsely : Prop := costSameRow.holds Tryz.pinned (OpenSpec.ofChange costSameWrong)

/- THE SECOND FORM. 'bulk': how many values and letters a reading holds, each counted each time it is reached (what is shared counts as often as it is met; a slice's spare places count too). A statement '..UptoSaid' is the law's where the arguments, and the package variables that the reading takes, are together of bulk at most 1048576: NARROWER than '..Said'. Prove '..Said' where nothing that the law and all that it calls make is longer than what came in: it says more and counts as full. Else prove '..UptoSaid'. A law counts once. -/
mutual
def uptoBulk {H : Type} : DataW H → Nat
  | .lit (.string bytes) => bytes.length + 1
  | .lit _ => 1
  | .nil => 1
  | .ptr d => uptoBulk d + 1
  | .slice elems spare => uptoBulkAll elems + uptoBulkAll spare + 1
  | .agg parts => uptoBulkAll parts + 1
  | .iface _ d => uptoBulk d + 1
  | .map entries => uptoBulkEntries entries + 1
  | .held _ => 1
def uptoBulkAll {H : Type} : List (DataW H) → Nat
  | [] => 0
  | d :: r => uptoBulk d + uptoBulkAll r
def uptoBulkEntries {H : Type} : List (Lit × DataW H) → Nat
  | [] => 0
  | x :: r => uptoBulkEntry x + uptoBulkEntries r
def uptoBulkEntry {H : Type} : Lit × DataW H → Nat
  | (.string bytes, d) => bytes.length + uptoBulk d + 1
  | (_, d) => uptoBulk d + 1
 end
def uptoSmall : (H : Type) → List (DataW H) → Bool := fun _ ds => decide (uptoBulkAll ds ≤ 1048576)
def OpenSpec.upto (s : _root_.Go.ChangeSpec) : _root_.Go.OpenSpec := { _root_.Go.OpenSpec.ofChange s with cond := some uptoSmall }

/-- 'atlaslaw26.CostBills', WHERE WHAT IT READS IS OF BULK AT MOST 1048576: true; the input reads as it did. -/
def costBillsUptoRow : OpenClaim := { program := "ytlihbielphcgbaagreatdoor", sum := "a5a2e5f858711ec5cf9ec5bc7c9f895b16290b069a9304456c3edece495f2acb", func := "atlas/atlaslaw26.CostBills", spec := "costBills", inPlace := ["slices.overlaps[atlas/api.Page]", "slices.overlaps[atlas/api.Cell]"], unfollowed := true, recurses := true, named := ["atlas/va.sizes", "atlas/cause.causes", "atlas/perm.asks"], plainKeys := false, apart := false, laid := [("atlas/cause.causes", laid_atlas_cause_causes), ("atlas/perm.asks", laid_atlas_perm_asks), ("atlas/va.sizes", laid_atlas_va_sizes)], narrowed := true }
def CostBillsUptoSaid : Prop := costBillsUptoRow.holds Tryz.pinned (OpenSpec.upto costBillsSpec)

/-- 'atlaslaw26.CostFits', WHERE WHAT IT READS IS OF BULK AT MOST 1048576: true; the input reads as it did. -/
def costFitsUptoRow : OpenClaim := { program := "ytlihbielphcgbaagreatdoor", sum := "a5a2e5f858711ec5cf9ec5bc7c9f895b16290b069a9304456c3edece495f2acb", func := "atlas/atlaslaw26.CostFits", spec := "costFits", inPlace := ["slices.overlaps[atlas/api.Page]", "slices.overlaps[atlas/api.Cell]"], unfollowed := true, recurses := true, named := ["atlas/va.sizes", "atlas/cause.causes", "atlas/perm.asks"], plainKeys := false, apart := false, laid := [("atlas/cause.causes", laid_atlas_cause_causes), ("atlas/perm.asks", laid_atlas_perm_asks), ("atlas/va.sizes", laid_atlas_va_sizes)], narrowed := true }
def CostFitsUptoSaid : Prop := costFitsUptoRow.holds Tryz.pinned (OpenSpec.upto costFitsSpec)

/-- 'atlaslaw26.CostTold', WHERE WHAT IT READS IS OF BULK AT MOST 1048576: true; the input reads as it did. -/
def costToldUptoRow : OpenClaim := { program := "ytlihbielphcgbaagreatdoor", sum := "a5a2e5f858711ec5cf9ec5bc7c9f895b16290b069a9304456c3edece495f2acb", func := "atlas/atlaslaw26.CostTold", spec := "costTold", inPlace := ["slices.overlaps[atlas/api.Page]", "slices.overlaps[atlas/api.Cell]"], unfollowed := true, recurses := true, named := ["atlas/va.sizes", "atlas/cause.causes", "atlas/perm.asks"], plainKeys := false, apart := false, laid := [("atlas/cause.causes", laid_atlas_cause_causes), ("atlas/perm.asks", laid_atlas_perm_asks), ("atlas/va.sizes", laid_atlas_va_sizes)], narrowed := true }
def CostToldUptoSaid : Prop := costToldUptoRow.holds Tryz.pinned (OpenSpec.upto costToldSpec)

/-- 'atlaslaw26.CostSame', WHERE WHAT IT READS IS OF BULK AT MOST 1048576: true; the input reads as it did. -/
def costSameUptoRow : OpenClaim := { program := "ytlihbielphcgbaagreatdoor", sum := "a5a2e5f858711ec5cf9ec5bc7c9f895b16290b069a9304456c3edece495f2acb", func := "atlas/atlaslaw26.CostSame", spec := "costSame", inPlace := ["slices.overlaps[atlas/api.Page]", "slices.overlaps[atlas/api.Cell]"], unfollowed := true, recurses := true, named := ["atlas/va.sizes", "atlas/cause.causes", "atlas/perm.asks"], plainKeys := false, apart := false, laid := [("atlas/cause.causes", laid_atlas_cause_causes), ("atlas/perm.asks", laid_atlas_perm_asks), ("atlas/va.sizes", laid_atlas_va_sizes)], narrowed := true }
def CostSameUptoSaid : Prop := costSameUptoRow.holds Tryz.pinned (OpenSpec.upto costSameSpec)

end Rows
end Go.Proofs.YtlihbielphcgbaaGreatDoor
