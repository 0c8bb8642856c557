/-
  'atlas/atlaslaw10.WalkKeeps': whatever the memory, the root, the address and the rest, the law returns true, and the input reads as it did; its row and its card.
-/
import Derived.Test.YthegeidecapfaaaDoorBg
import Derived.Test.YthegeidecapfaaaDoorFacts
import Derived.Test.YthegeidecapfaaaDoorWlkk
import Derived.Test.YthegeidecapfaaaDoorArgm
import Derived.LaidHandle
import Derived.Test.YthegeidecapfaaaDoorCards
import Derived.Test.YthegeidecapfaaaDoorTie
import Derived.WalkKit
import Derived.ProofKit
import Derived.OpenShut
import Derived.Deep.DeepHandedRow
namespace Go.Proofs.YthegeidecapfaaaDoor.walkKeeps
open Go.ChangeShapes Go.WideShapes Go.ChangeAt Go.RowKit Sx
set_option linter.unusedVariables false
set_option maxRecDepth 100000

theorem own : ownKnob Tryd.prog.godebug = none := by kernel_rfl

theorem laid_gr {W : World} (h : laidMetH Tryd.prog Rows.walkKeepsRow.laid W) : GR gAll (fun x => x < W.heap.size) W := by
  obtain ⟨ps, hv, _⟩ := (show laidMet Tryd.prog (Rows.walkKeepsRow.laid.filter fun x => x.2.handleName?.isNone) W ∧ handlesMet Tryd.prog _ W from h).1
  obtain ⟨v0, _, hv⟩ := laidVars_cons (n := "atlas/cause.causes") (g := 2) (ds := gCauses.2) 8 (by kernel_rfl) rfl (by kernel_rfl) (fun _ h => h) hv
  have v1 := VarIs.funcs (I := fun x => x < W.heap.size) (n := "atlas/perm.asks") (g := 1) (ds := gAsks.2) 8 h (by unfold Rows.walkKeepsRow; exact by repeat (first | exact List.mem_cons_self .. | apply List.mem_cons_of_mem)) (by kernel_rfl) rfl (by kernel_rfl) (fun _ h => h)
  obtain ⟨v2, _, hv⟩ := laidVars_cons (n := "atlas/va.sizes") (g := 0) (ds := gSizes.2) 8 (by kernel_rfl) rfl (by kernel_rfl) (fun _ h => h) hv
  exact (gr_cons (P := Tryd.prog) v0 (gr_cons (P := Tryd.prog) v1 (gr_cons (P := Tryd.prog) v2 gr_nil)))

theorem contract (H : Type) (enc : TypeId × Value → H) (W : World) (base : Nat) (args : Array Value) (ds gs : List (DataW H)) (before : List MemPlace)
    (hval : ∀ (j : Nat) t v, Tryd.f7.params[j]? = some t → args[j]? = some v → Value.okWide Tryd.prog W .any base t v)
    (hW : DataW.Whole enc Tryd.prog Tryd.f7.params.toList Rows.walkKeepsSpec.vars false W args.toList ds gs before) (hL : laidMetH Tryd.prog Rows.walkKeepsRow.laid W) :
    Calls Tryd.prog 7 args W fun e W' => ∃ v, e = .returned v ∧ Rows.walkKeepsSpec.post enc Tryd.prog Tryd.f7 false true false false W args v W' := by
  refine calls_post (P := Tryd.prog) (f := 7) (fn := Tryd.f7) (s := Rows.walkKeepsSpec) (b0 := base) (m := 8) (tys := [(true, [.i .u64, .sl CELL]), (false, [.i .u64]), (false, [.i .u64]), (true, [.i .i64, .i .i64, .b, .b])]) (G := gAll) fact_laidOut (by kernel_rfl) (by kernel_rfl) rfl (by kernel_rfl) rfl (fun ds h => ?_) (fun az h => ?_) hval hW (laid_gr hL)
  · match ds, h with
    | [d1, d2, d3, d4], _ => rfl
  ·
    obtain ⟨b0, az, rfl, h0, h⟩ := cons_inv h
    obtain ⟨b1, az, rfl, h1, h⟩ := cons_inv h
    obtain ⟨b2, az, rfl, h2, h⟩ := cons_inv h
    obtain ⟨b3, az, rfl, h3, h⟩ := cons_inv h
    obtain rfl := nil_inv h
    obtain ⟨s0, cs0, hs0, hm0, hx0, rfl⟩ := arg_mem h0
    obtain ⟨x1, hx1, rfl⟩ := arg_i h1
    have bx1 := bounds_u64 hx1
    obtain ⟨n1, rfl⟩ := Int.eq_ofNat_of_zero_le bx1.1
    clear hx1
    obtain ⟨x2, hx2, rfl⟩ := arg_i h2
    have bx2 := bounds_u64 hx2
    obtain ⟨n2, rfl⟩ := Int.eq_ofNat_of_zero_le bx2.1
    clear hx2
    obtain ⟨g3, ds3⟩ := b3
    obtain ⟨rfl, t3_0⟩ := h3
    simp only at t3_0
    obtain ⟨y3_0, r3_0, rfl, e3_0, t3_1⟩ := cons_inv t3_0
    obtain ⟨x3_0, hx3_0, rfl⟩ := ty_i e3_0
    obtain ⟨y3_1, r3_1, rfl, e3_1, t3_2⟩ := cons_inv t3_1
    obtain ⟨x3_1, hx3_1, rfl⟩ := ty_i e3_1
    obtain ⟨y3_2, r3_2, rfl, e3_2, t3_3⟩ := cons_inv t3_2
    obtain ⟨x3_2, rfl⟩ := ty_b e3_2
    obtain ⟨y3_3, r3_3, rfl, e3_3, t3_4⟩ := cons_inv t3_3
    obtain ⟨x3_3, rfl⟩ := ty_b e3_3
    obtain rfl := nil_inv t3_4
    exact WalkKeeps_con (.inl rfl) hs0 hx0 (by omega)

def wit : Array Value := #[.agg #[.int .u64 0, .slice none 0 0], .int .u64 0, .int .u64 0, .agg #[.int .i64 0, .int .i64 0, .bool false, .bool false]]
def dat {H : Type} : List (DataW H) := [.agg [.lit (.int .u64 0), .nil], .lit (.int .u64 0), .lit (.int .u64 0), .agg [.lit (.int .i64 0), .lit (.int .i64 0), .lit (.bool false), .lit (.bool false)]]
/-- A WORLD FOR THE WITNESS: the settled one, the listed variables holding what their initialisers lay. -/
noncomputable def laidWorld (os : Os) : World :=
  { World.holding Tryd.prog os ⟨#[], #[], []⟩ with heap := ((((World.holding Tryd.prog os ⟨#[], #[], []⟩).heap.modify 2 (fun
      | .cells _ t frozen => .cells #[.int .i64 0, .int .i64 4, .int .i64 6, .int .i64 1, .int .i64 5, .int .i64 7, .int .i64 12, .int .i64 13, .int .i64 15] t frozen
      | o => o)).modify 1 (fun
      | .cells _ t frozen => .cells #[.func (.func 100) #[] #[], .func (.func 101) #[] #[], .func (.func 102) #[] #[]] t frozen
      | o => o)).modify 0 (fun
      | .cells _ t frozen => .cells #[.int .u64 4096, .int .u64 2097152, .int .u64 1073741824] t frozen
      | o => o)) }
theorem laid_met (os : Os) : laidMetH Tryd.prog Rows.walkKeepsRow.laid ((laidWorld os).forCall (fun _ _ => 0) ⟨#[], wit, []⟩).memory :=
  laidMetH_of_parts3 (fuel := 8) (laidMet_of_run' 8 (by kernel_rfl) (by kernel_rfl)) (by kernel_rfl) (by kernel_rfl)
theorem reads (os : Os) {H : Type} (enc : TypeId × Value → H) : ∃ places, DataW.whole enc Tryd.prog ((laidWorld os).forCall (fun _ _ => 0) ⟨#[], wit, []⟩).memory Tryd.f7.params.toList Rows.walkKeepsSpec.vars false wit.toList 8 = some (dat, [], places) :=
  ⟨[], by kernel_rfl⟩

theorem lifted (os : Os) (started : os.Started) (H : Type) (enc : TypeId × Value → H) (F : Stop.Interp) :
    ReturnsInHanded {} Tryd.checked os 7 .any ((OpenSpec.ofChange Rows.walkKeepsSpec).preRow enc Tryd.prog Tryd.f7 Rows.walkKeepsRow.domain false Rows.walkKeepsRow.laid) (((OpenSpec.ofChange Rows.walkKeepsSpec).at F).post enc Tryd.prog Tryd.f7 false true false false) := by
  obtain ⟨places, hx⟩ := reads os enc
  refine returnsInHanded_of_row (C := Tryd.checked) (s := OpenSpec.ofChange Rows.walkKeepsSpec) own started (by kernel_rfl) Tryd.func7
    (witness_row_at (enc := enc) (C := Tryd.checked) false (laidWorld os) wit rfl (by kernel_rfl) (by kernel_rfl) (by kernel_rfl)
      (OpenSpec.preRow_of_cond 8 hx (by kernel_rfl) (fun k hk => by cases hk) (by kernel_rfl) (laid_met os))) ?_
  intro W base args ds gs before hval hW _ _ _ hL _ _
  exact contract H enc W base args ds gs before hval hW hL

theorem closed : joinedFacts Tryd.prog 7 Tryd.f7 (OpenSpec.ofChange Rows.walkKeepsSpec).bare Rows.walkKeepsRow = true := by
  unfold joinedFacts
  rw [fact_mayEnter, fact_laidOut, fact_lifts, fact_make]
  repeat' (with_reducible apply and_t)
  all_goals as_aux_lemma => kernel_rfl

theorem said : Rows.WalkKeepsSaid :=
  OpenClaim.holds_of_cond 7 Tryd.f7 rfl rfl rfl rfl rfl rfl rfl ⟨rfl, rfl, rfl, rfl, rfl⟩ rfl rfl rfl rfl rfl (by kernel_rfl) Tryd.func7 closed
    (of_decide_eq_true (by kernel_rfl)) (by unfold Func.isWrapper; first | (rw [if_pos (by decide +kernel)]; kernel_rfl) | (rw [if_neg (by decide +kernel)]; exact ⟨rfl, rfl⟩))
    (fun os started H enc _ F => by rw [OpenClaim.pre_eq_preRow]; exact lifted os started H enc F)

theorem plain (f : FuncId) (fn : Func) (hf : Tryd.pinned.checked.prog.funcNamed "atlas/atlaslaw10.WalkKeeps" = some f) (hfn : Tryd.pinned.checked.prog.funcs[f]? = some fn) :
    false = Tryd.pinned.checked.prog.looks [] ∧ ∀ (j : Nat) t, fn.params[j]? = some t → Tryd.pinned.checked.prog.wantsStandIn t = false :=
  plain_of (by kernel_rfl) Tryd.func7 (by kernel_rfl) (by kernel_rfl) hf hfn

/-- ████ THE CARD ████ -/
theorem card : Rows.WalkKeepsCardSaid :=
  Claim7.holds_tied_plain_at .later [] _ _ _ _ said (fun _ h => by cases h) (by kernel_rfl) (fun _ h => by cases h) walkKeeps_row_tie rfl ⟨rfl, rfl⟩ (by kernel_rfl) rfl plain (by kernel_rfl)
#print axioms card
end Go.Proofs.YthegeidecapfaaaDoor.walkKeeps
