/-
  'atlas/atlaslaw26.CostFits': whatever the bill, the fences and the number, the law returns true, and the input reads as it did; its row and its card.
-/
import Derived.Test.YtlihbielphcgbaaGreatDoorBg
import Derived.Test.YtlihbielphcgbaaGreatDoorFacts
import Derived.Test.YtlihbielphcgbaaGreatDoorCog
import Derived.Test.YtlihbielphcgbaaGreatDoorArgc
import Derived.LaidHandle
import Derived.Test.YtlihbielphcgbaaGreatDoorCards
import Derived.Test.YtlihbielphcgbaaGreatDoorTie
import Derived.WalkKit
import Derived.ProofKit
import Derived.OpenShut
import Derived.Deep.DeepHandedRow
namespace Go.Proofs.YtlihbielphcgbaaGreatDoor.costFits
open Go.ChangeShapes Go.WideShapes Go.ChangeAt Go.RowKit Sx
set_option linter.unusedVariables false
set_option maxRecDepth 100000

theorem own : ownKnob Tryz.prog.godebug = none := by kernel_rfl

theorem laid_gr {W : World} (h : laidMetH Tryz.prog Rows.costFitsRow.laid W) : GR gAll (fun x => x < W.heap.size) W := by
  obtain ⟨ps, hv, _⟩ := (show laidMet Tryz.prog (Rows.costFitsRow.laid.filter fun x => x.2.handleName?.isNone) W ∧ handlesMet Tryz.prog _ W from h).1
  obtain ⟨v0, _, hv⟩ := laidVars_cons (n := "atlas/cause.causes") (g := 2) (ds := gCauses.2) 8 (by kernel_rfl) rfl (by kernel_rfl) (fun _ h => h) hv
  have v1 := VarIs.funcs (I := fun x => x < W.heap.size) (n := "atlas/perm.asks") (g := 1) (ds := gAsks.2) 8 h (by unfold Rows.costFitsRow; exact by repeat (first | exact List.mem_cons_self .. | apply List.mem_cons_of_mem)) (by kernel_rfl) rfl (by kernel_rfl) (fun _ h => h)
  obtain ⟨v2, _, hv⟩ := laidVars_cons (n := "atlas/va.sizes") (g := 0) (ds := gSizes.2) 8 (by kernel_rfl) rfl (by kernel_rfl) (fun _ h => h) hv
  exact (gr_cons (P := Tryz.prog) v0 (gr_cons (P := Tryz.prog) v1 (gr_cons (P := Tryz.prog) v2 gr_nil)))

theorem contract (H : Type) (enc : TypeId × Value → H) (W : World) (base : Nat) (args : Array Value) (ds gs : List (DataW H)) (before : List MemPlace)
    (hval : ∀ (j : Nat) t v, Tryz.f4.params[j]? = some t → args[j]? = some v → Value.okWide Tryz.prog W .any base t v)
    (hW : DataW.Whole enc Tryz.prog Tryz.f4.params.toList Rows.costFitsSpec.vars false W args.toList ds gs before) (hL : laidMetH Tryz.prog Rows.costFitsRow.laid W) :
    Calls Tryz.prog 4 args W fun e W' => ∃ v, e = .returned v ∧ Rows.costFitsSpec.post enc Tryz.prog Tryz.f4 false true false false W args v W' := by
  refine calls_post (P := Tryz.prog) (f := 4) (fn := Tryz.f4) (s := Rows.costFitsSpec) (b0 := base) (m := 8) (tys := [(true, [.i .i64, .i .i64, .b]), (false, [.sl [.b, .i .u64, .b, .i .u64]]), (false, [.i .u64])]) (G := gAll) fact_laidOut (by kernel_rfl) (by kernel_rfl) rfl (by kernel_rfl) rfl (fun ds h => ?_) (fun az h => ?_) hval hW (laid_gr hL)
  · match ds, h with
    | [d1, d2, d3], _ => rfl
  ·
    obtain ⟨b0, az, rfl, h0, h⟩ := cons_inv h
    obtain ⟨b1, az, rfl, h1, h⟩ := cons_inv h
    obtain ⟨b2, az, rfl, h2, h⟩ := cons_inv h
    obtain rfl := nil_inv h
    obtain ⟨g0, ds0⟩ := b0
    obtain ⟨rfl, t0_0⟩ := h0
    simp only at t0_0
    obtain ⟨y0_0, r0_0, rfl, e0_0, t0_1⟩ := cons_inv t0_0
    obtain ⟨x0_0, hx0_0, rfl⟩ := ty_i e0_0
    obtain ⟨y0_1, r0_1, rfl, e0_1, t0_2⟩ := cons_inv t0_1
    obtain ⟨x0_1, hx0_1, rfl⟩ := ty_i e0_1
    obtain ⟨y0_2, r0_2, rfl, e0_2, t0_3⟩ := cons_inv t0_2
    obtain ⟨x0_2, rfl⟩ := ty_b e0_2
    obtain rfl := nil_inv t0_3
    obtain ⟨fs1, hm1, rfl⟩ := arg_fes h1
    obtain ⟨x2, hx2, rfl⟩ := arg_i h2
    exact CostFits_con hm1

def wit : Array Value := #[.agg #[.int .i64 0, .int .i64 0, .bool false], .slice none 0 0, .int .u64 0]
def dat {H : Type} : List (DataW H) := [.agg [.lit (.int .i64 0), .lit (.int .i64 0), .lit (.bool false)], .nil, .lit (.int .u64 0)]
/-- A WORLD FOR THE WITNESS: the settled one, the listed variables holding what their initialisers lay. -/
noncomputable def laidWorld (os : Os) : World :=
  { World.holding Tryz.prog os ⟨#[], #[], []⟩ with heap := ((((World.holding Tryz.prog os ⟨#[], #[], []⟩).heap.modify 2 (fun
      | .cells _ t frozen => .cells #[.int .i64 0, .int .i64 4, .int .i64 6, .int .i64 1, .int .i64 5, .int .i64 7, .int .i64 12, .int .i64 13, .int .i64 15] t frozen
      | o => o)).modify 1 (fun
      | .cells _ t frozen => .cells #[.func (.func 175) #[] #[], .func (.func 176) #[] #[], .func (.func 177) #[] #[]] t frozen
      | o => o)).modify 0 (fun
      | .cells _ t frozen => .cells #[.int .u64 4096, .int .u64 2097152, .int .u64 1073741824] t frozen
      | o => o)) }
theorem laid_met (os : Os) : laidMetH Tryz.prog Rows.costFitsRow.laid ((laidWorld os).forCall (fun _ _ => 0) ⟨#[], wit, []⟩).memory :=
  laidMetH_of_parts3 (fuel := 8) (laidMet_of_run' 8 (by kernel_rfl) (by kernel_rfl)) (by kernel_rfl) (by kernel_rfl)
theorem reads (os : Os) {H : Type} (enc : TypeId × Value → H) : ∃ places, DataW.whole enc Tryz.prog ((laidWorld os).forCall (fun _ _ => 0) ⟨#[], wit, []⟩).memory Tryz.f4.params.toList Rows.costFitsSpec.vars false wit.toList 8 = some (dat, [], places) :=
  ⟨[], by kernel_rfl⟩

theorem lifted (os : Os) (started : os.Started) (H : Type) (enc : TypeId × Value → H) (F : Stop.Interp) :
    ReturnsInHanded {} Tryz.checked os 4 .any ((OpenSpec.ofChange Rows.costFitsSpec).preRow enc Tryz.prog Tryz.f4 Rows.costFitsRow.domain false Rows.costFitsRow.laid) (((OpenSpec.ofChange Rows.costFitsSpec).at F).post enc Tryz.prog Tryz.f4 false true false false) := by
  obtain ⟨places, hx⟩ := reads os enc
  refine returnsInHanded_of_row (C := Tryz.checked) (s := OpenSpec.ofChange Rows.costFitsSpec) own started (by kernel_rfl) Tryz.func4
    (witness_row_at (enc := enc) (C := Tryz.checked) false (laidWorld os) wit rfl (by kernel_rfl) (by kernel_rfl) (by kernel_rfl)
      (OpenSpec.preRow_of_cond 8 hx (by kernel_rfl) (fun k hk => by cases hk) (by kernel_rfl) (laid_met os))) ?_
  intro W base args ds gs before hval hW _ _ _ hL _ _
  exact contract H enc W base args ds gs before hval hW hL

set_option maxHeartbeats 8000000 in
theorem closed : joinedFacts Tryz.prog 4 Tryz.f4 (OpenSpec.ofChange Rows.costFitsSpec).bare Rows.costFitsRow = true := by
  unfold joinedFacts
  rw [fact_mayEnter, fact_laidOut, fact_lifts, fact_make]
  repeat' (with_reducible apply and_t)
  all_goals as_aux_lemma => kernel_rfl

theorem said : Rows.CostFitsSaid :=
  OpenClaim.holds_of_cond 4 Tryz.f4 rfl rfl rfl rfl rfl rfl rfl ⟨rfl, rfl, rfl, rfl, rfl⟩ rfl rfl rfl rfl rfl (by kernel_rfl) Tryz.func4 closed
    (of_decide_eq_true (by kernel_rfl)) (by unfold Func.isWrapper; first | (rw [if_pos (by decide +kernel)]; kernel_rfl) | (rw [if_neg (by decide +kernel)]; exact ⟨rfl, rfl⟩))
    (fun os started H enc _ F => by rw [OpenClaim.pre_eq_preRow]; exact lifted os started H enc F)

theorem plain (f : FuncId) (fn : Func) (hf : Tryz.pinned.checked.prog.funcNamed "atlas/atlaslaw26.CostFits" = some f) (hfn : Tryz.pinned.checked.prog.funcs[f]? = some fn) :
    false = Tryz.pinned.checked.prog.looks [] ∧ ∀ (j : Nat) t, fn.params[j]? = some t → Tryz.pinned.checked.prog.wantsStandIn t = false :=
  plain_of (by kernel_rfl) Tryz.func4 (by kernel_rfl) (by kernel_rfl) hf hfn

/-- ████ THE CARD ████ -/
theorem card : Rows.CostFitsCardSaid :=
  Claim7.holds_tied_plain_at .later [] _ _ _ _ said (fun _ h => by cases h) (by kernel_rfl) (fun _ h => by cases h) costFits_row_tie rfl ⟨rfl, rfl⟩ (by kernel_rfl) rfl plain (by kernel_rfl)
#print axioms card
end Go.Proofs.YtlihbielphcgbaaGreatDoor.costFits
