/-
  'atlas/atlaslaw08.PermLess': whatever the permissions, the law returns true, and the input reads as it did; its row and its card.
-/
import Derived.Test.YtkgomfkjeonmfaaDoorRow
import Derived.Test.YtkgomfkjeonmfaaDoorFacts
import Derived.Test.YtkgomfkjeonmfaaDoorPerml
import Derived.LaidHandle
import Derived.Test.YtkgomfkjeonmfaaDoorCards
import Derived.Test.YtkgomfkjeonmfaaDoorTie
import Derived.WalkKit
import Derived.ProofKit
import Derived.OpenShut
import Derived.Deep.DeepHandedRow
namespace Go.Proofs.YtkgomfkjeonmfaaDoor.permLess
open Go.ChangeShapes Go.WideShapes Go.ChangeAt Go.RowKit Sx
set_option linter.unusedVariables false
set_option maxRecDepth 100000

theorem own : ownKnob Tryd.prog.godebug = none := by kernel_rfl

theorem laid_gr {W : World} (h : laidMetH Tryd.prog Rows.permLessRow.laid W) : GR gPerm (fun x => x < W.heap.size) W := by
  have v0 := VarIs.funcs (I := fun x => x < W.heap.size) (n := "atlas/perm.asks") (g := 0) (ds := gAsks.2) 8 h (by unfold Rows.permLessRow; exact by repeat (first | exact List.mem_cons_self .. | apply List.mem_cons_of_mem)) (by kernel_rfl) rfl (by kernel_rfl) (fun _ h => h)
  exact (gr_cons (P := Tryd.prog) v0 gr_nil)

theorem contract (H : Type) (enc : TypeId × Value → H) (W : World) (base : Nat) (args : Array Value) (ds gs : List (DataW H)) (before : List MemPlace)
    (hval : ∀ (j : Nat) t v, Tryd.f5.params[j]? = some t → args[j]? = some v → Value.okWide Tryd.prog W .any base t v)
    (hW : DataW.Whole enc Tryd.prog Tryd.f5.params.toList Rows.permLessSpec.vars false W args.toList ds gs before) (hL : laidMetH Tryd.prog Rows.permLessRow.laid W) :
    Calls Tryd.prog 5 args W fun e W' => ∃ v, e = .returned v ∧ Rows.permLessSpec.post enc Tryd.prog Tryd.f5 false true false false W args v W' := by
  refine calls_post (P := Tryd.prog) (f := 5) (fn := Tryd.f5) (s := Rows.permLessSpec) (b0 := base) (m := 8) (tys := [(false, [.i .u8]), (false, [.i .u8]), (false, [.i .u8])]) (G := gPerm) fact_laidOut (by kernel_rfl) (by kernel_rfl) rfl (by kernel_rfl) rfl (fun ds h => ?_) (fun az h => ?_) hval hW (laid_gr hL)
  · match ds, h with
    | [d1, d2, d3], _ => rfl
  ·
    obtain ⟨b0, az, rfl, h0, h⟩ := cons_inv h
    obtain ⟨b1, az, rfl, h1, h⟩ := cons_inv h
    obtain ⟨b2, az, rfl, h2, h⟩ := cons_inv h
    obtain rfl := nil_inv h
    obtain ⟨x0, hx0, rfl⟩ := arg_i h0
    obtain ⟨x1, hx1, rfl⟩ := arg_i h1
    obtain ⟨x2, hx2, rfl⟩ := arg_i h2
    have := bounds_u8 hx0
    have := bounds_u8 hx1
    have := bounds_u8 hx2
    exact PermLess_con (by omega) (by omega) (by omega) (by omega) (by omega) (by omega)

/-- A WORLD FOR THE WITNESS: the settled one, the listed variables holding what their initialisers lay. -/
noncomputable def laidWorld (os : Os) : World :=
  { World.holding Tryd.prog os ⟨#[], #[], []⟩ with heap := (World.holding Tryd.prog os ⟨#[], #[], []⟩).heap.modify 0 (fun
      | .cells _ t frozen => .cells #[.func (.func 35) #[] #[], .func (.func 36) #[] #[], .func (.func 37) #[] #[]] t frozen
      | o => o) }
theorem laid_met (os : Os) : laidMetH Tryd.prog Rows.permLessRow.laid ((laidWorld os).forCall (fun _ _ => 0) ⟨#[], #[.int .u8 0, .int .u8 0, .int .u8 0], []⟩).memory :=
  laidMetH_of_parts3 (fuel := 8) (laidMet_of_run' 8 (by kernel_rfl) (by kernel_rfl)) (by kernel_rfl) (by kernel_rfl)
theorem reads (os : Os) {H : Type} (enc : TypeId × Value → H) : ∃ places, DataW.whole enc Tryd.prog ((laidWorld os).forCall (fun _ _ => 0) ⟨#[], #[.int .u8 0, .int .u8 0, .int .u8 0], []⟩).memory Tryd.f5.params.toList Rows.permLessSpec.vars false (#[.int .u8 0, .int .u8 0, .int .u8 0] : Array Value).toList 8 = some ([.lit (.int .u8 0), .lit (.int .u8 0), .lit (.int .u8 0)], [], places) :=
  ⟨[], by kernel_rfl⟩

theorem lifted (os : Os) (started : os.Started) (H : Type) (enc : TypeId × Value → H) (F : Stop.Interp) :
    ReturnsInHanded {} Tryd.checked os 5 .any ((OpenSpec.ofChange Rows.permLessSpec).preRow enc Tryd.prog Tryd.f5 Rows.permLessRow.domain false Rows.permLessRow.laid) (((OpenSpec.ofChange Rows.permLessSpec).at F).post enc Tryd.prog Tryd.f5 false true false false) := by
  obtain ⟨places, hx⟩ := reads os enc
  refine returnsInHanded_of_row (C := Tryd.checked) (s := OpenSpec.ofChange Rows.permLessSpec) own started (by kernel_rfl) Tryd.func5
    (witness_row_at (enc := enc) (C := Tryd.checked) false (laidWorld os) #[.int .u8 0, .int .u8 0, .int .u8 0] rfl (by kernel_rfl) (by kernel_rfl) (by kernel_rfl)
      (OpenSpec.preRow_of_cond 8 hx (by kernel_rfl) (fun k hk => by cases hk) (by kernel_rfl) (laid_met os))) ?_
  intro W base args ds gs before hval hW _ _ _ hL _ _
  exact contract H enc W base args ds gs before hval hW hL

theorem closed : joinedFacts Tryd.prog 5 Tryd.f5 (OpenSpec.ofChange Rows.permLessSpec).bare Rows.permLessRow = true := by
  unfold joinedFacts
  rw [fact_mayEnter, fact_laidOut, fact_lifts, fact_make]
  repeat' (with_reducible apply and_t)
  all_goals as_aux_lemma => kernel_rfl

theorem said : Rows.PermLessSaid :=
  OpenClaim.holds_of_cond 5 Tryd.f5 rfl rfl rfl rfl rfl rfl rfl ⟨rfl, rfl, rfl, rfl, rfl⟩ rfl rfl rfl rfl rfl (by kernel_rfl) Tryd.func5 closed
    (of_decide_eq_true (by kernel_rfl)) (by unfold Func.isWrapper; first | (rw [if_pos (by decide +kernel)]; kernel_rfl) | (rw [if_neg (by decide +kernel)]; exact ⟨rfl, rfl⟩))
    (fun os started H enc _ F => by rw [OpenClaim.pre_eq_preRow]; exact lifted os started H enc F)

theorem plain (f : FuncId) (fn : Func) (hf : Tryd.pinned.checked.prog.funcNamed "atlas/atlaslaw08.PermLess" = some f) (hfn : Tryd.pinned.checked.prog.funcs[f]? = some fn) :
    false = Tryd.pinned.checked.prog.looks [] ∧ ∀ (j : Nat) t, fn.params[j]? = some t → Tryd.pinned.checked.prog.wantsStandIn t = false :=
  plain_of (by kernel_rfl) Tryd.func5 (by kernel_rfl) (by kernel_rfl) hf hfn

/-- ████ THE CARD ████ -/
theorem card : Rows.PermLessCardSaid :=
  Claim7.holds_tied_plain_at .later [] _ _ _ _ said (fun _ h => by cases h) (by kernel_rfl) (fun _ h => by cases h) permLess_row_tie rfl ⟨rfl, rfl⟩ (by kernel_rfl) rfl plain (by kernel_rfl)
#print axioms card
end Go.Proofs.YtkgomfkjeonmfaaDoor.permLess
