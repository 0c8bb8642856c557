/-
  'atlas/atlaslaw03.MemKeeps': whatever the memory and the numbers, the law returns true, and the input reads as it did; its row.
-/
import Derived.Test.YtffahdloddkcfaaBg
import Derived.Test.YtffahdloddkcfaaFacts
import Derived.Test.YtffahdloddkcfaaMemk
import Derived.Test.YtffahdloddkcfaaArgm
import Derived.LaidHandle
import Derived.WalkKit
import Derived.ProofKit
import Derived.OpenShut
import Derived.Deep.DeepHandedRow
namespace Go.Proofs.Ytffahdloddkcfaa.memKeeps
open Go.ChangeShapes Go.WideShapes Go.ChangeAt Go.RowKit Sx
set_option linter.unusedVariables false
set_option maxRecDepth 100000

theorem own : ownKnob Try.prog.godebug = none := by kernel_rfl

theorem laid_gr {W : World} (h : laidMetH Try.prog Rows.memKeepsRow.laid W) : GR gAll (fun x => x < W.heap.size) W := by
  exact gr_nil

theorem contract (H : Type) (enc : TypeId × Value → H) (W : World) (base : Nat) (args : Array Value) (ds gs : List (DataW H)) (before : List MemPlace)
    (hval : ∀ (j : Nat) t v, Try.f7.params[j]? = some t → args[j]? = some v → Value.okWide Try.prog W .any base t v)
    (hW : DataW.Whole enc Try.prog Try.f7.params.toList Rows.memKeepsSpec.vars false W args.toList ds gs before) (hL : laidMetH Try.prog Rows.memKeepsRow.laid W) :
    Calls Try.prog 7 args W fun e W' => ∃ v, e = .returned v ∧ Rows.memKeepsSpec.post enc Try.prog Try.f7 false true false false W args v W' := by
  refine calls_post (P := Try.prog) (f := 7) (fn := Try.f7) (s := Rows.memKeepsSpec) (b0 := base) (m := 8) (tys := [(true, [.i .u64, .sl CELL]), (false, [.i .u64]), (false, [.i .i64]), (false, [.i .u64])]) (G := gAll) fact_laidOut (by kernel_rfl) (by kernel_rfl) rfl (by kernel_rfl) rfl (fun ds h => ?_) (fun az h => ?_) hval hW (laid_gr hL)
  · match ds, h with
    | [d1, d2, d3, d4], _ => rfl
  ·
    obtain ⟨b0, az, rfl, h0, h⟩ := cons_inv h
    obtain ⟨b1, az, rfl, h1, h⟩ := cons_inv h
    obtain ⟨b2, az, rfl, h2, h⟩ := cons_inv h
    obtain ⟨b3, az, rfl, h3, h⟩ := cons_inv h
    obtain rfl := nil_inv h
    obtain ⟨s0, cs0, hs0, hm0, hx0, rfl⟩ := arg_mem h0
    obtain ⟨x1, hx1, rfl⟩ := arg_i h1
    have bx1 := bounds_u64 hx1
    obtain ⟨n1, rfl⟩ := Int.eq_ofNat_of_zero_le bx1.1
    clear hx1
    obtain ⟨x2, hx2, rfl⟩ := arg_i h2
    obtain ⟨x3, hx3, rfl⟩ := arg_i h3
    have bx3 := bounds_u64 hx3
    obtain ⟨n3, rfl⟩ := Int.eq_ofNat_of_zero_le bx3.1
    clear hx3
    exact MemKeeps_con (.inl rfl) hs0 hx0 (by omega) (by omega)

def wit : Array Value := #[.agg #[.int .u64 0, .slice none 0 0], .int .u64 0, .int .i64 0, .int .u64 0]
def dat {H : Type} : List (DataW H) := [.agg [.lit (.int .u64 0), .nil], .lit (.int .u64 0), .lit (.int .i64 0), .lit (.int .u64 0)]
/-- A WORLD FOR THE WITNESS: the settled one, the listed variables holding what their initialisers lay. -/
noncomputable def laidWorld (os : Os) : World :=
  { World.holding Try.prog os ⟨#[], #[], []⟩ with heap := (World.holding Try.prog os ⟨#[], #[], []⟩).heap }
theorem laid_met (os : Os) : laidMet Try.prog Rows.memKeepsRow.laid ((laidWorld os).forCall (fun _ _ => 0) ⟨#[], wit, []⟩).memory :=
  laidMet_of_run' 8 (by kernel_rfl) (by kernel_rfl)
theorem reads (os : Os) {H : Type} (enc : TypeId × Value → H) : ∃ places, DataW.whole enc Try.prog ((laidWorld os).forCall (fun _ _ => 0) ⟨#[], wit, []⟩).memory Try.f7.params.toList Rows.memKeepsSpec.vars false wit.toList 8 = some (dat, [], places) :=
  ⟨[], by kernel_rfl⟩

theorem lifted (os : Os) (started : os.Started) (H : Type) (enc : TypeId × Value → H) (F : Stop.Interp) :
    ReturnsInHanded {} Try.checked os 7 .any ((OpenSpec.ofChange Rows.memKeepsSpec).preRow enc Try.prog Try.f7 Rows.memKeepsRow.domain false Rows.memKeepsRow.laid) (((OpenSpec.ofChange Rows.memKeepsSpec).at F).post enc Try.prog Try.f7 false true false false) := by
  obtain ⟨places, hx⟩ := reads os enc
  refine returnsInHanded_of_row (C := Try.checked) (s := OpenSpec.ofChange Rows.memKeepsSpec) own started (by kernel_rfl) Try.func7
    (witness_row_at (enc := enc) (C := Try.checked) false (laidWorld os) wit rfl (by kernel_rfl) (by kernel_rfl) (by kernel_rfl)
      (OpenSpec.preRow_of_cond 8 hx (by kernel_rfl) (fun k hk => by cases hk) (by kernel_rfl) (laid_met os))) ?_
  intro W base args ds gs before hval hW _ _ _ hL _ _
  exact contract H enc W base args ds gs before hval hW hL

set_option maxHeartbeats 8000000 in
theorem closed : joinedFacts Try.prog 7 Try.f7 (OpenSpec.ofChange Rows.memKeepsSpec).bare Rows.memKeepsRow = true := by
  unfold joinedFacts
  rw [fact_mayEnter, fact_laidOut, fact_lifts, fact_make]
  repeat' (with_reducible apply and_t)
  all_goals as_aux_lemma => kernel_rfl

theorem said : Rows.MemKeepsSaid :=
  OpenClaim.holds_of_cond 7 Try.f7 rfl rfl rfl rfl rfl rfl rfl ⟨rfl, rfl, rfl, rfl, rfl⟩ rfl rfl rfl rfl rfl (by kernel_rfl) Try.func7 closed
    (of_decide_eq_true (by kernel_rfl)) (by unfold Func.isWrapper; first | (rw [if_pos (by decide +kernel)]; kernel_rfl) | (rw [if_neg (by decide +kernel)]; exact ⟨rfl, rfl⟩))
    (fun os started H enc _ F => by rw [OpenClaim.pre_eq_preRow]; exact lifted os started H enc F)
#print axioms said
end Go.Proofs.Ytffahdloddkcfaa.memKeeps
