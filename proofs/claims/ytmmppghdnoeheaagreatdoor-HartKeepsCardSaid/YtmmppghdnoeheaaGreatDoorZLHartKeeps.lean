/-
  'atlas/atlaslaw16.HartKeeps': whatever the hart, the memory, the address and the rest, the law returns true, and the input reads as it did; its row and its card.
-/
import Derived.Test.YtmmppghdnoeheaaGreatDoorZBg
import Derived.Test.YtmmppghdnoeheaaGreatDoorZFacts
import Derived.Test.YtmmppghdnoeheaaGreatDoorZHarte
import Derived.Test.YtmmppghdnoeheaaGreatDoorZArgh
import Derived.LaidHandle
import Derived.Test.YtmmppghdnoeheaaGreatDoorCards
import Derived.Test.YtmmppghdnoeheaaGreatDoorTie
import Derived.WalkKit
import Derived.ProofKit
import Derived.OpenShut
import Derived.Deep.DeepHandedRow
namespace Go.Proofs.YtmmppghdnoeheaaGreatDoor.hartKeeps
open Go.ChangeShapes Go.WideShapes Go.ChangeAt Go.RowKit Sx
set_option linter.unusedVariables false
set_option maxRecDepth 100000
theorem own : ownKnob Tryz.prog.godebug = none := by kernel_rfl
theorem laid_gr {W : World} (h : laidMetH Tryz.prog Rows.hartKeepsRow.laid W) : GR gAll (fun x => x < W.heap.size) W := by
  obtain ⟨ps, hv, _⟩ := (show laidMet Tryz.prog (Rows.hartKeepsRow.laid.filter fun x => x.2.handleName?.isNone) W ∧ handlesMet Tryz.prog _ W from h).1
  obtain ⟨v0, _, hv⟩ := laidVars_cons (n := "atlas/cause.causes") (g := 0) (ds := gCauses.2) 8 (by kernel_rfl) rfl (by kernel_rfl) (fun _ h => h) hv
  have v1 := VarIs.funcs (I := fun x => x < W.heap.size) (n := "atlas/perm.asks") (g := 1) (ds := gAsks.2) 8 h (by unfold Rows.hartKeepsRow; exact by repeat (first | exact List.mem_cons_self .. | apply List.mem_cons_of_mem)) (by kernel_rfl) rfl (by kernel_rfl) (fun _ h => h)
  obtain ⟨v2, _, hv⟩ := laidVars_cons (n := "atlas/plru.touches") (g := 3) (ds := gTouches.2) 8 (by kernel_rfl) rfl (by kernel_rfl) (fun _ h => h) hv
  obtain ⟨v3, _, hv⟩ := laidVars_cons (n := "atlas/va.sizes") (g := 2) (ds := gSizes.2) 8 (by kernel_rfl) rfl (by kernel_rfl) (fun _ h => h) hv
  exact (gr_cons (P := Tryz.prog) v0 (gr_cons (P := Tryz.prog) v1 (gr_cons (P := Tryz.prog) v2 (gr_cons (P := Tryz.prog) v3 gr_nil))))
theorem contract (H : Type) (enc : TypeId × Value → H) (W : World) (base : Nat) (args : Array Value) (ds gs : List (DataW H)) (before : List MemPlace)
    (hval : ∀ (j : Nat) t v, Tryz.f6.params[j]? = some t → args[j]? = some v → Value.okWide Tryz.prog W .any base t v)
    (hW : DataW.Whole enc Tryz.prog Tryz.f6.params.toList Rows.hartKeepsSpec.vars false W args.toList ds gs before) (hL : laidMetH Tryz.prog Rows.hartKeepsRow.laid W) :
    Calls Tryz.prog 6 args W fun e W' => ∃ v, e = .returned v ∧ Rows.hartKeepsSpec.post enc Tryz.prog Tryz.f6 false true false false W args v W' := by
  refine calls_post (P := Tryz.prog) (f := 6) (fn := Tryz.f6) (s := Rows.hartKeepsSpec) (b0 := base) (m := 8) (tys := [(true, [.sl SETR, .i .u64, .i .u64, .i .u64, .i .i64, .b, .b, .i .i64]), (true, [.i .u64, .sl CELL]), (false, [.i .u8]), (false, [.i .u64]), (false, [.i .u8]), (false, [.i .u64])]) (G := gAll) fact_laidOut (by kernel_rfl) (by kernel_rfl) rfl (by kernel_rfl) rfl (fun ds h => ?_) (fun az h => ?_) hval hW (laid_gr hL)
  · match ds, h with
    | [d1, d2, d3, d4, d5, d6], _ => rfl
  ·
    obtain ⟨b0, az, rfl, h0, h⟩ := cons_inv h
    obtain ⟨b1, az, rfl, h1, h⟩ := cons_inv h
    obtain ⟨b2, az, rfl, h2, h⟩ := cons_inv h
    obtain ⟨b3, az, rfl, h3, h⟩ := cons_inv h
    obtain ⟨b4, az, rfl, h4, h⟩ := cons_inv h
    obtain ⟨b5, az, rfl, h5, h⟩ := cons_inv h
    obtain rfl := nil_inv h
    obtain ⟨ht0, hm0, hx0, rfl⟩ := arg_hart h0
    have hmm0 : ht0.ts.length < 9223372036854775808 := Nat.lt_of_le_of_lt hm0 (by decide)
    obtain ⟨s1, cs1, hs1, hm1, hx1, rfl⟩ := arg_mem h1
    obtain ⟨x2, hx2, rfl⟩ := arg_i h2
    have bx2 := bounds_u8 hx2
    obtain ⟨n2, rfl⟩ := Int.eq_ofNat_of_zero_le bx2.1
    clear hx2
    obtain ⟨x3, hx3, rfl⟩ := arg_i h3
    have bx3 := bounds_u64 hx3
    obtain ⟨n3, rfl⟩ := Int.eq_ofNat_of_zero_le bx3.1
    clear hx3
    obtain ⟨x4, hx4, rfl⟩ := arg_i h4
    have bx4 := bounds_u8 hx4
    obtain ⟨n4, rfl⟩ := Int.eq_ofNat_of_zero_le bx4.1
    clear hx4
    obtain ⟨x5, hx5, rfl⟩ := arg_i h5
    have bx5 := bounds_u64 hx5
    obtain ⟨n5, rfl⟩ := Int.eq_ofNat_of_zero_le bx5.1
    clear hx5
    exact HartKeeps_con hx0 hmm0 hs1 hx1 (by omega) (by omega)
def wit : Array Value := #[.agg #[.slice none 0 0, .int .u64 0, .int .u64 0, .int .u64 0, .int .i64 0, .bool false, .bool false, .int .i64 0], .agg #[.int .u64 0, .slice none 0 0], .int .u8 0, .int .u64 0, .int .u8 0, .int .u64 0]
def dat {H : Type} : List (DataW H) := [.agg [.agg [.nil], .agg [.lit (.int .u64 0), .lit (.int .u64 0), .lit (.int .u64 0)], .lit (.int .i64 0), .lit (.bool false), .lit (.bool false), .lit (.int .i64 0)], .agg [.lit (.int .u64 0), .nil], .lit (.int .u8 0), .lit (.int .u64 0), .lit (.int .u8 0), .lit (.int .u64 0)]
noncomputable def laidWorld (os : Os) : World :=
  { World.holding Tryz.prog os ⟨#[], #[], []⟩ with heap := (((((World.holding Tryz.prog os ⟨#[], #[], []⟩).heap.modify 0 (fun
      | .cells _ t frozen => .cells #[.int .i64 0, .int .i64 4, .int .i64 6, .int .i64 1, .int .i64 5, .int .i64 7, .int .i64 12, .int .i64 13, .int .i64 15] t frozen
      | o => o)).modify 1 (fun
      | .cells _ t frozen => .cells #[.func (.func 157) #[] #[], .func (.func 158) #[] #[], .func (.func 159) #[] #[]] t frozen
      | o => o)).modify 3 (fun
      | .cells _ t frozen => .cells #[.int .u8 3, .int .u8 0, .int .u8 1, .int .u8 2, .int .u8 4, .int .u8 1, .int .u8 0, .int .u8 5] t frozen
      | o => o)).modify 2 (fun
      | .cells _ t frozen => .cells #[.int .u64 4096, .int .u64 2097152, .int .u64 1073741824] t frozen
      | o => o)) }
theorem laid_met (os : Os) : laidMetH Tryz.prog Rows.hartKeepsRow.laid ((laidWorld os).forCall (fun _ _ => 0) ⟨#[], wit, []⟩).memory :=
  laidMetH_of_parts3 (fuel := 8) (laidMet_of_run' 8 (by kernel_rfl) (by kernel_rfl)) (by kernel_rfl) (by kernel_rfl)
theorem reads (os : Os) {H : Type} (enc : TypeId × Value → H) : ∃ places, DataW.whole enc Tryz.prog ((laidWorld os).forCall (fun _ _ => 0) ⟨#[], wit, []⟩).memory Tryz.f6.params.toList Rows.hartKeepsSpec.vars false wit.toList 8 = some (dat, [], places) :=
  ⟨[], by kernel_rfl⟩
theorem lifted (os : Os) (started : os.Started) (H : Type) (enc : TypeId × Value → H) (F : Stop.Interp) :
    ReturnsInHanded {} Tryz.checked os 6 .any ((OpenSpec.ofChange Rows.hartKeepsSpec).preRow enc Tryz.prog Tryz.f6 Rows.hartKeepsRow.domain false Rows.hartKeepsRow.laid) (((OpenSpec.ofChange Rows.hartKeepsSpec).at F).post enc Tryz.prog Tryz.f6 false true false false) := by
  obtain ⟨places, hx⟩ := reads os enc
  refine returnsInHanded_of_row (C := Tryz.checked) (s := OpenSpec.ofChange Rows.hartKeepsSpec) own started (by kernel_rfl) Tryz.func6
    (witness_row_at (enc := enc) (C := Tryz.checked) false (laidWorld os) wit rfl (by kernel_rfl) (by kernel_rfl) (by kernel_rfl)
      (OpenSpec.preRow_of_cond 8 hx (by kernel_rfl) (fun k hk => by cases hk) (by kernel_rfl) (laid_met os))) ?_
  intro W base args ds gs before hval hW _ _ _ hL _ _
  exact contract H enc W base args ds gs before hval hW hL
set_option maxHeartbeats 8000000 in
theorem closed : joinedFacts Tryz.prog 6 Tryz.f6 (OpenSpec.ofChange Rows.hartKeepsSpec).bare Rows.hartKeepsRow = true := by
  unfold joinedFacts
  rw [fact_mayEnter, fact_laidOut, fact_lifts, fact_make]
  repeat' (with_reducible apply and_t)
  all_goals as_aux_lemma => kernel_rfl
theorem said : Rows.HartKeepsSaid :=
  OpenClaim.holds_of_cond 6 Tryz.f6 rfl rfl rfl rfl rfl rfl rfl ⟨rfl, rfl, rfl, rfl, rfl⟩ rfl rfl rfl rfl rfl (by kernel_rfl) Tryz.func6 closed
    (of_decide_eq_true (by kernel_rfl)) (by unfold Func.isWrapper; first | (rw [if_pos (by decide +kernel)]; kernel_rfl) | (rw [if_neg (by decide +kernel)]; exact ⟨rfl, rfl⟩))
    (fun os started H enc _ F => by rw [OpenClaim.pre_eq_preRow]; exact lifted os started H enc F)
theorem plain (f : FuncId) (fn : Func) (hf : Tryz.pinned.checked.prog.funcNamed "atlas/atlaslaw16.HartKeeps" = some f) (hfn : Tryz.pinned.checked.prog.funcs[f]? = some fn) :
    false = Tryz.pinned.checked.prog.looks [] ∧ ∀ (j : Nat) t, fn.params[j]? = some t → Tryz.pinned.checked.prog.wantsStandIn t = false :=
  plain_of (by kernel_rfl) Tryz.func6 (by kernel_rfl) (by kernel_rfl) hf hfn
theorem card : Rows.HartKeepsCardSaid :=
  Claim7.holds_tied_plain_at .later [] _ _ _ _ said (fun _ h => by cases h) (by kernel_rfl) (fun _ h => by cases h) hartKeeps_row_tie rfl ⟨rfl, rfl⟩ (by kernel_rfl) rfl plain (by kernel_rfl)
#print axioms card
end Go.Proofs.YtmmppghdnoeheaaGreatDoor.hartKeeps
