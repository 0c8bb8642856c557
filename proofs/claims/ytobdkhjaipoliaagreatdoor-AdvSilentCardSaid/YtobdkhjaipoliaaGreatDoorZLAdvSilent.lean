/-
  'atlas/atlaslaw17.AdvSilent': whatever the hart, the memory, the address and the rest, the law returns true, and the input reads as it did; its row and its card.
-/
import Derived.Test.YtobdkhjaipoliaaGreatDoorZBg
import Derived.Test.YtobdkhjaipoliaaGreatDoorZFacts
import Derived.Test.YtobdkhjaipoliaaGreatDoorZAdvh
import Derived.Test.YtobdkhjaipoliaaGreatDoorZArgh
import Derived.LaidHandle
import Derived.Test.YtobdkhjaipoliaaGreatDoorCards
import Derived.Test.YtobdkhjaipoliaaGreatDoorTie
import Derived.WalkKit
import Derived.ProofKit
import Derived.OpenShut
import Derived.Deep.DeepHandedRow
namespace Go.Proofs.YtobdkhjaipoliaaGreatDoor.advSilent
open Go.ChangeShapes Go.WideShapes Go.ChangeAt Go.RowKit Sx
set_option linter.unusedVariables false
set_option maxRecDepth 100000
theorem own : ownKnob Tryz.prog.godebug = none := by kernel_rfl
theorem laid_gr {W : World} (h : laidMetH Tryz.prog Rows.advSilentRow.laid W) : GR gAll (fun x => x < W.heap.size) W := by
  obtain ⟨ps, hv, _⟩ := (show laidMet Tryz.prog (Rows.advSilentRow.laid.filter fun x => x.2.handleName?.isNone) W ∧ handlesMet Tryz.prog _ W from h).1
  obtain ⟨v0, _, hv⟩ := laidVars_cons (n := "atlas/cause.causes") (g := 0) (ds := gCauses.2) 8 (by kernel_rfl) rfl (by kernel_rfl) (fun _ h => h) hv
  have v1 := VarIs.funcs (I := fun x => x < W.heap.size) (n := "atlas/perm.asks") (g := 2) (ds := gAsks.2) 8 h (by unfold Rows.advSilentRow; exact by repeat (first | exact List.mem_cons_self .. | apply List.mem_cons_of_mem)) (by kernel_rfl) rfl (by kernel_rfl) (fun _ h => h)
  obtain ⟨v2, _, hv⟩ := laidVars_cons (n := "atlas/plru.touches") (g := 3) (ds := gTouches.2) 8 (by kernel_rfl) rfl (by kernel_rfl) (fun _ h => h) hv
  obtain ⟨v3, _, hv⟩ := laidVars_cons (n := "atlas/va.sizes") (g := 1) (ds := gSizes.2) 8 (by kernel_rfl) rfl (by kernel_rfl) (fun _ h => h) hv
  exact (gr_cons (P := Tryz.prog) v0 (gr_cons (P := Tryz.prog) v1 (gr_cons (P := Tryz.prog) v2 (gr_cons (P := Tryz.prog) v3 gr_nil))))
theorem contract (H : Type) (enc : TypeId × Value → H) (W : World) (base : Nat) (args : Array Value) (ds gs : List (DataW H)) (before : List MemPlace)
    (hval : ∀ (j : Nat) t v, Tryz.f3.params[j]? = some t → args[j]? = some v → Value.okWide Tryz.prog W .any base t v)
    (hW : DataW.Whole enc Tryz.prog Tryz.f3.params.toList Rows.advSilentSpec.vars false W args.toList ds gs before) (hL : laidMetH Tryz.prog Rows.advSilentRow.laid W) :
    Calls Tryz.prog 3 args W fun e W' => ∃ v, e = .returned v ∧ Rows.advSilentSpec.post enc Tryz.prog Tryz.f3 false true false false W args v W' := by
  refine calls_post (P := Tryz.prog) (f := 3) (fn := Tryz.f3) (s := Rows.advSilentSpec) (b0 := base) (m := 8) (tys := [(true, [.sl SETR, .i .u64, .i .u64, .i .u64, .i .i64, .b, .b, .i .i64]), (true, [.i .u64, .sl CELL]), (false, [.sl [.i .u64]]), (false, [.i .i64]), (false, [.i .i64]), (false, [.i .u8]), (false, [.i .u64]), (false, [.i .u8]), (false, [.i .u64])]) (G := gAll) fact_laidOut (by kernel_rfl) (by kernel_rfl) rfl (by kernel_rfl) rfl (fun ds h => ?_) (fun az h => ?_) hval hW (laid_gr hL)
  · match ds, h with
    | [d1, d2, d3, d4, d5, d6, d7, d8, d9], _ => rfl
  ·
    obtain ⟨b0, az, rfl, h0, h⟩ := cons_inv h
    obtain ⟨b1, az, rfl, h1, h⟩ := cons_inv h
    obtain ⟨b2, az, rfl, h2, h⟩ := cons_inv h
    obtain ⟨b3, az, rfl, h3, h⟩ := cons_inv h
    obtain ⟨b4, az, rfl, h4, h⟩ := cons_inv h
    obtain ⟨b5, az, rfl, h5, h⟩ := cons_inv h
    obtain ⟨b6, az, rfl, h6, h⟩ := cons_inv h
    obtain ⟨b7, az, rfl, h7, h⟩ := cons_inv h
    obtain ⟨b8, az, rfl, h8, h⟩ := cons_inv h
    obtain rfl := nil_inv h
    obtain ⟨ht0, hm0, hx0, rfl⟩ := arg_hart h0
    have hmm0 : ht0.ts.length < 9223372036854775808 := Nat.lt_of_le_of_lt hm0 (by decide)
    obtain ⟨s1, cs1, hs1, hm1, hx1, rfl⟩ := arg_mem h1
    obtain ⟨x2, hm2, hx2, rfl⟩ := arg_ints h2
    obtain ⟨x3, hx3, rfl⟩ := arg_i h3
    obtain ⟨x4, hx4, rfl⟩ := arg_i h4
    obtain ⟨x5, hx5, rfl⟩ := arg_i h5
    have bx5 := bounds_u8 hx5
    obtain ⟨n5, rfl⟩ := Int.eq_ofNat_of_zero_le bx5.1
    clear hx5
    obtain ⟨x6, hx6, rfl⟩ := arg_i h6
    have bx6 := bounds_u64 hx6
    obtain ⟨n6, rfl⟩ := Int.eq_ofNat_of_zero_le bx6.1
    clear hx6
    obtain ⟨x7, hx7, rfl⟩ := arg_i h7
    have bx7 := bounds_u8 hx7
    obtain ⟨n7, rfl⟩ := Int.eq_ofNat_of_zero_le bx7.1
    clear hx7
    obtain ⟨x8, hx8, rfl⟩ := arg_i h8
    have bx8 := bounds_u64 hx8
    obtain ⟨n8, rfl⟩ := Int.eq_ofNat_of_zero_le bx8.1
    clear hx8
    exact AdvSilent_con hx0 hmm0 hs1 hx1 (Nat.lt_of_le_of_lt hm2 (by decide)) (fun z hz => by have := bounds_u64 (hx2 z hz); omega) (by omega) (by omega)
def wit : Array Value := #[.agg #[.slice none 0 0, .int .u64 0, .int .u64 0, .int .u64 0, .int .i64 0, .bool false, .bool false, .int .i64 0], .agg #[.int .u64 0, .slice none 0 0], .slice none 0 0, .int .i64 0, .int .i64 0, .int .u8 0, .int .u64 0, .int .u8 0, .int .u64 0]
def dat {H : Type} : List (DataW H) := [.agg [.agg [.nil], .agg [.lit (.int .u64 0), .lit (.int .u64 0), .lit (.int .u64 0)], .lit (.int .i64 0), .lit (.bool false), .lit (.bool false), .lit (.int .i64 0)], .agg [.lit (.int .u64 0), .nil], .nil, .lit (.int .i64 0), .lit (.int .i64 0), .lit (.int .u8 0), .lit (.int .u64 0), .lit (.int .u8 0), .lit (.int .u64 0)]
noncomputable def laidWorld (os : Os) : World :=
  { World.holding Tryz.prog os ⟨#[], #[], []⟩ with heap := (((((World.holding Tryz.prog os ⟨#[], #[], []⟩).heap.modify 0 (fun
      | .cells _ t frozen => .cells #[.int .i64 0, .int .i64 4, .int .i64 6, .int .i64 1, .int .i64 5, .int .i64 7, .int .i64 12, .int .i64 13, .int .i64 15] t frozen
      | o => o)).modify 2 (fun
      | .cells _ t frozen => .cells #[.func (.func 142) #[] #[], .func (.func 143) #[] #[], .func (.func 144) #[] #[]] t frozen
      | o => o)).modify 3 (fun
      | .cells _ t frozen => .cells #[.int .u8 3, .int .u8 0, .int .u8 1, .int .u8 2, .int .u8 4, .int .u8 1, .int .u8 0, .int .u8 5] t frozen
      | o => o)).modify 1 (fun
      | .cells _ t frozen => .cells #[.int .u64 4096, .int .u64 2097152, .int .u64 1073741824] t frozen
      | o => o)) }
theorem laid_met (os : Os) : laidMetH Tryz.prog Rows.advSilentRow.laid ((laidWorld os).forCall (fun _ _ => 0) ⟨#[], wit, []⟩).memory :=
  laidMetH_of_parts3 (fuel := 8) (laidMet_of_run' 8 (by kernel_rfl) (by kernel_rfl)) (by kernel_rfl) (by kernel_rfl)
theorem reads (os : Os) {H : Type} (enc : TypeId × Value → H) : ∃ places, DataW.whole enc Tryz.prog ((laidWorld os).forCall (fun _ _ => 0) ⟨#[], wit, []⟩).memory Tryz.f3.params.toList Rows.advSilentSpec.vars false wit.toList 8 = some (dat, [], places) :=
  ⟨[], by kernel_rfl⟩
theorem lifted (os : Os) (started : os.Started) (H : Type) (enc : TypeId × Value → H) (F : Stop.Interp) :
    ReturnsInHanded {} Tryz.checked os 3 .any ((OpenSpec.ofChange Rows.advSilentSpec).preRow enc Tryz.prog Tryz.f3 Rows.advSilentRow.domain false Rows.advSilentRow.laid) (((OpenSpec.ofChange Rows.advSilentSpec).at F).post enc Tryz.prog Tryz.f3 false true false false) := by
  obtain ⟨places, hx⟩ := reads os enc
  refine returnsInHanded_of_row (C := Tryz.checked) (s := OpenSpec.ofChange Rows.advSilentSpec) own started (by kernel_rfl) Tryz.func3
    (witness_row_at (enc := enc) (C := Tryz.checked) false (laidWorld os) wit rfl (by kernel_rfl) (by kernel_rfl) (by kernel_rfl)
      (OpenSpec.preRow_of_cond 8 hx (by kernel_rfl) (fun k hk => by cases hk) (by kernel_rfl) (laid_met os))) ?_
  intro W base args ds gs before hval hW _ _ _ hL _ _
  exact contract H enc W base args ds gs before hval hW hL
set_option maxHeartbeats 8000000 in
theorem closed : joinedFacts Tryz.prog 3 Tryz.f3 (OpenSpec.ofChange Rows.advSilentSpec).bare Rows.advSilentRow = true := by
  unfold joinedFacts
  rw [fact_mayEnter, fact_laidOut, fact_lifts, fact_make]
  repeat' (with_reducible apply and_t)
  all_goals as_aux_lemma => kernel_rfl
theorem said : Rows.AdvSilentSaid :=
  OpenClaim.holds_of_cond 3 Tryz.f3 rfl rfl rfl rfl rfl rfl rfl ⟨rfl, rfl, rfl, rfl, rfl⟩ rfl rfl rfl rfl rfl (by kernel_rfl) Tryz.func3 closed
    (of_decide_eq_true (by kernel_rfl)) (by unfold Func.isWrapper; first | (rw [if_pos (by decide +kernel)]; kernel_rfl) | (rw [if_neg (by decide +kernel)]; exact ⟨rfl, rfl⟩))
    (fun os started H enc _ F => by rw [OpenClaim.pre_eq_preRow]; exact lifted os started H enc F)
theorem plain (f : FuncId) (fn : Func) (hf : Tryz.pinned.checked.prog.funcNamed "atlas/atlaslaw17.AdvSilent" = some f) (hfn : Tryz.pinned.checked.prog.funcs[f]? = some fn) :
    false = Tryz.pinned.checked.prog.looks [] ∧ ∀ (j : Nat) t, fn.params[j]? = some t → Tryz.pinned.checked.prog.wantsStandIn t = false :=
  plain_of (by kernel_rfl) Tryz.func3 (by kernel_rfl) (by kernel_rfl) hf hfn
theorem card : Rows.AdvSilentCardSaid :=
  Claim7.holds_tied_plain_at .later [] _ _ _ _ said (fun _ h => by cases h) (by kernel_rfl) (fun _ h => by cases h) advSilent_row_tie rfl ⟨rfl, rfl⟩ (by kernel_rfl) rfl plain (by kernel_rfl)
#print axioms card
end Go.Proofs.YtobdkhjaipoliaaGreatDoor.advSilent
