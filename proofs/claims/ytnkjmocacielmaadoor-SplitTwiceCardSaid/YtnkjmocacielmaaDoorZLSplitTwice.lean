/-
 'atlas/atlaslaw20.SplitTwice': whatever the memory, the pool, the tree, the address and the rest, the law returns true, and the input reads as it did; its row and its card.
-/
import Derived.Test.YtnkjmocacielmaaDoorZBg
import Derived.Test.YtnkjmocacielmaaDoorZFacts
import Derived.Test.YtnkjmocacielmaaDoorZSpk
import Derived.Test.YtnkjmocacielmaaDoorZArgm
import Derived.LaidHandle
import Derived.Test.YtnkjmocacielmaaDoorCards
import Derived.Test.YtnkjmocacielmaaDoorTie
import Derived.WalkKit
import Derived.ProofKit
import Derived.OpenShut
import Derived.Deep.DeepHandedRow
namespace Go.Proofs.YtnkjmocacielmaaDoor.splitTwice
open Go.ChangeShapes Go.WideShapes Go.ChangeAt Go.RowKit Sx
set_option linter.unusedVariables false
set_option maxRecDepth 100000
theorem own : ownKnob Tryd.prog.godebug = none := by kernel_rfl
theorem laid_gr {W : World} (h : laidMetH Tryd.prog Rows.splitTwiceRow.laid W) : GR gAll (fun x => x < W.heap.size) W := by
 have h' : laidMet Tryd.prog Rows.splitTwiceRow.laid W := h
 obtain ⟨ps, hv, _⟩ := h'
 obtain ⟨v0, _, hv⟩ := laidVars_cons (n := "atlas/va.sizes") (g := 0) (ds := gSizes.2) 8 (by kernel_rfl) rfl (by kernel_rfl) (fun _ h => h) hv
 obtain ⟨v1, _, hv⟩ := laidVars_cons (n := "math/bits.deBruijn64tab") (g := 1) (ds := gDebr.2) 8 (by kernel_rfl) rfl (by kernel_rfl) (fun _ h => h) hv
 exact (gr_cons (P := Tryd.prog) v0 (gr_cons (P := Tryd.prog) v1 gr_nil))
theorem contract (H : Type) (enc : TypeId × Value → H) (W : World) (base : Nat) (args : Array Value) (ds gs : List (DataW H)) (before : List MemPlace)
 (hval : ∀ (j : Nat) t v, Tryd.f6.params[j]? = some t → args[j]? = some v → Value.okWide Tryd.prog W .any base t v)
 (hW : DataW.Whole enc Tryd.prog Tryd.f6.params.toList Rows.splitTwiceSpec.vars false W args.toList ds gs before) (hL : laidMetH Tryd.prog Rows.splitTwiceRow.laid W) :
 Calls Tryd.prog 6 args W fun e W' => ∃ v, e = .returned v ∧ Rows.splitTwiceSpec.post enc Tryd.prog Tryd.f6 false true false false W args v W' := by
 refine calls_post (P := Tryd.prog) (f := 6) (fn := Tryd.f6) (s := Rows.splitTwiceSpec) (b0 := base) (m := 8) (tys := [(true, [.i .u64, .sl CELL]), (true, [.i .u64, .i .i64, .i .u64]), (false, [.i .u64]), (false, [.i .u64]), (false, [.i .u8])]) (G := gAll) fact_laidOut (by kernel_rfl) (by kernel_rfl) rfl (by kernel_rfl) rfl (fun ds h => ?_) (fun az h => ?_) hval hW (laid_gr hL)
 ·match ds, h with
  | [d1, d2, d3, d4, d5], _ => rfl
 ·
  obtain ⟨b0, az, rfl, h0, h⟩ := cons_inv h
  obtain ⟨b1, az, rfl, h1, h⟩ := cons_inv h
  obtain ⟨b2, az, rfl, h2, h⟩ := cons_inv h
  obtain ⟨b3, az, rfl, h3, h⟩ := cons_inv h
  obtain ⟨b4, az, rfl, h4, h⟩ := cons_inv h
  obtain rfl := nil_inv h
  obtain ⟨s0, cs0, hs0, hm0, hx0, rfl⟩ := arg_mem h0
  obtain ⟨g1, ds1⟩ := b1
  obtain ⟨rfl, t1_0⟩ := h1
  simp only at t1_0
  obtain ⟨y1_0, r1_0, rfl, e1_0, t1_1⟩ := cons_inv t1_0
  obtain ⟨x1_0, hx1_0, rfl⟩ := ty_i e1_0
  have bx1_0 := bounds_u64 hx1_0
  obtain ⟨n1_0, rfl⟩ := Int.eq_ofNat_of_zero_le bx1_0.1
  clear hx1_0
  obtain ⟨y1_1, r1_1, rfl, e1_1, t1_2⟩ := cons_inv t1_1
  obtain ⟨x1_1, hx1_1, rfl⟩ := ty_i e1_1
  have bx1_1 := bounds_i64 hx1_1
  obtain ⟨y1_2, r1_2, rfl, e1_2, t1_3⟩ := cons_inv t1_2
  obtain ⟨x1_2, hx1_2, rfl⟩ := ty_i e1_2
  have bx1_2 := bounds_u64 hx1_2
  obtain ⟨n1_2, rfl⟩ := Int.eq_ofNat_of_zero_le bx1_2.1
  clear hx1_2
  obtain rfl := nil_inv t1_3
  obtain ⟨x2, hx2, rfl⟩ := arg_i h2
  have bx2 := bounds_u64 hx2
  obtain ⟨n2, rfl⟩ := Int.eq_ofNat_of_zero_le bx2.1
  clear hx2
  obtain ⟨x3, hx3, rfl⟩ := arg_i h3
  have bx3 := bounds_u64 hx3
  obtain ⟨n3, rfl⟩ := Int.eq_ofNat_of_zero_le bx3.1
  clear hx3
  obtain ⟨x4, hx4, rfl⟩ := arg_i h4
  have bx4 := bounds_u8 hx4
  obtain ⟨n4, rfl⟩ := Int.eq_ofNat_of_zero_le bx4.1
  clear hx4
  exact SplitTwice_con hs0 hx0 (Nat.lt_of_le_of_lt hm0 (by decide)) (by omega) (by omega) bx1_1.1 (by omega) (by omega) (by omega) (by omega)
def wit : Array Value := #[.agg #[.int .u64 0, .slice none 0 0], .agg #[.int .u64 0, .int .i64 0, .int .u64 0], .int .u64 0, .int .u64 0, .int .u8 0]
def dat {H : Type} : List (DataW H) := [.agg [.lit (.int .u64 0), .nil], .agg [.lit (.int .u64 0), .lit (.int .i64 0), .lit (.int .u64 0)], .lit (.int .u64 0), .lit (.int .u64 0), .lit (.int .u8 0)]
noncomputable def laidWorld (os : Os) : World :=
 { World.holding Tryd.prog os ⟨#[], #[], []⟩ with heap := (((World.holding Tryd.prog os ⟨#[], #[], []⟩).heap.modify 0 (fun
    | .cells _ t frozen => .cells #[.int .u64 4096, .int .u64 2097152, .int .u64 1073741824] t frozen
    | o => o)).modify 1 (fun
    | .cells _ t frozen => .cells #[.int .u8 0, .int .u8 1, .int .u8 56, .int .u8 2, .int .u8 57, .int .u8 49, .int .u8 28, .int .u8 3, .int .u8 61, .int .u8 58, .int .u8 42, .int .u8 50, .int .u8 38, .int .u8 29, .int .u8 17, .int .u8 4, .int .u8 62, .int .u8 47, .int .u8 59, .int .u8 36, .int .u8 45, .int .u8 43, .int .u8 51, .int .u8 22, .int .u8 53, .int .u8 39, .int .u8 33, .int .u8 30, .int .u8 24, .int .u8 18, .int .u8 12, .int .u8 5, .int .u8 63, .int .u8 55, .int .u8 48, .int .u8 27, .int .u8 60, .int .u8 41, .int .u8 37, .int .u8 16, .int .u8 46, .int .u8 35, .int .u8 44, .int .u8 21, .int .u8 52, .int .u8 32, .int .u8 23, .int .u8 11, .int .u8 54, .int .u8 26, .int .u8 40, .int .u8 15, .int .u8 34, .int .u8 20, .int .u8 31, .int .u8 10, .int .u8 25, .int .u8 14, .int .u8 19, .int .u8 9, .int .u8 13, .int .u8 8, .int .u8 7, .int .u8 6] t frozen
    | o => o)) }
theorem laid_met (os : Os) : laidMet Tryd.prog Rows.splitTwiceRow.laid ((laidWorld os).forCall (fun _ _ => 0) ⟨#[], wit, []⟩).memory :=
 laidMet_of_run' 8 (by kernel_rfl) (by kernel_rfl)
theorem reads (os : Os) {H : Type} (enc : TypeId × Value → H) : ∃ places, DataW.whole enc Tryd.prog ((laidWorld os).forCall (fun _ _ => 0) ⟨#[], wit, []⟩).memory Tryd.f6.params.toList Rows.splitTwiceSpec.vars false wit.toList 8 = some (dat, [], places) :=
 ⟨[], by kernel_rfl⟩
theorem lifted (os : Os) (started : os.Started) (H : Type) (enc : TypeId × Value → H) (F : Stop.Interp) :
 ReturnsInHanded {} Tryd.checked os 6 .any ((OpenSpec.ofChange Rows.splitTwiceSpec).preRow enc Tryd.prog Tryd.f6 Rows.splitTwiceRow.domain false Rows.splitTwiceRow.laid) (((OpenSpec.ofChange Rows.splitTwiceSpec).at F).post enc Tryd.prog Tryd.f6 false true false false) := by
 obtain ⟨places, hx⟩ := reads os enc
 refine returnsInHanded_of_row (C := Tryd.checked) (s := OpenSpec.ofChange Rows.splitTwiceSpec) own started (by kernel_rfl) Tryd.func6
  (witness_row_at (enc := enc) (C := Tryd.checked) false (laidWorld os) wit rfl (by kernel_rfl) (by kernel_rfl) (by kernel_rfl)
    (OpenSpec.preRow_of_cond 8 hx (by kernel_rfl) (fun k hk => by cases hk) (by kernel_rfl) (laid_met os))) ?_
 intro W base args ds gs before hval hW _ _ _ hL _ _
 exact contract H enc W base args ds gs before hval hW hL
set_option maxHeartbeats 8000000 in
theorem closed : joinedFacts Tryd.prog 6 Tryd.f6 (OpenSpec.ofChange Rows.splitTwiceSpec).bare Rows.splitTwiceRow = true := by
 unfold joinedFacts
 rw [fact_mayEnter, fact_laidOut, fact_lifts, fact_make]
 repeat' (with_reducible apply and_t)
 all_goals as_aux_lemma => kernel_rfl
theorem said : Rows.SplitTwiceSaid :=
 OpenClaim.holds_of_cond 6 Tryd.f6 rfl rfl rfl rfl rfl rfl rfl ⟨rfl, rfl, rfl, rfl, rfl⟩ rfl rfl rfl rfl rfl (by kernel_rfl) Tryd.func6 closed
  (of_decide_eq_true (by kernel_rfl)) (by unfold Func.isWrapper; first | (rw [if_pos (by decide +kernel)]; kernel_rfl) | (rw [if_neg (by decide +kernel)]; exact ⟨rfl, rfl⟩))
  (fun os started H enc _ F => by rw [OpenClaim.pre_eq_preRow]; exact lifted os started H enc F)
theorem plain (f : FuncId) (fn : Func) (hf : Tryd.pinned.checked.prog.funcNamed "atlas/atlaslaw20.SplitTwice" = some f) (hfn : Tryd.pinned.checked.prog.funcs[f]? = some fn) :
 false = Tryd.pinned.checked.prog.looks [] ∧ ∀ (j : Nat) t, fn.params[j]? = some t → Tryd.pinned.checked.prog.wantsStandIn t = false :=
 plain_of (by kernel_rfl) Tryd.func6 (by kernel_rfl) (by kernel_rfl) hf hfn
theorem card : Rows.SplitTwiceCardSaid :=
 Claim7.holds_tied_plain_at .later [] _ _ _ _ said (fun _ h => by cases h) (by kernel_rfl) (fun _ h => by cases h) splitTwice_row_tie rfl ⟨rfl, rfl⟩ (by kernel_rfl) rfl plain (by kernel_rfl)
#print axioms card
end Go.Proofs.YtnkjmocacielmaaDoor.splitTwice
