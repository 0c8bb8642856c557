/-
  'atlas/atlaslaw19.TableKeeps': whatever the memory, the tree and the rest, the law returns true, and the input reads as it did; its row and its card.
-/
import Derived.Test.YtnlilhpkjlodjaaDoorYBg
import Derived.Test.YtnlilhpkjlodjaaDoorYFacts
import Derived.Test.YtnlilhpkjlodjaaDoorYTabk
import Derived.Test.YtnlilhpkjlodjaaDoorYArgm
import Derived.LaidHandle
import Derived.Test.YtnlilhpkjlodjaaDoorCards
import Derived.Test.YtnlilhpkjlodjaaDoorTie
import Derived.WalkKit
import Derived.ProofKit
import Derived.OpenShut
import Derived.Deep.DeepHandedRow
namespace Go.Proofs.YtnlilhpkjlodjaaDoor.tableKeeps
open Go.ChangeShapes Go.WideShapes Go.ChangeAt Go.RowKit Sx
set_option linter.unusedVariables false
set_option maxRecDepth 100000
theorem own : ownKnob Tryd.prog.godebug = none := by kernel_rfl
theorem laid_gr {W : World} (h : laidMetH Tryd.prog Rows.tableKeepsRow.laid W) : GR gAll (fun x => x < W.heap.size) W := by
  have h' : laidMet Tryd.prog Rows.tableKeepsRow.laid W := h
  obtain ⟨ps, hv, _⟩ := h'
  obtain ⟨v0, _, hv⟩ := laidVars_cons (n := "atlas/va.sizes") (g := 0) (ds := gSizes.2) 8 (by kernel_rfl) rfl (by kernel_rfl) (fun _ h => h) hv
  obtain ⟨v1, _, hv⟩ := laidVars_cons (n := "math/bits.deBruijn64tab") (g := 1) (ds := gDebr.2) 8 (by kernel_rfl) rfl (by kernel_rfl) (fun _ h => h) hv
  exact (gr_cons (P := Tryd.prog) v0 (gr_cons (P := Tryd.prog) v1 gr_nil))
theorem contract (H : Type) (enc : TypeId × Value → H) (W : World) (base : Nat) (args : Array Value) (ds gs : List (DataW H)) (before : List MemPlace)
    (hval : ∀ (j : Nat) t v, Tryd.f6.params[j]? = some t → args[j]? = some v → Value.okWide Tryd.prog W .any base t v)
    (hW : DataW.Whole enc Tryd.prog Tryd.f6.params.toList Rows.tableKeepsSpec.vars false W args.toList ds gs before) (hL : laidMetH Tryd.prog Rows.tableKeepsRow.laid W) :
    Calls Tryd.prog 6 args W fun e W' => ∃ v, e = .returned v ∧ Rows.tableKeepsSpec.post enc Tryd.prog Tryd.f6 false true false false W args v W' := by
  refine calls_post (P := Tryd.prog) (f := 6) (fn := Tryd.f6) (s := Rows.tableKeepsSpec) (b0 := base) (m := 8) (tys := [(true, [.i .u64, .sl CELL]), (false, [.i .u64]), (false, [.i .i64]), (false, [.i .u64]), (true, [.b, .b, .b, .b, .b, .b, .b, .b, .i .u64, .i .u64, .i .u64])]) (G := gAll) fact_laidOut (by kernel_rfl) (by kernel_rfl) rfl (by kernel_rfl) rfl (fun ds h => ?_) (fun az h => ?_) hval hW (laid_gr hL)
  · match ds, h with
    | [d1, d2, d3, d4, d5], _ => rfl
  ·
    obtain ⟨b0, az, rfl, h0, h⟩ := cons_inv h
    obtain ⟨b1, az, rfl, h1, h⟩ := cons_inv h
    obtain ⟨b2, az, rfl, h2, h⟩ := cons_inv h
    obtain ⟨b3, az, rfl, h3, h⟩ := cons_inv h
    obtain ⟨b4, az, rfl, h4, h⟩ := cons_inv h
    obtain rfl := nil_inv h
    obtain ⟨s0, cs0, hs0, hm0, hx0, rfl⟩ := arg_mem h0
    obtain ⟨x1, hx1, rfl⟩ := arg_i h1
    have bx1 := bounds_u64 hx1
    obtain ⟨n1, rfl⟩ := Int.eq_ofNat_of_zero_le bx1.1
    clear hx1
    obtain ⟨x2, hx2, rfl⟩ := arg_i h2
    have bx2 := bounds_i64 hx2
    obtain ⟨x3, hx3, rfl⟩ := arg_i h3
    have bx3 := bounds_u64 hx3
    obtain ⟨n3, rfl⟩ := Int.eq_ofNat_of_zero_le bx3.1
    clear hx3
    obtain ⟨g4, ds4⟩ := b4
    obtain ⟨rfl, t4_0⟩ := h4
    simp only at t4_0
    obtain ⟨y4_0, r4_0, rfl, e4_0, t4_1⟩ := cons_inv t4_0
    obtain ⟨x4_0, rfl⟩ := ty_b e4_0
    obtain ⟨y4_1, r4_1, rfl, e4_1, t4_2⟩ := cons_inv t4_1
    obtain ⟨x4_1, rfl⟩ := ty_b e4_1
    obtain ⟨y4_2, r4_2, rfl, e4_2, t4_3⟩ := cons_inv t4_2
    obtain ⟨x4_2, rfl⟩ := ty_b e4_2
    obtain ⟨y4_3, r4_3, rfl, e4_3, t4_4⟩ := cons_inv t4_3
    obtain ⟨x4_3, rfl⟩ := ty_b e4_3
    obtain ⟨y4_4, r4_4, rfl, e4_4, t4_5⟩ := cons_inv t4_4
    obtain ⟨x4_4, rfl⟩ := ty_b e4_4
    obtain ⟨y4_5, r4_5, rfl, e4_5, t4_6⟩ := cons_inv t4_5
    obtain ⟨x4_5, rfl⟩ := ty_b e4_5
    obtain ⟨y4_6, r4_6, rfl, e4_6, t4_7⟩ := cons_inv t4_6
    obtain ⟨x4_6, rfl⟩ := ty_b e4_6
    obtain ⟨y4_7, r4_7, rfl, e4_7, t4_8⟩ := cons_inv t4_7
    obtain ⟨x4_7, rfl⟩ := ty_b e4_7
    obtain ⟨y4_8, r4_8, rfl, e4_8, t4_9⟩ := cons_inv t4_8
    obtain ⟨x4_8, hx4_8, rfl⟩ := ty_i e4_8
    have bx4_8 := bounds_u64 hx4_8
    obtain ⟨n4_8, rfl⟩ := Int.eq_ofNat_of_zero_le bx4_8.1
    clear hx4_8
    obtain ⟨y4_9, r4_9, rfl, e4_9, t4_10⟩ := cons_inv t4_9
    obtain ⟨x4_9, hx4_9, rfl⟩ := ty_i e4_9
    have bx4_9 := bounds_u64 hx4_9
    obtain ⟨n4_9, rfl⟩ := Int.eq_ofNat_of_zero_le bx4_9.1
    clear hx4_9
    obtain ⟨y4_10, r4_10, rfl, e4_10, t4_11⟩ := cons_inv t4_10
    obtain ⟨x4_10, hx4_10, rfl⟩ := ty_i e4_10
    have bx4_10 := bounds_u64 hx4_10
    obtain ⟨n4_10, rfl⟩ := Int.eq_ofNat_of_zero_le bx4_10.1
    clear hx4_10
    obtain rfl := nil_inv t4_11
    exact TableKeeps_con (p := ⟨x4_0, x4_1, x4_2, x4_3, x4_4, x4_5, x4_6, x4_7, n4_8, n4_9, n4_10⟩) hs0 hx0 (by omega) bx2.1 (by omega) (by omega)
def wit : Array Value := #[.agg #[.int .u64 0, .slice none 0 0], .int .u64 0, .int .i64 0, .int .u64 0, .agg #[.bool false, .bool false, .bool false, .bool false, .bool false, .bool false, .bool false, .bool false, .int .u64 0, .int .u64 0, .int .u64 0]]
def dat {H : Type} : List (DataW H) := [.agg [.lit (.int .u64 0), .nil], .lit (.int .u64 0), .lit (.int .i64 0), .lit (.int .u64 0), .agg [.lit (.bool false), .lit (.bool false), .lit (.bool false), .lit (.bool false), .lit (.bool false), .lit (.bool false), .lit (.bool false), .lit (.bool false), .lit (.int .u64 0), .lit (.int .u64 0), .lit (.int .u64 0)]]
noncomputable def laidWorld (os : Os) : World :=
  { World.holding Tryd.prog os ⟨#[], #[], []⟩ with heap := (((World.holding Tryd.prog os ⟨#[], #[], []⟩).heap.modify 0 (fun
      | .cells _ t frozen => .cells #[.int .u64 4096, .int .u64 2097152, .int .u64 1073741824] t frozen
      | o => o)).modify 1 (fun
      | .cells _ t frozen => .cells #[.int .u8 0, .int .u8 1, .int .u8 56, .int .u8 2, .int .u8 57, .int .u8 49, .int .u8 28, .int .u8 3, .int .u8 61, .int .u8 58, .int .u8 42, .int .u8 50, .int .u8 38, .int .u8 29, .int .u8 17, .int .u8 4, .int .u8 62, .int .u8 47, .int .u8 59, .int .u8 36, .int .u8 45, .int .u8 43, .int .u8 51, .int .u8 22, .int .u8 53, .int .u8 39, .int .u8 33, .int .u8 30, .int .u8 24, .int .u8 18, .int .u8 12, .int .u8 5, .int .u8 63, .int .u8 55, .int .u8 48, .int .u8 27, .int .u8 60, .int .u8 41, .int .u8 37, .int .u8 16, .int .u8 46, .int .u8 35, .int .u8 44, .int .u8 21, .int .u8 52, .int .u8 32, .int .u8 23, .int .u8 11, .int .u8 54, .int .u8 26, .int .u8 40, .int .u8 15, .int .u8 34, .int .u8 20, .int .u8 31, .int .u8 10, .int .u8 25, .int .u8 14, .int .u8 19, .int .u8 9, .int .u8 13, .int .u8 8, .int .u8 7, .int .u8 6] t frozen
      | o => o)) }
theorem laid_met (os : Os) : laidMet Tryd.prog Rows.tableKeepsRow.laid ((laidWorld os).forCall (fun _ _ => 0) ⟨#[], wit, []⟩).memory :=
  laidMet_of_run' 8 (by kernel_rfl) (by kernel_rfl)
theorem reads (os : Os) {H : Type} (enc : TypeId × Value → H) : ∃ places, DataW.whole enc Tryd.prog ((laidWorld os).forCall (fun _ _ => 0) ⟨#[], wit, []⟩).memory Tryd.f6.params.toList Rows.tableKeepsSpec.vars false wit.toList 8 = some (dat, [], places) :=
  ⟨[], by kernel_rfl⟩
theorem lifted (os : Os) (started : os.Started) (H : Type) (enc : TypeId × Value → H) (F : Stop.Interp) :
    ReturnsInHanded {} Tryd.checked os 6 .any ((OpenSpec.ofChange Rows.tableKeepsSpec).preRow enc Tryd.prog Tryd.f6 Rows.tableKeepsRow.domain false Rows.tableKeepsRow.laid) (((OpenSpec.ofChange Rows.tableKeepsSpec).at F).post enc Tryd.prog Tryd.f6 false true false false) := by
  obtain ⟨places, hx⟩ := reads os enc
  refine returnsInHanded_of_row (C := Tryd.checked) (s := OpenSpec.ofChange Rows.tableKeepsSpec) own started (by kernel_rfl) Tryd.func6
    (witness_row_at (enc := enc) (C := Tryd.checked) false (laidWorld os) wit rfl (by kernel_rfl) (by kernel_rfl) (by kernel_rfl)
      (OpenSpec.preRow_of_cond 8 hx (by kernel_rfl) (fun k hk => by cases hk) (by kernel_rfl) (laid_met os))) ?_
  intro W base args ds gs before hval hW _ _ _ hL _ _
  exact contract H enc W base args ds gs before hval hW hL
set_option maxHeartbeats 8000000 in
theorem closed : joinedFacts Tryd.prog 6 Tryd.f6 (OpenSpec.ofChange Rows.tableKeepsSpec).bare Rows.tableKeepsRow = true := by
  unfold joinedFacts
  rw [fact_mayEnter, fact_laidOut, fact_lifts, fact_make]
  repeat' (with_reducible apply and_t)
  all_goals as_aux_lemma => kernel_rfl
theorem said : Rows.TableKeepsSaid :=
  OpenClaim.holds_of_cond 6 Tryd.f6 rfl rfl rfl rfl rfl rfl rfl ⟨rfl, rfl, rfl, rfl, rfl⟩ rfl rfl rfl rfl rfl (by kernel_rfl) Tryd.func6 closed
    (of_decide_eq_true (by kernel_rfl)) (by unfold Func.isWrapper; first | (rw [if_pos (by decide +kernel)]; kernel_rfl) | (rw [if_neg (by decide +kernel)]; exact ⟨rfl, rfl⟩))
    (fun os started H enc _ F => by rw [OpenClaim.pre_eq_preRow]; exact lifted os started H enc F)
theorem plain (f : FuncId) (fn : Func) (hf : Tryd.pinned.checked.prog.funcNamed "atlas/atlaslaw19.TableKeeps" = some f) (hfn : Tryd.pinned.checked.prog.funcs[f]? = some fn) :
    false = Tryd.pinned.checked.prog.looks [] ∧ ∀ (j : Nat) t, fn.params[j]? = some t → Tryd.pinned.checked.prog.wantsStandIn t = false :=
  plain_of (by kernel_rfl) Tryd.func6 (by kernel_rfl) (by kernel_rfl) hf hfn
theorem card : Rows.TableKeepsCardSaid :=
  Claim7.holds_tied_plain_at .later [] _ _ _ _ said (fun _ h => by cases h) (by kernel_rfl) (fun _ h => by cases h) tableKeeps_row_tie rfl ⟨rfl, rfl⟩ (by kernel_rfl) rfl plain (by kernel_rfl)
#print axioms card
end Go.Proofs.YtnlilhpkjlodjaaDoor.tableKeeps
