/-
  'atlas/atlaslaw08.PermAsks': whatever the permissions and the way, the law returns true, and the input reads as it did; its row and its card.
-/
import Derived.Test.YtkgomfkjeonmfaaDoorRow
import Derived.Test.YtkgomfkjeonmfaaDoorFacts
import Derived.Test.YtkgomfkjeonmfaaDoorPerm
import Derived.LaidHandle
import Derived.Test.YtkgomfkjeonmfaaDoorCards
import Derived.Test.YtkgomfkjeonmfaaDoorTie
import Derived.WalkKit
import Derived.ProofKit
import Derived.OpenShut
import Derived.Deep.DeepHandedRow
namespace Go.Proofs.YtkgomfkjeonmfaaDoor.permAsks
open Go.ChangeShapes Go.WideShapes Go.ChangeAt Go.RowKit Sx
set_option linter.unusedVariables false
set_option maxRecDepth 100000

theorem own : ownKnob Tryd.prog.godebug = none := by kernel_rfl

theorem laid_gr {W : World} (h : laidMetH Tryd.prog Rows.permAsksRow.laid W) : GR gPerm (fun x => x < W.heap.size) W := by
  have v0 := VarIs.funcs (I := fun x => x < W.heap.size) (n := "atlas/perm.asks") (g := 0) (ds := gAsks.2) 8 h (by unfold Rows.permAsksRow; exact by repeat (first | exact List.mem_cons_self .. | apply List.mem_cons_of_mem)) (by kernel_rfl) rfl (by kernel_rfl) (fun _ h => h)
  exact (gr_cons (P := Tryd.prog) v0 gr_nil)

theorem contract (H : Type) (enc : TypeId × Value → H) (W : World) (base : Nat) (args : Array Value) (ds gs : List (DataW H)) (before : List MemPlace)
    (hval : ∀ (j : Nat) t v, Tryd.f3.params[j]? = some t → args[j]? = some v → Value.okWide Tryd.prog W .any base t v)
    (hW : DataW.Whole enc Tryd.prog Tryd.f3.params.toList Rows.permAsksSpec.vars false W args.toList ds gs before) (hL : laidMetH Tryd.prog Rows.permAsksRow.laid W) :
    Calls Tryd.prog 3 args W fun e W' => ∃ v, e = .returned v ∧ Rows.permAsksSpec.post enc Tryd.prog Tryd.f3 false true false false W args v W' := by
  refine calls_post (P := Tryd.prog) (f := 3) (fn := Tryd.f3) (s := Rows.permAsksSpec) (b0 := base) (m := 8) (tys := [(true, [.b, .b, .b, .b]), (true, [.b, .b, .b, .b]), (true, [.i .i64, .i .i64, .b, .b])]) (G := gPerm) fact_laidOut (by kernel_rfl) (by kernel_rfl) rfl (by kernel_rfl) rfl (fun ds h => ?_) (fun az h => ?_) hval hW (laid_gr hL)
  · match ds, h with
    | [d1, d2, d3], _ => rfl
  ·
    obtain ⟨b0, az, rfl, h0, h⟩ := cons_inv h
    obtain ⟨b1, az, rfl, h1, h⟩ := cons_inv h
    obtain ⟨b2, az, rfl, h2, h⟩ := cons_inv h
    obtain rfl := nil_inv h
    obtain ⟨g0, ds0⟩ := b0
    obtain ⟨rfl, t0_0⟩ := h0
    simp only at t0_0
    obtain ⟨y0_0, r0_0, rfl, e0_0, t0_1⟩ := cons_inv t0_0
    obtain ⟨x0_0, rfl⟩ := ty_b e0_0
    obtain ⟨y0_1, r0_1, rfl, e0_1, t0_2⟩ := cons_inv t0_1
    obtain ⟨x0_1, rfl⟩ := ty_b e0_1
    obtain ⟨y0_2, r0_2, rfl, e0_2, t0_3⟩ := cons_inv t0_2
    obtain ⟨x0_2, rfl⟩ := ty_b e0_2
    obtain ⟨y0_3, r0_3, rfl, e0_3, t0_4⟩ := cons_inv t0_3
    obtain ⟨x0_3, rfl⟩ := ty_b e0_3
    obtain rfl := nil_inv t0_4
    obtain ⟨g1, ds1⟩ := b1
    obtain ⟨rfl, t1_0⟩ := h1
    simp only at t1_0
    obtain ⟨y1_0, r1_0, rfl, e1_0, t1_1⟩ := cons_inv t1_0
    obtain ⟨x1_0, rfl⟩ := ty_b e1_0
    obtain ⟨y1_1, r1_1, rfl, e1_1, t1_2⟩ := cons_inv t1_1
    obtain ⟨x1_1, rfl⟩ := ty_b e1_1
    obtain ⟨y1_2, r1_2, rfl, e1_2, t1_3⟩ := cons_inv t1_2
    obtain ⟨x1_2, rfl⟩ := ty_b e1_2
    obtain ⟨y1_3, r1_3, rfl, e1_3, t1_4⟩ := cons_inv t1_3
    obtain ⟨x1_3, rfl⟩ := ty_b e1_3
    obtain rfl := nil_inv t1_4
    obtain ⟨g2, ds2⟩ := b2
    obtain ⟨rfl, t2_0⟩ := h2
    simp only at t2_0
    obtain ⟨y2_0, r2_0, rfl, e2_0, t2_1⟩ := cons_inv t2_0
    obtain ⟨x2_0, hx2_0, rfl⟩ := ty_i e2_0
    obtain ⟨y2_1, r2_1, rfl, e2_1, t2_2⟩ := cons_inv t2_1
    obtain ⟨x2_1, hx2_1, rfl⟩ := ty_i e2_1
    obtain ⟨y2_2, r2_2, rfl, e2_2, t2_3⟩ := cons_inv t2_2
    obtain ⟨x2_2, rfl⟩ := ty_b e2_2
    obtain ⟨y2_3, r2_3, rfl, e2_3, t2_4⟩ := cons_inv t2_3
    obtain ⟨x2_3, rfl⟩ := ty_b e2_3
    obtain rfl := nil_inv t2_4
    exact PermAsks_con _ _ _ _ _ _ _ _ _ _ _ _

/-- A WORLD FOR THE WITNESS: the settled one, the listed variables holding what their initialisers lay. -/
noncomputable def laidWorld (os : Os) : World :=
  { World.holding Tryd.prog os ⟨#[], #[], []⟩ with heap := (World.holding Tryd.prog os ⟨#[], #[], []⟩).heap.modify 0 (fun
      | .cells _ t frozen => .cells #[.func (.func 35) #[] #[], .func (.func 36) #[] #[], .func (.func 37) #[] #[]] t frozen
      | o => o) }
theorem laid_met (os : Os) : laidMetH Tryd.prog Rows.permAsksRow.laid ((laidWorld os).forCall (fun _ _ => 0) ⟨#[], #[.agg #[.bool false, .bool false, .bool false, .bool false], .agg #[.bool false, .bool false, .bool false, .bool false], .agg #[.int .i64 0, .int .i64 0, .bool false, .bool false]], []⟩).memory :=
  laidMetH_of_parts3 (fuel := 8) (laidMet_of_run' 8 (by kernel_rfl) (by kernel_rfl)) (by kernel_rfl) (by kernel_rfl)
theorem reads (os : Os) {H : Type} (enc : TypeId × Value → H) : ∃ places, DataW.whole enc Tryd.prog ((laidWorld os).forCall (fun _ _ => 0) ⟨#[], #[.agg #[.bool false, .bool false, .bool false, .bool false], .agg #[.bool false, .bool false, .bool false, .bool false], .agg #[.int .i64 0, .int .i64 0, .bool false, .bool false]], []⟩).memory Tryd.f3.params.toList Rows.permAsksSpec.vars false (#[.agg #[.bool false, .bool false, .bool false, .bool false], .agg #[.bool false, .bool false, .bool false, .bool false], .agg #[.int .i64 0, .int .i64 0, .bool false, .bool false]] : Array Value).toList 8 = some ([.agg [.lit (.bool false), .lit (.bool false), .lit (.bool false), .lit (.bool false)], .agg [.lit (.bool false), .lit (.bool false), .lit (.bool false), .lit (.bool false)], .agg [.lit (.int .i64 0), .lit (.int .i64 0), .lit (.bool false), .lit (.bool false)]], [], places) :=
  ⟨[], by kernel_rfl⟩

theorem lifted (os : Os) (started : os.Started) (H : Type) (enc : TypeId × Value → H) (F : Stop.Interp) :
    ReturnsInHanded {} Tryd.checked os 3 .any ((OpenSpec.ofChange Rows.permAsksSpec).preRow enc Tryd.prog Tryd.f3 Rows.permAsksRow.domain false Rows.permAsksRow.laid) (((OpenSpec.ofChange Rows.permAsksSpec).at F).post enc Tryd.prog Tryd.f3 false true false false) := by
  obtain ⟨places, hx⟩ := reads os enc
  refine returnsInHanded_of_row (C := Tryd.checked) (s := OpenSpec.ofChange Rows.permAsksSpec) own started (by kernel_rfl) Tryd.func3
    (witness_row_at (enc := enc) (C := Tryd.checked) false (laidWorld os) #[.agg #[.bool false, .bool false, .bool false, .bool false], .agg #[.bool false, .bool false, .bool false, .bool false], .agg #[.int .i64 0, .int .i64 0, .bool false, .bool false]] rfl (by kernel_rfl) (by kernel_rfl) (by kernel_rfl)
      (OpenSpec.preRow_of_cond 8 hx (by kernel_rfl) (fun k hk => by cases hk) (by kernel_rfl) (laid_met os))) ?_
  intro W base args ds gs before hval hW _ _ _ hL _ _
  exact contract H enc W base args ds gs before hval hW hL

theorem closed : joinedFacts Tryd.prog 3 Tryd.f3 (OpenSpec.ofChange Rows.permAsksSpec).bare Rows.permAsksRow = true := by
  unfold joinedFacts
  rw [fact_mayEnter, fact_laidOut, fact_lifts, fact_make]
  repeat' (with_reducible apply and_t)
  all_goals as_aux_lemma => kernel_rfl

theorem said : Rows.PermAsksSaid :=
  OpenClaim.holds_of_cond 3 Tryd.f3 rfl rfl rfl rfl rfl rfl rfl ⟨rfl, rfl, rfl, rfl, rfl⟩ rfl rfl rfl rfl rfl (by kernel_rfl) Tryd.func3 closed
    (of_decide_eq_true (by kernel_rfl)) (by unfold Func.isWrapper; first | (rw [if_pos (by decide +kernel)]; kernel_rfl) | (rw [if_neg (by decide +kernel)]; exact ⟨rfl, rfl⟩))
    (fun os started H enc _ F => by rw [OpenClaim.pre_eq_preRow]; exact lifted os started H enc F)

theorem plain (f : FuncId) (fn : Func) (hf : Tryd.pinned.checked.prog.funcNamed "atlas/atlaslaw08.PermAsks" = some f) (hfn : Tryd.pinned.checked.prog.funcs[f]? = some fn) :
    false = Tryd.pinned.checked.prog.looks [] ∧ ∀ (j : Nat) t, fn.params[j]? = some t → Tryd.pinned.checked.prog.wantsStandIn t = false :=
  plain_of (by kernel_rfl) Tryd.func3 (by kernel_rfl) (by kernel_rfl) hf hfn

/-- ████ THE CARD ████ -/
theorem card : Rows.PermAsksCardSaid :=
  Claim7.holds_tied_plain_at .later [] _ _ _ _ said (fun _ h => by cases h) (by kernel_rfl) (fun _ h => by cases h) permAsks_row_tie rfl ⟨rfl, rfl⟩ (by kernel_rfl) rfl plain (by kernel_rfl)
#print axioms card
end Go.Proofs.YtkgomfkjeonmfaaDoor.permAsks
