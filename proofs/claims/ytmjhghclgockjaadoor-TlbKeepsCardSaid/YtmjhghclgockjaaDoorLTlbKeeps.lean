/-
  'atlas/atlaslaw14.TlbKeeps': whatever the buffer, the entry, and the numbers, the law returns true, and the input reads as it did; its row and its card.
-/
import Derived.Test.YtmjhghclgockjaaDoorRow
import Derived.Test.YtmjhghclgockjaaDoorFacts
import Derived.Test.YtmjhghclgockjaaDoorTlbk
import Derived.Test.YtmjhghclgockjaaDoorArgt
import Derived.LaidHandle
import Derived.Test.YtmjhghclgockjaaDoorCards
import Derived.Test.YtmjhghclgockjaaDoorTie
import Derived.WalkKit
import Derived.ProofKit
import Derived.OpenShut
import Derived.Deep.DeepHandedRow
namespace Go.Proofs.YtmjhghclgockjaaDoor.tlbKeeps
open Go.ChangeShapes Go.WideShapes Go.ChangeAt Go.RowKit Sx
set_option linter.unusedVariables false
set_option maxRecDepth 100000

theorem own : ownKnob Tryd.prog.godebug = none := by kernel_rfl

theorem laid_gr {W : World} (h : laidMetH Tryd.prog Rows.tlbKeepsRow.laid W) : GR gAll (fun x => x < W.heap.size) W := by
  have h' : laidMet Tryd.prog Rows.tlbKeepsRow.laid W := h
  obtain ⟨ps, hv, _⟩ := h'
  obtain ⟨v0, _, hv⟩ := laidVars_cons (n := "atlas/plru.touches") (g := 1) (ds := gTouches.2) 8 (by kernel_rfl) rfl (by kernel_rfl) (fun _ h => h) hv
  obtain ⟨v1, _, hv⟩ := laidVars_cons (n := "atlas/va.sizes") (g := 0) (ds := gSizes.2) 8 (by kernel_rfl) rfl (by kernel_rfl) (fun _ h => h) hv
  exact (gr_cons (P := Tryd.prog) v0 (gr_cons (P := Tryd.prog) v1 gr_nil))

theorem contract (H : Type) (enc : TypeId × Value → H) (W : World) (base : Nat) (args : Array Value) (ds gs : List (DataW H)) (before : List MemPlace)
    (hval : ∀ (j : Nat) t v, Tryd.f8.params[j]? = some t → args[j]? = some v → Value.okWide Tryd.prog W .any base t v)
    (hW : DataW.Whole enc Tryd.prog Tryd.f8.params.toList Rows.tlbKeepsSpec.vars false W args.toList ds gs before) (hL : laidMetH Tryd.prog Rows.tlbKeepsRow.laid W) :
    Calls Tryd.prog 8 args W fun e W' => ∃ v, e = .returned v ∧ Rows.tlbKeepsSpec.post enc Tryd.prog Tryd.f8 false true false false W args v W' := by
  refine calls_post (P := Tryd.prog) (f := 8) (fn := Tryd.f8) (s := Rows.tlbKeepsSpec) (b0 := base) (m := 8) (tys := [(true, [.sl SETR]), (true, [.b, .i .u64, .b, .i .i64, .i .u64, .i .u64, .b, .b, .b, .b, .b]), (false, [.i .i64]), (false, [.i .u8])]) (G := gAll) fact_laidOut (by kernel_rfl) (by kernel_rfl) rfl (by kernel_rfl) rfl (fun ds h => ?_) (fun az h => ?_) hval hW (laid_gr hL)
  · match ds, h with
    | [d1, d2, d3, d4], _ => rfl
  ·
    obtain ⟨b0, az, rfl, h0, h⟩ := cons_inv h
    obtain ⟨b1, az, rfl, h1, h⟩ := cons_inv h
    obtain ⟨b2, az, rfl, h2, h⟩ := cons_inv h
    obtain ⟨b3, az, rfl, h3, h⟩ := cons_inv h
    obtain rfl := nil_inv h
    obtain ⟨ts0, hm0, hx0, rfl⟩ := arg_tlb h0
    have hmm0 : ts0.length < 9223372036854775808 := Nat.lt_of_le_of_lt hm0 (by decide)
    obtain ⟨g1, ds1⟩ := b1
    obtain ⟨rfl, t1_0⟩ := h1
    simp only at t1_0
    obtain ⟨y1_0, r1_0, rfl, e1_0, t1_1⟩ := cons_inv t1_0
    obtain ⟨x1_0, rfl⟩ := ty_b e1_0
    obtain ⟨y1_1, r1_1, rfl, e1_1, t1_2⟩ := cons_inv t1_1
    obtain ⟨x1_1, hx1_1, rfl⟩ := ty_i e1_1
    have bx1_1 := bounds_u64 hx1_1
    obtain ⟨n1_1, rfl⟩ := Int.eq_ofNat_of_zero_le bx1_1.1
    clear hx1_1
    obtain ⟨y1_2, r1_2, rfl, e1_2, t1_3⟩ := cons_inv t1_2
    obtain ⟨x1_2, rfl⟩ := ty_b e1_2
    obtain ⟨y1_3, r1_3, rfl, e1_3, t1_4⟩ := cons_inv t1_3
    obtain ⟨x1_3, hx1_3, rfl⟩ := ty_i e1_3
    obtain ⟨y1_4, r1_4, rfl, e1_4, t1_5⟩ := cons_inv t1_4
    obtain ⟨x1_4, hx1_4, rfl⟩ := ty_i e1_4
    have bx1_4 := bounds_u64 hx1_4
    obtain ⟨n1_4, rfl⟩ := Int.eq_ofNat_of_zero_le bx1_4.1
    clear hx1_4
    obtain ⟨y1_5, r1_5, rfl, e1_5, t1_6⟩ := cons_inv t1_5
    obtain ⟨x1_5, hx1_5, rfl⟩ := ty_i e1_5
    have bx1_5 := bounds_u64 hx1_5
    obtain ⟨n1_5, rfl⟩ := Int.eq_ofNat_of_zero_le bx1_5.1
    clear hx1_5
    obtain ⟨y1_6, r1_6, rfl, e1_6, t1_7⟩ := cons_inv t1_6
    obtain ⟨x1_6, rfl⟩ := ty_b e1_6
    obtain ⟨y1_7, r1_7, rfl, e1_7, t1_8⟩ := cons_inv t1_7
    obtain ⟨x1_7, rfl⟩ := ty_b e1_7
    obtain ⟨y1_8, r1_8, rfl, e1_8, t1_9⟩ := cons_inv t1_8
    obtain ⟨x1_8, rfl⟩ := ty_b e1_8
    obtain ⟨y1_9, r1_9, rfl, e1_9, t1_10⟩ := cons_inv t1_9
    obtain ⟨x1_9, rfl⟩ := ty_b e1_9
    obtain ⟨y1_10, r1_10, rfl, e1_10, t1_11⟩ := cons_inv t1_10
    obtain ⟨x1_10, rfl⟩ := ty_b e1_10
    obtain rfl := nil_inv t1_11
    obtain ⟨x2, hx2, rfl⟩ := arg_i h2
    obtain ⟨x3, hx3, rfl⟩ := arg_i h3
    have bx3 := bounds_u8 hx3
    obtain ⟨n3, rfl⟩ := Int.eq_ofNat_of_zero_le bx3.1
    clear hx3
    exact TlbKeeps_con (ts := ts0) (e := ⟨x1_0, n1_1, x1_2, x1_3, n1_4, n1_5, x1_6, x1_7, x1_8, x1_9, x1_10⟩) hx0 hmm0 ⟨by have := bx1_1; simp only; omega, by have := bx1_4; simp only; omega, by have := bx1_5; simp only; omega⟩ (by omega)

def wit : Array Value := #[.agg #[.slice none 0 0], .agg #[.bool false, .int .u64 0, .bool false, .int .i64 0, .int .u64 0, .int .u64 0, .bool false, .bool false, .bool false, .bool false, .bool false], .int .i64 0, .int .u8 0]
def dat {H : Type} : List (DataW H) := [.agg [.nil], .agg [.lit (.bool false), .lit (.int .u64 0), .lit (.bool false), .lit (.int .i64 0), .lit (.int .u64 0), .lit (.int .u64 0), .agg [.lit (.bool false), .lit (.bool false), .lit (.bool false), .lit (.bool false)], .lit (.bool false)], .lit (.int .i64 0), .lit (.int .u8 0)]
/-- A WORLD FOR THE WITNESS: the settled one, the listed variables holding what their initialisers lay. -/
noncomputable def laidWorld (os : Os) : World :=
  { World.holding Tryd.prog os ⟨#[], #[], []⟩ with heap := (((World.holding Tryd.prog os ⟨#[], #[], []⟩).heap.modify 1 (fun
      | .cells _ t frozen => .cells #[.int .u8 3, .int .u8 0, .int .u8 1, .int .u8 2, .int .u8 4, .int .u8 1, .int .u8 0, .int .u8 5] t frozen
      | o => o)).modify 0 (fun
      | .cells _ t frozen => .cells #[.int .u64 4096, .int .u64 2097152, .int .u64 1073741824] t frozen
      | o => o)) }
theorem laid_met (os : Os) : laidMet Tryd.prog Rows.tlbKeepsRow.laid ((laidWorld os).forCall (fun _ _ => 0) ⟨#[], wit, []⟩).memory :=
  laidMet_of_run' 8 (by kernel_rfl) (by kernel_rfl)
theorem reads (os : Os) {H : Type} (enc : TypeId × Value → H) : ∃ places, DataW.whole enc Tryd.prog ((laidWorld os).forCall (fun _ _ => 0) ⟨#[], wit, []⟩).memory Tryd.f8.params.toList Rows.tlbKeepsSpec.vars false wit.toList 8 = some (dat, [], places) :=
  ⟨[], by kernel_rfl⟩

theorem lifted (os : Os) (started : os.Started) (H : Type) (enc : TypeId × Value → H) (F : Stop.Interp) :
    ReturnsInHanded {} Tryd.checked os 8 .any ((OpenSpec.ofChange Rows.tlbKeepsSpec).preRow enc Tryd.prog Tryd.f8 Rows.tlbKeepsRow.domain false Rows.tlbKeepsRow.laid) (((OpenSpec.ofChange Rows.tlbKeepsSpec).at F).post enc Tryd.prog Tryd.f8 false true false false) := by
  obtain ⟨places, hx⟩ := reads os enc
  refine returnsInHanded_of_row (C := Tryd.checked) (s := OpenSpec.ofChange Rows.tlbKeepsSpec) own started (by kernel_rfl) Tryd.func8
    (witness_row_at (enc := enc) (C := Tryd.checked) false (laidWorld os) wit rfl (by kernel_rfl) (by kernel_rfl) (by kernel_rfl)
      (OpenSpec.preRow_of_cond 8 hx (by kernel_rfl) (fun k hk => by cases hk) (by kernel_rfl) (laid_met os))) ?_
  intro W base args ds gs before hval hW _ _ _ hL _ _
  exact contract H enc W base args ds gs before hval hW hL

theorem closed : joinedFacts Tryd.prog 8 Tryd.f8 (OpenSpec.ofChange Rows.tlbKeepsSpec).bare Rows.tlbKeepsRow = true := by
  unfold joinedFacts
  rw [fact_mayEnter, fact_laidOut, fact_lifts, fact_make]
  repeat' (with_reducible apply and_t)
  all_goals as_aux_lemma => kernel_rfl

theorem said : Rows.TlbKeepsSaid :=
  OpenClaim.holds_of_cond 8 Tryd.f8 rfl rfl rfl rfl rfl rfl rfl ⟨rfl, rfl, rfl, rfl, rfl⟩ rfl rfl rfl rfl rfl (by kernel_rfl) Tryd.func8 closed
    (of_decide_eq_true (by kernel_rfl)) (by unfold Func.isWrapper; first | (rw [if_pos (by decide +kernel)]; kernel_rfl) | (rw [if_neg (by decide +kernel)]; exact ⟨rfl, rfl⟩))
    (fun os started H enc _ F => by rw [OpenClaim.pre_eq_preRow]; exact lifted os started H enc F)

theorem plain (f : FuncId) (fn : Func) (hf : Tryd.pinned.checked.prog.funcNamed "atlas/atlaslaw14.TlbKeeps" = some f) (hfn : Tryd.pinned.checked.prog.funcs[f]? = some fn) :
    false = Tryd.pinned.checked.prog.looks [] ∧ ∀ (j : Nat) t, fn.params[j]? = some t → Tryd.pinned.checked.prog.wantsStandIn t = false :=
  plain_of (by kernel_rfl) Tryd.func8 (by kernel_rfl) (by kernel_rfl) hf hfn

/-- ████ THE CARD ████ -/
theorem card : Rows.TlbKeepsCardSaid :=
  Claim7.holds_tied_plain_at .later [] _ _ _ _ said (fun _ h => by cases h) (by kernel_rfl) (fun _ h => by cases h) tlbKeeps_row_tie rfl ⟨rfl, rfl⟩ (by kernel_rfl) rfl plain (by kernel_rfl)
#print axioms card
end Go.Proofs.YtmjhghclgockjaaDoor.tlbKeeps
