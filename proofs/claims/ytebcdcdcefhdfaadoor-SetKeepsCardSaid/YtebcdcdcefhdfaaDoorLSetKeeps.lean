/-
  'atlas/atlaslaw13.SetKeeps': whatever the set, the entry, and the victim, the law returns true, and the input reads as it did; its row and its card.
-/
import Derived.Test.YtebcdcdcefhdfaaDoorRow
import Derived.Test.YtebcdcdcefhdfaaDoorFacts
import Derived.Test.YtebcdcdcefhdfaaDoorSetkl
import Derived.LaidHandle
import Derived.Test.YtebcdcdcefhdfaaDoorCards
import Derived.Test.YtebcdcdcefhdfaaDoorTie
import Derived.WalkKit
import Derived.ProofKit
import Derived.OpenShut
import Derived.Deep.DeepHandedRow
namespace Go.Proofs.YtebcdcdcefhdfaaDoor.setKeeps
open Go.ChangeShapes Go.WideShapes Go.ChangeAt Go.RowKit Sx
set_option linter.unusedVariables false
set_option maxRecDepth 100000

theorem own : ownKnob Tryd.prog.godebug = none := by kernel_rfl

theorem laid_gr {W : World} (h : laidMetH Tryd.prog Rows.setKeepsRow.laid W) : GR gAll (fun x => x < W.heap.size) W := by
  have h' : laidMet Tryd.prog Rows.setKeepsRow.laid W := h
  obtain ⟨ps, hv, _⟩ := h'
  obtain ⟨v0, _, hv⟩ := laidVars_cons (n := "atlas/plru.touches") (g := 0) (ds := gTouches.2) 8 (by kernel_rfl) rfl (by kernel_rfl) (fun _ h => h) hv
  obtain ⟨v1, _, hv⟩ := laidVars_cons (n := "atlas/va.sizes") (g := 1) (ds := gSizes.2) 8 (by kernel_rfl) rfl (by kernel_rfl) (fun _ h => h) hv
  exact (gr_cons (P := Tryd.prog) v0 (gr_cons (P := Tryd.prog) v1 gr_nil))

theorem contract (H : Type) (enc : TypeId × Value → H) (W : World) (base : Nat) (args : Array Value) (ds gs : List (DataW H)) (before : List MemPlace)
    (hval : ∀ (j : Nat) t v, Tryd.f4.params[j]? = some t → args[j]? = some v → Value.okWide Tryd.prog W .any base t v)
    (hW : DataW.Whole enc Tryd.prog Tryd.f4.params.toList Rows.setKeepsSpec.vars false W args.toList ds gs before) (hL : laidMetH Tryd.prog Rows.setKeepsRow.laid W) :
    Calls Tryd.prog 4 args W fun e W' => ∃ v, e = .returned v ∧ Rows.setKeepsSpec.post enc Tryd.prog Tryd.f4 false true false false W args v W' := by
  refine calls_post (P := Tryd.prog) (f := 4) (fn := Tryd.f4) (s := Rows.setKeepsSpec) (b0 := base) (m := 8) (tys := [(true, [.b, .i .u64, .b, .i .i64, .i .u64, .i .u64, .b, .b, .b, .b, .b, .b, .i .u64, .b, .i .i64, .i .u64, .i .u64, .b, .b, .b, .b, .b, .b, .i .u64, .b, .i .i64, .i .u64, .i .u64, .b, .b, .b, .b, .b, .b, .i .u64, .b, .i .i64, .i .u64, .i .u64, .b, .b, .b, .b, .b, .i .u8]), (true, [.b, .i .u64, .b, .i .i64, .i .u64, .i .u64, .b, .b, .b, .b, .b]), (false, [.i .i64])]) (G := gAll) fact_laidOut (by kernel_rfl) (by kernel_rfl) rfl (by kernel_rfl) rfl (fun ds h => ?_) (fun az h => ?_) hval hW (laid_gr hL)
  · match ds, h with
    | [d1, d2, d3], _ => rfl
  ·
    obtain ⟨b0, az, rfl, h0, h⟩ := cons_inv h
    obtain ⟨b1, az, rfl, h1, h⟩ := cons_inv h
    obtain ⟨b2, az, rfl, h2, h⟩ := cons_inv h
    obtain rfl := nil_inv h
    obtain ⟨g0, ds0⟩ := b0
    obtain ⟨rfl, t0_0⟩ := h0
    simp only at t0_0
    obtain ⟨y0_0, r0_0, rfl, e0_0, t0_1⟩ := cons_inv t0_0
    obtain ⟨x0_0, rfl⟩ := ty_b e0_0
    obtain ⟨y0_1, r0_1, rfl, e0_1, t0_2⟩ := cons_inv t0_1
    obtain ⟨x0_1, hx0_1, rfl⟩ := ty_i e0_1
    have bx0_1 := bounds_u64 hx0_1
    obtain ⟨n0_1, rfl⟩ := Int.eq_ofNat_of_zero_le bx0_1.1
    clear hx0_1
    obtain ⟨y0_2, r0_2, rfl, e0_2, t0_3⟩ := cons_inv t0_2
    obtain ⟨x0_2, rfl⟩ := ty_b e0_2
    obtain ⟨y0_3, r0_3, rfl, e0_3, t0_4⟩ := cons_inv t0_3
    obtain ⟨x0_3, hx0_3, rfl⟩ := ty_i e0_3
    obtain ⟨y0_4, r0_4, rfl, e0_4, t0_5⟩ := cons_inv t0_4
    obtain ⟨x0_4, hx0_4, rfl⟩ := ty_i e0_4
    have bx0_4 := bounds_u64 hx0_4
    obtain ⟨n0_4, rfl⟩ := Int.eq_ofNat_of_zero_le bx0_4.1
    clear hx0_4
    obtain ⟨y0_5, r0_5, rfl, e0_5, t0_6⟩ := cons_inv t0_5
    obtain ⟨x0_5, hx0_5, rfl⟩ := ty_i e0_5
    have bx0_5 := bounds_u64 hx0_5
    obtain ⟨n0_5, rfl⟩ := Int.eq_ofNat_of_zero_le bx0_5.1
    clear hx0_5
    obtain ⟨y0_6, r0_6, rfl, e0_6, t0_7⟩ := cons_inv t0_6
    obtain ⟨x0_6, rfl⟩ := ty_b e0_6
    obtain ⟨y0_7, r0_7, rfl, e0_7, t0_8⟩ := cons_inv t0_7
    obtain ⟨x0_7, rfl⟩ := ty_b e0_7
    obtain ⟨y0_8, r0_8, rfl, e0_8, t0_9⟩ := cons_inv t0_8
    obtain ⟨x0_8, rfl⟩ := ty_b e0_8
    obtain ⟨y0_9, r0_9, rfl, e0_9, t0_10⟩ := cons_inv t0_9
    obtain ⟨x0_9, rfl⟩ := ty_b e0_9
    obtain ⟨y0_10, r0_10, rfl, e0_10, t0_11⟩ := cons_inv t0_10
    obtain ⟨x0_10, rfl⟩ := ty_b e0_10
    obtain ⟨y0_11, r0_11, rfl, e0_11, t0_12⟩ := cons_inv t0_11
    obtain ⟨x0_11, rfl⟩ := ty_b e0_11
    obtain ⟨y0_12, r0_12, rfl, e0_12, t0_13⟩ := cons_inv t0_12
    obtain ⟨x0_12, hx0_12, rfl⟩ := ty_i e0_12
    have bx0_12 := bounds_u64 hx0_12
    obtain ⟨n0_12, rfl⟩ := Int.eq_ofNat_of_zero_le bx0_12.1
    clear hx0_12
    obtain ⟨y0_13, r0_13, rfl, e0_13, t0_14⟩ := cons_inv t0_13
    obtain ⟨x0_13, rfl⟩ := ty_b e0_13
    obtain ⟨y0_14, r0_14, rfl, e0_14, t0_15⟩ := cons_inv t0_14
    obtain ⟨x0_14, hx0_14, rfl⟩ := ty_i e0_14
    obtain ⟨y0_15, r0_15, rfl, e0_15, t0_16⟩ := cons_inv t0_15
    obtain ⟨x0_15, hx0_15, rfl⟩ := ty_i e0_15
    have bx0_15 := bounds_u64 hx0_15
    obtain ⟨n0_15, rfl⟩ := Int.eq_ofNat_of_zero_le bx0_15.1
    clear hx0_15
    obtain ⟨y0_16, r0_16, rfl, e0_16, t0_17⟩ := cons_inv t0_16
    obtain ⟨x0_16, hx0_16, rfl⟩ := ty_i e0_16
    have bx0_16 := bounds_u64 hx0_16
    obtain ⟨n0_16, rfl⟩ := Int.eq_ofNat_of_zero_le bx0_16.1
    clear hx0_16
    obtain ⟨y0_17, r0_17, rfl, e0_17, t0_18⟩ := cons_inv t0_17
    obtain ⟨x0_17, rfl⟩ := ty_b e0_17
    obtain ⟨y0_18, r0_18, rfl, e0_18, t0_19⟩ := cons_inv t0_18
    obtain ⟨x0_18, rfl⟩ := ty_b e0_18
    obtain ⟨y0_19, r0_19, rfl, e0_19, t0_20⟩ := cons_inv t0_19
    obtain ⟨x0_19, rfl⟩ := ty_b e0_19
    obtain ⟨y0_20, r0_20, rfl, e0_20, t0_21⟩ := cons_inv t0_20
    obtain ⟨x0_20, rfl⟩ := ty_b e0_20
    obtain ⟨y0_21, r0_21, rfl, e0_21, t0_22⟩ := cons_inv t0_21
    obtain ⟨x0_21, rfl⟩ := ty_b e0_21
    obtain ⟨y0_22, r0_22, rfl, e0_22, t0_23⟩ := cons_inv t0_22
    obtain ⟨x0_22, rfl⟩ := ty_b e0_22
    obtain ⟨y0_23, r0_23, rfl, e0_23, t0_24⟩ := cons_inv t0_23
    obtain ⟨x0_23, hx0_23, rfl⟩ := ty_i e0_23
    have bx0_23 := bounds_u64 hx0_23
    obtain ⟨n0_23, rfl⟩ := Int.eq_ofNat_of_zero_le bx0_23.1
    clear hx0_23
    obtain ⟨y0_24, r0_24, rfl, e0_24, t0_25⟩ := cons_inv t0_24
    obtain ⟨x0_24, rfl⟩ := ty_b e0_24
    obtain ⟨y0_25, r0_25, rfl, e0_25, t0_26⟩ := cons_inv t0_25
    obtain ⟨x0_25, hx0_25, rfl⟩ := ty_i e0_25
    obtain ⟨y0_26, r0_26, rfl, e0_26, t0_27⟩ := cons_inv t0_26
    obtain ⟨x0_26, hx0_26, rfl⟩ := ty_i e0_26
    have bx0_26 := bounds_u64 hx0_26
    obtain ⟨n0_26, rfl⟩ := Int.eq_ofNat_of_zero_le bx0_26.1
    clear hx0_26
    obtain ⟨y0_27, r0_27, rfl, e0_27, t0_28⟩ := cons_inv t0_27
    obtain ⟨x0_27, hx0_27, rfl⟩ := ty_i e0_27
    have bx0_27 := bounds_u64 hx0_27
    obtain ⟨n0_27, rfl⟩ := Int.eq_ofNat_of_zero_le bx0_27.1
    clear hx0_27
    obtain ⟨y0_28, r0_28, rfl, e0_28, t0_29⟩ := cons_inv t0_28
    obtain ⟨x0_28, rfl⟩ := ty_b e0_28
    obtain ⟨y0_29, r0_29, rfl, e0_29, t0_30⟩ := cons_inv t0_29
    obtain ⟨x0_29, rfl⟩ := ty_b e0_29
    obtain ⟨y0_30, r0_30, rfl, e0_30, t0_31⟩ := cons_inv t0_30
    obtain ⟨x0_30, rfl⟩ := ty_b e0_30
    obtain ⟨y0_31, r0_31, rfl, e0_31, t0_32⟩ := cons_inv t0_31
    obtain ⟨x0_31, rfl⟩ := ty_b e0_31
    obtain ⟨y0_32, r0_32, rfl, e0_32, t0_33⟩ := cons_inv t0_32
    obtain ⟨x0_32, rfl⟩ := ty_b e0_32
    obtain ⟨y0_33, r0_33, rfl, e0_33, t0_34⟩ := cons_inv t0_33
    obtain ⟨x0_33, rfl⟩ := ty_b e0_33
    obtain ⟨y0_34, r0_34, rfl, e0_34, t0_35⟩ := cons_inv t0_34
    obtain ⟨x0_34, hx0_34, rfl⟩ := ty_i e0_34
    have bx0_34 := bounds_u64 hx0_34
    obtain ⟨n0_34, rfl⟩ := Int.eq_ofNat_of_zero_le bx0_34.1
    clear hx0_34
    obtain ⟨y0_35, r0_35, rfl, e0_35, t0_36⟩ := cons_inv t0_35
    obtain ⟨x0_35, rfl⟩ := ty_b e0_35
    obtain ⟨y0_36, r0_36, rfl, e0_36, t0_37⟩ := cons_inv t0_36
    obtain ⟨x0_36, hx0_36, rfl⟩ := ty_i e0_36
    obtain ⟨y0_37, r0_37, rfl, e0_37, t0_38⟩ := cons_inv t0_37
    obtain ⟨x0_37, hx0_37, rfl⟩ := ty_i e0_37
    have bx0_37 := bounds_u64 hx0_37
    obtain ⟨n0_37, rfl⟩ := Int.eq_ofNat_of_zero_le bx0_37.1
    clear hx0_37
    obtain ⟨y0_38, r0_38, rfl, e0_38, t0_39⟩ := cons_inv t0_38
    obtain ⟨x0_38, hx0_38, rfl⟩ := ty_i e0_38
    have bx0_38 := bounds_u64 hx0_38
    obtain ⟨n0_38, rfl⟩ := Int.eq_ofNat_of_zero_le bx0_38.1
    clear hx0_38
    obtain ⟨y0_39, r0_39, rfl, e0_39, t0_40⟩ := cons_inv t0_39
    obtain ⟨x0_39, rfl⟩ := ty_b e0_39
    obtain ⟨y0_40, r0_40, rfl, e0_40, t0_41⟩ := cons_inv t0_40
    obtain ⟨x0_40, rfl⟩ := ty_b e0_40
    obtain ⟨y0_41, r0_41, rfl, e0_41, t0_42⟩ := cons_inv t0_41
    obtain ⟨x0_41, rfl⟩ := ty_b e0_41
    obtain ⟨y0_42, r0_42, rfl, e0_42, t0_43⟩ := cons_inv t0_42
    obtain ⟨x0_42, rfl⟩ := ty_b e0_42
    obtain ⟨y0_43, r0_43, rfl, e0_43, t0_44⟩ := cons_inv t0_43
    obtain ⟨x0_43, rfl⟩ := ty_b e0_43
    obtain ⟨y0_44, r0_44, rfl, e0_44, t0_45⟩ := cons_inv t0_44
    obtain ⟨x0_44, hx0_44, rfl⟩ := ty_i e0_44
    have bx0_44 := bounds_u8 hx0_44
    obtain ⟨n0_44, rfl⟩ := Int.eq_ofNat_of_zero_le bx0_44.1
    clear hx0_44
    obtain rfl := nil_inv t0_45
    obtain ⟨g1, ds1⟩ := b1
    obtain ⟨rfl, t1_0⟩ := h1
    simp only at t1_0
    obtain ⟨y1_0, r1_0, rfl, e1_0, t1_1⟩ := cons_inv t1_0
    obtain ⟨x1_0, rfl⟩ := ty_b e1_0
    obtain ⟨y1_1, r1_1, rfl, e1_1, t1_2⟩ := cons_inv t1_1
    obtain ⟨x1_1, hx1_1, rfl⟩ := ty_i e1_1
    have bx1_1 := bounds_u64 hx1_1
    obtain ⟨n1_1, rfl⟩ := Int.eq_ofNat_of_zero_le bx1_1.1
    clear hx1_1
    obtain ⟨y1_2, r1_2, rfl, e1_2, t1_3⟩ := cons_inv t1_2
    obtain ⟨x1_2, rfl⟩ := ty_b e1_2
    obtain ⟨y1_3, r1_3, rfl, e1_3, t1_4⟩ := cons_inv t1_3
    obtain ⟨x1_3, hx1_3, rfl⟩ := ty_i e1_3
    obtain ⟨y1_4, r1_4, rfl, e1_4, t1_5⟩ := cons_inv t1_4
    obtain ⟨x1_4, hx1_4, rfl⟩ := ty_i e1_4
    have bx1_4 := bounds_u64 hx1_4
    obtain ⟨n1_4, rfl⟩ := Int.eq_ofNat_of_zero_le bx1_4.1
    clear hx1_4
    obtain ⟨y1_5, r1_5, rfl, e1_5, t1_6⟩ := cons_inv t1_5
    obtain ⟨x1_5, hx1_5, rfl⟩ := ty_i e1_5
    have bx1_5 := bounds_u64 hx1_5
    obtain ⟨n1_5, rfl⟩ := Int.eq_ofNat_of_zero_le bx1_5.1
    clear hx1_5
    obtain ⟨y1_6, r1_6, rfl, e1_6, t1_7⟩ := cons_inv t1_6
    obtain ⟨x1_6, rfl⟩ := ty_b e1_6
    obtain ⟨y1_7, r1_7, rfl, e1_7, t1_8⟩ := cons_inv t1_7
    obtain ⟨x1_7, rfl⟩ := ty_b e1_7
    obtain ⟨y1_8, r1_8, rfl, e1_8, t1_9⟩ := cons_inv t1_8
    obtain ⟨x1_8, rfl⟩ := ty_b e1_8
    obtain ⟨y1_9, r1_9, rfl, e1_9, t1_10⟩ := cons_inv t1_9
    obtain ⟨x1_9, rfl⟩ := ty_b e1_9
    obtain ⟨y1_10, r1_10, rfl, e1_10, t1_11⟩ := cons_inv t1_10
    obtain ⟨x1_10, rfl⟩ := ty_b e1_10
    obtain rfl := nil_inv t1_11
    obtain ⟨x2, hx2, rfl⟩ := arg_i h2
    exact SetKeeps_con (s := ⟨⟨x0_0, n0_1, x0_2, x0_3, n0_4, n0_5, x0_6, x0_7, x0_8, x0_9, x0_10⟩, ⟨x0_11, n0_12, x0_13, x0_14, n0_15, n0_16, x0_17, x0_18, x0_19, x0_20, x0_21⟩, ⟨x0_22, n0_23, x0_24, x0_25, n0_26, n0_27, x0_28, x0_29, x0_30, x0_31, x0_32⟩, ⟨x0_33, n0_34, x0_35, x0_36, n0_37, n0_38, x0_39, x0_40, x0_41, x0_42, x0_43⟩, n0_44⟩) (e := ⟨x1_0, n1_1, x1_2, x1_3, n1_4, n1_5, x1_6, x1_7, x1_8, x1_9, x1_10⟩) ⟨⟨by have := bx0_1; simp only; omega, by have := bx0_4; simp only; omega, by have := bx0_5; simp only; omega⟩, ⟨by have := bx0_12; simp only; omega, by have := bx0_15; simp only; omega, by have := bx0_16; simp only; omega⟩, ⟨by have := bx0_23; simp only; omega, by have := bx0_26; simp only; omega, by have := bx0_27; simp only; omega⟩, ⟨by have := bx0_34; simp only; omega, by have := bx0_37; simp only; omega, by have := bx0_38; simp only; omega⟩⟩ ⟨by have := bx1_1; simp only; omega, by have := bx1_4; simp only; omega, by have := bx1_5; simp only; omega⟩

def wit : Array Value := #[.agg #[.bool false, .int .u64 0, .bool false, .int .i64 0, .int .u64 0, .int .u64 0, .bool false, .bool false, .bool false, .bool false, .bool false, .bool false, .int .u64 0, .bool false, .int .i64 0, .int .u64 0, .int .u64 0, .bool false, .bool false, .bool false, .bool false, .bool false, .bool false, .int .u64 0, .bool false, .int .i64 0, .int .u64 0, .int .u64 0, .bool false, .bool false, .bool false, .bool false, .bool false, .bool false, .int .u64 0, .bool false, .int .i64 0, .int .u64 0, .int .u64 0, .bool false, .bool false, .bool false, .bool false, .bool false, .int .u8 0], .agg #[.bool false, .int .u64 0, .bool false, .int .i64 0, .int .u64 0, .int .u64 0, .bool false, .bool false, .bool false, .bool false, .bool false], .int .i64 0]
def dat {H : Type} : List (DataW H) := [.agg [.agg [.agg [.lit (.bool false), .lit (.int .u64 0), .lit (.bool false), .lit (.int .i64 0), .lit (.int .u64 0), .lit (.int .u64 0), .agg [.lit (.bool false), .lit (.bool false), .lit (.bool false), .lit (.bool false)], .lit (.bool false)], .agg [.lit (.bool false), .lit (.int .u64 0), .lit (.bool false), .lit (.int .i64 0), .lit (.int .u64 0), .lit (.int .u64 0), .agg [.lit (.bool false), .lit (.bool false), .lit (.bool false), .lit (.bool false)], .lit (.bool false)], .agg [.lit (.bool false), .lit (.int .u64 0), .lit (.bool false), .lit (.int .i64 0), .lit (.int .u64 0), .lit (.int .u64 0), .agg [.lit (.bool false), .lit (.bool false), .lit (.bool false), .lit (.bool false)], .lit (.bool false)], .agg [.lit (.bool false), .lit (.int .u64 0), .lit (.bool false), .lit (.int .i64 0), .lit (.int .u64 0), .lit (.int .u64 0), .agg [.lit (.bool false), .lit (.bool false), .lit (.bool false), .lit (.bool false)], .lit (.bool false)]], .lit (.int .u8 0)], .agg [.lit (.bool false), .lit (.int .u64 0), .lit (.bool false), .lit (.int .i64 0), .lit (.int .u64 0), .lit (.int .u64 0), .agg [.lit (.bool false), .lit (.bool false), .lit (.bool false), .lit (.bool false)], .lit (.bool false)], .lit (.int .i64 0)]
/-- A WORLD FOR THE WITNESS: the settled one, the listed variables holding what their initialisers lay. -/
noncomputable def laidWorld (os : Os) : World :=
  { World.holding Tryd.prog os ⟨#[], #[], []⟩ with heap := (((World.holding Tryd.prog os ⟨#[], #[], []⟩).heap.modify 0 (fun
      | .cells _ t frozen => .cells #[.int .u8 3, .int .u8 0, .int .u8 1, .int .u8 2, .int .u8 4, .int .u8 1, .int .u8 0, .int .u8 5] t frozen
      | o => o)).modify 1 (fun
      | .cells _ t frozen => .cells #[.int .u64 4096, .int .u64 2097152, .int .u64 1073741824] t frozen
      | o => o)) }
theorem laid_met (os : Os) : laidMet Tryd.prog Rows.setKeepsRow.laid ((laidWorld os).forCall (fun _ _ => 0) ⟨#[], wit, []⟩).memory :=
  laidMet_of_run' 8 (by kernel_rfl) (by kernel_rfl)
theorem reads (os : Os) {H : Type} (enc : TypeId × Value → H) : ∃ places, DataW.whole enc Tryd.prog ((laidWorld os).forCall (fun _ _ => 0) ⟨#[], wit, []⟩).memory Tryd.f4.params.toList Rows.setKeepsSpec.vars false wit.toList 8 = some (dat, [], places) :=
  ⟨[], by kernel_rfl⟩

theorem lifted (os : Os) (started : os.Started) (H : Type) (enc : TypeId × Value → H) (F : Stop.Interp) :
    ReturnsInHanded {} Tryd.checked os 4 .any ((OpenSpec.ofChange Rows.setKeepsSpec).preRow enc Tryd.prog Tryd.f4 Rows.setKeepsRow.domain false Rows.setKeepsRow.laid) (((OpenSpec.ofChange Rows.setKeepsSpec).at F).post enc Tryd.prog Tryd.f4 false true false false) := by
  obtain ⟨places, hx⟩ := reads os enc
  refine returnsInHanded_of_row (C := Tryd.checked) (s := OpenSpec.ofChange Rows.setKeepsSpec) own started (by kernel_rfl) Tryd.func4
    (witness_row_at (enc := enc) (C := Tryd.checked) false (laidWorld os) wit rfl (by kernel_rfl) (by kernel_rfl) (by kernel_rfl)
      (OpenSpec.preRow_of_cond 8 hx (by kernel_rfl) (fun k hk => by cases hk) (by kernel_rfl) (laid_met os))) ?_
  intro W base args ds gs before hval hW _ _ _ hL _ _
  exact contract H enc W base args ds gs before hval hW hL

theorem closed : joinedFacts Tryd.prog 4 Tryd.f4 (OpenSpec.ofChange Rows.setKeepsSpec).bare Rows.setKeepsRow = true := by
  unfold joinedFacts
  rw [fact_mayEnter, fact_laidOut, fact_lifts, fact_make]
  repeat' (with_reducible apply and_t)
  all_goals as_aux_lemma => kernel_rfl

theorem said : Rows.SetKeepsSaid :=
  OpenClaim.holds_of_cond 4 Tryd.f4 rfl rfl rfl rfl rfl rfl rfl ⟨rfl, rfl, rfl, rfl, rfl⟩ rfl rfl rfl rfl rfl (by kernel_rfl) Tryd.func4 closed
    (of_decide_eq_true (by kernel_rfl)) (by unfold Func.isWrapper; first | (rw [if_pos (by decide +kernel)]; kernel_rfl) | (rw [if_neg (by decide +kernel)]; exact ⟨rfl, rfl⟩))
    (fun os started H enc _ F => by rw [OpenClaim.pre_eq_preRow]; exact lifted os started H enc F)

theorem plain (f : FuncId) (fn : Func) (hf : Tryd.pinned.checked.prog.funcNamed "atlas/atlaslaw13.SetKeeps" = some f) (hfn : Tryd.pinned.checked.prog.funcs[f]? = some fn) :
    false = Tryd.pinned.checked.prog.looks [] ∧ ∀ (j : Nat) t, fn.params[j]? = some t → Tryd.pinned.checked.prog.wantsStandIn t = false :=
  plain_of (by kernel_rfl) Tryd.func4 (by kernel_rfl) (by kernel_rfl) hf hfn

/-- ████ THE CARD ████ -/
theorem card : Rows.SetKeepsCardSaid :=
  Claim7.holds_tied_plain_at .later [] _ _ _ _ said (fun _ h => by cases h) (by kernel_rfl) (fun _ h => by cases h) setKeeps_row_tie rfl ⟨rfl, rfl⟩ (by kernel_rfl) rfl plain (by kernel_rfl)
#print axioms card
end Go.Proofs.YtebcdcdcefhdfaaDoor.setKeeps
