/-
  Layers 5, 6, 8, 9: causes, permissions, parts of addresses: contracts.
-/
import Derived.Test.YtngpjdieelcbmaaDoorWlkb
namespace Go.Proofs.YtngpjdieelcbmaaDoor.Sx
open Go
set_option linter.unusedVariables false
set_option linter.unusedSimpArgs false
set_option maxRecDepth 100000


/-! ### causes -/
def Kn (k : Int) : Prop := k = 0 ∨ k = 1 ∨ k = 2
theorem page_con {k : Int} {a : Nat} (hk : Kn k) : Cn gAll 26 [i k, u a] [fdv true (causeN 3 k) a] := by
  refine con rfl rfl cause_Page_c cause_Page_p rfl ?_
  rcases hk with rfl | rfl | rfl <;> exact wp_chk rfl (wp_return rfl rfl)
theorem access_con {k : Int} {a : Nat} (hk : Kn k) : Cn gAll 29 [i k, u a] [fdv true (causeN 2 k) a] := by
  refine con rfl rfl cause_Access_c cause_Access_p rfl ?_
  rcases hk with rfl | rfl | rfl <;> exact wp_chk rfl (wp_return rfl rfl)

/-! ### permissions -/
abbrev P4 (r w x u : Bool) : DV := (true, [.b r, .b w, .b x, .b u])
abbrev W4 (k m : Int) (s x : Bool) : DV := (true, [.i .i64 k, .i .i64 m, .b s, .b x])
def allowsF (r w x u : Bool) (k m : Int) (s mx : Bool) : Bool :=
  (if m = 0 then u else if u then k != 0 && s else true) && (if k = 0 then x else if k = 1 then r || (x && mx) else w)
def Pv (m : Int) : Prop := m = 0 ∨ m = 1
def isWay (k m : Int) : Bool := (k == 0 || k == 1 || k == 2) && (m == 0 || m == 1)
theorem isWay_iff {k m : Int} : isWay k m = true ↔ Kn k ∧ Pv m := by
  simp only [isWay, Kn, Pv, Bool.and_eq_true, Bool.or_eq_true, beq_iff_eq, or_assoc]

/-! ### parts of addresses -/
theorem szN_pow {l : Nat} (h : l ≤ 2) : szN (l : Int) = 2 ^ (12 + 9 * l) := by
  rcases l with _ | _ | _ | l
  · rfl
  · rfl
  · rfl
  · omega
theorem lv_of {l : Nat} (h : l ≤ 2) : Lv (l : Int) := by unfold Lv; omega
theorem index_con {a l : Nat} (ha : a < 18446744073709551616) (h : l ≤ 2) : Cn gAll 48 [u a, i l] [i (a / szN l % 512 : Nat)] := by
  refine con rfl rfl va_Index_c va_Index_p rfl ?_
  unfold va_Index_ir
  simp only [lv_cons, lv_nil, app_cons, app_nil]
  refine wp_lt (d := I (9 * l : Nat)) ((i_mul (a := 9) (b := (l : Int)) rfl rfl (by omega) (by omega)).trans (by rw [Int.natCast_mul]; rfl)) ?_
  simp only [lv_cons, lv_nil, app_cons, app_nil]
  refine wp_lt (d := I (12 + 9 * l : Nat)) ((i_add (a := 12) (b := ((9 * l : Nat) : Int)) rfl rfl (by omega) (by omega)).trans (by rw [Int.natCast_add 12]; rfl)) ?_
  simp only [lv_cons, lv_nil, app_cons, app_nil]
  refine wp_call rfl (bitsGet_con (a := a) (lo := 12 + 9 * l) (w := 9) ha (by omega) (by decide)) rfl ?_
  simp only [lv_cons, lv_nil, app_cons, app_nil]
  have hlt : getN a (12 + 9 * l) 9 < 2 ^ 9 := getN_lt
  refine wp_lt (cv_i rfl (by omega) (by omega)) ?_
  simp only [lv_cons, lv_nil, app_cons, app_nil]
  refine wp_return rfl ?_
  rw [szN_pow h]
  rfl
theorem sign_va {a : Nat} (ha : a < 18446744073709551616) : (signN a 39 = a) ↔ (a < 274877906944 ∨ 18446743798831644672 ≤ a) := by
  have hb : ∀ i, (signN a 39).testBit i = (decide (i < 64) && a.testBit (min i 38)) := fun i => by unfold signN; rw [ofF_testBit]
  constructor
  · intro h
    have hh : ∀ j, j < 26 → (a / 2 ^ 38).testBit j = a.testBit 38 := fun j hj => by
      rw [Nat.testBit_div_two_pow]
      have := hb (j + 38)
      rw [h, decide_eq_true (show j + 38 < 64 by omega), Bool.true_and, Nat.min_eq_right (by omega)] at this
      rw [← this]
    have hlt : a / 2 ^ 38 < 2 ^ 26 := by omega
    cases hc : a.testBit 38 with
    | false =>
      left
      have : a / 2 ^ 38 = 0 := Nat.eq_of_testBit_eq fun j => by
        rw [Nat.zero_testBit]
        by_cases hj : j < 26
        · rw [hh j hj, hc]
        · exact Nat.testBit_lt_two_pow (Nat.lt_of_lt_of_le hlt (Nat.pow_le_pow_right (by decide) (by omega)))
      omega
    | true =>
      right
      have : a / 2 ^ 38 = 2 ^ 26 - 1 := Nat.eq_of_testBit_eq fun j => by
        rw [Nat.testBit_two_pow_sub_one]
        by_cases hj : j < 26
        · rw [hh j hj, hc, decide_eq_true hj]
        · rw [decide_eq_false hj]
          exact Nat.testBit_lt_two_pow (Nat.lt_of_lt_of_le hlt (Nat.pow_le_pow_right (by decide) (by omega)))
      omega
  · intro h
    refine Nat.eq_of_testBit_eq fun i => ?_
    rw [hb]
    by_cases hi : i < 64
    · rw [decide_eq_true hi, Bool.true_and]
      by_cases h38 : i ≤ 38
      · rw [Nat.min_eq_left h38]
      · rw [Nat.min_eq_right (by omega)]
        rcases h with h | h
        · rw [Nat.testBit_lt_two_pow (x := a) (i := 38) h, Nat.testBit_lt_two_pow (Nat.lt_of_lt_of_le h (show 274877906944 ≤ 2 ^ i from Nat.pow_le_pow_right (n := 2) (i := 38) (by decide) (by omega)))]
        · have e : a / 2 ^ 38 = 2 ^ 26 - 1 := by omega
          have hj : ∀ j, j < 26 → a.testBit (j + 38) = true := fun j hj => by
            rw [← Nat.testBit_div_two_pow, e, Nat.testBit_two_pow_sub_one, decide_eq_true hj]
          have h1 := hj 0 (by decide)
          have h2 := hj (i - 38) (by omega)
          rw [show i - 38 + 38 = i by omega] at h2
          rw [h2]
          exact h1
    · rw [decide_eq_false hi, Bool.false_and, testBit_lt64 ha (by omega)]
theorem vaIs_con {a : Nat} (ha : a < 18446744073709551616) : Cn gAll 25 [u a] [bb (isVaB a)] := by
  refine con rfl rfl va_Is_c va_Is_p rfl ?_
  unfold va_Is_ir
  simp only [lv_cons, lv_nil, app_cons, app_nil]
  refine wp_call rfl (bitsSign_con (n := 39) ha (by decide) (by decide)) rfl ?_
  simp only [lv_cons, lv_nil, app_cons, app_nil]
  refine wp_lt (e_eql rfl rfl) ?_
  simp only [lv_cons, lv_nil, app_cons, app_nil]
  refine wp_return rfl (bb_iff ?_)
  rw [isVaB, decide_eq_true_eq, ← sign_va ha, beq_iff_eq]
  omega
end Go.Proofs.YtngpjdieelcbmaaDoor.Sx
