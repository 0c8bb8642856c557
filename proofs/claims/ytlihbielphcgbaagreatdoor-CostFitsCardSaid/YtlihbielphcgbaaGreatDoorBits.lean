/-
  Layer 1: bits and fields of words: the contracts of the functions and of their references.
-/
import Derived.Test.YtlihbielphcgbaaGreatDoorBf
import Derived.Test.YtlihbielphcgbaaGreatDoorIrA
namespace Go.Proofs.YtlihbielphcgbaaGreatDoor.Sx
open Go
set_option linter.unusedVariables false
set_option linter.unusedSimpArgs false
set_option maxRecDepth 100000


theorem bb_iff {a b : Bool} (h : a = true ↔ b = true) : [bb a] = [bb b] := by rw [Bool.eq_iff_iff.2 h]
theorem bb_eq {a b : Bool} (h : a = b) : [bb a] = [bb b] := by rw [h]
theorem u_eq {a b : Nat} (h : a = b) : [u a] = [u b] := by rw [h]
theorem and_t' {a b : Bool} : (a && b) = true ↔ a = true ∧ b = true := by cases a <;> cases b <;> simp

/-! ### variables of lists -/
theorem vr_len : ∀ (n a : Nat), (vr a n).length = n
  | 0, _ => rfl
  | n + 1, a => by rw [vr, List.length_cons, vr_len n]
theorem vr_get : ∀ (n a i : Nat) (h : i < (vr a n).length), (vr a n)[i] = .v (a + i)
  | 0, _, _, h => by simp [vr] at h
  | n + 1, a, 0, h => rfl
  | n + 1, a, i + 1, h => by
    have := vr_get n (a + 1) i (by simpa [vr] using h)
    simp only [vr, List.getElem_cons_succ]
    rw [this]
    congr 1
    omega
theorem evals_vr {ρ : List D} : ∀ (n a : Nat) (ds : List D), ds.length = n → (∀ i, i < n → ρ[a + i]? = ds[i]?) → Ex.evals ρ (vr a n) = some ds
  | 0, a, [], _, _ => rfl
  | n + 1, a, d :: ds, hl, h => by
    have h0 := h 0 (by omega)
    have h1 := evals_vr n (a + 1) ds (by simpa using hl) (fun i hi => by have := h (i + 1) (by omega); rw [show a + 1 + i = a + (i + 1) by omega, this]; rfl)
    simp only [vr, Ex.evals, Ex.eval, h1]
    rw [show ρ[a]? = some d by simpa using h0]
/-- the element that a variable selects -/
theorem eval_sel {ρ : List D} {n : Nat} {k0 : IntKind} : ∀ (es : List Ex) (k m : Nat), ρ[n]? = some (.i k0 (m : Int)) → k ≤ m → (h : m - k < es.length) → (selE (.v n) k es).eval ρ = (es[m - k]).eval ρ
  | [], k, m, _, _, h => by simp at h
  | [x], k, m, _, _, h => by
    have : m - k = 0 := by simpa using h
    simp only [this, selE, List.getElem_cons_zero]
  | x :: y :: r, k, m, hn, hk, h => by
    have e : selE (.v n) k (x :: y :: r) = .ite (.isk (.v n) k) x (selE (.v n) (k + 1) (y :: r)) := rfl
    rw [e]
    simp only [Ex.eval, hn]
    by_cases hm : m = k
    · subst hm
      simp
    · have h' := eval_sel (y :: r) (k + 1) m hn (by omega) (by simp at h ⊢; omega)
      have hb : ((m : Int) == (k : Int)) = false := by simp; omega
      rw [hb]
      simp only [Bool.false_eq_true, if_false, h']
      have : m - k = (m - (k + 1)) + 1 := by omega
      simp only [this, List.getElem_cons_succ]
/-- a leaf stored at the place that a variable tells -/
theorem evals_put {ρ : List D} {n w : Nat} {k0 : IntKind} {d : D} : ∀ (es : List Ex) (ds : List D) (k m : Nat), Ex.evals ρ es = some ds → ρ[n]? = some (.i k0 (m : Int)) → ρ[w]? = some d → k ≤ m → Ex.evals ρ (putV n k w es) = some (ds.set (m - k) d)
  | [], ds, k, m, h, _, _, _ => by
    simp only [Ex.evals, Option.some.injEq] at h
    subst h
    rfl
  | x :: r, ds, k, m, h, hn, hw, hk => by
    simp only [Ex.evals] at h
    split at h
    · rename_i d0 ds0 h0 h1
      cases h
      by_cases hm : m = k
      · subst hm
        have h2 : Ex.evals ρ (putV n (m + 1) w r) = some ds0 := by
          clear h0 hw
          have : ∀ (r : List Ex) (ds0 : List D) (k : Nat), m < k → Ex.evals ρ r = some ds0 → Ex.evals ρ (putV n k w r) = some ds0 := by
            intro r
            induction r with
            | nil => intro ds0 k _ h; exact h
            | cons x r ih =>
              intro ds0 k hk h
              simp only [Ex.evals] at h
              split at h
              · rename_i a b ha hb
                cases h
                have hne : ((m : Int) == (k : Int)) = false := by simp; omega
                simp only [putV, Ex.evals, Ex.eval, hn, hne, Bool.false_eq_true, if_false, ha, ih b (k + 1) (by omega) hb]
              · cases h
          exact this r ds0 (m + 1) (by omega) h1
        simp only [putV, Ex.evals, Ex.eval, hn, beq_self_eq_true, if_true, hw, h2, Nat.sub_self, List.set_cons_zero]
      · have h2 := evals_put r ds0 (k + 1) m h1 hn hw (by omega)
        have hne : ((m : Int) == (k : Int)) = false := by simp; omega
        have e : m - k = (m - (k + 1)) + 1 := by omega
        simp only [putV, Ex.evals, Ex.eval, hn, hne, Bool.false_eq_true, if_false, h0, h2, e, List.set_cons_succ]
    · cases h
theorem get_app {α : Type} {L : List α} {k j : Nat} (hL : L.length = k) (r : List α) : (L ++ r)[k + j]? = r[j]? := by
  rw [List.getElem?_append_right (by omega), hL, Nat.add_sub_cancel_left]

/-! ### numbers of bits -/
/-- bits as a number, the least first -/
def ofB : List Bool → Nat
  | [] => 0
  | b :: r => b.toNat + 2 * ofB r
theorem ofB_lt : ∀ l : List Bool, ofB l < 2 ^ l.length
  | [] => by decide
  | b :: r => by
    have := ofB_lt r
    have hb : b.toNat ≤ 1 := by cases b <;> decide
    rw [ofB, List.length_cons, Nat.pow_succ]
    omega
theorem ofB_testBit : ∀ (l : List Bool) (i : Nat), (ofB l).testBit i = (l[i]?).getD false
  | [], i => by simp [ofB]
  | b :: r, 0 => by
    rw [ofB, Nat.testBit_zero]
    cases b <;> simp <;> omega
  | b :: r, i + 1 => by
    rw [ofB, Nat.testBit_succ, List.getElem?_cons_succ, ← ofB_testBit r i]
    congr 1
    cases b <;> simp <;> omega
theorem ofB_drop {l : List Bool} {k : Nat} (h : k < l.length) : ofB (l.drop k) = (l[k]).toNat + 2 * ofB (l.drop (k + 1)) := by
  rw [List.drop_eq_getElem_cons h, ofB]
/-- a word whose bits are those of a function -/
def ofF (f : Nat → Bool) : Nat := ofB ((List.range 64).map f)
theorem ofF_testBit (f : Nat → Bool) (i : Nat) : (ofF f).testBit i = (decide (i < 64) && f i) := by
  rw [ofF, ofB_testBit]
  by_cases h : i < 64
  · simp [List.getElem?_map, List.getElem?_range h, h]
  · rw [List.getElem?_eq_none (by simp; omega)]
    simp [h]
theorem ofF_lt (f : Nat → Bool) : ofF f < 18446744073709551616 := by
  have := ofB_lt ((List.range 64).map f)
  simpa [ofF] using this
theorem testBit_lt64 {w i : Nat} (hw : w < 18446744073709551616) (h : 64 ≤ i) : w.testBit i = false :=
  Nat.testBit_lt_two_pow (Nat.lt_of_lt_of_le (m := 2 ^ 64) hw (Nat.pow_le_pow_right (by omega) h))

/-- a field -/
def getN (w lo n : Nat) : Nat := w / 2 ^ lo % 2 ^ n
theorem getN_testBit (w lo n i : Nat) : (getN w lo n).testBit i = (decide (i < n) && w.testBit (lo + i)) := by
  rw [getN, Nat.testBit_mod_two_pow, Nat.testBit_div_two_pow, Nat.add_comm i lo]
/-- a word whose field is another one -/
def setN (w lo n v : Nat) : Nat := ofF fun i => if lo ≤ i ∧ i < lo + n then v.testBit (i - lo) else w.testBit i
/-- a word whose high bits are all as its bit n - 1 -/
def signN (w n : Nat) : Nat := ofF fun i => w.testBit (min i (n - 1))

theorem setN_lt (w lo n v : Nat) : setN w lo n v < 18446744073709551616 := ofF_lt _
theorem signN_lt (w n : Nat) : signN w n < 18446744073709551616 := ofF_lt _

theorem mask_con {w : Nat} (h : w ≤ 64) : Cn gAll 116 [i w] [u (2 ^ w - 1)] := by
  refine con rfl rfl bits_mask_c bits_mask_p rfl ?_
  have hp0 : 0 < 2 ^ w := Nat.pow_pos (by omega)
  refine wp_lt rfl ?_
  simp only [lv_cons, lv_nil, app_cons, app_nil]
  refine wp_ite rfl (fun hc => ?_) (fun hc => ?_)
  · have hc := of_decide_eq_true hc
    obtain rfl : w = 64 := by omega
    exact wp_return rfl rfl
  · have hc := of_decide_eq_false hc
    have hp : 2 ^ w < 18446744073709551616 := Nat.pow_lt_pow_right (n := 64) (by omega) (by omega)
    refine wp_lt (cv_u rfl (by omega)) ?_
    simp only [lv_cons, lv_nil, app_cons, app_nil]
    refine wp_lt (u_shl (a := 1) rfl rfl (by omega) (by omega)) ?_
    simp only [lv_cons, lv_nil, app_cons, app_nil]
    refine wp_lt (u_sub (a := 1 * 2 ^ w) (b := 1) rfl rfl (by omega) (by omega)) ?_
    simp only [lv_cons, lv_nil, app_cons, app_nil]
    exact wp_return rfl (by rw [Nat.one_mul])

theorem bitsGet_con {a lo w : Nat} (ha : a < 18446744073709551616) (hlo : lo ≤ 64) (hw : w ≤ 64) : Cn gAll 85 [u a, i lo, i w] [u (getN a lo w)] := by
  refine con rfl rfl bits_Get_c bits_Get_p rfl ?_
  have hp : 2 ^ w ≤ 18446744073709551616 := Nat.pow_le_pow_right (i := w) (j := 64) (by omega) hw
  have hp0 : 0 < 2 ^ w := Nat.pow_pos (by omega)
  have hd : a / 2 ^ lo ≤ a := Nat.div_le_self ..
  refine wp_lt (cv_u rfl (by omega)) ?_
  simp only [lv_cons, lv_nil, app_cons, app_nil]
  refine wp_lt (u_shr rfl rfl (by omega)) ?_
  simp only [lv_cons, lv_nil, app_cons, app_nil]
  refine wp_call rfl (mask_con hw) rfl ?_
  simp only [lv_cons, lv_nil, app_cons, app_nil]
  refine wp_lt (u_and rfl rfl (by omega) (by omega)) ?_
  simp only [lv_cons, lv_nil, app_cons, app_nil]
  exact wp_return rfl (by rw [and_mask]; rfl)

theorem even_con {a b : Nat} (hb : b ≠ 0) : Cn gAll 68 [u a, u b] [bb (decide (a % b = 0))] := by
  refine con rfl rfl bits_Even_c bits_Even_p rfl ?_
  refine wp_lt rfl ?_
  simp only [lv_cons, lv_nil, app_cons, app_nil]
  refine wp_ite (t := false) (by simp [Ex.eval]; omega) (fun h => by cases h) (fun _ => ?_)
  refine wp_lt (u_rem rfl rfl hb) ?_
  simp only [lv_cons, lv_nil, app_cons, app_nil]
  refine wp_lt rfl ?_
  simp only [lv_cons, lv_nil, app_cons, app_nil]
  exact wp_return rfl (bb_iff (by simp; omega))

theorem bool_con {b : Bool} : Cn gAll 56 [bb b] [u b.toNat] := by
  cases b <;> exact con_of_run TIrA_ok rfl 50 rfl rfl

theorem shl64 {v n : Nat} : v * 2 ^ n % 2 ^ 64 = ofF (fun i => decide (n ≤ i) && v.testBit (i - n)) := by
  apply Nat.eq_of_testBit_eq
  intro i
  rw [ofF_testBit, Nat.testBit_mod_two_pow, Nat.testBit_mul_two_pow]
theorem u_shl' {ρ : List D} {x y : Ex} {k : IntKind} {a b : Nat} (hx : x.eval ρ = some (U a)) (hy : y.eval ρ = some (.i k (b : Int))) (h : b ≤ 64) : (Ex.bin .shl x y).eval ρ = some (U (ofF fun i => decide (b ≤ i) && a.testBit (i - b))) := by
  have hk : min b IntKind.u64.bits = b := Nat.min_eq_left h
  have h1 : ¬ (b : Int) < 0 := by omega
  simp only [Ex.eval, hx, hy, binD, if_neg h1, Int.toNat_natCast, hk]
  have e : (a : Int) * 2 ^ b = ((a * 2 ^ b : Nat) : Int) := by push_cast; rfl
  have hw : ∀ n : Nat, IntKind.u64.wrap (n : Int) = ((n % 2 ^ 64 : Nat) : Int) := fun n => by
    show (n : Int) % 18446744073709551616 = ((n % 18446744073709551616 : Nat) : Int)
    omega
  rw [e, hw, shl64]
theorem u_andNot {ρ : List D} {x y : Ex} {a b : Nat} (hx : x.eval ρ = some (U a)) (hy : y.eval ρ = some (U b)) (ha : a < 18446744073709551616) (hb : b < 18446744073709551616) : (Ex.bin .andNot x y).eval ρ = some (U (ofF fun i => a.testBit i && !b.testBit i)) := by
  have h1 : (BitVec.ofInt 64 (a : Int) &&& ~~~ BitVec.ofInt 64 (b : Int)).toNat = ofF fun i => a.testBit i && !b.testBit i := by
    apply Nat.eq_of_testBit_eq
    intro i
    rw [BitVec.toNat_and, Nat.testBit_and, BitVec.ofInt_natCast, BitVec.ofInt_natCast, ofF_testBit]
    rw [BitVec.testBit_toNat, BitVec.testBit_toNat, BitVec.getLsbD_not, BitVec.getLsbD_ofNat, BitVec.getLsbD_ofNat]
    by_cases h : i < 64 <;> simp [h]
  simp only [Ex.eval, hx, hy, binD, if_true]
  rw [show (BitVec.ofInt IntKind.u64.bits (a : Int) &&& ~~~ BitVec.ofInt IntKind.u64.bits (b : Int)).toNat = _ from h1, wrapU (ofF_lt _)]
theorem bitsSet_con {a lo w v : Nat} (ha : a < 18446744073709551616) (hv : v < 18446744073709551616) (hlo : lo ≤ 64) (hw : w ≤ 64) : Cn gAll 115 [u a, i lo, i w, u v] [u (setN a lo w v)] := by
  refine con rfl rfl bits_Set_c bits_Set_p rfl ?_
  have hp : 2 ^ w ≤ 18446744073709551616 := Nat.pow_le_pow_right (i := w) (j := 64) (by omega) hw
  have hp0 : 0 < 2 ^ w := Nat.pow_pos (by omega)
  refine wp_call rfl (mask_con hw) rfl ?_
  simp only [lv_cons, lv_nil, app_cons, app_nil]
  refine wp_lt (cv_u rfl (by omega)) ?_
  simp only [lv_cons, lv_nil, app_cons, app_nil]
  refine wp_lt (u_shl' rfl rfl hlo) ?_
  simp only [lv_cons, lv_nil, app_cons, app_nil]
  refine wp_lt (u_andNot rfl rfl ha (ofF_lt _)) ?_
  simp only [lv_cons, lv_nil, app_cons, app_nil]
  refine wp_lt (cv_u rfl (by omega)) ?_
  simp only [lv_cons, lv_nil, app_cons, app_nil]
  refine wp_lt (u_shl' rfl rfl hlo) ?_
  simp only [lv_cons, lv_nil, app_cons, app_nil]
  refine wp_lt (u_and rfl rfl (ofF_lt _) (ofF_lt _)) ?_
  simp only [lv_cons, lv_nil, app_cons, app_nil]
  refine wp_lt (u_or rfl rfl (ofF_lt _) (Nat.lt_of_le_of_lt Nat.and_le_left (ofF_lt _))) ?_
  simp only [lv_cons, lv_nil, app_cons, app_nil]
  refine wp_return rfl (u_eq ?_)
  apply Nat.eq_of_testBit_eq
  intro i
  rw [setN]
  simp only [Nat.testBit_or, Nat.testBit_and, ofF_testBit, Nat.testBit_two_pow_sub_one]
  by_cases h : i < 64 <;> by_cases h1 : lo ≤ i <;> by_cases h2 : i - lo < w <;> simp [h, h1, h2] <;> (try split) <;> (try rfl) <;> omega

theorem wrapS {x : Nat} (hx0 : x < 18446744073709551616) : IntKind.i64.wrap (x : Int) = (BitVec.ofNat 64 x).toInt := by
  have h3 : (BitVec.ofNat 64 x).toInt = if x < 9223372036854775808 then (x : Int) else (x : Int) - 18446744073709551616 := by
    rw [BitVec.toInt_eq_toNat_cond, BitVec.toNat_ofNat, Nat.mod_eq_of_lt (show x < 2 ^ 64 from hx0)]
    by_cases h : x < 9223372036854775808
    · rw [if_pos h, if_pos (by omega)]
    · rw [if_neg h, if_neg (by omega)]
      rfl
  rw [h3]
  have e : (x : Int) % (2 ^ IntKind.i64.bits : Int) = x := Int.emod_eq_of_lt (by omega) (by show (x : Int) < 18446744073709551616; omega)
  unfold IntKind.wrap
  simp only
  rw [e]
  have s : IntKind.i64.signed = true := rfl
  rw [s, Bool.true_and]
  by_cases h : x < 9223372036854775808
  · rw [if_pos h, if_neg]
    simp only [decide_eq_true_eq]
    show ¬ (x : Int) ≥ 9223372036854775808
    omega
  · rw [if_neg h, if_pos]
    · rfl
    · simp only [decide_eq_true_eq]
      show (x : Int) ≥ 9223372036854775808
      omega
theorem wrapU64 {z : Int} : IntKind.u64.wrap z = z % 18446744073709551616 := by
  unfold IntKind.wrap
  have s : IntKind.u64.signed = false := rfl
  simp only [s, Bool.false_and]
  rfl
theorem bitsSign_con {a n : Nat} (ha : a < 18446744073709551616) (hn : 1 ≤ n) (hn' : n ≤ 64) : Cn gAll 140 [u a, i n] [u (signN a n)] := by
  refine con rfl rfl bits_Sign_c bits_Sign_p rfl ?_
  refine wp_lt (i_sub (a := 64) (b := n) rfl rfl (by omega) (by omega)) ?_
  simp only [lv_cons, lv_nil, app_cons, app_nil]
  rw [show (64 : Int) - (n : Int) = ((64 - n : Nat) : Int) by omega]
  refine wp_lt (cv_u rfl (by omega)) ?_
  simp only [lv_cons, lv_nil, app_cons, app_nil]
  refine wp_lt (u_shl' rfl rfl (by omega)) ?_
  simp only [lv_cons, lv_nil, app_cons, app_nil]
  obtain ⟨x, hx⟩ : ∃ x, x = ofF fun i => decide (64 - n ≤ i) && a.testBit (i - (64 - n)) := ⟨_, rfl⟩
  rw [← hx]
  have hx0 : x < 18446744073709551616 := hx ▸ ofF_lt _
  refine wp_lt (d := I (BitVec.ofNat 64 x).toInt) ?_ ?_
  · simp only [Ex.eval]
    show some (D.i .i64 (IntKind.i64.wrap (x : Int))) = _
    rw [wrapS hx0]
  simp only [lv_cons, lv_nil, app_cons, app_nil]
  refine wp_lt (d := I (((BitVec.ofNat 64 x).sshiftRight (64 - n)).toInt)) ?_ ?_
  · have h1 : ¬ ((64 - n : Nat) : Int) < 0 := by omega
    have hk : min (64 - n) 64 = 64 - n := Nat.min_eq_left (by omega)
    show binD .shr (D.i .i64 (BitVec.ofNat 64 x).toInt) (D.i .u64 ((64 - n : Nat) : Int)) = _
    simp only [binD, if_neg h1, Int.toNat_natCast]
    rw [show min (64 - n) IntKind.i64.bits = 64 - n from hk, BitVec.toInt_sshiftRight, Int.shiftRight_eq_div_pow]
    have e : (2 : Int) ^ (64 - n) = ((2 ^ (64 - n) : Nat) : Int) := by push_cast; rfl
    rw [e, Int.fdiv_eq_ediv_of_nonneg _ (Int.natCast_nonneg _)]
  simp only [lv_cons, lv_nil, app_cons, app_nil]
  refine wp_lt (d := U (((BitVec.ofNat 64 x).sshiftRight (64 - n)).toNat)) ?_ ?_
  · show some (D.i .u64 (IntKind.u64.wrap _)) = _
    generalize (BitVec.ofNat 64 x).sshiftRight (64 - n) = y
    rw [wrapU64]
    have h4 := y.isLt
    rw [BitVec.toInt_eq_toNat_cond]
    congr 2
    split <;> omega
  simp only [lv_cons, lv_nil, app_cons, app_nil]
  refine wp_return rfl (u_eq ?_)
  apply Nat.eq_of_testBit_eq
  intro i
  rw [signN, ofF_testBit, BitVec.testBit_toNat, BitVec.getLsbD_sshiftRight, BitVec.getLsbD_ofNat, BitVec.msb_eq_getLsbD_last, BitVec.getLsbD_ofNat]
  by_cases h : i < 64
  · have hc : ¬ 64 ≤ i := by omega
    simp only [hc, decide_false, Bool.not_false, Bool.true_and, h, decide_true, hx, ofF_testBit]
    by_cases h1 : 64 - n + i < 64
    · have h3 : 64 - n ≤ 64 - n + i := by omega
      simp only [h1, if_true, decide_true, h3, Bool.true_and]
      congr 1
      omega
    · have h3 : 64 - n ≤ 64 - 1 := by omega
      have h4 : 64 - 1 < 64 := by omega
      simp only [h1, if_false, h4, h3, decide_true, Bool.true_and]
      congr 1
      omega
  · have hc : 64 ≤ i := by omega
    simp [hc, h]



/-- the first bits told by a function, the others by another one -/
def upB (k : Nat) (f g : Nat → Bool) : List Bool := (List.range 64).map fun i => if i < k then f i else g i
theorem upB_len {k : Nat} {f g : Nat → Bool} : (upB k f g).length = 64 := by simp [upB]
theorem upB_set {k : Nat} {f g : Nat → Bool} (hk : k < 64) : (upB k f g).set k (f k) = upB (k + 1) f g := by
  apply List.ext_getElem
  · simp [upB]
  intro i h1 h2
  rw [List.getElem_set]
  simp only [upB, List.getElem_map, List.getElem_range]
  split
  · subst_vars; simp
  · have : i < k ↔ i < k + 1 := by omega
    simp only [this]
theorem upB_64 {f g : Nat → Bool} : ofB (upB 64 f g) = ofF f := by
  have : upB 64 f g = (List.range 64).map f := List.map_congr_left fun i hi => by
    rw [List.mem_range] at hi
    simp [hi]
  rw [ofF, this]
theorem upB_map_set {k : Nat} {f g : Nat → Bool} (hk : k < 64) {b : Bool} (hb : b = f k) : ((upB k f g).map D.b).set k (.b b) = (upB (k + 1) f g).map D.b := by
  rw [← upB_set hk, List.map_set, hb]


end Go.Proofs.YtlihbielphcgbaaGreatDoor.Sx
