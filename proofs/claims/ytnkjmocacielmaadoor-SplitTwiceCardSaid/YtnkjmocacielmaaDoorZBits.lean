/-
 Layer 1: bits and fields of words: the contracts of the functions and of their references.
-/
import Derived.Test.YtnkjmocacielmaaDoorZBf
import Derived.Test.YtnkjmocacielmaaDoorZIrA
namespace Go.Proofs.YtnkjmocacielmaaDoor.Sx
open Go
set_option linter.unusedVariables false
set_option linter.unusedSimpArgs false
set_option maxRecDepth 100000
theorem bb_iff {a b : Bool} (h : a = true ↔ b = true) : [bb a] = [bb b] := by rw [Bool.eq_iff_iff.2 h]
theorem bb_eq {a b : Bool} (h : a = b) : [bb a] = [bb b] := by rw [h]
theorem u_eq {a b : Nat} (h : a = b) : [u a] = [u b] := by rw [h]
theorem vr_len : ∀ (n a : Nat), (vr a n).length = n
 | 0, _ => rfl
 | n + 1, a => by rw [vr, List.length_cons, vr_len n]
theorem vr_get : ∀ (n a i : Nat) (h : i < (vr a n).length), (vr a n)[i] = .v (a + i)
 | 0, _, _, h => by simp [vr] at h
 | n + 1, a, 0, h => rfl
 | n + 1, a, i + 1, h => by
  have := vr_get n (a + 1) i (by simpa [vr] using h)
  simp only [vr, List.getElem_cons_succ]
  rw [this]
  congr 1
  omega
theorem evals_vr {ρ : List D} : ∀ (n a : Nat) (ds : List D), ds.length = n → (∀ i, i < n → ρ[a + i]? = ds[i]?) → Ex.evals ρ (vr a n) = some ds
 | 0, a, [], _, _ => rfl
 | n + 1, a, d :: ds, hl, h => by
  have h0 := h 0 (by omega)
  have h1 := evals_vr n (a + 1) ds (by simpa using hl) (fun i hi => by have := h (i + 1) (by omega); rw [show a + 1 + i = a + (i + 1) by omega, this]; rfl)
  simp only [vr, Ex.evals, Ex.eval, h1]
  rw [show ρ[a]? = some d by simpa using h0]
theorem eval_sel {ρ : List D} {n : Nat} {k0 : IntKind} : ∀ (es : List Ex) (k m : Nat), ρ[n]? = some (.i k0 (m : Int)) → k ≤ m → (h : m - k < es.length) → (selE (.v n) k es).eval ρ = (es[m - k]).eval ρ
 | [], k, m, _, _, h => by simp at h
 | [x], k, m, _, _, h => by
  have : m - k = 0 := by simpa using h
  simp only [this, selE, List.getElem_cons_zero]
 | x :: y :: r, k, m, hn, hk, h => by
  have e : selE (.v n) k (x :: y :: r) = .ite (.isk (.v n) k) x (selE (.v n) (k + 1) (y :: r)) := rfl
  rw [e]
  simp only [Ex.eval, hn]
  by_cases hm : m = k
  ·subst hm
   simp
  ·have h' := eval_sel (y :: r) (k + 1) m hn (by omega) (by simp at h ⊢; omega)
   have hb : ((m : Int) == (k : Int)) = false := by simp; omega
   rw [hb]
   simp only [Bool.false_eq_true, if_false, h']
   have : m - k = (m - (k + 1)) + 1 := by omega
   simp only [this, List.getElem_cons_succ]
theorem evals_put {ρ : List D} {n w : Nat} {k0 : IntKind} {d : D} : ∀ (es : List Ex) (ds : List D) (k m : Nat), Ex.evals ρ es = some ds → ρ[n]? = some (.i k0 (m : Int)) → ρ[w]? = some d → k ≤ m → Ex.evals ρ (putV n k w es) = some (ds.set (m - k) d)
 | [], ds, k, m, h, _, _, _ => by
  simp only [Ex.evals, Option.some.injEq] at h
  subst h
  rfl
 | x :: r, ds, k, m, h, hn, hw, hk => by
  simp only [Ex.evals] at h
  split at h
  ·rename_i d0 ds0 h0 h1
   cases h
   by_cases hm : m = k
   ·subst hm
    have h2 : Ex.evals ρ (putV n (m + 1) w r) = some ds0 := by
     clear h0 hw
     have : ∀ (r : List Ex) (ds0 : List D) (k : Nat), m < k → Ex.evals ρ r = some ds0 → Ex.evals ρ (putV n k w r) = some ds0 := by
      intro r
      induction r with
      | nil => intro ds0 k _ h; exact h
      | cons x r ih =>
       intro ds0 k hk h
       simp only [Ex.evals] at h
       split at h
       ·rename_i a b ha hb
        cases h
        have hne : ((m : Int) == (k : Int)) = false := by simp; omega
        simp only [putV, Ex.evals, Ex.eval, hn, hne, Bool.false_eq_true, if_false, ha, ih b (k + 1) (by omega) hb]
       ·cases h
     exact this r ds0 (m + 1) (by omega) h1
    simp only [putV, Ex.evals, Ex.eval, hn, beq_self_eq_true, if_true, hw, h2, Nat.sub_self, List.set_cons_zero]
   ·have h2 := evals_put r ds0 (k + 1) m h1 hn hw (by omega)
    have hne : ((m : Int) == (k : Int)) = false := by simp; omega
    have e : m - k = (m - (k + 1)) + 1 := by omega
    simp only [putV, Ex.evals, Ex.eval, hn, hne, Bool.false_eq_true, if_false, h0, h2, e, List.set_cons_succ]
  ·cases h
theorem get_app {α : Type} {L : List α} {k j : Nat} (hL : L.length = k) (r : List α) : (L ++ r)[k + j]? = r[j]? := by
 rw [List.getElem?_append_right (by omega), hL, Nat.add_sub_cancel_left]
def ofB : List Bool → Nat
 | [] => 0
 | b :: r => b.toNat + 2 * ofB r
theorem ofB_lt : ∀ l : List Bool, ofB l < 2 ^ l.length
 | [] => by decide
 | b :: r => by
  have := ofB_lt r
  have hb : b.toNat ≤ 1 := by cases b <;> decide
  rw [ofB, List.length_cons, Nat.pow_succ]
  omega
theorem ofB_testBit : ∀ (l : List Bool) (i : Nat), (ofB l).testBit i = (l[i]?).getD false
 | [], i => by simp [ofB]
 | b :: r, 0 => by
  rw [ofB, Nat.testBit_zero]
  cases b <;> simp <;> omega
 | b :: r, i + 1 => by
  rw [ofB, Nat.testBit_succ, List.getElem?_cons_succ, ← ofB_testBit r i]
  congr 1
  cases b <;> simp <;> omega
theorem ofB_drop {l : List Bool} {k : Nat} (h : k < l.length) : ofB (l.drop k) = (l[k]).toNat + 2 * ofB (l.drop (k + 1)) := by
 rw [List.drop_eq_getElem_cons h, ofB]
def ofF (f : Nat → Bool) : Nat := ofB ((List.range 64).map f)
theorem ofF_testBit (f : Nat → Bool) (i : Nat) : (ofF f).testBit i = (decide (i < 64) && f i) := by
 rw [ofF, ofB_testBit]
 by_cases h : i < 64
 ·simp [List.getElem?_map, List.getElem?_range h, h]
 ·rw [List.getElem?_eq_none (by simp; omega)]
  simp [h]
theorem ofF_lt (f : Nat → Bool) : ofF f < 18446744073709551616 := by
 have := ofB_lt ((List.range 64).map f)
 simpa [ofF] using this
theorem testBit_lt64 {w i : Nat} (hw : w < 18446744073709551616) (h : 64 ≤ i) : w.testBit i = false :=
 Nat.testBit_lt_two_pow (Nat.lt_of_lt_of_le (m := 2 ^ 64) hw (Nat.pow_le_pow_right (by omega) h))
def getN (w lo n : Nat) : Nat := w / 2 ^ lo % 2 ^ n
def setN (w lo n v : Nat) : Nat := ofF fun i => if lo ≤ i ∧ i < lo + n then v.testBit (i - lo) else w.testBit i
def signN (w n : Nat) : Nat := ofF fun i => w.testBit (min i (n - 1))
theorem setN_lt (w lo n v : Nat) : setN w lo n v < 18446744073709551616 := ofF_lt _
theorem mask_con {w : Nat} (h : w ≤ 64) : Cn gAll 92 [i w] [u (2 ^ w - 1)] := by
 refine con rfl rfl bits_mask_c bits_mask_p rfl ?_
 have hp0 : 0 < 2 ^ w := Nat.pow_pos (by omega)
 refine wp_lt rfl ?_
 simp only [lv_cons, lv_nil, app_cons, app_nil]
 refine wp_ite rfl (fun hc => ?_) (fun hc => ?_)
 ·have hc := of_decide_eq_true hc
  obtain rfl : w = 64 := by omega
  exact wp_return rfl rfl
 ·have hc := of_decide_eq_false hc
  have hp : 2 ^ w < 18446744073709551616 := Nat.pow_lt_pow_right (n := 64) (by omega) (by omega)
  refine wp_lt (cv_u rfl (by omega)) ?_
  simp only [lv_cons, lv_nil, app_cons, app_nil]
  refine wp_lt (u_shl (a := 1) rfl rfl (by omega) (by omega)) ?_
  simp only [lv_cons, lv_nil, app_cons, app_nil]
  refine wp_lt (u_sub (a := 1 * 2 ^ w) (b := 1) rfl rfl (by omega) (by omega)) ?_
  simp only [lv_cons, lv_nil, app_cons, app_nil]
  exact wp_return rfl (by rw [Nat.one_mul])
theorem bitsGet_con {a lo w : Nat} (ha : a < 18446744073709551616) (hlo : lo ≤ 64) (hw : w ≤ 64) : Cn gAll 77 [u a, i lo, i w] [u (getN a lo w)] := by
 refine con rfl rfl bits_Get_c bits_Get_p rfl ?_
 have hp : 2 ^ w ≤ 18446744073709551616 := Nat.pow_le_pow_right (i := w) (j := 64) (by omega) hw
 have hp0 : 0 < 2 ^ w := Nat.pow_pos (by omega)
 have hd : a / 2 ^ lo ≤ a := Nat.div_le_self ..
 refine wp_lt (cv_u rfl (by omega)) ?_
 simp only [lv_cons, lv_nil, app_cons, app_nil]
 refine wp_lt (u_shr rfl rfl (by omega)) ?_
 simp only [lv_cons, lv_nil, app_cons, app_nil]
 refine wp_call rfl (mask_con hw) rfl ?_
 simp only [lv_cons, lv_nil, app_cons, app_nil]
 refine wp_lt (u_and rfl rfl (by omega) (by omega)) ?_
 simp only [lv_cons, lv_nil, app_cons, app_nil]
 exact wp_return rfl (by rw [and_mask]; rfl)
theorem even_con {a b : Nat} (hb : b ≠ 0) : Cn gAll 86 [u a, u b] [bb (decide (a % b = 0))] := by
 refine con rfl rfl bits_Even_c bits_Even_p rfl ?_
 refine wp_lt rfl ?_
 simp only [lv_cons, lv_nil, app_cons, app_nil]
 refine wp_ite (t := false) (by simp [Ex.eval]; omega) (fun h => by cases h) (fun _ => ?_)
 refine wp_lt (u_rem rfl rfl hb) ?_
 simp only [lv_cons, lv_nil, app_cons, app_nil]
 refine wp_lt rfl ?_
 simp only [lv_cons, lv_nil, app_cons, app_nil]
 exact wp_return rfl (bb_iff (by simp; omega))
theorem bool_con {b : Bool} : Cn gAll 95 [bb b] [u b.toNat] := by
 cases b <;> exact con_of_run TIrA_ok rfl 50 rfl rfl
theorem shl64 {v n : Nat} : v * 2 ^ n % 2 ^ 64 = ofF (fun i => decide (n ≤ i) && v.testBit (i - n)) := by
 apply Nat.eq_of_testBit_eq
 intro i
 rw [ofF_testBit, Nat.testBit_mod_two_pow, Nat.testBit_mul_two_pow]
theorem u_shl' {ρ : List D} {x y : Ex} {k : IntKind} {a b : Nat} (hx : x.eval ρ = some (U a)) (hy : y.eval ρ = some (.i k (b : Int))) (h : b ≤ 64) : (Ex.bin .shl x y).eval ρ = some (U (ofF fun i => decide (b ≤ i) && a.testBit (i - b))) := by
 have hk : min b IntKind.u64.bits = b := Nat.min_eq_left h
 have h1 : ¬ (b : Int) < 0 := by omega
 simp only [Ex.eval, hx, hy, binD, if_neg h1, Int.toNat_natCast, hk]
 have e : (a : Int) * 2 ^ b = ((a * 2 ^ b : Nat) : Int) := by push_cast; rfl
 have hw : ∀ n : Nat, IntKind.u64.wrap (n : Int) = ((n % 2 ^ 64 : Nat) : Int) := fun n => by
  show (n : Int) % 18446744073709551616 = ((n % 18446744073709551616 : Nat) : Int)
  omega
 rw [e, hw, shl64]
theorem u_andNot {ρ : List D} {x y : Ex} {a b : Nat} (hx : x.eval ρ = some (U a)) (hy : y.eval ρ = some (U b)) (ha : a < 18446744073709551616) (hb : b < 18446744073709551616) : (Ex.bin .andNot x y).eval ρ = some (U (ofF fun i => a.testBit i && !b.testBit i)) := by
 have h1 : (BitVec.ofInt 64 (a : Int) &&& ~~~ BitVec.ofInt 64 (b : Int)).toNat = ofF fun i => a.testBit i && !b.testBit i := by
  apply Nat.eq_of_testBit_eq
  intro i
  rw [BitVec.toNat_and, Nat.testBit_and, BitVec.ofInt_natCast, BitVec.ofInt_natCast, ofF_testBit]
  rw [BitVec.testBit_toNat, BitVec.testBit_toNat, BitVec.getLsbD_not, BitVec.getLsbD_ofNat, BitVec.getLsbD_ofNat]
  by_cases h : i < 64 <;> simp [h]
 simp only [Ex.eval, hx, hy, binD, if_true]
 rw [show (BitVec.ofInt IntKind.u64.bits (a : Int) &&& ~~~ BitVec.ofInt IntKind.u64.bits (b : Int)).toNat = _ from h1, wrapU (ofF_lt _)]
theorem bitsSet_con {a lo w v : Nat} (ha : a < 18446744073709551616) (hv : v < 18446744073709551616) (hlo : lo ≤ 64) (hw : w ≤ 64) : Cn gAll 79 [u a, i lo, i w, u v] [u (setN a lo w v)] := by
 refine con rfl rfl bits_Set_c bits_Set_p rfl ?_
 have hp : 2 ^ w ≤ 18446744073709551616 := Nat.pow_le_pow_right (i := w) (j := 64) (by omega) hw
 have hp0 : 0 < 2 ^ w := Nat.pow_pos (by omega)
 refine wp_call rfl (mask_con hw) rfl ?_
 simp only [lv_cons, lv_nil, app_cons, app_nil]
 refine wp_lt (cv_u rfl (by omega)) ?_
 simp only [lv_cons, lv_nil, app_cons, app_nil]
 refine wp_lt (u_shl' rfl rfl hlo) ?_
 simp only [lv_cons, lv_nil, app_cons, app_nil]
 refine wp_lt (u_andNot rfl rfl ha (ofF_lt _)) ?_
 simp only [lv_cons, lv_nil, app_cons, app_nil]
 refine wp_lt (cv_u rfl (by omega)) ?_
 simp only [lv_cons, lv_nil, app_cons, app_nil]
 refine wp_lt (u_shl' rfl rfl hlo) ?_
 simp only [lv_cons, lv_nil, app_cons, app_nil]
 refine wp_lt (u_and rfl rfl (ofF_lt _) (ofF_lt _)) ?_
 simp only [lv_cons, lv_nil, app_cons, app_nil]
 refine wp_lt (u_or rfl rfl (ofF_lt _) (Nat.lt_of_le_of_lt Nat.and_le_left (ofF_lt _))) ?_
 simp only [lv_cons, lv_nil, app_cons, app_nil]
 refine wp_return rfl (u_eq ?_)
 apply Nat.eq_of_testBit_eq
 intro i
 rw [setN]
 simp only [Nat.testBit_or, Nat.testBit_and, ofF_testBit, Nat.testBit_two_pow_sub_one]
 by_cases h : i < 64 <;> by_cases h1 : lo ≤ i <;> by_cases h2 : i - lo < w <;> simp [h, h1, h2] <;> (try split) <;> (try rfl) <;> omega
theorem wrapU64 {z : Int} : IntKind.u64.wrap z = z % 18446744073709551616 := by
 unfold IntKind.wrap
 have s : IntKind.u64.signed = false := rfl
 simp only [s, Bool.false_and]
 rfl
theorem refBit_con {w : Nat} {j : Int} (hw : w < 18446744073709551616) : Cn gAll 74 [u w, i j] [bb (decide (0 ≤ j) && w.testBit j.toNat)] := by
 refine con rfl rfl atlasref01_Bit_c atlasref01_Bit_p rfl ?_
 unfold atlasref01_Bit_ir
 simp only [lv_cons, lv_nil, app_cons, app_nil]
 refine wp_lt rfl ?_
 simp only [lv_cons, lv_nil, app_cons, app_nil]
 refine wp_ite rfl (fun h => ?_) (fun h => ?_)
 ·have h := of_decide_eq_true h
  refine wp_return rfl (bb_eq ?_)
  have : ¬ 0 ≤ j := by omega
  simp [this]
 have h := of_decide_eq_false h
 refine wp_lt rfl ?_
 simp only [lv_cons, lv_nil, app_cons, app_nil]
 refine wp_ite rfl (fun h' => ?_) (fun h' => ?_)
 ·have h' := of_decide_eq_true h'
  refine wp_return rfl (bb_eq ?_)
  rw [testBit_lt64 hw (by omega)]
  simp
 have h' := of_decide_eq_false h'
 obtain ⟨n, rfl⟩ := Int.eq_ofNat_of_zero_le (show 0 ≤ j by omega)
 refine wp_rounds (fun m ds => ∃ k : Nat, ds = [U (w / 2 ^ k), I k] ∧ k ≤ n ∧ k + m = n + 1) (n + 1) rfl ⟨0, by simp, by omega, by omega⟩ ?_
  (fun es hes => by obtain ⟨k, _, h1, h2⟩ := hes; omega)
 rintro m es Q ⟨k, rfl, hk, hm⟩ hQ
 simp only [lv_cons, lv_nil, app_cons, app_nil]
 refine wp_lt rfl ?_
 simp only [lv_cons, lv_nil, app_cons, app_nil]
 have hd : w / 2 ^ k ≤ w := Nat.div_le_self ..
 refine wp_ite rfl (fun hc => ?_) (fun hc => ?_)
 ·have hc := of_decide_eq_true hc
  refine wp_lt (u_quo (b := 2) rfl rfl (by omega) (by omega)) ?_
  simp only [lv_cons, lv_nil, app_cons, app_nil]
  refine wp_lt (i_add (b := 1) rfl rfl (by omega) (by omega)) ?_
  simp only [lv_cons, lv_nil, app_cons, app_nil]
  refine wp_cont rfl rfl (hQ _ ⟨k + 1, ?_, by omega, by omega⟩)
  rw [Nat.pow_succ, ← Nat.div_div_eq_div_mul]
  rfl
 ·have hc := of_decide_eq_false hc
  obtain rfl : k = n := by omega
  refine wp_lt (u_rem (b := 2) rfl rfl (by omega)) ?_
  simp only [lv_cons, lv_nil, app_cons, app_nil]
  refine wp_lt rfl ?_
  simp only [lv_cons, lv_nil, app_cons, app_nil]
  refine wp_return rfl (bb_eq ?_)
  rw [Nat.testBit_eq_decide_div_mod_eq, Int.toNat_natCast, Bool.eq_iff_iff]
  simp only [beq_iff_eq, Bool.and_eq_true, decide_eq_true_eq]
  omega
theorem refBit_conN {w n : Nat} (hw : w < 18446744073709551616) : Cn gAll 74 [u w, i n] [bb (w.testBit n)] := by
 have := refBit_con (j := n) hw
 simpa using this
theorem refBits_con {bs : List Bool} (hb : bs.length = 64) : Cn gAll 89 [(true, bs.map .b)] [u (ofB bs)] := by
 refine con rfl rfl atlasref01_of_c atlasref01_of_p (by simp [shapeOf, hb]) ?_
 unfold atlasref01_of_ir
 simp only [lv_cons, lv_nil, List.append_nil]
 have hL : (bs.map D.b).length = 64 := by simp [hb]
 have hlt : ∀ n, n ≤ 64 → ofB (bs.drop n) < 2 ^ (64 - n) := fun n hn => by have := ofB_lt (bs.drop n); rwa [List.length_drop, hb] at this
 refine wp_rounds (fun m ds => ∃ n : Nat, ds = [U (ofB (bs.drop n)), I ((n : Int) - 1)] ∧ n ≤ 64 ∧ m = n + 1) 65 rfl ⟨64, ?_, by omega, by omega⟩ ?_
  (fun es hes => by obtain ⟨k, _, h1, h2⟩ := hes; omega)
 ·rw [List.drop_of_length_le (by omega)]
  rfl
 rintro n es Q ⟨n', rfl, hn, hnn⟩ hQ
 obtain rfl : n = n' := by omega
 have g64 : ∀ r : List D, (bs.map D.b ++ r)[64]? = r[0]? := fun r => get_app (j := 0) hL r
 have g65 : ∀ r : List D, (bs.map D.b ++ r)[65]? = r[1]? := fun r => get_app (j := 1) hL r
 have g66 : ∀ r : List D, (bs.map D.b ++ r)[66]? = r[2]? := fun r => get_app (j := 2) hL r
 have g67 : ∀ r : List D, (bs.map D.b ++ r)[67]? = r[3]? := fun r => get_app (j := 3) hL r
 have g68 : ∀ r : List D, (bs.map D.b ++ r)[68]? = r[4]? := fun r => get_app (j := 4) hL r
 have g69 : ∀ r : List D, (bs.map D.b ++ r)[69]? = r[5]? := fun r => get_app (j := 5) hL r
 refine wp_lt (d := .b (decide ((n : Int) - 1 ≥ 0))) (by simp only [Ex.eval, g65]; rfl) ?_
 simp only [List.append_assoc, app_cons, app_nil]
 refine wp_ite (t := decide ((n : Int) - 1 ≥ 0)) (by simp only [Ex.eval, g66]; rfl) (fun hc => ?_) (fun hc => ?_)
 ·have hc := of_decide_eq_true hc
  obtain ⟨k, rfl⟩ : ∃ k, n = k + 1 := ⟨n - 1, by omega⟩
  have h2 := hlt (k + 1) hn
  have h3 : 2 ^ (64 - (k + 1)) ≤ 2 ^ 63 := Nat.pow_le_pow_right (by omega) (by omega)
  have hd := ofB_drop (l := bs) (k := k) (by omega)
  rw [show ((k + 1 : Nat) : Int) - 1 = (k : Int) by omega]
  refine wp_lt (u_mul (a := ofB (bs.drop (k + 1))) (b := 2) (by simp only [Ex.eval, g64]; rfl) rfl (by omega)) ?_
  simp only [List.append_assoc, app_cons, app_nil]
  refine wp_chk ?_ ?_
  ·simp only [Ex.eval, g65, List.getElem?_cons_succ, List.getElem?_cons_zero]
   simp
   omega
  have hsel : ∀ r : List D, (selE (.v 65) 0 (vr 0 64)).eval (bs.map D.b ++ (r.headD default :: I (k : Int) :: r.tail)) = some (.b bs[k]) := fun r => by
   rw [eval_sel (m := k) (k0 := .i64) (vr 0 64) 0 (by rw [g65]; rfl) (by omega) (by rw [vr_len]; omega)]
   simp only [Nat.sub_zero, vr_get, Nat.zero_add, Ex.eval]
   rw [List.getElem?_append_left (by omega), List.getElem?_map, List.getElem?_eq_getElem (by omega)]
   rfl
  refine wp_ite (hsel (_ :: _)) (fun hb' => ?_) (fun hb' => ?_)
  ·rw [hb'] at hd
   refine wp_lt (u_add (a := ofB (bs.drop (k + 1)) * 2) (b := 1) (by simp only [Ex.eval, g67]; rfl) rfl (by omega)) ?_
   simp only [List.append_assoc, app_cons, app_nil]
   refine wp_lt (i_sub (a := (k : Int)) (b := 1) (by simp only [Ex.eval, g65]; rfl) rfl (by omega) (by omega)) ?_
   simp only [List.append_assoc, app_cons, app_nil]
   refine wp_cont rfl (by simp only [Ex.evals, Ex.eval, g68, g69]; rfl) (hQ _ ⟨k, ?_, by omega, by omega⟩)
   rw [hd]
   simp only [Bool.toNat_true]
   rw [show 1 + 2 * ofB (bs.drop (k + 1)) = ofB (bs.drop (k + 1)) * 2 + 1 by omega]
  ·rw [hb'] at hd
   refine wp_lt (i_sub (a := (k : Int)) (b := 1) (by simp only [Ex.eval, g65]; rfl) rfl (by omega) (by omega)) ?_
   simp only [List.append_assoc, app_cons, app_nil]
   refine wp_cont rfl (by simp only [Ex.evals, Ex.eval, g67, g68]; rfl) (hQ _ ⟨k, ?_, by omega, by omega⟩)
   rw [hd]
   simp only [Bool.toNat_false]
   rw [show 0 + 2 * ofB (bs.drop (k + 1)) = ofB (bs.drop (k + 1)) * 2 by omega]
 ·have hc := of_decide_eq_false hc
  obtain rfl : n = 0 := by omega
  exact wp_return (by simp only [evalVs, Ex.evals, Ex.eval, g64]; rfl) rfl
def upB (k : Nat) (f g : Nat → Bool) : List Bool := (List.range 64).map fun i => if i < k then f i else g i
theorem upB_len {k : Nat} {f g : Nat → Bool} : (upB k f g).length = 64 := by simp [upB]
theorem upB_set {k : Nat} {f g : Nat → Bool} (hk : k < 64) : (upB k f g).set k (f k) = upB (k + 1) f g := by
 apply List.ext_getElem
 ·simp [upB]
 intro i h1 h2
 rw [List.getElem_set]
 simp only [upB, List.getElem_map, List.getElem_range]
 split
 ·subst_vars; simp
 ·have : i < k ↔ i < k + 1 := by omega
  simp only [this]
theorem upB_64 {f g : Nat → Bool} : ofB (upB 64 f g) = ofF f := by
 have : upB 64 f g = (List.range 64).map f := List.map_congr_left fun i hi => by
  rw [List.mem_range] at hi
  simp [hi]
 rw [ofF, this]
theorem upB_map_set {k : Nat} {f g : Nat → Bool} (hk : k < 64) {b : Bool} (hb : b = f k) : ((upB k f g).map D.b).set k (.b b) = (upB (k + 1) f g).map D.b := by
 rw [← upB_set hk, List.map_set, hb]
theorem refSign_con {w n : Nat} (hw : w < 18446744073709551616) (hn : 1 ≤ n) (hn' : n ≤ 64) : Cn gAll 73 [u w, i n] [u (signN w n)] := by
 refine con rfl rfl atlasref01_Sign_c atlasref01_Sign_p rfl ?_
 unfold atlasref01_Sign_ir
 simp only [lv_cons, lv_nil, app_cons, app_nil]
 refine wp_rounds (fun m ds => ∃ k : Nat, ds = I k :: (upB k (fun i => w.testBit (min i (n - 1))) (fun _ => false)).map D.b ∧ k ≤ 64 ∧ k + m = 65) 65 (ds := I 0 :: (upB 0 (fun i => w.testBit (min i (n - 1))) (fun _ => false)).map D.b) rfl ⟨0, rfl, by omega, by omega⟩ ?_
  (fun es hes => by obtain ⟨k, _, h1, h2⟩ := hes; omega)
 rintro m es Q ⟨k, rfl, hk, hm⟩ hQ
 simp only [app_cons, app_nil]
 have hL : ((upB k (fun i => w.testBit (min i (n - 1))) (fun _ => false)).map D.b).length = 64 := by simp [upB_len]
 obtain ⟨L, hLe⟩ : ∃ L, L = (upB k (fun i => w.testBit (min i (n - 1))) (fun _ => false)).map D.b := ⟨_, rfl⟩
 rw [← hLe] at hL ⊢
 have g : ∀ (j : Nat) (a b c : D) (r : List D), (a :: b :: c :: (L ++ r))[3 + (64 + j)]? = r[j]? := fun j a b c r => by
  rw [show 3 + (64 + j) = (64 + j) + 1 + 1 + 1 by omega]
  simp only [List.getElem?_cons_succ]
  exact get_app hL r
 have g67 : ∀ (a b c : D) (r : List D), (a :: b :: c :: (L ++ r))[67]? = r[0]? := g 0
 have g68 : ∀ (a b c : D) (r : List D), (a :: b :: c :: (L ++ r))[68]? = r[1]? := g 1
 have g69 : ∀ (a b c : D) (r : List D), (a :: b :: c :: (L ++ r))[69]? = r[2]? := g 2
 have g70 : ∀ (a b c : D) (r : List D), (a :: b :: c :: (L ++ r))[70]? = r[3]? := g 3
 have g71 : ∀ (a b c : D) (r : List D), (a :: b :: c :: (L ++ r))[71]? = r[4]? := g 4
 refine wp_lt (d := .b (decide ((k : Int) < 64))) rfl ?_
 simp only [List.append_assoc, app_cons, app_nil]
 refine wp_ite (t := decide ((k : Int) < 64)) (by simp only [Ex.eval, g67]; rfl) (fun hc => ?_) (fun hc => ?_)
 ·have hc := of_decide_eq_true hc
  refine wp_lt (i_sub (a := (n : Int)) (b := 1) rfl rfl (by omega) (by omega)) ?_
  simp only [List.append_assoc, app_cons, app_nil]
  refine wp_lt (d := I (min k (n - 1) : Nat)) ?_ ?_
  ·simp only [Ex.eval, g68, List.getElem?_cons_succ, List.getElem?_cons_zero, binD, if_true]
   by_cases h : (n : Int) - 1 < k
   ·simp [h]
    omega
   ·simp [h]
    omega
  simp only [List.append_assoc, app_cons, app_nil]
  refine wp_call (az := [u w, i (min k (n - 1) : Nat)]) (by simp only [evalVs, Ex.evals, Ex.eval, g69]; rfl) (refBit_conN hw) rfl ?_
  simp only [List.append_assoc, lv_cons, lv_nil, app_cons, app_nil]
  refine wp_chk ?_ ?_
  ·simp only [Ex.eval, List.getElem?_cons_succ, List.getElem?_cons_zero]
   simp
   omega
  refine wp_lt (i_add (a := (k : Int)) (b := 1) rfl rfl (by omega) (by omega)) ?_
  simp only [List.append_assoc, app_cons, app_nil]
  refine wp_cont rfl (ds := I (k + 1) :: L.set k (.b (w.testBit (min k (n - 1))))) ?_ (hQ _ ⟨k + 1, ?_, by omega, by omega⟩)
  ·have hp := evals_put (ρ := U w :: I n :: I k :: (L ++ [.b (decide ((k : Int) < 64)), I ((n : Int) - 1), I (min k (n - 1) : Nat), .b (w.testBit (min k (n - 1))), I ((k : Int) + 1)])) (n := 2) (w := 70) (k0 := .i64) (d := .b (w.testBit (min k (n - 1)))) (vr 3 64) L 0 k
    (evals_vr 64 3 L hL (fun i hi => by
      rw [show 3 + i = i + 1 + 1 + 1 by omega]
      simp only [List.getElem?_cons_succ]
      exact List.getElem?_append_left (by omega))) rfl (by rw [g70]; rfl) (by omega)
   show Ex.evals _ (.v 71 :: putV 2 0 70 (vr 3 64)) = _
   simp only [Ex.evals, Ex.eval, g71]
   rw [hp]
   rfl
  ·rw [hLe, upB_map_set (by omega) rfl]
   rfl
 ·have hc := of_decide_eq_false hc
  obtain rfl : k = 64 := by omega
  refine wp_call (az := [(true, L)]) ?_ (by rw [hLe]; exact refBits_con upB_len) rfl ?_
  ·show (match Ex.evals _ (vr 3 64), some [] with | some ds, some vs => some ((true, ds) :: vs) | _, _ => none) = _
   rw [evals_vr 64 3 L hL (fun i hi => by
    rw [show 3 + i = i + 1 + 1 + 1 by omega]
    simp only [List.getElem?_cons_succ]
    exact List.getElem?_append_left (by omega))]
  simp only [List.append_assoc, lv_cons, lv_nil, app_cons, app_nil]
  refine wp_return (rs := [u (ofB (upB 64 (fun i => w.testBit (min i (n - 1))) (fun _ => false)))]) (by simp only [evalVs, Ex.evals, Ex.eval, g68]; rfl) ?_
  rw [upB_64]
  rfl
end Go.Proofs.YtnkjmocacielmaaDoor.Sx
