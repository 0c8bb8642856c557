/-
 Layers 4, 19: pools of frames: contracts.
-/
import Derived.Test.YtnkjmocacielmaaDoorZTabi
namespace Go.Proofs.YtnkjmocacielmaaDoor.Sx
open Go
set_option linter.unusedVariables false
set_option linter.unusedSimpArgs false
set_option maxRecDepth 100000
theorem low_mul {x i : Nat} (h1 : x.testBit i = true) (h2 : ∀ j, j < i → x.testBit j = false) : ∃ q, x = 2 ^ i * (2 * q + 1) := by
 have e0 : x % 2 ^ i = 0 := by
  refine Nat.eq_of_testBit_eq fun j => ?_
  rw [Nat.testBit_mod_two_pow, Nat.zero_testBit]
  by_cases hj : j < i
  ·rw [h2 j hj]; simp
  ·simp [hj]
 have e1 : x / 2 ^ i % 2 = 1 := by
  have := h1
  rw [Nat.testBit_eq_decide_div_mod_eq] at this
  simpa using this
 refine ⟨x / 2 ^ i / 2, ?_⟩
 have := Nat.div_add_mod x (2 ^ i)
 rw [e0] at this
 have h3 : 2 * (x / 2 ^ i / 2) + 1 = x / 2 ^ i := by omega
 rw [h3]
 omega
theorem low_and {x i : Nat} (hx : x < 18446744073709551616) (h1 : x.testBit i = true) (h2 : ∀ j, j < i → x.testBit j = false) : x &&& (18446744073709551616 - x) = 2 ^ i := by
 obtain ⟨q, hq⟩ := low_mul h1 h2
 have hp : 0 < 2 ^ i := Nat.two_pow_pos i
 have hx0 : 0 < x := by rw [hq]; exact Nat.mul_pos hp (by omega)
 have hm : 2 ^ i * (2 * q + 1) = 2 ^ i * (2 * q) + 2 ^ i := by rw [Nat.mul_add, Nat.mul_one]
 have hy : x - 1 = 2 ^ i * (2 * q) + (2 ^ i - 1) := by omega
 refine Nat.eq_of_testBit_eq fun j => ?_
 rw [Nat.testBit_and, show 18446744073709551616 - x = 2 ^ 64 - ((x - 1) + 1) by omega, Nat.testBit_two_pow_sub_succ (by omega), hy, Nat.testBit_two_pow_mul_add _ (by omega), Nat.testBit_two_pow]
 rcases Nat.lt_trichotomy j i with h | rfl | h
 ·rw [h2 j h]
  simp
  omega
 ·have hj64 : j < 64 := Nat.lt_of_not_le fun hge => by rw [testBit_lt64 hx hge] at h1; cases h1
  rw [h1]
  simp [hj64, Nat.testBit_zero]
 ·have hj : ¬ j < i := by omega
  rw [hq, Nat.testBit_two_pow_mul, if_neg hj]
  have e : j - i = (j - i - 1) + 1 := by omega
  rw [e, Nat.testBit_succ, Nat.testBit_succ]
  rw [show (2 * q + 1) / 2 = q by omega, show 2 * q / 2 = q by omega]
  cases q.testBit (j - i - 1) <;> simp <;> omega
def isI (n : Nat) (r : Option (List DV)) : Bool := match r with
 | some [(false, [.i .i64 k])] => k == n
 | _ => false
theorem isI_eq {n : Nat} {r : Option (List DV)} (h : isI n r = true) : r = some [i n] := by
 unfold isI at h
 split at h
 ·rw [eq_of_beq h]
 ·cases h
theorem u_neg {ρ : List D} {x : Ex} {a : Nat} (hx : x.eval ρ = some (U a)) (h0 : 0 < a) (h : a < 18446744073709551616) : (Ex.un .neg x).eval ρ = some (U (18446744073709551616 - a)) := by
 have : IntKind.u64.wrap (-(a : Int)) = ((18446744073709551616 - a : Nat) : Int) := by rw [wrapU64]; omega
 simp [Ex.eval, hx, unD, this]
theorem trail_con {x n : Nat} (hx : x < 18446744073709551616) (h1 : x.testBit n = true) (h2 : ∀ j, j < n → x.testBit j = false) : Cn gAll 78 [u x] [i n] := by
 have hx0 : x ≠ 0 := fun h => by rw [h, Nat.zero_testBit] at h1; cases h1
 have hn : n < 64 := Nat.lt_of_not_le fun hge => by rw [testBit_lt64 hx hge] at h1; cases h1
 refine con rfl rfl bits_TrailingZeros64_c bits_TrailingZeros64_p rfl ?_
 unfold bits_TrailingZeros64_ir
 simp only [lv_cons, lv_nil, app_cons, app_nil]
 refine wp_lt (d := .b false) (cmp_e (e_eql rfl rfl) (by simp; omega)) ?_
 simp only [lv_cons, lv_nil, app_cons, app_nil]
 refine wp_ite (t := false) rfl (fun h => by cases h) (fun _ => ?_)
 refine wp_lt (u_neg rfl (by omega) hx) ?_
 simp only [lv_cons, lv_nil, app_cons, app_nil]
 refine wp_lt (u_and rfl rfl hx (by omega)) ?_
 simp only [lv_cons, lv_nil, app_cons, app_nil]
 rw [low_and hx h1 h2]
 generalize 18446744073709551616 - x = y
 have hh : ((List.range 64).all fun n => isI n (run TIrTb 60 (IR.sub [.n, .e, .n, .n] bits_TrailingZeros64_ir) [] [U x, .b false, U y, U (2 ^ n)])) = true := by kernel_rfl
 have := List.all_eq_true.1 hh n (List.mem_range.2 hn)
 exact wp_run TIrTb_ok (isI_eq this) rfl
theorem refSet01_con {w lo n v : Nat} (hw : w < 18446744073709551616) (hv : v < 18446744073709551616) (hlo : lo ≤ 64) (hn : n ≤ 64) : Cn gAll 85 [u w, i lo, i n, u v] [u (setN w lo n v)] := by
 refine con rfl rfl atlasref01_Set_c atlasref01_Set_p rfl ?_
 unfold atlasref01_Set_ir
 simp only [lv_cons, lv_nil, app_cons, app_nil]
 obtain ⟨F, hF⟩ : ∃ F : Nat → Bool, F = fun i => if lo ≤ i ∧ i < lo + n then v.testBit (i - lo) else w.testBit i := ⟨_, rfl⟩
 have hset : setN w lo n v = ofF F := by rw [hF]; rfl
 rw [hset]
 refine wp_rounds (fun m ds => ∃ k : Nat, ds = I k :: (upB k F (fun _ => false)).map D.b ∧ k ≤ 64 ∧ k + m = 65) 65 (ds := I 0 :: (upB 0 F (fun _ => false)).map D.b) rfl ⟨0, rfl, by omega, by omega⟩ ?_
  (fun es hes => by obtain ⟨k, _, h1, h2⟩ := hes; omega)
 rintro m es Q ⟨k, rfl, hk, hm⟩ hQ
 simp only [app_cons, app_nil]
 have hL : ((upB k F (fun _ => false)).map D.b).length = 64 := by simp [upB_len]
 obtain ⟨L, hLe⟩ : ∃ L, L = (upB k F (fun _ => false)).map D.b := ⟨_, rfl⟩
 rw [← hLe] at hL ⊢
 have g : ∀ (j : Nat) (a b c d e : D) (r : List D), (a :: b :: c :: d :: e :: (L ++ r))[5 + (64 + j)]? = r[j]? := fun j a b c d e r => by
  rw [show 5 + (64 + j) = (64 + j) + 1 + 1 + 1 + 1 + 1 by omega]
  simp only [List.getElem?_cons_succ]
  exact get_app hL r
 have g69 : ∀ (a b c d e : D) (r : List D), (a :: b :: c :: d :: e :: (L ++ r))[69]? = r[0]? := g 0
 have g70 : ∀ (a b c d e : D) (r : List D), (a :: b :: c :: d :: e :: (L ++ r))[70]? = r[1]? := g 1
 have g71 : ∀ (a b c d e : D) (r : List D), (a :: b :: c :: d :: e :: (L ++ r))[71]? = r[2]? := g 2
 have g72 : ∀ (a b c d e : D) (r : List D), (a :: b :: c :: d :: e :: (L ++ r))[72]? = r[3]? := g 3
 have g73 : ∀ (a b c d e : D) (r : List D), (a :: b :: c :: d :: e :: (L ++ r))[73]? = r[4]? := g 4
 have g74 : ∀ (a b c d e : D) (r : List D), (a :: b :: c :: d :: e :: (L ++ r))[74]? = r[5]? := g 5
 have g75 : ∀ (a b c d e : D) (r : List D), (a :: b :: c :: d :: e :: (L ++ r))[75]? = r[6]? := g 6
 have g76 : ∀ (a b c d e : D) (r : List D), (a :: b :: c :: d :: e :: (L ++ r))[76]? = r[7]? := g 7
 have hvr : ∀ r : List D, Ex.evals (U w :: I lo :: I n :: U v :: I k :: (L ++ r)) (vr 5 64) = some L := fun r => evals_vr 64 5 L hL (fun i hi => by
  rw [show 5 + i = i + 1 + 1 + 1 + 1 + 1 by omega]
  simp only [List.getElem?_cons_succ]
  exact List.getElem?_append_left (by omega))
 refine wp_lt (d := .b (decide ((k : Int) < 64))) rfl ?_
 simp only [List.append_assoc, app_cons, app_nil]
 refine wp_ite (t := decide ((k : Int) < 64)) (by simp only [Ex.eval, g69]; rfl) (fun hc => ?_) (fun hc => ?_)
 ·have hc := of_decide_eq_true hc
  refine wp_call (az := [u w, i k]) (by simp only [evalVs, Ex.evals, Ex.eval]; rfl) (refBit_conN hw) rfl ?_
  simp only [List.append_assoc, lv_cons, lv_nil, app_cons, app_nil]
  refine wp_chk ?_ ?_
  ·simp only [Ex.eval, List.getElem?_cons_succ, List.getElem?_cons_zero]
   simp
   omega
  refine wp_lt (d := .b (decide ((k : Int) ≥ lo))) (e_geq rfl rfl) ?_
  simp only [List.append_assoc, app_cons, app_nil]
  have hput : ∀ r : List D, r[1]? = some (.b (w.testBit k)) → Ex.evals (U w :: I lo :: I n :: U v :: I k :: (L ++ r)) (putV 4 0 70 (vr 5 64)) = some (L.set k (.b (w.testBit k))) := fun r hr => by
   have := evals_put (ρ := U w :: I lo :: I n :: U v :: I k :: (L ++ r)) (n := 4) (w := 70) (k0 := .i64) (d := .b (w.testBit k)) (vr 5 64) L 0 k (hvr r) rfl (by rw [g70]; exact hr) (by omega)
   simpa using this
  refine wp_ite (t := decide ((k : Int) ≥ lo)) (by simp only [Ex.eval, g71]; rfl) (fun hc1 => ?_) (fun hc1 => ?_)
  ·have hc1 := of_decide_eq_true hc1
   refine wp_lt (i_add (a := (lo : Int)) (b := n) rfl rfl (by omega) (by omega)) ?_
   simp only [List.append_assoc, app_cons, app_nil]
   refine wp_lt (d := .b (decide ((k : Int) < (lo : Int) + n))) (e_lss rfl (by simp only [Ex.eval, g72]; rfl)) ?_
   simp only [List.append_assoc, app_cons, app_nil]
   refine wp_ite (t := decide ((k : Int) < (lo : Int) + n)) (by simp only [Ex.eval, g73]; rfl) (fun hc2 => ?_) (fun hc2 => ?_)
   ·have hc2 := of_decide_eq_true hc2
    refine wp_lt (d := I (k - lo : Nat)) ((i_sub (a := (k : Int)) (b := lo) rfl rfl (by omega) (by omega)).trans (by rw [show (k : Int) - lo = ((k - lo : Nat) : Int) by omega])) ?_
    simp only [List.append_assoc, app_cons, app_nil]
    refine wp_call (az := [u v, i (k - lo : Nat)]) (by simp only [evalVs, Ex.evals, Ex.eval, g74]; rfl) (refBit_conN hv) rfl ?_
    simp only [List.append_assoc, lv_cons, lv_nil, app_cons, app_nil]
    refine wp_chk ?_ ?_
    ·simp only [Ex.eval, List.getElem?_cons_succ, List.getElem?_cons_zero]
     simp
     omega
    refine wp_lt (i_add (a := (k : Int)) (b := 1) rfl rfl (by omega) (by omega)) ?_
    simp only [List.append_assoc, app_cons, app_nil]
    refine wp_cont rfl (ds := I (k + 1) :: L.set k (.b (v.testBit (k - lo)))) ?_ (hQ _ ⟨k + 1, ?_, by omega, by omega⟩)
    ·have hp := evals_put (n := 4) (w := 75) (k0 := .i64) (d := .b (v.testBit (k - lo))) (putV 4 0 70 (vr 5 64)) (L.set k (.b (w.testBit k))) 0 k (hput [.b (decide ((k : Int) < 64)), .b (w.testBit k), .b (decide ((k : Int) ≥ lo)), I ((lo : Int) + n), .b (decide ((k : Int) < (lo : Int) + n)), I (k - lo : Nat), .b (v.testBit (k - lo)), I ((k : Int) + 1)] rfl) rfl (by rw [g75]; rfl) (by omega)
     show Ex.evals _ (.v 76 :: putV 4 0 75 (putV 4 0 70 (vr 5 64))) = _
     simp only [Ex.evals, Ex.eval, g76]
     rw [hp, Nat.sub_zero, List.set_set]
     rfl
    ·rw [hLe, upB_map_set (by omega) (by rw [hF]; simp only []; rw [if_pos ⟨by omega, by omega⟩])]
     rfl
   ·have hc2 := of_decide_eq_false hc2
    refine wp_lt (i_add (a := (k : Int)) (b := 1) rfl rfl (by omega) (by omega)) ?_
    simp only [List.append_assoc, app_cons, app_nil]
    refine wp_cont rfl (ds := I (k + 1) :: L.set k (.b (w.testBit k))) ?_ (hQ _ ⟨k + 1, ?_, by omega, by omega⟩)
    ·show Ex.evals _ (.v 74 :: putV 4 0 70 (vr 5 64)) = _
     simp only [Ex.evals, Ex.eval, g74]
     rw [hput _ rfl]
     rfl
    ·rw [hLe, upB_map_set (by omega) (by rw [hF]; simp only []; rw [if_neg (by omega)])]
     rfl
  ·have hc1 := of_decide_eq_false hc1
   refine wp_lt (i_add (a := (k : Int)) (b := 1) rfl rfl (by omega) (by omega)) ?_
   simp only [List.append_assoc, app_cons, app_nil]
   refine wp_cont rfl (ds := I (k + 1) :: L.set k (.b (w.testBit k))) ?_ (hQ _ ⟨k + 1, ?_, by omega, by omega⟩)
   ·show Ex.evals _ (.v 72 :: putV 4 0 70 (vr 5 64)) = _
    simp only [Ex.evals, Ex.eval, g72]
    rw [hput _ rfl]
    rfl
   ·rw [hLe, upB_map_set (by omega) (by rw [hF]; simp only []; rw [if_neg (by omega)])]
    rfl
 ·have hc := of_decide_eq_false hc
  obtain rfl : k = 64 := by omega
  refine wp_call (az := [(true, L)]) ?_ (by rw [hLe]; exact refBits_con upB_len) rfl ?_
  ·show (match Ex.evals _ (vr 5 64), some [] with | some ds, some vs => some ((true, ds) :: vs) | _, _ => none) = _
   rw [hvr]
  simp only [List.append_assoc, lv_cons, lv_nil, app_cons, app_nil]
  refine wp_return (rs := [u (ofB (upB 64 F (fun _ => false)))]) (by simp only [evalVs, Ex.evals, Ex.eval, g70]; rfl) ?_
  rw [upB_64]
abbrev plD (b : Nat) (m : Int) (f : Nat) : DV := (true, [U b, I m, U f])
structure PoolOk (b : Nat) (m : Int) (f : Nat) : Prop where
 lo : 0 ≤ m
 hi : m ≤ 64
 bs : b ≤ 268435456
 fr : ∀ j : Nat, m ≤ j → j < 64 → f.testBit j = false
 f64 : f < 18446744073709551616
theorem rightP_con {b f : Nat} {m : Int} (hf : f < 18446744073709551616) (hm0 : -9223372036854775808 ≤ m) (hm1 : m < 9223372036854775808) : ∃ t, Cn gAll 51 [plD b m f] [bb t] ∧ (t = true → PoolOk b m f) := by
 by_cases h1 : 0 ≤ m
 ·by_cases h2 : m ≤ 64
  ·by_cases h3 : b ≤ 268435456
   ·by_cases h4 : ∃ j : Nat, m ≤ j ∧ j < 64 ∧ f.testBit j = true
    ·refine ⟨false, ?_, fun h => by cases h⟩
     refine con rfl rfl atlasref04_Right_c atlasref04_Right_p rfl ?_
     unfold atlasref04_Right_ir
     simp only [lv_cons, lv_nil, app_cons, app_nil]
     refine wp_lt (d := .b false) (cmp_e (e_lss rfl rfl) (decide_eq_false (by omega))) ?_
     simp only [lv_cons, lv_nil, app_cons, app_nil]
     refine wp_ite (t := false) rfl (fun h => by cases h) (fun _ => ?_)
     refine wp_lt (d := .b false) (cmp_e (e_gtr rfl rfl) (decide_eq_false (by omega))) ?_
     simp only [lv_cons, lv_nil, app_cons, app_nil]
     refine wp_ite (t := false) rfl (fun h => by cases h) (fun _ => ?_)
     refine wp_lt (d := .b false) (cmp_e (e_gtr rfl rfl) (decide_eq_false (by omega))) ?_
     simp only [lv_cons, lv_nil, app_cons, app_nil]
     refine wp_ite (t := false) rfl (fun h => by cases h) (fun _ => ?_)
     refine wp_rounds (fun k ds => ∃ (t : Bool) (n : Nat), ds = [.b t, I n] ∧ m ≤ n ∧ n + k = 65 ∧ ∃ j : Nat, n ≤ j ∧ j < 64 ∧ f.testBit j = true) (65 - m.toNat) (ds := [.b false, I m.toNat]) (by rw [Int.toNat_of_nonneg h1]; rfl) ⟨_, m.toNat, rfl, by omega, by omega, by obtain ⟨j, q1, q2⟩ := h4; exact ⟨j, by omega, q2⟩⟩ ?_
      (fun es hes => by obtain ⟨_, n, _, _, h, j, q⟩ := hes; omega)
     rintro k es Q ⟨t, n, rfl, hmn, hk, j, hnj, hj, hb⟩ hQ
     simp only [lv_cons, lv_nil, app_cons, app_nil]
     refine wp_lt (d := .b true) (cmp_e (e_lss rfl rfl) (decide_eq_true (by omega))) ?_
     simp only [lv_cons, lv_nil, app_cons, app_nil]
     refine wp_ite (t := true) rfl (fun _ => ?_) (fun h => by cases h)
     refine wp_call rfl (refBit_conN hf) rfl ?_
     simp only [lv_cons, lv_nil, app_cons, app_nil]
     refine wp_ite rfl (fun _ => wp_return rfl rfl) (fun hb0 => ?_)
     refine wp_lt (i_add (a := (n : Int)) (b := 1) rfl rfl (by omega) (by omega)) ?_
     simp only [lv_cons, lv_nil, app_cons, app_nil]
     refine wp_cont rfl rfl (hQ _ ⟨_, n + 1, rfl, by omega, by omega, j, Nat.lt_of_le_of_ne hnj (fun e => ?_), hj, hb⟩)
     subst e
     rw [hb0] at hb
     cases hb
    ·have h5 : ∀ j : Nat, m ≤ j → j < 64 → f.testBit j = false := fun j q1 q2 => by
      cases h : f.testBit j with
      | false => rfl
      | true => exact absurd ⟨j, q1, q2, h⟩ h4
     refine ⟨true, ?_, fun _ => ⟨h1, h2, h3, h5, hf⟩⟩
     refine con rfl rfl atlasref04_Right_c atlasref04_Right_p rfl ?_
     unfold atlasref04_Right_ir
     simp only [lv_cons, lv_nil, app_cons, app_nil]
     refine wp_lt (d := .b false) (cmp_e (e_lss rfl rfl) (decide_eq_false (by omega))) ?_
     simp only [lv_cons, lv_nil, app_cons, app_nil]
     refine wp_ite (t := false) rfl (fun h => by cases h) (fun _ => ?_)
     refine wp_lt (d := .b false) (cmp_e (e_gtr rfl rfl) (decide_eq_false (by omega))) ?_
     simp only [lv_cons, lv_nil, app_cons, app_nil]
     refine wp_ite (t := false) rfl (fun h => by cases h) (fun _ => ?_)
     refine wp_lt (d := .b false) (cmp_e (e_gtr rfl rfl) (decide_eq_false (by omega))) ?_
     simp only [lv_cons, lv_nil, app_cons, app_nil]
     refine wp_ite (t := false) rfl (fun h => by cases h) (fun _ => ?_)
     refine wp_rounds (fun k ds => ∃ (t : Bool) (n : Nat), ds = [.b t, I n] ∧ m ≤ n ∧ n + k = 65 ∧ n ≤ 64) (65 - m.toNat) (ds := [.b false, I m.toNat]) (by rw [Int.toNat_of_nonneg h1]; rfl) ⟨_, m.toNat, rfl, by omega, by omega, by omega⟩ ?_
      (fun es hes => by obtain ⟨_, n, _, _, h, j⟩ := hes; omega)
     rintro k es Q ⟨t, n, rfl, hmn, hk, hn⟩ hQ
     simp only [lv_cons, lv_nil, app_cons, app_nil]
     refine wp_lt (d := .b (decide ((n : Int) < 64))) (e_lss rfl rfl) ?_
     simp only [lv_cons, lv_nil, app_cons, app_nil]
     refine wp_ite rfl (fun hc => ?_) (fun _ => wp_return rfl rfl)
     have hc := of_decide_eq_true hc
     have hb := refBit_conN (n := n) hf
     rw [h5 n hmn (by omega)] at hb
     refine wp_call rfl hb rfl ?_
     simp only [lv_cons, lv_nil, app_cons, app_nil]
     refine wp_ite (t := false) rfl (fun h => by cases h) (fun _ => ?_)
     refine wp_lt (i_add (a := (n : Int)) (b := 1) rfl rfl (by omega) (by omega)) ?_
     simp only [lv_cons, lv_nil, app_cons, app_nil]
     exact wp_cont rfl rfl (hQ _ ⟨_, n + 1, rfl, by omega, by omega, by omega⟩)
   ·refine ⟨false, ?_, fun h => by cases h⟩
    refine con rfl rfl atlasref04_Right_c atlasref04_Right_p rfl ?_
    unfold atlasref04_Right_ir
    simp only [lv_cons, lv_nil, app_cons, app_nil]
    refine wp_lt (d := .b false) (cmp_e (e_lss rfl rfl) (decide_eq_false (by omega))) ?_
    simp only [lv_cons, lv_nil, app_cons, app_nil]
    refine wp_ite (t := false) rfl (fun h => by cases h) (fun _ => ?_)
    refine wp_lt (d := .b false) (cmp_e (e_gtr rfl rfl) (decide_eq_false (by omega))) ?_
    simp only [lv_cons, lv_nil, app_cons, app_nil]
    refine wp_ite (t := false) rfl (fun h => by cases h) (fun _ => ?_)
    refine wp_lt (d := .b true) (cmp_e (e_gtr rfl rfl) (decide_eq_true (by omega))) ?_
    simp only [lv_cons, lv_nil, app_cons, app_nil]
    refine wp_ite (t := true) rfl (fun _ => ?_) (fun h => by cases h)
    exact wp_return rfl rfl
  ·refine ⟨false, ?_, fun h => by cases h⟩
   refine con rfl rfl atlasref04_Right_c atlasref04_Right_p rfl ?_
   unfold atlasref04_Right_ir
   simp only [lv_cons, lv_nil, app_cons, app_nil]
   refine wp_lt (d := .b false) (cmp_e (e_lss rfl rfl) (decide_eq_false (by omega))) ?_
   simp only [lv_cons, lv_nil, app_cons, app_nil]
   refine wp_ite (t := false) rfl (fun h => by cases h) (fun _ => ?_)
   refine wp_lt (d := .b true) (cmp_e (e_gtr rfl rfl) (decide_eq_true (by omega))) ?_
   simp only [lv_cons, lv_nil, app_cons, app_nil]
   refine wp_ite (t := true) rfl (fun _ => ?_) (fun h => by cases h)
   exact wp_return rfl rfl
 ·refine ⟨false, ?_, fun h => by cases h⟩
  refine con rfl rfl atlasref04_Right_c atlasref04_Right_p rfl ?_
  unfold atlasref04_Right_ir
  simp only [lv_cons, lv_nil, app_cons, app_nil]
  refine wp_lt (d := .b true) (cmp_e (e_lss rfl rfl) (decide_eq_true (by omega))) ?_
  simp only [lv_cons, lv_nil, app_cons, app_nil]
  refine wp_ite (t := true) rfl (fun _ => ?_) (fun h => by cases h)
  exact wp_return rfl rfl
def isP (b : Nat) (m : Int) (f fr : Nat) : Bool := decide (b ≤ fr) && decide (((fr - b : Nat) : Int) < m) && !f.testBit (fr - b)
theorem PoolOk.none_or {b f : Nat} {m : Int} (h : PoolOk b m f) : f = 0 ∨ ∃ n : Nat, (n : Int) < m ∧ f.testBit n = true ∧ ∀ j, j < n → f.testBit j = false := by
 by_cases h0 : f = 0
 ·exact .inl h0
 refine .inr ?_
 obtain ⟨k, hk⟩ := Nat.exists_testBit_of_ne_zero h0
 have hleast : ∀ k, f.testBit k = true → ∃ n, f.testBit n = true ∧ ∀ j, j < n → f.testBit j = false := by
  intro k
  induction k using Nat.strongRecOn with
  | ind k ih =>
   intro hk
   by_cases he : ∃ j, j < k ∧ f.testBit j = true
   ·obtain ⟨j, h1, h2⟩ := he
    exact ih j h1 h2
   ·refine ⟨k, hk, fun j hj => ?_⟩
    cases h : f.testBit j with
    | false => rfl
    | true => exact absurd ⟨j, hj, h⟩ he
 obtain ⟨n, h1, h2⟩ := hleast k hk
 refine ⟨n, Int.lt_of_not_ge fun hge => ?_, h1, h2⟩
 by_cases h64 : n < 64
 ·rw [h.fr n hge h64] at h1; cases h1
 ·rw [testBit_lt64 h.f64 (by omega)] at h1; cases h1
theorem refIsP_con {b f fr : Nat} {m : Int} (h : PoolOk b m f) (hfr : fr < 18446744073709551616) : Cn gAll 53 [plD b m f, u fr] [bb (isP b m f fr)] := by
 have hlo := h.lo
 have hhi := h.hi
 have hbs := h.bs
 refine con rfl rfl atlasref04_Is_c atlasref04_Is_p rfl ?_
 unfold atlasref04_Is_ir
 simp only [lv_cons, lv_nil, app_cons, app_nil]
 refine wp_rounds (fun k ds => ∃ (t : Bool) (n : Nat), ds = [.b t, I n] ∧ n + k = 65 ∧ n ≤ m ∧ ∀ j, j < n → b + j ≠ fr) 65 rfl ⟨_, 0, rfl, rfl, by omega, fun j hj => by omega⟩ ?_
  (fun es hes => by obtain ⟨_, n, _, h, q, _⟩ := hes; omega)
 rintro k es Q ⟨t, n, rfl, hk, hn, hno⟩ hQ
 simp only [lv_cons, lv_nil, app_cons, app_nil]
 refine wp_lt (d := .b (decide ((n : Int) < m))) (e_lss rfl rfl) ?_
 simp only [lv_cons, lv_nil, app_cons, app_nil]
 refine wp_ite rfl (fun hc => ?_) (fun hc => ?_)
 ·have hc := of_decide_eq_true hc
  refine wp_lt (cv_u rfl (by omega)) ?_
  simp only [lv_cons, lv_nil, app_cons, app_nil]
  refine wp_lt (u_add rfl rfl (by omega)) ?_
  simp only [lv_cons, lv_nil, app_cons, app_nil]
  refine wp_lt (d := .b ((b + n : Nat) == fr)) (cmp_e (e_eql rfl rfl) (by rw [Bool.eq_iff_iff, beq_iff_eq, beq_iff_eq]; omega)) ?_
  simp only [lv_cons, lv_nil, app_cons, app_nil]
  refine wp_ite rfl (fun he => ?_) (fun he => ?_)
  ·have he : b + n = fr := eq_of_beq he
   refine wp_call rfl (refBit_conN h.f64) rfl ?_
   simp only [lv_cons, lv_nil, app_cons, app_nil]
   refine wp_lt (not_e rfl) ?_
   simp only [lv_cons, lv_nil, app_cons, app_nil]
   refine wp_return rfl (bb_eq ?_)
   rw [isP, decide_eq_true (show b ≤ fr by omega), show fr - b = n by omega, decide_eq_true hc]
   simp
  ·have he : b + n ≠ fr := fun e => by rw [e] at he; simp at he
   refine wp_lt (i_add (a := (n : Int)) (b := 1) rfl rfl (by omega) (by omega)) ?_
   simp only [lv_cons, lv_nil, app_cons, app_nil]
   refine wp_cont rfl rfl (hQ _ ⟨_, n + 1, rfl, by omega, by omega, fun j hj => ?_⟩)
   by_cases e : j = n
   ·rw [e]; exact he
   ·exact hno j (by omega)
 ·have hc := of_decide_eq_false hc
  refine wp_return rfl (bb_eq ?_)
  symm
  rw [isP, Bool.eq_false_iff]
  intro ht
  simp only [Bool.and_eq_true, decide_eq_true_eq] at ht
  exact hno (fr - b) (by omega) (by omega)
theorem refTake_none {b : Nat} {m : Int} (h : PoolOk b m 0) : Cn gAll 66 [plD b m 0] [plD b m 0, u 0, i 8] := by
 have hlo := h.lo
 have hhi := h.hi
 refine con rfl rfl atlasref04_Take_c atlasref04_Take_p rfl ?_
 unfold atlasref04_Take_ir
 simp only [lv_cons, lv_nil, app_cons, app_nil]
 refine wp_rounds (fun k ds => ∃ (a : Nat) (c : Int) (n : Nat), ds = [U a, I c, I n] ∧ n + k = 65 ∧ n ≤ m) 65 (ds := [U 0, I 0, I (0 : Nat)]) rfl ⟨0, 0, 0, rfl, rfl, by omega⟩ ?_
  (fun es hes => by obtain ⟨_, _, n, _, h, q⟩ := hes; omega)
 rintro k es Q ⟨a, c, n, rfl, hk, hn⟩ hQ
 simp only [lv_cons, lv_nil, app_cons, app_nil]
 refine wp_lt (d := .b (decide ((n : Int) < m))) (e_lss rfl rfl) ?_
 simp only [lv_cons, lv_nil, app_cons, app_nil]
 refine wp_ite rfl (fun hc => ?_) (fun hc => wp_return rfl rfl)
 have hc := of_decide_eq_true hc
 have hb := refBit_conN (w := 0) (n := n) (by decide)
 rw [Nat.zero_testBit] at hb
 refine wp_call rfl hb rfl ?_
 simp only [lv_cons, lv_nil, app_cons, app_nil]
 refine wp_ite (t := false) rfl (fun h => by cases h) (fun _ => ?_)
 refine wp_lt (i_add (a := (n : Int)) (b := 1) rfl rfl (by omega) (by omega)) ?_
 simp only [lv_cons, lv_nil, app_cons, app_nil]
 exact wp_cont rfl rfl (hQ _ ⟨_, _, n + 1, rfl, by omega, by omega⟩)
theorem refTake_some {b f x : Nat} {m : Int} (h : PoolOk b m f) (hx : (x : Int) < m) (h1 : f.testBit x = true) (h2 : ∀ j, j < x → f.testBit j = false) : Cn gAll 66 [plD b m f] [plD b m (setN f x 1 0), u (b + x), i 0] := by
 have hlo := h.lo
 have hhi := h.hi
 have hbs := h.bs
 refine con rfl rfl atlasref04_Take_c atlasref04_Take_p rfl ?_
 unfold atlasref04_Take_ir
 simp only [lv_cons, lv_nil, app_cons, app_nil]
 refine wp_rounds (fun k ds => ∃ (a : Nat) (c : Int) (n : Nat), ds = [U a, I c, I n] ∧ n + k = 65 ∧ n ≤ x) 65 (ds := [U 0, I 0, I (0 : Nat)]) rfl ⟨0, 0, 0, rfl, rfl, by omega⟩ ?_
  (fun es hes => by obtain ⟨_, _, n, _, h, q⟩ := hes; omega)
 rintro k es Q ⟨a, c, n, rfl, hk, hn⟩ hQ
 simp only [lv_cons, lv_nil, app_cons, app_nil]
 refine wp_lt (d := .b true) (cmp_e (e_lss rfl rfl) (decide_eq_true (by omega))) ?_
 simp only [lv_cons, lv_nil, app_cons, app_nil]
 refine wp_ite (t := true) rfl (fun _ => ?_) (fun h => by cases h)
 by_cases hnx : n = x
 ·subst hnx
  have hb := refBit_conN (n := n) h.f64
  rw [h1] at hb
  refine wp_call rfl hb rfl ?_
  simp only [lv_cons, lv_nil, app_cons, app_nil]
  refine wp_ite (t := true) rfl (fun _ => ?_) (fun h => by cases h)
  refine wp_call rfl (refSet01_con (lo := n) (n := 1) (v := 0) h.f64 (by decide) (by omega) (by decide)) rfl ?_
  simp only [lv_cons, lv_nil, app_cons, app_nil]
  refine wp_lt (cv_u rfl (by omega)) ?_
  simp only [lv_cons, lv_nil, app_cons, app_nil]
  refine wp_lt (u_add rfl rfl (by omega)) ?_
  simp only [lv_cons, lv_nil, app_cons, app_nil]
  exact wp_return rfl rfl
 ·have hb := refBit_conN (n := n) h.f64
  rw [h2 n (by omega)] at hb
  refine wp_call rfl hb rfl ?_
  simp only [lv_cons, lv_nil, app_cons, app_nil]
  refine wp_ite (t := false) rfl (fun h => by cases h) (fun _ => ?_)
  refine wp_lt (i_add (a := (n : Int)) (b := 1) rfl rfl (by omega) (by omega)) ?_
  simp only [lv_cons, lv_nil, app_cons, app_nil]
  exact wp_cont rfl rfl (hQ _ ⟨_, _, n + 1, rfl, by omega, by omega⟩)
theorem refGive_con {b f fr : Nat} {m : Int} (h : PoolOk b m f) (hfr : fr < 18446744073709551616) (hi : isP b m f fr = true) : Cn gAll 72 [plD b m f, u fr] [plD b m (setN f (fr - b) 1 1), i 0] := by
 have hlo := h.lo
 have hhi := h.hi
 have hi' := hi
 simp only [isP, Bool.and_eq_true, decide_eq_true_eq] at hi'
 have hc := refIsP_con h hfr
 rw [hi] at hc
 refine con rfl rfl atlasref04_Give_c atlasref04_Give_p rfl ?_
 unfold atlasref04_Give_ir
 simp only [lv_cons, lv_nil, app_cons, app_nil]
 refine wp_call rfl hc rfl ?_
 simp only [lv_cons, lv_nil, app_cons, app_nil]
 refine wp_lt (d := (.b false)) rfl ?_
 simp only [lv_cons, lv_nil, app_cons, app_nil]
 refine wp_ite (t := false) rfl (fun h => by cases h) (fun _ => ?_)
 refine wp_lt (u_sub rfl rfl (by omega) hfr) ?_
 simp only [lv_cons, lv_nil, app_cons, app_nil]
 refine wp_lt (cv_i rfl (by omega) (by omega)) ?_
 simp only [lv_cons, lv_nil, app_cons, app_nil]
 refine wp_call rfl (refSet01_con (lo := fr - b) (n := 1) (v := 1) h.f64 (by decide) (by omega) (by decide)) rfl ?_
 simp only [lv_cons, lv_nil, app_cons, app_nil]
 exact wp_return rfl rfl
theorem poolTake_none {b : Nat} {m : Int} : Cn gAll 59 [plD b m 0] [plD b m 0, u 0, i 8] := by
 refine con rfl rfl pool_Take_c pool_Take_p rfl ?_
 unfold pool_Take_ir
 simp only [lv_cons, lv_nil, app_cons, app_nil]
 refine wp_lt (ite_t (eqs_i rfl rfl) (ite_t (eqs_i rfl rfl) (ite_t (eqs_i rfl rfl) rfl))) ?_
 simp only [lv_cons, lv_nil, app_cons, app_nil]
 refine wp_ite (t := true) rfl (fun _ => ?_) (fun h => by cases h)
 exact wp_return rfl rfl
theorem ite_f' {ρ : List D} {c x y : Ex} {d : D} (hc : c.eval ρ = some (.b false)) (hy : y.eval ρ = some d) : (Ex.ite c x y).eval ρ = some d := by simp [Ex.eval, hc, hy]
theorem poolTake_some {b f x : Nat} {m : Int} (h : PoolOk b m f) (hx : (x : Int) < m) (h1 : f.testBit x = true) (h2 : ∀ j, j < x → f.testBit j = false) : Cn gAll 59 [plD b m f] [plD b m (setN f x 1 0), u (b + x), i 0] := by
 have hlo := h.lo
 have hhi := h.hi
 have hbs := h.bs
 have hx0 : f ≠ 0 := fun h => by rw [h, Nat.zero_testBit] at h1; cases h1
 refine con rfl rfl pool_Take_c pool_Take_p rfl ?_
 unfold pool_Take_ir
 simp only [lv_cons, lv_nil, app_cons, app_nil]
 refine wp_lt (d := .b false) (ite_t (eqs_i rfl rfl) (ite_t (eqs_i rfl rfl) (ite_f' (cmp_e (eqt_i rfl rfl) (by simp; omega)) rfl))) ?_
 simp only [lv_cons, lv_nil, app_cons, app_nil]
 refine wp_ite (t := false) rfl (fun h => by cases h) (fun _ => ?_)
 refine wp_call rfl (trail_con h.f64 h1 h2) rfl ?_
 simp only [lv_cons, lv_nil, app_cons, app_nil]
 refine wp_call rfl (bitsSet_con (lo := x) (w := 1) (v := 0) h.f64 (by decide) (by omega) (by decide)) rfl ?_
 simp only [lv_cons, lv_nil, app_cons, app_nil]
 refine wp_lt (cv_u rfl (by omega)) ?_
 simp only [lv_cons, lv_nil, app_cons, app_nil]
 refine wp_lt (u_add rfl rfl (by omega)) ?_
 simp only [lv_cons, lv_nil, app_cons, app_nil]
 exact wp_return rfl rfl
theorem poolGive_con {b f fr : Nat} {m : Int} (h : PoolOk b m f) (hfr : fr < 18446744073709551616) (hi : isP b m f fr = true) : Cn gAll 101 [plD b m f, u fr] [plD b m (setN f (fr - b) 1 1), i 0] := by
 have hlo := h.lo
 have hhi := h.hi
 simp only [isP, Bool.and_eq_true, decide_eq_true_eq, Bool.not_eq_true'] at hi
 have hin : Cn gAll 112 [plD b m f, u fr] [bb true] := by
  refine con rfl rfl pool_in_c pool_in_p rfl ?_
  unfold pool_in_ir
  simp only [lv_cons, lv_nil, app_cons, app_nil]
  refine wp_lt (d := .b true) (cmp_e (e_geq rfl rfl) (decide_eq_true (by omega))) ?_
  simp only [lv_cons, lv_nil, app_cons, app_nil]
  refine wp_ite (t := true) rfl (fun _ => ?_) (fun h => by cases h)
  refine wp_lt (u_sub rfl rfl (by omega) hfr) ?_
  simp only [lv_cons, lv_nil, app_cons, app_nil]
  refine wp_lt (d := U m.toNat) ?_ ?_
  ·exact cv_u (n := m.toNat) (k := .i64) (by rw [Int.toNat_of_nonneg hlo]; rfl) (by omega)
  simp only [lv_cons, lv_nil, app_cons, app_nil]
  refine wp_lt (d := .b true) (cmp_e (e_lss rfl rfl) (decide_eq_true (by omega))) ?_
  simp only [lv_cons, lv_nil, app_cons, app_nil]
  exact wp_return rfl rfl
 have his : Cn gAll 109 [plD b m f, u fr] [bb true] := by
  refine con rfl rfl pool_Is_c pool_Is_p rfl ?_
  unfold pool_Is_ir
  simp only [lv_cons, lv_nil, app_cons, app_nil]
  refine wp_call rfl hin rfl ?_
  simp only [lv_cons, lv_nil, app_cons, app_nil]
  refine wp_ite (t := true) rfl (fun _ => ?_) (fun h => by cases h)
  refine wp_lt (u_sub rfl rfl (by omega) hfr) ?_
  simp only [lv_cons, lv_nil, app_cons, app_nil]
  refine wp_lt (cv_i rfl (by omega) (by omega)) ?_
  simp only [lv_cons, lv_nil, app_cons, app_nil]
  refine wp_call rfl (bitsGet_con (lo := fr - b) (w := 1) h.f64 (by omega) (by decide)) rfl ?_
  simp only [lv_cons, lv_nil, app_cons, app_nil]
  have hg : getN f (fr - b) 1 = 0 := by
   have := hi.2
   rw [Nat.testBit_eq_decide_div_mod_eq] at this
   unfold getN
   simpa using this
  refine wp_lt (d := .b true) (cmp_e (e_eql rfl rfl) (by rw [hg]; rfl)) ?_
  simp only [lv_cons, lv_nil, app_cons, app_nil]
  exact wp_return rfl rfl
 refine con rfl rfl pool_Give_c pool_Give_p rfl ?_
 unfold pool_Give_ir
 simp only [lv_cons, lv_nil, app_cons, app_nil]
 refine wp_call rfl his rfl ?_
 simp only [lv_cons, lv_nil, app_cons, app_nil]
 refine wp_lt (d := (.b false)) rfl ?_
 simp only [lv_cons, lv_nil, app_cons, app_nil]
 refine wp_ite (t := false) rfl (fun h => by cases h) (fun _ => ?_)
 refine wp_lt (u_sub rfl rfl (by omega) hfr) ?_
 simp only [lv_cons, lv_nil, app_cons, app_nil]
 refine wp_lt (cv_i rfl (by omega) (by omega)) ?_
 simp only [lv_cons, lv_nil, app_cons, app_nil]
 refine wp_call rfl (bitsSet_con (lo := fr - b) (w := 1) (v := 1) h.f64 (by decide) (by omega) (by decide)) rfl ?_
 simp only [lv_cons, lv_nil, app_cons, app_nil]
 exact wp_return rfl rfl
end Go.Proofs.YtnkjmocacielmaaDoor.Sx
