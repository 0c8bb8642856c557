/-
  Layers 4, 19: pools of frames: contracts.
-/
import Derived.Test.YtnlilhpkjlodjaaDoorYTabi
namespace Go.Proofs.YtnlilhpkjlodjaaDoor.Sx
open Go
set_option linter.unusedVariables false
set_option linter.unusedSimpArgs false
set_option maxRecDepth 100000
theorem low_mul {x i : Nat} (h1 : x.testBit i = true) (h2 : ∀ j, j < i → x.testBit j = false) : ∃ q, x = 2 ^ i * (2 * q + 1) := by
  have e0 : x % 2 ^ i = 0 := by
    refine Nat.eq_of_testBit_eq fun j => ?_
    rw [Nat.testBit_mod_two_pow, Nat.zero_testBit]
    by_cases hj : j < i
    · rw [h2 j hj]; simp
    · simp [hj]
  have e1 : x / 2 ^ i % 2 = 1 := by
    have := h1
    rw [Nat.testBit_eq_decide_div_mod_eq] at this
    simpa using this
  refine ⟨x / 2 ^ i / 2, ?_⟩
  have := Nat.div_add_mod x (2 ^ i)
  rw [e0] at this
  have h3 : 2 * (x / 2 ^ i / 2) + 1 = x / 2 ^ i := by omega
  rw [h3]
  omega
theorem low_and {x i : Nat} (hx : x < 18446744073709551616) (h1 : x.testBit i = true) (h2 : ∀ j, j < i → x.testBit j = false) : x &&& (18446744073709551616 - x) = 2 ^ i := by
  obtain ⟨q, hq⟩ := low_mul h1 h2
  have hp : 0 < 2 ^ i := Nat.two_pow_pos i
  have hx0 : 0 < x := by rw [hq]; exact Nat.mul_pos hp (by omega)
  have hm : 2 ^ i * (2 * q + 1) = 2 ^ i * (2 * q) + 2 ^ i := by rw [Nat.mul_add, Nat.mul_one]
  have hy : x - 1 = 2 ^ i * (2 * q) + (2 ^ i - 1) := by omega
  refine Nat.eq_of_testBit_eq fun j => ?_
  rw [Nat.testBit_and, show 18446744073709551616 - x = 2 ^ 64 - ((x - 1) + 1) by omega, Nat.testBit_two_pow_sub_succ (by omega), hy, Nat.testBit_two_pow_mul_add _ (by omega), Nat.testBit_two_pow]
  rcases Nat.lt_trichotomy j i with h | rfl | h
  · rw [h2 j h]
    simp
    omega
  · have hj64 : j < 64 := Nat.lt_of_not_le fun hge => by rw [testBit_lt64 hx hge] at h1; cases h1
    rw [h1]
    simp [hj64, Nat.testBit_zero]
  · have hj : ¬ j < i := by omega
    rw [hq, Nat.testBit_two_pow_mul, if_neg hj]
    have e : j - i = (j - i - 1) + 1 := by omega
    rw [e, Nat.testBit_succ, Nat.testBit_succ]
    rw [show (2 * q + 1) / 2 = q by omega, show 2 * q / 2 = q by omega]
    cases q.testBit (j - i - 1) <;> simp <;> omega
def isI (n : Nat) (r : Option (List DV)) : Bool := match r with
  | some [(false, [.i .i64 k])] => k == n
  | _ => false
theorem isI_eq {n : Nat} {r : Option (List DV)} (h : isI n r = true) : r = some [i n] := by
  unfold isI at h
  split at h
  · rw [eq_of_beq h]
  · cases h
theorem u_neg {ρ : List D} {x : Ex} {a : Nat} (hx : x.eval ρ = some (U a)) (h0 : 0 < a) (h : a < 18446744073709551616) : (Ex.un .neg x).eval ρ = some (U (18446744073709551616 - a)) := by
  have : IntKind.u64.wrap (-(a : Int)) = ((18446744073709551616 - a : Nat) : Int) := by rw [wrapU64]; omega
  simp [Ex.eval, hx, unD, this]
theorem trail_con {x n : Nat} (hx : x < 18446744073709551616) (h1 : x.testBit n = true) (h2 : ∀ j, j < n → x.testBit j = false) : Cn gAll 68 [u x] [i n] := by
  have hx0 : x ≠ 0 := fun h => by rw [h, Nat.zero_testBit] at h1; cases h1
  have hn : n < 64 := Nat.lt_of_not_le fun hge => by rw [testBit_lt64 hx hge] at h1; cases h1
  refine con rfl rfl bits_TrailingZeros64_c bits_TrailingZeros64_p rfl ?_
  unfold bits_TrailingZeros64_ir
  simp only [lv_cons, lv_nil, app_cons, app_nil]
  refine wp_lt (d := .b false) (cmp_e (e_eql rfl rfl) (by simp; omega)) ?_
  simp only [lv_cons, lv_nil, app_cons, app_nil]
  refine wp_ite (t := false) rfl (fun h => by cases h) (fun _ => ?_)
  refine wp_lt (u_neg rfl (by omega) hx) ?_
  simp only [lv_cons, lv_nil, app_cons, app_nil]
  refine wp_lt (u_and rfl rfl hx (by omega)) ?_
  simp only [lv_cons, lv_nil, app_cons, app_nil]
  rw [low_and hx h1 h2]
  generalize 18446744073709551616 - x = y
  have hh : ((List.range 64).all fun n => isI n (run TIrTb 60 (IR.sub [.n, .e, .n, .n] bits_TrailingZeros64_ir) [] [U x, .b false, U y, U (2 ^ n)])) = true := by kernel_rfl
  have := List.all_eq_true.1 hh n (List.mem_range.2 hn)
  exact wp_run TIrTb_ok (isI_eq this) rfl
abbrev plD (b : Nat) (m : Int) (f : Nat) : DV := (true, [U b, I m, U f])
structure PoolOk (b : Nat) (m : Int) (f : Nat) : Prop where
  lo : 0 ≤ m
  hi : m ≤ 64
  bs : b ≤ 268435456
  fr : ∀ j : Nat, m ≤ j → j < 64 → f.testBit j = false
  f64 : f < 18446744073709551616
def isP (b : Nat) (m : Int) (f fr : Nat) : Bool := decide (b ≤ fr) && decide (((fr - b : Nat) : Int) < m) && !f.testBit (fr - b)
theorem poolTake_none {b : Nat} {m : Int} : Cn gAll 40 [plD b m 0] [plD b m 0, u 0, i 8] := by
  refine con rfl rfl pool_Take_c pool_Take_p rfl ?_
  unfold pool_Take_ir
  simp only [lv_cons, lv_nil, app_cons, app_nil]
  refine wp_lt (ite_t (eqs_i rfl rfl) (ite_t (eqs_i rfl rfl) (ite_t (eqs_i rfl rfl) rfl))) ?_
  simp only [lv_cons, lv_nil, app_cons, app_nil]
  refine wp_ite (t := true) rfl (fun _ => ?_) (fun h => by cases h)
  exact wp_return rfl rfl
theorem ite_f' {ρ : List D} {c x y : Ex} {d : D} (hc : c.eval ρ = some (.b false)) (hy : y.eval ρ = some d) : (Ex.ite c x y).eval ρ = some d := by simp [Ex.eval, hc, hy]
theorem poolTake_some {b f x : Nat} {m : Int} (h : PoolOk b m f) (hx : (x : Int) < m) (h1 : f.testBit x = true) (h2 : ∀ j, j < x → f.testBit j = false) : Cn gAll 40 [plD b m f] [plD b m (setN f x 1 0), u (b + x), i 0] := by
  have hlo := h.lo
  have hhi := h.hi
  have hbs := h.bs
  have hx0 : f ≠ 0 := fun h => by rw [h, Nat.zero_testBit] at h1; cases h1
  refine con rfl rfl pool_Take_c pool_Take_p rfl ?_
  unfold pool_Take_ir
  simp only [lv_cons, lv_nil, app_cons, app_nil]
  refine wp_lt (d := .b false) (ite_t (eqs_i rfl rfl) (ite_t (eqs_i rfl rfl) (ite_f' (cmp_e (eqt_i rfl rfl) (by simp; omega)) rfl))) ?_
  simp only [lv_cons, lv_nil, app_cons, app_nil]
  refine wp_ite (t := false) rfl (fun h => by cases h) (fun _ => ?_)
  refine wp_call rfl (trail_con h.f64 h1 h2) rfl ?_
  simp only [lv_cons, lv_nil, app_cons, app_nil]
  refine wp_call rfl (bitsSet_con (lo := x) (w := 1) (v := 0) h.f64 (by decide) (by omega) (by decide)) rfl ?_
  simp only [lv_cons, lv_nil, app_cons, app_nil]
  refine wp_lt (cv_u rfl (by omega)) ?_
  simp only [lv_cons, lv_nil, app_cons, app_nil]
  refine wp_lt (u_add rfl rfl (by omega)) ?_
  simp only [lv_cons, lv_nil, app_cons, app_nil]
  exact wp_return rfl rfl
theorem poolGive_con {b f fr : Nat} {m : Int} (h : PoolOk b m f) (hfr : fr < 18446744073709551616) (hi : isP b m f fr = true) : Cn gAll 44 [plD b m f, u fr] [plD b m (setN f (fr - b) 1 1), i 0] := by
  have hlo := h.lo
  have hhi := h.hi
  simp only [isP, Bool.and_eq_true, decide_eq_true_eq, Bool.not_eq_true'] at hi
  have hin : Cn gAll 92 [plD b m f, u fr] [bb true] := by
    refine con rfl rfl pool_in_c pool_in_p rfl ?_
    unfold pool_in_ir
    simp only [lv_cons, lv_nil, app_cons, app_nil]
    refine wp_lt (d := .b true) (cmp_e (e_geq rfl rfl) (decide_eq_true (by omega))) ?_
    simp only [lv_cons, lv_nil, app_cons, app_nil]
    refine wp_ite (t := true) rfl (fun _ => ?_) (fun h => by cases h)
    refine wp_lt (u_sub rfl rfl (by omega) hfr) ?_
    simp only [lv_cons, lv_nil, app_cons, app_nil]
    refine wp_lt (d := U m.toNat) ?_ ?_
    · exact cv_u (n := m.toNat) (k := .i64) (by rw [Int.toNat_of_nonneg hlo]; rfl) (by omega)
    simp only [lv_cons, lv_nil, app_cons, app_nil]
    refine wp_lt (d := .b true) (cmp_e (e_lss rfl rfl) (decide_eq_true (by omega))) ?_
    simp only [lv_cons, lv_nil, app_cons, app_nil]
    exact wp_return rfl rfl
  have his : Cn gAll 72 [plD b m f, u fr] [bb true] := by
    refine con rfl rfl pool_Is_c pool_Is_p rfl ?_
    unfold pool_Is_ir
    simp only [lv_cons, lv_nil, app_cons, app_nil]
    refine wp_call rfl hin rfl ?_
    simp only [lv_cons, lv_nil, app_cons, app_nil]
    refine wp_ite (t := true) rfl (fun _ => ?_) (fun h => by cases h)
    refine wp_lt (u_sub rfl rfl (by omega) hfr) ?_
    simp only [lv_cons, lv_nil, app_cons, app_nil]
    refine wp_lt (cv_i rfl (by omega) (by omega)) ?_
    simp only [lv_cons, lv_nil, app_cons, app_nil]
    refine wp_call rfl (bitsGet_con (lo := fr - b) (w := 1) h.f64 (by omega) (by decide)) rfl ?_
    simp only [lv_cons, lv_nil, app_cons, app_nil]
    have hg : getN f (fr - b) 1 = 0 := by
      have := hi.2
      rw [Nat.testBit_eq_decide_div_mod_eq] at this
      unfold getN
      simpa using this
    refine wp_lt (d := .b true) (cmp_e (e_eql rfl rfl) (by rw [hg]; rfl)) ?_
    simp only [lv_cons, lv_nil, app_cons, app_nil]
    exact wp_return rfl rfl
  refine con rfl rfl pool_Give_c pool_Give_p rfl ?_
  unfold pool_Give_ir
  simp only [lv_cons, lv_nil, app_cons, app_nil]
  refine wp_call rfl his rfl ?_
  simp only [lv_cons, lv_nil, app_cons, app_nil]
  refine wp_lt (d := (.b false)) rfl ?_
  simp only [lv_cons, lv_nil, app_cons, app_nil]
  refine wp_ite (t := false) rfl (fun h => by cases h) (fun _ => ?_)
  refine wp_lt (u_sub rfl rfl (by omega) hfr) ?_
  simp only [lv_cons, lv_nil, app_cons, app_nil]
  refine wp_lt (cv_i rfl (by omega) (by omega)) ?_
  simp only [lv_cons, lv_nil, app_cons, app_nil]
  refine wp_call rfl (bitsSet_con (lo := fr - b) (w := 1) (v := 1) h.f64 (by decide) (by omega) (by decide)) rfl ?_
  simp only [lv_cons, lv_nil, app_cons, app_nil]
  exact wp_return rfl rfl
end Go.Proofs.YtnlilhpkjlodjaaDoor.Sx
