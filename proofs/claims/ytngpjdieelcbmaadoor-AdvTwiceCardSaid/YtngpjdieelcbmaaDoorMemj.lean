/-
  Layer 3: bits of what is stored and loaded: plain numbers, no program in sight.
-/
import Derived.Test.YtngpjdieelcbmaaDoorMemh
namespace Go.Proofs.YtngpjdieelcbmaaDoor.Sx
open Go
set_option linter.unusedVariables false
set_option linter.unusedSimpArgs false
set_option maxRecDepth 100000

theorem setN_testBit (w lo n v i : Nat) : (setN w lo n v).testBit i = (decide (i < 64) && if lo ≤ i ∧ i < lo + n then v.testBit (i - lo) else w.testBit i) := by
  unfold setN
  rw [ofF_testBit]
theorem get_set {w lo n v : Nat} (h : lo + n ≤ 64) : getN (setN w lo n v) lo n = v % 2 ^ n := by
  refine Nat.eq_of_testBit_eq fun i => ?_
  rw [getN_testBit, setN_testBit, Nat.testBit_mod_two_pow]
  by_cases hi : i < n
  · rw [decide_eq_true hi, decide_eq_true (show lo + i < 64 by omega), if_pos (by omega), Nat.add_sub_cancel_left, Bool.true_and]
  · rw [decide_eq_false hi, Bool.false_and, Bool.false_and]
theorem get_set_off {w lo n v lo' n' : Nat} (h : lo' + n' ≤ 64) (hd : lo' + n' ≤ lo ∨ lo + n ≤ lo') : getN (setN w lo n v) lo' n' = getN w lo' n' := by
  refine Nat.eq_of_testBit_eq fun i => ?_
  rw [getN_testBit, getN_testBit, setN_testBit]
  by_cases hi : i < n'
  · rw [decide_eq_true (show lo' + i < 64 by omega), if_neg (by omega), Bool.true_and]
  · rw [decide_eq_false hi, Bool.false_and, Bool.false_and]
theorem set_get {w lo n v : Nat} (hw : w < 18446744073709551616) : setN (setN w lo n v) lo n (getN w lo n) = w := by
  refine Nat.eq_of_testBit_eq fun i => ?_
  rw [setN_testBit, setN_testBit]
  by_cases hi : i < 64
  · rw [decide_eq_true hi, Bool.true_and, Bool.true_and]
    by_cases h : lo ≤ i ∧ i < lo + n
    · rw [if_pos h, getN_testBit, decide_eq_true (by omega), Bool.true_and]
      congr 1
      omega
    · rw [if_neg h, if_neg h]
  · rw [decide_eq_false hi, Bool.false_and, testBit_lt64 hw (by omega)]
theorem set_comm {w lo n v lo' n' v' : Nat} (hd : lo' + n' ≤ lo ∨ lo + n ≤ lo') : setN (setN w lo n v) lo' n' v' = setN (setN w lo' n' v') lo n v := by
  refine Nat.eq_of_testBit_eq fun i => ?_
  rw [setN_testBit, setN_testBit, setN_testBit, setN_testBit]
  by_cases hi : i < 64
  · rw [decide_eq_true hi, Bool.true_and, Bool.true_and, Bool.true_and, Bool.true_and]
    by_cases h : lo ≤ i ∧ i < lo + n
    · rw [if_pos h, if_pos h, if_neg (by omega)]
    · rw [if_neg h, if_neg h]
  · rw [decide_eq_false hi, Bool.false_and, Bool.false_and]
theorem set_halves {w lo n v : Nat} : setN (setN w lo n v) (lo + n) n (v / 2 ^ n) = setN w lo (2 * n) v := by
  refine Nat.eq_of_testBit_eq fun i => ?_
  rw [setN_testBit, setN_testBit, setN_testBit]
  by_cases hi : i < 64
  · rw [decide_eq_true hi, Bool.true_and, Bool.true_and, Bool.true_and]
    by_cases h : lo + n ≤ i ∧ i < lo + n + n
    · rw [if_pos h, if_pos (by omega), Nat.testBit_div_two_pow]
      congr 1
      omega
    · rw [if_neg h]
      by_cases h2 : lo ≤ i ∧ i < lo + n
      · rw [if_pos h2, if_pos (by omega)]
      · rw [if_neg h2, if_neg (by omega)]
  · rw [decide_eq_false hi, Bool.false_and, Bool.false_and]
theorem get_halves {w lo n : Nat} : getN w lo (n + n) = getN w lo n + getN w (lo + n) n * 2 ^ n := by
  unfold getN
  rw [Nat.pow_add, Nat.mod_mul, Nat.pow_add, Nat.div_div_eq_div_mul, Nat.mul_comm (2 ^ n)]
theorem getN_lt {w lo n : Nat} : getN w lo n < 2 ^ n := Nat.mod_lt _ (Nat.two_pow_pos n)

/-! ### sizes and places -/
def Sz (n : Nat) : Prop := n = 1 ∨ n = 2 ∨ n = 4 ∨ n = 8
theorem Sz.ok {n : Nat} (h : Sz n) : sizeOk n = true := by rcases h with rfl | rfl | rfl | rfl <;> rfl
theorem Sz.wrong {s a n : Nat} (h : Sz n) (ha : a % n = 0) (has : a < s) : wrongN s a n = 0 := by
  unfold wrongN
  rw [if_pos h.ok, Int.toNat_natCast, if_pos ha, if_neg (by omega)]
theorem Sz.place {s a n : Nat} (h : Sz n) (hs : s % 4096 = 0) (h0 : s ≠ 0) : (a % s / n * n) % n = 0 ∧ a % s / n * n + n ≤ s := by
  have := Nat.mod_lt a (Nat.pos_of_ne_zero h0)
  rcases h with rfl | rfl | rfl | rfl <;> omega
theorem Sz.pow {n : Nat} (h : Sz n) : 2 ^ (n * 8) ≤ 18446744073709551616 := by rcases h with rfl | rfl | rfl | rfl <;> decide

section
variable {s i j n m v w : Nat} {cs : List Cl}
theorem load_eq (has : i < s) : loadN s cs i n = getN (lookN cs (i / 8)) (i % 8 * 8) (n * 8) := by rw [loadN, word_in has]
theorem load_store (hs : Asc cs) (hn : Sz n) (hin : i % n = 0) (has : i < s) : loadN s (storeM s cs i n v) i n = v % 256 ^ n := by
  have := size_fits hn hin
  rw [load_eq has, look_store hs has, if_pos rfl, get_set (by omega), pow256]
theorem load_off (hs : Asc cs) (hn : Sz n) (hm : Sz m) (hin : i % n = 0) (hjm : j % m = 0) (has : i < s) (hjs : j < s) (hd : j + m ≤ i ∨ i + n ≤ j) : loadN s (storeM s cs i n v) j m = loadN s cs j m := by
  have := size_fits hn hin
  have := size_fits hm hjm
  rw [load_eq hjs, load_eq hjs, look_store hs has]
  split
  · rename_i h
    rw [get_set_off (by omega) (by omega), h]
  · rfl
theorem store_back (hR : RM s cs) (hO : COk cs) (has : i < s) : storeM s (storeM s cs i n v) i n (loadN s cs i n) = cs := by
  have h1 := hR.store (n := n) (v := v) has
  have h2 := h1.store (n := n) (v := loadN s cs i n) has
  refine look_ext h2.asc hR.asc h2.nz hR.nz fun q => ?_
  rw [look_store h1.asc has, look_store hR.asc has, look_store hR.asc has, if_pos rfl]
  split
  · rename_i h
    rw [load_eq has, set_get (lookN_lt hO), h]
  · rfl
theorem store_turn (hR : RM s cs) (hn : Sz n) (hm : Sz m) (hin : i % n = 0) (hjm : j % m = 0) (has : i < s) (hjs : j < s) (hd : j + m ≤ i ∨ i + n ≤ j) : storeM s (storeM s cs i n v) j m w = storeM s (storeM s cs j m w) i n v := by
  have := size_fits hn hin
  have := size_fits hm hjm
  have h1 := hR.store (n := n) (v := v) has
  have h2 := h1.store (n := m) (v := w) hjs
  have h3 := hR.store (n := m) (v := w) hjs
  have h4 := h3.store (n := n) (v := v) has
  refine look_ext h2.asc h4.asc h2.nz h4.nz fun q => ?_
  rw [look_store h1.asc hjs, look_store h3.asc has, look_store hR.asc has, look_store hR.asc has, look_store hR.asc hjs, look_store hR.asc hjs]
  by_cases e : i / 8 = j / 8
  · by_cases h : q = i / 8
    · rw [if_pos (by omega), if_pos e.symm, if_pos h, if_pos e, e]
      exact set_comm (by omega)
    · rw [if_neg (by omega), if_neg h, if_neg h, if_neg (by omega)]
  · by_cases h : q = i / 8
    · rw [if_neg (by omega), if_pos h, if_pos h, if_neg e]
    · by_cases h' : q = j / 8
      · rw [if_pos h', if_neg (by omega), if_neg h, if_pos h']
      · rw [if_neg h', if_neg h, if_neg h, if_neg h']
theorem load_halves (hs : Asc cs) (hn : Sz (2 * n)) (hin : i % (2 * n) = 0) (has : i + 2 * n ≤ s) : loadN s cs i (2 * n) = loadN s cs i n + loadN s cs (i + n) n * 2 ^ (8 * n) := by
  have h := size_fits hn hin
  have h0 : n ≠ 0 := fun h => by subst h; rcases hn with h | h | h | h <;> cases h
  rw [load_eq (by omega), load_eq (by omega), load_eq (by omega), show (i + n) / 8 = i / 8 by omega, show (i + n) % 8 * 8 = i % 8 * 8 + n * 8 by omega, show 2 * n * 8 = n * 8 + n * 8 by omega, get_halves, Nat.mul_comm 8 n]
theorem store_halves (hR : RM s cs) (hn : Sz (2 * n)) (hin : i % (2 * n) = 0) (has : i + 2 * n ≤ s) : storeM s (storeM s cs i n v) (i + n) n (v / 2 ^ (8 * n)) = storeM s cs i (2 * n) v := by
  have h := size_fits hn hin
  have h0 : n ≠ 0 := fun h => by subst h; rcases hn with h | h | h | h <;> cases h
  have h1 := hR.store (n := n) (v := v) (a := i) (by omega)
  have h2 := h1.store (n := n) (v := v / 2 ^ (8 * n)) (a := i + n) (by omega)
  have h3 := hR.store (n := 2 * n) (v := v) (a := i) (by omega)
  refine look_ext h2.asc h3.asc h2.nz h3.nz fun q => ?_
  rw [look_store h1.asc (by omega), look_store hR.asc (by omega), look_store hR.asc (by omega), look_store hR.asc (by omega), show (i + n) / 8 = i / 8 by omega, if_pos rfl]
  by_cases hq : q = i / 8
  · rw [if_pos hq, if_pos hq, show (i + n) % 8 * 8 = i % 8 * 8 + n * 8 by omega, Nat.mul_comm 8 n, set_halves, show 2 * (n * 8) = 2 * n * 8 by omega]
  · rw [if_neg hq, if_neg hq, if_neg hq]
theorem load_word (hO : COk cs) (has : i < s) : loadN s cs (i / 8 * 8) 8 = wordN s cs i := by
  rw [load_eq (by omega), word_in has, show i / 8 * 8 / 8 = i / 8 by omega, show i / 8 * 8 % 8 * 8 = 0 by omega]
  unfold getN
  rw [Nat.pow_zero, Nat.div_one]
  exact Nat.mod_eq_of_lt (lookN_lt hO)
end
end Go.Proofs.YtngpjdieelcbmaaDoor.Sx
