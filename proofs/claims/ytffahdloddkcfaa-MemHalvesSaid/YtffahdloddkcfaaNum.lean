/-
  What the numbers' operations come to, of numbers that are told to be in range.
-/
import Derived.Test.YtffahdloddkcfaaRun
import Derived.IntWalk
namespace Go.Proofs.Ytffahdloddkcfaa.Sx
open Go
set_option linter.unusedVariables false
set_option linter.unusedSimpArgs false

/-- an unsigned word of 64 bits -/
abbrev U (n : Nat) : D := .i .u64 (n : Int)
abbrev I (n : Int) : D := .i .i64 n
abbrev u (n : Nat) : DV := (false, [U n])
abbrev i (n : Int) : DV := (false, [I n])
abbrev bb (x : Bool) : DV := (false, [.b x])

theorem wrapU {n : Nat} (h : n < 18446744073709551616) : IntKind.u64.wrap (n : Int) = (n : Int) := IntWalk.u64_in _ (by omega)
theorem wrapU' {x : Int} {n : Nat} (hx : x = (n : Int)) (h : n < 18446744073709551616) : IntKind.u64.wrap x = (n : Int) := by subst hx; exact wrapU h
theorem wrapI {n : Int} (h0 : -9223372036854775808 ≤ n) (h1 : n ≤ 9223372036854775807) : IntKind.i64.wrap n = n := IntWalk.i64_in _ ⟨h0, h1⟩

section
variable {ρ : List D} {x y : Ex}
theorem u_add {a b : Nat} (hx : x.eval ρ = some (U a)) (hy : y.eval ρ = some (U b)) (h : a + b < 18446744073709551616) : (Ex.bin .add x y).eval ρ = some (U (a + b)) := by
  simp [Ex.eval, hx, hy, binD, wrapU' (n := a + b) (by push_cast; rfl) h]
theorem u_sub {a b : Nat} (hx : x.eval ρ = some (U a)) (hy : y.eval ρ = some (U b)) (h : b ≤ a) (ha : a < 18446744073709551616) : (Ex.bin .sub x y).eval ρ = some (U (a - b)) := by
  simp [Ex.eval, hx, hy, binD, wrapU' (x := (a : Int) - b) (n := a - b) (by omega) (by omega)]
theorem u_mul {a b : Nat} (hx : x.eval ρ = some (U a)) (hy : y.eval ρ = some (U b)) (h : a * b < 18446744073709551616) : (Ex.bin .mul x y).eval ρ = some (U (a * b)) := by
  simp [Ex.eval, hx, hy, binD, wrapU' (x := (a : Int) * b) (n := a * b) (by push_cast; rfl) h]
theorem u_quo {a b : Nat} (hx : x.eval ρ = some (U a)) (hy : y.eval ρ = some (U b)) (h : b ≠ 0) (ha : a < 18446744073709551616) : (Ex.bin .quo x y).eval ρ = some (U (a / b)) := by
  have h1 : (a : Int).tdiv b = ((a / b : Nat) : Int) := by rw [Int.tdiv_eq_ediv_of_nonneg (by omega)]; push_cast; rfl
  have h2 : a / b ≤ a := Nat.div_le_self ..
  have h3 : ¬ (b : Int) = 0 := by omega
  simp only [Ex.eval, hx, hy, binD, if_true]
  rw [if_neg h3, wrapU' h1 (by omega)]
theorem u_rem {a b : Nat} (hx : x.eval ρ = some (U a)) (hy : y.eval ρ = some (U b)) (h : b ≠ 0) : (Ex.bin .rem x y).eval ρ = some (U (a % b)) := by
  have h1 : (a : Int).tmod b = ((a % b : Nat) : Int) := by rw [Int.tmod_eq_emod_of_nonneg (by omega)]; push_cast; rfl
  have h3 : ¬ (b : Int) = 0 := by omega
  simp only [Ex.eval, hx, hy, binD, if_true]
  rw [if_neg h3, h1]
theorem u_shr {k : IntKind} {a b : Nat} (hx : x.eval ρ = some (U a)) (hy : y.eval ρ = some (.i k (b : Int))) (h : b ≤ 64) : (Ex.bin .shr x y).eval ρ = some (U (a / 2 ^ b)) := by
  have hk : min b IntKind.u64.bits = b := Nat.min_eq_left h
  have h1 : ¬ (b : Int) < 0 := by omega
  simp only [Ex.eval, hx, hy, binD, if_neg h1, Int.toNat_natCast, hk]
  have e : (2 : Int) ^ b = ((2 ^ b : Nat) : Int) := by simp
  rw [e, Int.fdiv_eq_ediv_of_nonneg _ (Int.natCast_nonneg _), ← Int.natCast_ediv]
theorem u_shl {k : IntKind} {a b : Nat} (hx : x.eval ρ = some (U a)) (hy : y.eval ρ = some (.i k (b : Int))) (h : b ≤ 64) (ha : a * 2 ^ b < 18446744073709551616) : (Ex.bin .shl x y).eval ρ = some (U (a * 2 ^ b)) := by
  have hk : min b IntKind.u64.bits = b := Nat.min_eq_left h
  have h1 : ¬ (b : Int) < 0 := by omega
  simp only [Ex.eval, hx, hy, binD, if_neg h1, Int.toNat_natCast, hk]
  rw [wrapU' (x := (a : Int) * 2 ^ b) (n := a * 2 ^ b) (by push_cast; rfl) ha]
theorem and64 {a b : Nat} (ha : a < 18446744073709551616) (hb : b < 18446744073709551616) : (BitVec.ofInt 64 (a : Int) &&& BitVec.ofInt 64 (b : Int)).toNat = a &&& b := by
  rw [BitVec.toNat_and, BitVec.ofInt_natCast, BitVec.ofInt_natCast, BitVec.toNat_ofNat, BitVec.toNat_ofNat, Nat.mod_eq_of_lt ha, Nat.mod_eq_of_lt hb]
theorem u_and {a b : Nat} (hx : x.eval ρ = some (U a)) (hy : y.eval ρ = some (U b)) (ha : a < 18446744073709551616) (hb : b < 18446744073709551616) : (Ex.bin .and x y).eval ρ = some (U (a &&& b)) := by
  have h1 : (BitVec.ofInt IntKind.u64.bits (a : Int) &&& BitVec.ofInt IntKind.u64.bits (b : Int)).toNat = a &&& b := and64 ha hb
  have h2 : a &&& b ≤ a := Nat.and_le_left
  simp only [Ex.eval, hx, hy, binD, if_true]
  rw [h1, wrapU (by omega)]
theorem or64 {a b : Nat} (ha : a < 18446744073709551616) (hb : b < 18446744073709551616) : (BitVec.ofInt 64 (a : Int) ||| BitVec.ofInt 64 (b : Int)).toNat = a ||| b := by
  rw [BitVec.toNat_or, BitVec.ofInt_natCast, BitVec.ofInt_natCast, BitVec.toNat_ofNat, BitVec.toNat_ofNat, Nat.mod_eq_of_lt ha, Nat.mod_eq_of_lt hb]
theorem u_or {a b : Nat} (hx : x.eval ρ = some (U a)) (hy : y.eval ρ = some (U b)) (ha : a < 18446744073709551616) (hb : b < 18446744073709551616) : (Ex.bin .or x y).eval ρ = some (U (a ||| b)) := by
  have h1 : (BitVec.ofInt IntKind.u64.bits (a : Int) ||| BitVec.ofInt IntKind.u64.bits (b : Int)).toNat = a ||| b := or64 ha hb
  have h2 : a ||| b < 2 ^ 64 := Nat.or_lt_two_pow (n := 64) ha hb
  simp only [Ex.eval, hx, hy, binD, if_true]
  rw [h1, wrapU h2]
theorem i_add {a b : Int} (hx : x.eval ρ = some (I a)) (hy : y.eval ρ = some (I b)) (h0 : -9223372036854775808 ≤ a + b) (h1 : a + b ≤ 9223372036854775807) : (Ex.bin .add x y).eval ρ = some (I (a + b)) := by
  simp [Ex.eval, hx, hy, binD, wrapI h0 h1]
theorem i_sub {a b : Int} (hx : x.eval ρ = some (I a)) (hy : y.eval ρ = some (I b)) (h0 : -9223372036854775808 ≤ a - b) (h1 : a - b ≤ 9223372036854775807) : (Ex.bin .sub x y).eval ρ = some (I (a - b)) := by
  simp [Ex.eval, hx, hy, binD, wrapI h0 h1]
theorem i_quo {a b : Nat} (hx : x.eval ρ = some (I a)) (hy : y.eval ρ = some (I b)) (h : b ≠ 0) (ha : a < 9223372036854775808) : (Ex.bin .quo x y).eval ρ = some (I (a / b : Nat)) := by
  have h1 : (a : Int).tdiv b = ((a / b : Nat) : Int) := by rw [Int.tdiv_eq_ediv_of_nonneg (by omega)]; push_cast; rfl
  have h2 : a / b ≤ a := Nat.div_le_self ..
  have h3 : ¬ (b : Int) = 0 := by omega
  simp only [Ex.eval, hx, hy, binD, if_true]
  generalize a / b = q at h1 h2 ⊢
  rw [if_neg h3, h1, wrapI (by omega) (by omega)]
theorem cv_u {k : IntKind} {n : Nat} (hx : x.eval ρ = some (.i k (n : Int))) (h : n < 18446744073709551616) : (Ex.cv .u64 x).eval ρ = some (U n) := by
  simp [Ex.eval, hx, wrapU h]
theorem cv_i {k : IntKind} {n : Int} (hx : x.eval ρ = some (.i k n)) (h0 : -9223372036854775808 ≤ n) (h1 : n ≤ 9223372036854775807) : (Ex.cv .i64 x).eval ρ = some (I n) := by
  simp [Ex.eval, hx, wrapI h0 h1]
theorem c_u {n : Nat} : (Ex.c (.i .u64 (n : Int))).eval ρ = some (U n) := rfl
end
/-! ### tests -/
section
variable {ρ : List D} {x y z c : Ex}
theorem ite_t {t : Bool} (hc : c.eval ρ = some (.b true)) (hx : x.eval ρ = some (.b t)) : (Ex.ite c x y).eval ρ = some (.b t) := by
  simp [Ex.eval, hc, hx]
theorem eqs_b {t : Bool} (hx : x.eval ρ = some (.b t)) (hy : y.eval ρ = some (.b t)) : (Ex.eqt true x y).eval ρ = some (.b true) := by
  simp [Ex.eval, hx, hy, eqtD]
theorem eqs_i {k : IntKind} {n : Int} (hx : x.eval ρ = some (.i k n)) (hy : y.eval ρ = some (.i k n)) : (Ex.eqt false x y).eval ρ = some (.b true) := by
  simp [Ex.eval, hx, hy, eqtD]
theorem not_e {t : Bool} (hx : x.eval ρ = some (.b t)) : (Ex.un .not x).eval ρ = some (.b (!t)) := by
  simp [Ex.eval, hx, unD]
theorem rem8 {a m : Nat} (hx : x.eval ρ = some (.i .u8 (a : Int))) (hm : m ≠ 0) : (Ex.bin .rem x (.c (.i .u8 (m : Int)))).eval ρ = some (.i .u8 ((a % m : Nat) : Int)) := by
  have h1 : (a : Int).tmod m = ((a % m : Nat) : Int) := by rw [Int.tmod_eq_emod_of_nonneg (by omega)]; push_cast; rfl
  have h3 : ¬ (m : Int) = 0 := by omega
  simp only [Ex.eval, hx, binD, if_true]
  rw [if_neg h3, h1]
end
/-- a mask -/
theorem and_mask {a k : Nat} : a &&& (2 ^ k - 1) = a % 2 ^ k := Nat.and_two_pow_sub_one_eq_mod a k
end Go.Proofs.Ytffahdloddkcfaa.Sx
