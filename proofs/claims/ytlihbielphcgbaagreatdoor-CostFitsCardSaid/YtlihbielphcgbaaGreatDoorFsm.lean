/-
  va.Index on the machine: it touches no memory.
-/
import Derived.Test.YtlihbielphcgbaaGreatDoorFsa
import Derived.Maps.OwnSet
import Derived.Maps.Views
import Derived.DeepKeys4
namespace Go.Proofs.YtlihbielphcgbaaGreatDoor.Sx
open Go Go.Shelf Go.RowKit Go.Lib Go.Maps
set_option linter.unusedVariables false
set_option linter.unusedSimpArgs false
set_option maxRecDepth 1000000

set_option maxHeartbeats 4000000 in
theorem maskC (W : World) : Calls Tryz.prog 116 #[.int .i64 9] W fun e w' => e = .returned (.int .u64 511) ∧ w' = W := by
  go_enter Tryz.func116, Tryz.ntmps116
  go_wp2
  go_ret
  exact ⟨rfl, rfl⟩
set_option maxHeartbeats 4000000 in
theorem getC (a n : Nat) (W : World) (ha : a < 18446744073709551616) (h1 : n < 64) : Calls Tryz.prog 85 #[.int .u64 a, .int .i64 n, .int .i64 9] W fun e w' => e = .returned (.int .u64 ((a / 2 ^ n % 512 : Nat) : Int)) ∧ w' = W := by
  go_enter Tryz.func85, Tryz.ntmps85
  go_wp2_with (go_at_call 116; refine (maskC _).mono ?_; rintro e w' ⟨rfl, hw⟩; rw [hw])
  all_goals (go_ret; refine ⟨?_, rfl⟩)
  have h2 : a / 2 ^ n < 18446744073709551616 := Nat.lt_of_le_of_lt (Nat.div_le_self _ _) ha
  have h3 : a / 2 ^ n &&& 511 = a / 2 ^ n % 512 := Nat.and_two_pow_sub_one_eq_mod (n := 9) _
  have h4 := and64 h2 (by decide : 511 < 18446744073709551616)
  refine congrArg (fun x => Ending.returned (Value.int .u64 x)) (?_ : bits .and .u64 ((a : Int) / 2 ^ n) 511 = _)
  have h5 : ((a : Int) / 2 ^ n) = ((a / 2 ^ n : Nat) : Int) := by rw [Int.natCast_ediv, Int.natCast_pow]; rfl
  unfold bits
  show IntKind.u64.wrap ((BitVec.ofInt 64 ((a : Int) / 2 ^ n) &&& BitVec.ofInt 64 ((511 : Nat) : Int)).toNat : Int) = _
  rw [h5, h4, h3, wrapU (by omega)]
set_option maxHeartbeats 4000000 in
theorem idxC (a k : Nat) (W : World) (ha : a < 18446744073709551616) (h1 : k ≤ 2) : Calls Tryz.prog 103 #[.int .u64 a, .int .i64 k] W fun e w' => e = .returned (.int .i64 ((a / 2 ^ (12 + 9 * k) % 512 : Nat) : Int)) ∧ w' = W := by
  have hg := fun W => getC a (12 + 9 * k) W ha (by omega)
  have e1 : IntKind.i64.wrap (9 * (k : Int)) = ((9 * k : Nat) : Int) := by rw [IntKind.wrap_i64]; omega
  have e2 : IntKind.i64.wrap (12 + ((9 * k : Nat) : Int)) = ((12 + 9 * k : Nat) : Int) := by rw [IntKind.wrap_i64]; omega
  go_enter Tryz.func103, Tryz.ntmps103
  go_wp2_with (go_at_call 85; refine (hg _).mono ?_; rintro e w' ⟨rfl, hw⟩; rw [hw])
  all_goals (go_ret; refine ⟨?_, rfl⟩)
  refine congrArg (fun x => Ending.returned (Value.int .i64 x)) ?_
  show (a : Int) / 2 ^ (12 + 9 * k) % 512 = _
  rw [Int.natCast_emod, Int.natCast_ediv, Int.natCast_pow]
  rfl
end Go.Proofs.YtlihbielphcgbaaGreatDoor.Sx
