/-
  Arguments: harts: what a law is handed.
-/
import Derived.Test.YtobdkhjaipoliaaGreatDoorZArgt
import Derived.Test.YtobdkhjaipoliaaGreatDoorZArgm
import Derived.Test.YtobdkhjaipoliaaGreatDoorZV1
namespace Go.Proofs.YtobdkhjaipoliaaGreatDoor.Sx
open Go
set_option linter.unusedVariables false
set_option maxRecDepth 100000
theorem arg_hart {v : DV} (h : IsArg (true, [.sl SETR, .i .u64, .i .u64, .i .u64, .i .i64, .b, .b, .i .i64]) v) : ∃ x : Ht, x.ts.length ≤ maxLen ∧ TOk x.ts ∧ v = x.dv := by
  obtain ⟨g, ds⟩ := v
  obtain ⟨rfl, h⟩ := h
  obtain ⟨d0, r, rfl, h0, h⟩ := cons_inv h
  obtain ⟨d1, r, rfl, h1, h⟩ := cons_inv h
  obtain ⟨d2, r, rfl, h2, h⟩ := cons_inv h
  obtain ⟨d3, r, rfl, h3, h⟩ := cons_inv h
  obtain ⟨d4, r, rfl, h4, h⟩ := cons_inv h
  obtain ⟨d5, r, rfl, h5, h⟩ := cons_inv h
  obtain ⟨d6, r, rfl, h6, h⟩ := cons_inv h
  obtain ⟨d7, r, rfl, h7, h⟩ := cons_inv h
  obtain rfl := nil_inv h
  obtain ⟨ts, k1, k2, rfl⟩ := ty_sets h0
  obtain ⟨x1, q1, rfl⟩ := ty_i h1
  obtain ⟨x2, q2, rfl⟩ := ty_i h2
  obtain ⟨x3, q3, rfl⟩ := ty_i h3
  obtain ⟨x4, q4, rfl⟩ := ty_i h4
  obtain ⟨x5, rfl⟩ := ty_b h5
  obtain ⟨x6, rfl⟩ := ty_b h6
  obtain ⟨x7, q7, rfl⟩ := ty_i h7
  obtain ⟨n1, rfl⟩ := Int.eq_ofNat_of_zero_le (bounds_u64 q1).1
  obtain ⟨n2, rfl⟩ := Int.eq_ofNat_of_zero_le (bounds_u64 q2).1
  obtain ⟨n3, rfl⟩ := Int.eq_ofNat_of_zero_le (bounds_u64 q3).1
  exact ⟨⟨ts, n1, n2, n3, x4, x5, x6, x7⟩, k1, k2, rfl⟩
end Go.Proofs.YtobdkhjaipoliaaGreatDoor.Sx
