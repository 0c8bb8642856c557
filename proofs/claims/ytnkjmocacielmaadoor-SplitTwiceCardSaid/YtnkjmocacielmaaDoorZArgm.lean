/-
 Arguments: memories: what a law is handed.
-/
import Derived.Test.YtnkjmocacielmaaDoorZM1
import Derived.Test.YtnkjmocacielmaaDoorZBg
import Derived.OpenShut
namespace Go.Proofs.YtnkjmocacielmaaDoor.Sx
open Go
set_option linter.unusedVariables false
set_option maxRecDepth 100000
def CELL : List LT := [.i .u64, .i .u64]
theorem cell_of {r : List D} (hl : r.length = 2) (h : ∀ (j : Nat) (t : LT) (d : D), CELL[j]? = some t → r[j]? = some d → HasTy t d) : ∃ c : Cl, (c.1 < 18446744073709551616 ∧ c.2 < 18446744073709551616) ∧ r = crow c := by
 match r, hl with
 | [d0, d1], _ =>
  obtain ⟨x0, h0, rfl⟩ := ty_i (h 0 (.i .u64) d0 rfl rfl)
  obtain ⟨x1, h1, rfl⟩ := ty_i (h 1 (.i .u64) d1 rfl rfl)
  have b0 := bounds_u64 h0
  have b1 := bounds_u64 h1
  clear h h0 h1
  obtain ⟨n0, rfl⟩ := Int.eq_ofNat_of_zero_le b0.1
  obtain ⟨n1, rfl⟩ := Int.eq_ofNat_of_zero_le b1.1
  exact ⟨(n0, n1), ⟨by simp only; omega, by simp only; omega⟩, rfl⟩
theorem ty_cells {d : D} (h : HasTy (.sl CELL) d) : ∃ cs : List Cl, cs.length ≤ maxLen ∧ COk cs ∧ d = .sl 2 (crs cs) := by
 cases h with
 | sl _ xs hm hl h =>
  suffices hs : ∃ cs : List Cl, COk cs ∧ xs = crs cs by
   obtain ⟨cs, h1, rfl⟩ := hs
   exact ⟨cs, by simpa using hm, h1, rfl⟩
  clear hm
  induction xs with
  | nil => exact ⟨[], (fun _ h => by cases h), rfl⟩
  | cons r xs ih =>
   obtain ⟨cs, h1, h2⟩ := ih (fun r hr => hl r (List.mem_cons_of_mem _ hr)) (fun i j r t d hi => h (i + 1) j r t d (by simpa using hi))
   obtain ⟨c, hc, rfl⟩ := cell_of (hl r (List.mem_cons_self ..)) (fun j t d ht hd => h 0 j r t d (by simp) ht hd)
   exact ⟨c :: cs, fun x hx => by rcases List.mem_cons.1 hx with rfl | hx; exact hc; exact h1 x hx, by rw [h2]; rfl⟩
theorem arg_mem {v : DV} (h : IsArg (true, [.i .u64, .sl CELL]) v) : ∃ (s : Nat) (cs : List Cl), s < 18446744073709551616 ∧ cs.length ≤ maxLen ∧ COk cs ∧ v = md 2 s cs := by
 obtain ⟨g, ds⟩ := v
 obtain ⟨rfl, h⟩ := h
 obtain ⟨d, r, rfl, h0, h⟩ := cons_inv h
 obtain ⟨d1, r1, rfl, h1, h⟩ := cons_inv h
 obtain rfl := nil_inv h
 obtain ⟨x, hx, rfl⟩ := ty_i h0
 have b := bounds_u64 hx
 obtain ⟨n, rfl⟩ := Int.eq_ofNat_of_zero_le b.1
 obtain ⟨cs, h2, h3, rfl⟩ := ty_cells h1
 exact ⟨n, cs, by omega, h2, h3, rfl⟩
end Go.Proofs.YtnkjmocacielmaaDoor.Sx
