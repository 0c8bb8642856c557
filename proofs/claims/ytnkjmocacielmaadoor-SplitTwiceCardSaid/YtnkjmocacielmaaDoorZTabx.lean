/-
 Layer 19: TableWrites.
-/
import Derived.Test.YtnkjmocacielmaaDoorZTabw
import Derived.Test.YtnkjmocacielmaaDoorZTabf
namespace Go.Proofs.YtnkjmocacielmaaDoor.Sx
open Go
set_option linter.unusedVariables false
set_option linter.unusedSimpArgs false
set_option maxRecDepth 100000
theorem ptN_wdN {p : Pt} (h : p.May) : ptN (wdN p) = p := by
 obtain ⟨v, r, w, x, u, g, a, d, rsw, ppn, high⟩ := p
 obtain ⟨h1, h2, h3⟩ := h
 simp only at h1 h2 h3
 have b : ∀ j, j < 8 → (wdN ⟨v, r, w, x, u, g, a, d, rsw, ppn, high⟩).testBit j = (([v, r, w, x, u, g, a, d] : List Bool)[j]?).getD false := fun j hj => wdN_lo hj
 have e1 : wdN ⟨v, r, w, x, u, g, a, d, rsw, ppn, high⟩ / 256 % 4 = rsw := by
  refine Nat.eq_of_testBit_eq fun j => ?_
  rw [show (256 : Nat) = 2 ^ 8 from rfl, show (4 : Nat) = 2 ^ 2 from rfl, Nat.testBit_mod_two_pow, Nat.testBit_div_two_pow, wdN, setN_testBit, setN_testBit, setN_testBit]
  by_cases hj : j < 2
  ·rw [if_neg (by omega), if_neg (by omega), if_pos (by omega), decide_eq_true hj, decide_eq_true (show j + 8 < 64 by omega), show j + 8 - 8 = j by omega]
   simp
  ·rw [decide_eq_false hj, Bool.false_and]
   exact (Nat.testBit_lt_two_pow (Nat.lt_of_lt_of_le h1 (show (4 : Nat) ≤ 2 ^ j from Nat.pow_le_pow_right (n := 2) (by decide) (show 2 ≤ j by omega)))).symm
 have e2 : wdN ⟨v, r, w, x, u, g, a, d, rsw, ppn, high⟩ / 1024 % 17592186044416 = ppn := by
  refine Nat.eq_of_testBit_eq fun j => ?_
  rw [show (1024 : Nat) = 2 ^ 10 from rfl, show (17592186044416 : Nat) = 2 ^ 44 from rfl, Nat.testBit_mod_two_pow, Nat.testBit_div_two_pow, wdN, setN_testBit, setN_testBit]
  by_cases hj : j < 44
  ·rw [if_neg (by omega), if_pos (by omega), decide_eq_true hj, decide_eq_true (show j + 10 < 64 by omega), show j + 10 - 10 = j by omega]
   simp
  ·rw [decide_eq_false hj, Bool.false_and]
   exact (Nat.testBit_lt_two_pow (Nat.lt_of_lt_of_le h2 (show (17592186044416 : Nat) ≤ 2 ^ j from Nat.pow_le_pow_right (n := 2) (by decide) (show 44 ≤ j by omega)))).symm
 have e3 : wdN ⟨v, r, w, x, u, g, a, d, rsw, ppn, high⟩ / 18014398509481984 = high := by
  refine Nat.eq_of_testBit_eq fun j => ?_
  rw [show (18014398509481984 : Nat) = 2 ^ 54 from rfl, Nat.testBit_div_two_pow, wdN, setN_testBit]
  by_cases hj : j < 10
  ·rw [if_pos (by omega), decide_eq_true (show j + 54 < 64 by omega), show j + 54 - 54 = j by omega]
   simp
  ·rw [decide_eq_false (show ¬ j + 54 < 64 by omega), Bool.false_and]
   exact (Nat.testBit_lt_two_pow (Nat.lt_of_lt_of_le h3 (show (1024 : Nat) ≤ 2 ^ j from Nat.pow_le_pow_right (n := 2) (by decide) (show 10 ≤ j by omega)))).symm
 unfold ptN
 rw [b 0 (by decide), b 1 (by decide), b 2 (by decide), b 3 (by decide), b 4 (by decide), b 5 (by decide), b 6 (by decide), b 7 (by decide), e1, e2, e3]
 rfl
def Pt.mayB (p : Pt) : Bool := decide (p.rsw < 4) && decide (p.ppn < 17592186044416) && decide (p.high < 1024)
theorem lnk_of_link {p : Pt} {l : Int} (h : p.link = false) : lnkB p l = false := by rw [lnkB, h]; rfl
structure PutOk (s : Nat) (cs : List Cl) : Prop where
 rm : RM s cs
 cok : COk cs
 len : cs.length ≤ 301
end Go.Proofs.YtnkjmocacielmaaDoor.Sx
