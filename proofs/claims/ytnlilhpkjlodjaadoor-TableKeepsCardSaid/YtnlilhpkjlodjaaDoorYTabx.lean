/-
  Layer 19: TableWrites.
-/
import Derived.Test.YtnlilhpkjlodjaaDoorYTabw
import Derived.Test.YtnlilhpkjlodjaaDoorYTabf
namespace Go.Proofs.YtnlilhpkjlodjaaDoor.Sx
open Go
set_option linter.unusedVariables false
set_option linter.unusedSimpArgs false
set_option maxRecDepth 100000
def Pt.mayB (p : Pt) : Bool := decide (p.rsw < 4) && decide (p.ppn < 17592186044416) && decide (p.high < 1024)
theorem refMay06_con {p : Pt} : Cn gAll 27 [p.dv] [bb p.mayB] := by
  refine con rfl rfl atlasref06_May_c atlasref06_May_p rfl ?_
  unfold atlasref06_May_ir
  simp only [lv_cons, lv_nil, Pt.ds, Lf.ds, app_cons, app_nil]
  refine wp_lt (d := .b (decide (p.rsw < 4))) (cmp_e (e_lss rfl rfl) (decide_eq_decide.2 (by omega))) ?_
  simp only [lv_cons, lv_nil, app_cons, app_nil]
  refine wp_ite rfl (fun h1 => ?_) (fun h1 => wp_return rfl (bb_eq (by rw [Pt.mayB, h1]; rfl)))
  refine wp_lt (d := .b (decide (p.ppn < 17592186044416))) (cmp_e (e_lss rfl rfl) (decide_eq_decide.2 (by omega))) ?_
  simp only [lv_cons, lv_nil, app_cons, app_nil]
  refine wp_ite rfl (fun h2 => ?_) (fun h2 => wp_return rfl (bb_eq (by rw [Pt.mayB, h1, h2]; rfl)))
  refine wp_lt (d := .b (decide (p.high < 1024))) (cmp_e (e_lss rfl rfl) (decide_eq_decide.2 (by omega))) ?_
  simp only [lv_cons, lv_nil, app_cons, app_nil]
  exact wp_return rfl (bb_eq (by rw [Pt.mayB, h1, h2]; rfl))
theorem mayB_may {p : Pt} (h : p.mayB = true) : p.May := by
  simp only [Pt.mayB, Bool.and_eq_true, decide_eq_true_eq] at h
  exact ⟨h.1.1, h.1.2, h.2⟩
structure PutOk (s : Nat) (cs : List Cl) : Prop where
  rm : RM s cs
  cok : COk cs
  len : cs.length ≤ 301
theorem FitOk.t44 {s l t : Nat} {cs : List Cl} {lv : Int} (h : FitOk s cs lv t l) : t < 17592186044416 := by
  have := h.tree.head
  have := h.rm.most
  omega
end Go.Proofs.YtnlilhpkjlodjaaDoor.Sx
