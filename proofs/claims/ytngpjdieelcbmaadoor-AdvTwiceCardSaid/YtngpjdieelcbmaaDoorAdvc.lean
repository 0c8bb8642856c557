/-
  Layer 17: a right hart and a right memory of few cells: contract.
-/
import Derived.Test.YtngpjdieelcbmaaDoorAdvb
namespace Go.Proofs.YtngpjdieelcbmaaDoor.Sx
open Go
set_option linter.unusedVariables false
set_option linter.unusedSimpArgs false
set_option maxRecDepth 100000

theorem kn_of {q : Nat} : Kn ((q % 3 : Nat) : Int) := by unfold Kn; omega
theorem fits17_con {h : Ht} {k s : Nat} {cs : List Cl} (hO : TOk h.ts) (hl : h.ts.length < 9223372036854775808) (hk : Kd k cs) (hs : s < 18446744073709551616) : Cn gAll 6 [h.dv, md k s cs] [bb (decide (h.ts.length ≤ 16) && rightH h && decide (cs.length ≤ 300) && rightM s cs)] := by
  refine con rfl rfl atlaslaw17_fits_c atlaslaw17_fits_p rfl ?_
  unfold atlaslaw17_fits_ir
  simp only [lv_cons, lv_nil, Pt.ds, Lf.ds, En.ds, Ht.ds, app_cons, app_nil]
  refine wp_lt (len_is rfl (List.length_map ..)) ?_
  simp only [lv_cons, lv_nil, app_cons, app_nil]
  refine wp_lt (e_leq rfl rfl) ?_
  simp only [lv_cons, lv_nil, app_cons, app_nil]
  refine wp_ite rfl (fun h1 => ?_) (fun h1 => ?_)
  · have h1 : h.ts.length ≤ 16 := by have := of_decide_eq_true h1; omega
    refine wp_call rfl (refRightH_con hO hl) rfl ?_
    simp only [lv_cons, lv_nil, app_cons, app_nil]
    refine wp_ite rfl (fun h2 => ?_) (fun h2 => ?_)
    · refine wp_call rfl (few_con (k := k) (s := s) (cs := cs)) rfl ?_
      simp only [lv_cons, lv_nil, app_cons, app_nil]
      refine wp_ite rfl (fun h3 => ?_) (fun h3 => ?_)
      · have h3' := of_decide_eq_true h3
        refine wp_call rfl (refRightM_con (s := s) hk hs (by omega)) rfl ?_
        simp only [lv_cons, lv_nil, app_cons, app_nil]
        refine wp_return rfl (bb_eq ?_)
        rw [h2, h3, decide_eq_true h1]
        rfl
      · refine wp_return rfl (bb_eq ?_)
        rw [h2, h3, decide_eq_true h1]
        rfl
    · refine wp_return rfl (bb_eq ?_)
      rw [h2, decide_eq_true h1]
      rfl
  · have h1 : ¬ h.ts.length ≤ 16 := by have := of_decide_eq_false h1; omega
    refine wp_return rfl (bb_eq ?_)
    rw [decide_eq_false h1]
    rfl
end Go.Proofs.YtngpjdieelcbmaaDoor.Sx
