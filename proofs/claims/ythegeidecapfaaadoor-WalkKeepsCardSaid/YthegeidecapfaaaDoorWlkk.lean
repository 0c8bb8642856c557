/-
  Layer 10: the law: what is handed in stays.
-/
import Derived.Test.YthegeidecapfaaaDoorWlkm
import Derived.Test.YthegeidecapfaaaDoorIrWk
namespace Go.Proofs.YthegeidecapfaaaDoor.Sx
open Go
set_option linter.unusedVariables false
set_option linter.unusedSimpArgs false
set_option maxRecDepth 100000

theorem WalkKeeps_con {k s t a : Nat} {kd m : Int} {sm mx : Bool} {cs : List Cl} (hk : Kd k cs) (hs : s < 18446744073709551616) (hC : COk cs) (ha : a < 18446744073709551616) : Cn gAll 7 [md k s cs, u t, u a, W4 kd m sm mx] [bb true] := by
  refine con rfl rfl atlaslaw10_WalkKeeps_c atlaslaw10_WalkKeeps_p rfl ?_
  unfold atlaslaw10_WalkKeeps_ir
  simp only [lv_cons, lv_nil, app_cons, app_nil]
  refine wp_call rfl awake10_con rfl ?_
  simp only [lv_cons, lv_nil, app_cons, app_nil]
  refine wp_lt (d := (.b false)) rfl ?_
  simp only [lv_cons, lv_nil, app_cons, app_nil]
  refine wp_ite (t := false) rfl (fun h => by cases h) (fun _ => ?_)
  refine wp_call rfl (fits10_con (k := k) (s := s) (cs := cs) (t := t) hk hs) rfl ?_
  simp only [lv_cons, lv_nil, app_cons, app_nil]
  refine wp_lt rfl ?_
  simp only [lv_cons, lv_nil, app_cons, app_nil]
  refine wp_ite rfl (fun hf => ?_) (fun hf => ?_)
  · refine wp_call rfl awake10_con rfl ?_
    simp only [lv_cons, lv_nil, app_cons, app_nil]
    exact wp_return rfl rfl
  have hf : (cs.length ≤ 300 ∧ rightM s cs = true) ∧ t < 17592186044416 := by simpa using hf
  obtain ⟨⟨hl, hr⟩, ht⟩ := hf
  have hR : RM s cs := right_rm.1 hr
  have hmost := hR.most
  refine wp_call rfl (refIsWay_con (k := kd) (m := m) (s := sm) (x := mx)) rfl ?_
  simp only [lv_cons, lv_nil, app_cons, app_nil]
  refine wp_lt rfl ?_
  simp only [lv_cons, lv_nil, app_cons, app_nil]
  refine wp_ite rfl (fun hf => ?_) (fun hf => ?_)
  · refine wp_call rfl awake10_con rfl ?_
    simp only [lv_cons, lv_nil, app_cons, app_nil]
    exact wp_return rfl rfl
  have hway : isWay kd m = true := by simpa using hf
  obtain ⟨hkd0, hm0⟩ := isWay_iff.1 hway
  clear hway hf
  refine wp_chk (row_room (own_cells hk rfl) (by omega)) ?_
  refine wp_lt (own_cells hk rfl) ?_
  simp only [lv_cons, lv_nil, app_cons, app_nil]
  have h1 := walkWalk_con (kk := 2) (t := t) (a := a) (k := kd) (m := m) (sm := sm) (mx := mx) (.inl rfl) hR hC (by omega) ht ha hkd0 hm0
  cases hw : walkR s cs t a kd m sm mx with
  | fault e =>
    rw [hw] at h1
    simp only [walkRs] at h1
    refine wp_call rfl h1 rfl ?_
    simp only [lv_cons, lv_nil, Pt.ds, Lf.ds, app_cons, app_nil]
    refine wp_call rfl (sameM_con (s := s) (.inl rfl) hk (by omega)) rfl ?_
    simp only [lv_cons, lv_nil, app_cons, app_nil]
    exact wp_return rfl rfl
  | leaf l0 =>
    rw [hw] at h1
    simp only [walkRs] at h1
    refine wp_call rfl h1 rfl ?_
    simp only [lv_cons, lv_nil, Pt.ds, Lf.ds, app_cons, app_nil]
    refine wp_call rfl (sameM_con (s := s) (.inl rfl) hk (by omega)) rfl ?_
    simp only [lv_cons, lv_nil, app_cons, app_nil]
    exact wp_return rfl rfl
end Go.Proofs.YthegeidecapfaaaDoor.Sx
