/-
  The law: of whatever memory: whether it is right; of a right one: loaded, stored.
-/
import Derived.Test.YtffahdloddkcfaaM1
import Derived.Test.YtffahdloddkcfaaIrMl
namespace Go.Proofs.Ytffahdloddkcfaa.Sx
open Go
set_option linter.unusedVariables false
set_option linter.unusedSimpArgs false
set_option maxRecDepth 100000

abbrev aw : List Cl := [(0, 1234605615003729920)]
theorem aw_store : storeM 8192 [] 4 4 287454020 = aw := by kernel_rfl
theorem aw_load : loadN 8192 aw 0 8 = 1234605615003729920 := by kernel_rfl
theorem aw_word : wordN 8192 aw 6 = 1234605615003729920 := by kernel_rfl
theorem aw_clr : clrM aw (0 / 8) ((0 + 8) / 8) = [] := by kernel_rfl
theorem aw_cok : COk aw := fun c hc => by rw [List.mem_singleton.1 hc]; decide
theorem aw_asc : Asc aw := List.pairwise_singleton _ _
theorem awake_con : Cn gAll 9 [] [bb true] := by
  refine con rfl rfl atlaslaw03_awake_c atlaslaw03_awake_p rfl ?_
  unfold atlaslaw03_awake_ir
  simp only [lv_cons, lv_nil, app_cons, app_nil]
  have h1 := memNew_con (n := 8192) (by decide)
  have e1 : rightM 8192 [] = true := by decide
  rw [e1, if_pos rfl] at h1
  refine wp_call rfl h1 rfl ?_
  simp only [lv_cons, lv_nil, app_cons, app_nil]
  have h2 := memNew_con (n := 5) (by decide)
  have e2 : rightM 5 [] = false := by decide
  rw [e2, if_neg (by decide)] at h2
  refine wp_call rfl h2 rfl ?_
  simp only [lv_cons, lv_nil, app_cons, app_nil]
  have h3 := memStore_ok (k := 0) (s := 8192) (a := 4) (n := 4) (v := 287454020) (cs := []) (.inr ⟨rfl, rfl⟩) .nil (fun _ h => nomatch h) (by decide) (by decide) (by decide) (by decide) (by decide)
  rw [aw_store] at h3
  refine wp_call rfl h3 rfl ?_
  simp only [lv_cons, lv_nil, app_cons, app_nil]
  have h4 := memLoad_ok (k := 2) (s := 8192) (a := 0) (n := 8) (cs := aw) (.inl rfl) aw_asc aw_cok (by decide) (by decide) (by decide) (by decide)
  rw [aw_load] at h4
  refine wp_call rfl h4 rfl ?_
  simp only [lv_cons, lv_nil, app_cons, app_nil]
  refine wp_call rfl (memLoad_bad (k := 2) (s := 8192) (a := 2) (z := 4) (cs := aw) (by decide) (by decide)) rfl ?_
  simp only [lv_cons, lv_nil, app_cons, app_nil]
  refine wp_call rfl (memLoad_bad (k := 2) (s := 8192) (a := 8192) (z := 8) (cs := aw) (by decide) (by decide)) rfl ?_
  simp only [lv_cons, lv_nil, app_cons, app_nil]
  refine wp_call rfl (memLoad_bad (k := 2) (s := 8192) (a := 0) (z := 3) (cs := aw) (by decide) (by decide)) rfl ?_
  simp only [lv_cons, lv_nil, app_cons, app_nil]
  refine wp_lt (d := .b true) rfl ?_
  simp only [lv_cons, lv_nil, app_cons, app_nil]
  refine wp_ite (t := true) rfl (fun _ => ?_) (fun h => by cases h)
  refine wp_lt (d := .b true) rfl ?_
  simp only [lv_cons, lv_nil, app_cons, app_nil]
  refine wp_ite (t := true) rfl (fun _ => ?_) (fun h => by cases h)
  refine wp_lt (d := .b true) rfl ?_
  simp only [lv_cons, lv_nil, app_cons, app_nil]
  refine wp_ite (t := true) rfl (fun _ => ?_) (fun h => by cases h)
  refine wp_lt (d := .b true) rfl ?_
  simp only [lv_cons, lv_nil, app_cons, app_nil]
  refine wp_ite (t := true) rfl (fun _ => ?_) (fun h => by cases h)
  refine wp_lt (d := .b true) rfl ?_
  simp only [lv_cons, lv_nil, app_cons, app_nil]
  refine wp_ite (t := true) rfl (fun _ => ?_) (fun h => by cases h)
  refine wp_lt (d := .b true) rfl ?_
  simp only [lv_cons, lv_nil, app_cons, app_nil]
  refine wp_ite (t := true) rfl (fun _ => ?_) (fun h => by cases h)
  refine wp_lt (d := .b true) rfl ?_
  simp only [lv_cons, lv_nil, app_cons, app_nil]
  refine wp_ite (t := true) rfl (fun _ => ?_) (fun h => by cases h)
  refine wp_lt (d := .b true) rfl ?_
  simp only [lv_cons, lv_nil, app_cons, app_nil]
  refine wp_ite (t := true) rfl (fun _ => ?_) (fun h => by cases h)
  refine wp_lt (d := I 1) rfl ?_
  simp only [lv_cons, lv_nil, app_cons, app_nil]
  refine wp_lt (d := .b true) rfl ?_
  simp only [lv_cons, lv_nil, app_cons, app_nil]
  refine wp_ite (t := true) rfl (fun _ => ?_) (fun h => by cases h)
  have h5 := memWord_con (k := 2) (s := 8192) (a := 6) (cs := aw) (.inl rfl) aw_asc (by decide) (by decide)
  rw [aw_word] at h5
  refine wp_call rfl h5 rfl ?_
  simp only [lv_cons, lv_nil, app_cons, app_nil]
  refine wp_lt (d := .b true) rfl ?_
  simp only [lv_cons, lv_nil, app_cons, app_nil]
  refine wp_ite (t := true) rfl (fun _ => ?_) (fun h => by cases h)
  have h6 := memRight_con (k := 2) (s := 8192) (cs := aw) (.inl rfl) (by decide) (by decide)
  rw [show rightM 8192 aw = true by decide] at h6
  refine wp_call rfl h6 rfl ?_
  simp only [lv_cons, lv_nil, app_cons, app_nil]
  refine wp_ite (t := true) rfl (fun _ => ?_) (fun h => by cases h)
  have h7 := memRight_con (k := 0) (s := 8) (cs := []) (.inr ⟨rfl, rfl⟩) (by decide) (by decide)
  rw [show rightM 8 [] = false by decide] at h7
  refine wp_call rfl h7 rfl ?_
  simp only [lv_cons, lv_nil, app_cons, app_nil]
  refine wp_lt (d := .b true) rfl ?_
  simp only [lv_cons, lv_nil, app_cons, app_nil]
  refine wp_ite (t := true) rfl (fun _ => ?_) (fun h => by cases h)
  have h8 := memClear_con (k := 2) (s := 8192) (a := 0) (b := 8) (cs := aw) (.inl rfl) aw_asc (by decide) (by decide)
  rw [aw_clr] at h8
  refine wp_call rfl h8 rfl ?_
  simp only [lv_cons, lv_nil, app_cons, app_nil]
  refine wp_lt (d := I 0) rfl ?_
  simp only [lv_cons, lv_nil, app_cons, app_nil]
  refine wp_lt (d := .b true) rfl ?_
  simp only [lv_cons, lv_nil, app_cons, app_nil]
  exact wp_return rfl rfl

theorem fits_con {k s : Nat} {cs : List Cl} (hk : Kd k cs) (hs : s < 18446744073709551616) : Cn gAll 21 [md k s cs] [bb (decide (cs.length ≤ 300) && rightM s cs)] := by
  refine con rfl rfl atlaslaw03_fits_c atlaslaw03_fits_p rfl ?_
  unfold atlaslaw03_fits_ir
  simp only [lv_cons, lv_nil, app_cons, app_nil]
  refine wp_call rfl (few_con (k := k) (s := s) (cs := cs)) rfl ?_
  simp only [lv_cons, lv_nil, app_cons, app_nil]
  refine wp_ite rfl (fun h => ?_) (fun h => ?_)
  · have h' := of_decide_eq_true h
    refine wp_call rfl (refRightM_con (s := s) hk hs (by omega)) rfl ?_
    simp only [lv_cons, lv_nil, app_cons, app_nil]
    refine wp_return rfl ?_
    rw [h, Bool.true_and]
  · refine wp_return rfl ?_
    rw [h, Bool.false_and]
theorem MemDoes_con {k s a v n : Nat} {z : Int} {cs : List Cl} (hk : Kd k cs) (hs : s < 18446744073709551616) (hO : COk cs) (ha : a < 18446744073709551616) (hv : v < 18446744073709551616) (hn : n < 18446744073709551616) : Cn gAll 3 [md k s cs, u a, i z, u v, u n] [bb true] := by
  refine con rfl rfl atlaslaw03_MemDoes_c atlaslaw03_MemDoes_p rfl ?_
  unfold atlaslaw03_MemDoes_ir
  simp only [lv_cons, lv_nil, app_cons, app_nil]
  refine wp_call rfl awake_con rfl ?_
  simp only [lv_cons, lv_nil, app_cons, app_nil]
  refine wp_lt (d := (.b false)) rfl ?_
  simp only [lv_cons, lv_nil, app_cons, app_nil]
  refine wp_ite (t := false) rfl (fun h => by cases h) (fun _ => ?_)
  refine wp_call rfl (few_con (k := k) (s := s) (cs := cs)) rfl ?_
  simp only [lv_cons, lv_nil, app_cons, app_nil]
  refine wp_lt rfl ?_
  simp only [lv_cons, lv_nil, app_cons, app_nil]
  refine wp_ite rfl (fun hf => ?_) (fun hf => ?_)
  · refine wp_call rfl awake_con rfl ?_
    simp only [lv_cons, lv_nil, app_cons, app_nil]
    exact wp_return rfl rfl
  have hf : cs.length ≤ 300 := by simpa using hf
  have hnew := memNew_con hn
  by_cases hrn : rightM n [] = true
  · rw [if_pos hrn] at hnew
    refine wp_call rfl hnew rfl ?_
    simp only [lv_cons, lv_nil, app_cons, app_nil]
    refine wp_call rfl (refRightM_con (k := 0) (cs := []) (s := n) (.inr ⟨rfl, rfl⟩) hn (by decide)) rfl ?_
    rw [hrn]
    simp only [lv_cons, lv_nil, app_cons, app_nil]
    refine wp_lt (d := .b true) rfl ?_
    simp only [lv_cons, lv_nil, app_cons, app_nil]
    refine wp_lt (d := .b false) rfl ?_
    simp only [lv_cons, lv_nil, app_cons, app_nil]
    refine wp_ite (t := false) rfl (fun h => by cases h) (fun _ => ?_)
    refine wp_ite (t := true) rfl (fun _ => ?_) (fun h => by cases h)
    refine wp_call rfl (sameM_con (k := 0) (k' := 0) (s := n) (cs := []) (.inr ⟨rfl, rfl⟩) (.inr ⟨rfl, rfl⟩) (by decide)) rfl ?_
    simp only [lv_cons, lv_nil, app_cons, app_nil]
    refine wp_lt (d := .b false) rfl ?_
    simp only [lv_cons, lv_nil, app_cons, app_nil]
    refine wp_ite (t := false) rfl (fun h => by cases h) (fun _ => ?_)
    refine wp_lt (d := .b false) rfl ?_
    simp only [lv_cons, lv_nil, app_cons, app_nil]
    refine wp_ite (t := false) rfl (fun h => by cases h) (fun _ => ?_)
    refine wp_call rfl (memRight_con (s := s) hk hs (by omega)) rfl ?_
    simp only [lv_cons, lv_nil, app_cons, app_nil]
    refine wp_call rfl (refRightM_con (s := s) hk hs (by omega)) rfl ?_
    simp only [lv_cons, lv_nil, app_cons, app_nil]
    refine wp_lt (d := .b false) (cmp_e (not_e (eqt_b rfl rfl)) not_id) ?_
    simp only [lv_cons, lv_nil, app_cons, app_nil]
    refine wp_ite (t := false) rfl (fun h => by cases h) (fun _ => ?_)
    refine wp_call rfl (refRightM_con (s := s) hk hs (by omega)) rfl ?_
    simp only [lv_cons, lv_nil, app_cons, app_nil]
    refine wp_lt rfl ?_
    simp only [lv_cons, lv_nil, app_cons, app_nil]
    refine wp_ite rfl (fun hr => ?_) (fun hr => ?_)
    · refine wp_call rfl (memRight_con (s := s) hk hs (by omega)) rfl ?_
      simp only [lv_cons, lv_nil, app_cons, app_nil]
      refine wp_call rfl (refRightM_con (s := s) hk hs (by omega)) rfl ?_
      simp only [lv_cons, lv_nil, app_cons, app_nil]
      refine wp_lt (d := .b true) (cmp_e (eqt_b rfl rfl) (beq_self_eq_true _)) ?_
      simp only [lv_cons, lv_nil, app_cons, app_nil]
      exact wp_return rfl rfl
    have hR : RM s cs := right_rm.1 (by simpa using hr)
    by_cases hw : wrongN s a z = 0
    · obtain ⟨q, rfl, hq, hq', haq, has⟩ := wrong_0 hw
      refine wp_call rfl (memLoad_ok hk hR.asc hO (by omega) ha hq hw) rfl ?_
      simp only [lv_cons, lv_nil, app_cons, app_nil]
      refine wp_call rfl (refLoad_ok hk hR hO (by omega) hq' haq has hw) rfl ?_
      simp only [lv_cons, lv_nil, app_cons, app_nil]
      refine wp_call rfl (memStore_ok hk hR.asc hO (by omega) ha hv hq hw) rfl ?_
      simp only [lv_cons, lv_nil, app_cons, app_nil]
      refine wp_call rfl (refStore_ok hk hR hO (by omega) hv hq' haq has hw) rfl ?_
      simp only [lv_cons, lv_nil, app_cons, app_nil]
      refine wp_lt (d := .b true) (cmp_e (e_eql rfl rfl) (beq_self_eq_true _)) ?_
      simp only [lv_cons, lv_nil, app_cons, app_nil]
      refine wp_ite (t := true) rfl (fun _ => ?_) (fun h => by cases h)
      refine wp_lt (d := .b true) (cmp_e (e_eql rfl rfl) (beq_self_eq_true _)) ?_
      simp only [lv_cons, lv_nil, app_cons, app_nil]
      refine wp_ite (t := true) rfl (fun _ => ?_) (fun h => by cases h)
      refine wp_call rfl (sameM_con (s := s) (.inl rfl) (.inl rfl) (by have := len_store (s := s) (a := a) (n := q) (v := v) (cs := cs); omega)) rfl ?_
      simp only [lv_cons, lv_nil, app_cons, app_nil]
      refine wp_ite (t := true) rfl (fun _ => ?_) (fun h => by cases h)
      refine wp_lt (d := .b true) (cmp_e (e_eql rfl rfl) (beq_self_eq_true _)) ?_
      simp only [lv_cons, lv_nil, app_cons, app_nil]
      refine wp_ite (t := true) rfl (fun _ => ?_) (fun h => by cases h)
      refine wp_call rfl (memWord_con (s := s) hk hR.asc (by omega) ha) rfl ?_
      simp only [lv_cons, lv_nil, app_cons, app_nil]
      refine wp_call rfl (refWord_con (s := s) hk hR.asc (by omega) ha) rfl ?_
      simp only [lv_cons, lv_nil, app_cons, app_nil]
      refine wp_lt (d := .b true) (cmp_e (e_eql rfl rfl) (beq_self_eq_true _)) ?_
      simp only [lv_cons, lv_nil, app_cons, app_nil]
      exact wp_return rfl rfl
    · refine wp_call rfl (memLoad_bad (k := k) ha hw) rfl ?_
      simp only [lv_cons, lv_nil, app_cons, app_nil]
      refine wp_call rfl (refLoad_bad (k := k) ha hw) rfl ?_
      simp only [lv_cons, lv_nil, app_cons, app_nil]
      refine wp_call rfl (memStore_bad (k := k) ha hw) rfl ?_
      simp only [lv_cons, lv_nil, app_cons, app_nil]
      refine wp_call rfl (refStore_bad (k := k) ha hw) rfl ?_
      simp only [lv_cons, lv_nil, app_cons, app_nil]
      refine wp_lt (d := .b true) (cmp_e (e_eql rfl rfl) (beq_self_eq_true _)) ?_
      simp only [lv_cons, lv_nil, app_cons, app_nil]
      refine wp_ite (t := true) rfl (fun _ => ?_) (fun h => by cases h)
      refine wp_lt (d := .b true) (cmp_e (e_eql rfl rfl) (beq_self_eq_true _)) ?_
      simp only [lv_cons, lv_nil, app_cons, app_nil]
      refine wp_ite (t := true) rfl (fun _ => ?_) (fun h => by cases h)
      refine wp_call rfl (sameM_con (s := s) hk hk (by omega)) rfl ?_
      simp only [lv_cons, lv_nil, app_cons, app_nil]
      refine wp_ite (t := true) rfl (fun _ => ?_) (fun h => by cases h)
      refine wp_lt (d := .b true) (cmp_e (e_eql rfl rfl) (beq_self_eq_true _)) ?_
      simp only [lv_cons, lv_nil, app_cons, app_nil]
      refine wp_ite (t := true) rfl (fun _ => ?_) (fun h => by cases h)
      refine wp_call rfl (memWord_con (s := s) hk hR.asc (by omega) ha) rfl ?_
      simp only [lv_cons, lv_nil, app_cons, app_nil]
      refine wp_call rfl (refWord_con (s := s) hk hR.asc (by omega) ha) rfl ?_
      simp only [lv_cons, lv_nil, app_cons, app_nil]
      refine wp_lt (d := .b true) (cmp_e (e_eql rfl rfl) (beq_self_eq_true _)) ?_
      simp only [lv_cons, lv_nil, app_cons, app_nil]
      exact wp_return rfl rfl
  · rw [if_neg hrn] at hnew
    have hrn : rightM n [] = false := by simpa using hrn
    refine wp_call rfl hnew rfl ?_
    simp only [lv_cons, lv_nil, app_cons, app_nil]
    refine wp_call rfl (refRightM_con (k := 0) (cs := []) (s := n) (.inr ⟨rfl, rfl⟩) hn (by decide)) rfl ?_
    rw [hrn]
    simp only [lv_cons, lv_nil, app_cons, app_nil]
    refine wp_lt (d := .b false) rfl ?_
    simp only [lv_cons, lv_nil, app_cons, app_nil]
    refine wp_lt (d := .b false) rfl ?_
    simp only [lv_cons, lv_nil, app_cons, app_nil]
    refine wp_ite (t := false) rfl (fun h => by cases h) (fun _ => ?_)
    refine wp_ite (t := false) rfl (fun h => by cases h) (fun _ => ?_)
    refine wp_lt (d := .b true) rfl ?_
    simp only [lv_cons, lv_nil, app_cons, app_nil]
    refine wp_ite (t := true) rfl (fun _ => ?_) (fun h => by cases h)
    refine wp_lt (d := .b false) rfl ?_
    simp only [lv_cons, lv_nil, app_cons, app_nil]
    refine wp_ite (t := false) rfl (fun h => by cases h) (fun _ => ?_)
    refine wp_call rfl (sameM_con (k := 0) (k' := 0) (s := 0) (cs := []) (.inr ⟨rfl, rfl⟩) (.inr ⟨rfl, rfl⟩) (by decide)) rfl ?_
    simp only [lv_cons, lv_nil, app_cons, app_nil]
    refine wp_lt (d := .b false) rfl ?_
    simp only [lv_cons, lv_nil, app_cons, app_nil]
    refine wp_ite (t := false) rfl (fun h => by cases h) (fun _ => ?_)
    refine wp_call rfl (memRight_con (s := s) hk hs (by omega)) rfl ?_
    simp only [lv_cons, lv_nil, app_cons, app_nil]
    refine wp_call rfl (refRightM_con (s := s) hk hs (by omega)) rfl ?_
    simp only [lv_cons, lv_nil, app_cons, app_nil]
    refine wp_lt (d := .b false) (cmp_e (not_e (eqt_b rfl rfl)) not_id) ?_
    simp only [lv_cons, lv_nil, app_cons, app_nil]
    refine wp_ite (t := false) rfl (fun h => by cases h) (fun _ => ?_)
    refine wp_call rfl (refRightM_con (s := s) hk hs (by omega)) rfl ?_
    simp only [lv_cons, lv_nil, app_cons, app_nil]
    refine wp_lt rfl ?_
    simp only [lv_cons, lv_nil, app_cons, app_nil]
    refine wp_ite rfl (fun hr => ?_) (fun hr => ?_)
    · refine wp_call rfl (memRight_con (s := s) hk hs (by omega)) rfl ?_
      simp only [lv_cons, lv_nil, app_cons, app_nil]
      refine wp_call rfl (refRightM_con (s := s) hk hs (by omega)) rfl ?_
      simp only [lv_cons, lv_nil, app_cons, app_nil]
      refine wp_lt (d := .b true) (cmp_e (eqt_b rfl rfl) (beq_self_eq_true _)) ?_
      simp only [lv_cons, lv_nil, app_cons, app_nil]
      exact wp_return rfl rfl
    have hR : RM s cs := right_rm.1 (by simpa using hr)
    by_cases hw : wrongN s a z = 0
    · obtain ⟨q, rfl, hq, hq', haq, has⟩ := wrong_0 hw
      refine wp_call rfl (memLoad_ok hk hR.asc hO (by omega) ha hq hw) rfl ?_
      simp only [lv_cons, lv_nil, app_cons, app_nil]
      refine wp_call rfl (refLoad_ok hk hR hO (by omega) hq' haq has hw) rfl ?_
      simp only [lv_cons, lv_nil, app_cons, app_nil]
      refine wp_call rfl (memStore_ok hk hR.asc hO (by omega) ha hv hq hw) rfl ?_
      simp only [lv_cons, lv_nil, app_cons, app_nil]
      refine wp_call rfl (refStore_ok hk hR hO (by omega) hv hq' haq has hw) rfl ?_
      simp only [lv_cons, lv_nil, app_cons, app_nil]
      refine wp_lt (d := .b true) (cmp_e (e_eql rfl rfl) (beq_self_eq_true _)) ?_
      simp only [lv_cons, lv_nil, app_cons, app_nil]
      refine wp_ite (t := true) rfl (fun _ => ?_) (fun h => by cases h)
      refine wp_lt (d := .b true) (cmp_e (e_eql rfl rfl) (beq_self_eq_true _)) ?_
      simp only [lv_cons, lv_nil, app_cons, app_nil]
      refine wp_ite (t := true) rfl (fun _ => ?_) (fun h => by cases h)
      refine wp_call rfl (sameM_con (s := s) (.inl rfl) (.inl rfl) (by have := len_store (s := s) (a := a) (n := q) (v := v) (cs := cs); omega)) rfl ?_
      simp only [lv_cons, lv_nil, app_cons, app_nil]
      refine wp_ite (t := true) rfl (fun _ => ?_) (fun h => by cases h)
      refine wp_lt (d := .b true) (cmp_e (e_eql rfl rfl) (beq_self_eq_true _)) ?_
      simp only [lv_cons, lv_nil, app_cons, app_nil]
      refine wp_ite (t := true) rfl (fun _ => ?_) (fun h => by cases h)
      refine wp_call rfl (memWord_con (s := s) hk hR.asc (by omega) ha) rfl ?_
      simp only [lv_cons, lv_nil, app_cons, app_nil]
      refine wp_call rfl (refWord_con (s := s) hk hR.asc (by omega) ha) rfl ?_
      simp only [lv_cons, lv_nil, app_cons, app_nil]
      refine wp_lt (d := .b true) (cmp_e (e_eql rfl rfl) (beq_self_eq_true _)) ?_
      simp only [lv_cons, lv_nil, app_cons, app_nil]
      exact wp_return rfl rfl
    · refine wp_call rfl (memLoad_bad (k := k) ha hw) rfl ?_
      simp only [lv_cons, lv_nil, app_cons, app_nil]
      refine wp_call rfl (refLoad_bad (k := k) ha hw) rfl ?_
      simp only [lv_cons, lv_nil, app_cons, app_nil]
      refine wp_call rfl (memStore_bad (k := k) ha hw) rfl ?_
      simp only [lv_cons, lv_nil, app_cons, app_nil]
      refine wp_call rfl (refStore_bad (k := k) ha hw) rfl ?_
      simp only [lv_cons, lv_nil, app_cons, app_nil]
      refine wp_lt (d := .b true) (cmp_e (e_eql rfl rfl) (beq_self_eq_true _)) ?_
      simp only [lv_cons, lv_nil, app_cons, app_nil]
      refine wp_ite (t := true) rfl (fun _ => ?_) (fun h => by cases h)
      refine wp_lt (d := .b true) (cmp_e (e_eql rfl rfl) (beq_self_eq_true _)) ?_
      simp only [lv_cons, lv_nil, app_cons, app_nil]
      refine wp_ite (t := true) rfl (fun _ => ?_) (fun h => by cases h)
      refine wp_call rfl (sameM_con (s := s) hk hk (by omega)) rfl ?_
      simp only [lv_cons, lv_nil, app_cons, app_nil]
      refine wp_ite (t := true) rfl (fun _ => ?_) (fun h => by cases h)
      refine wp_lt (d := .b true) (cmp_e (e_eql rfl rfl) (beq_self_eq_true _)) ?_
      simp only [lv_cons, lv_nil, app_cons, app_nil]
      refine wp_ite (t := true) rfl (fun _ => ?_) (fun h => by cases h)
      refine wp_call rfl (memWord_con (s := s) hk hR.asc (by omega) ha) rfl ?_
      simp only [lv_cons, lv_nil, app_cons, app_nil]
      refine wp_call rfl (refWord_con (s := s) hk hR.asc (by omega) ha) rfl ?_
      simp only [lv_cons, lv_nil, app_cons, app_nil]
      refine wp_lt (d := .b true) (cmp_e (e_eql rfl rfl) (beq_self_eq_true _)) ?_
      simp only [lv_cons, lv_nil, app_cons, app_nil]
      exact wp_return rfl rfl
end Go.Proofs.Ytffahdloddkcfaa.Sx
