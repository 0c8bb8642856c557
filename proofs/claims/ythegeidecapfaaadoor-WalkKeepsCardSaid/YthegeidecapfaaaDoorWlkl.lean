/-
  Layer 10: the laws: looking, walking, near addresses.
-/
import Derived.Test.YthegeidecapfaaaDoorWlkf
import Derived.Test.YthegeidecapfaaaDoorMems
import Derived.Test.YthegeidecapfaaaDoorIrWl
namespace Go.Proofs.YthegeidecapfaaaDoor.Sx
open Go
set_option linter.unusedVariables false
set_option linter.unusedSimpArgs false
set_option maxRecDepth 100000

abbrev aw10 : List Cl := [(0, 3), (1, 1025), (512, 101377)]
theorem aw10_cok : COk aw10 := fun c hc => by
  rcases List.mem_cons.1 hc with rfl | hc
  · decide
  rcases List.mem_cons.1 hc with rfl | hc
  · decide
  rw [List.mem_singleton.1 hc]
  decide
theorem aw10_rm : RM 8192 aw10 := right_rm.1 (by decide)
abbrev awL : Lf := ⟨2, 0, ⟨true, true, false, false, false, false, false, false, 0, 0, 0⟩⟩
theorem awl_1 : lookW 8192 aw10 0 5 = .leaf awL := by kernel_rfl
theorem awl_2 : lookW 8192 aw10 0 1073741824 = .fault 2 := by kernel_rfl
theorem awl_3 : lookW 8192 aw10 0 274877906944 = .fault 3 := by kernel_rfl
theorem awl_4 : lookW 8192 aw10 0 2147483648 = .fault 3 := by kernel_rfl
theorem awl_5 : walkR 8192 aw10 0 5 1 1 false false = .leaf awL := by kernel_rfl
theorem awl_6 : walkR 8192 aw10 0 5 2 1 false false = .fault 3 := by kernel_rfl
theorem awl_7 : markM 8192 aw10 0 (((1 : Int) == 2)) = [(0, 67), (1, 1025), (512, 101377)] := by kernel_rfl
theorem awl_8 : markL 8192 aw10 awL (((1 : Int) == 2)) = ⟨2, 0, ⟨true, true, false, false, false, false, true, false, 0, 0, 0⟩⟩ := by kernel_rfl
theorem awake10_con : Cn gAll 9 [] [bb true] := by
  refine con rfl rfl atlaslaw10_awake_c atlaslaw10_awake_p rfl ?_
  unfold atlaslaw10_awake_ir
  simp only [lv_cons, lv_nil, app_cons, app_nil]
  have h1 := walkLook_con (k := 2) (s := 8192) (cs := aw10) (t := 0) (a := 5) (kd := 1) (.inl rfl) aw10_rm aw10_cok (by decide) (by decide) (by decide) (by simp [Kn])
  rw [awl_1] at h1
  refine wp_call rfl h1 rfl ?_
  simp only [Lk.rs]
  simp only [lv_cons, lv_nil, Pt.ds, Lf.ds, app_cons, app_nil]
  repeat' first | refine wp_chk (eqs_b rfl rfl) ?_ | refine wp_chk (eqs_i rfl rfl) ?_
  have w1 := walkWalk_con (kk := 2) (s := 8192) (cs := aw10) (t := 0) (a := 5) (k := 1) (m := 1) (sm := false) (mx := false) (.inl rfl) aw10_rm aw10_cok (by decide) (by decide) (by decide) (by simp [Kn]) (by simp [Pv])
  rw [awl_5] at w1
  simp only [walkRs] at w1
  rw [awl_7, awl_8] at w1
  refine wp_call rfl w1 rfl ?_
  simp only [lv_cons, lv_nil, Pt.ds, Lf.ds, app_cons, app_nil]
  have w2 := walkWalk_con (kk := 2) (s := 8192) (cs := aw10) (t := 0) (a := 5) (k := 2) (m := 1) (sm := false) (mx := false) (.inl rfl) aw10_rm aw10_cok (by decide) (by decide) (by decide) (by simp [Kn]) (by simp [Pv])
  rw [awl_6] at w2
  simp only [walkRs] at w2
  refine wp_call rfl w2 rfl ?_
  simp only [lv_cons, lv_nil, Pt.ds, Lf.ds, app_cons, app_nil]
  have h2 := walkLook_con (k := 2) (s := 8192) (cs := aw10) (t := 0) (a := 1073741824) (kd := 1) (.inl rfl) aw10_rm aw10_cok (by decide) (by decide) (by decide) (by simp [Kn])
  rw [awl_2] at h2
  refine wp_call rfl h2 rfl ?_
  simp only [Lk.rs]
  simp only [lv_cons, lv_nil, Pt.ds, Lf.ds, app_cons, app_nil]
  repeat' first | refine wp_chk (eqs_b rfl rfl) ?_ | refine wp_chk (eqs_i rfl rfl) ?_
  have h3 := walkLook_con (k := 2) (s := 8192) (cs := aw10) (t := 0) (a := 274877906944) (kd := 0) (.inl rfl) aw10_rm aw10_cok (by decide) (by decide) (by decide) (by simp [Kn])
  rw [awl_3] at h3
  refine wp_call rfl h3 rfl ?_
  simp only [Lk.rs]
  simp only [lv_cons, lv_nil, Pt.ds, Lf.ds, app_cons, app_nil]
  repeat' first | refine wp_chk (eqs_b rfl rfl) ?_ | refine wp_chk (eqs_i rfl rfl) ?_
  have h4 := walkLook_con (k := 2) (s := 8192) (cs := aw10) (t := 0) (a := 2147483648) (kd := 0) (.inl rfl) aw10_rm aw10_cok (by decide) (by decide) (by decide) (by simp [Kn])
  rw [awl_4] at h4
  refine wp_call rfl h4 rfl ?_
  simp only [Lk.rs]
  simp only [lv_cons, lv_nil, Pt.ds, Lf.ds, app_cons, app_nil]
  repeat' first | refine wp_chk (eqs_b rfl rfl) ?_ | refine wp_chk (eqs_i rfl rfl) ?_
  refine wp_lt (d := .b true) rfl ?_
  simp only [lv_cons, lv_nil, app_cons, app_nil]
  refine wp_ite (t := true) rfl (fun _ => ?_) (fun h => by cases h)
  refine wp_lt (d := .b true) rfl ?_
  simp only [lv_cons, lv_nil, app_cons, app_nil]
  refine wp_ite (t := true) rfl (fun _ => ?_) (fun h => by cases h)
  refine wp_lt (d := .b true) rfl ?_
  simp only [lv_cons, lv_nil, app_cons, app_nil]
  refine wp_ite (t := true) rfl (fun _ => ?_) (fun h => by cases h)
  refine wp_call rfl (phys_con (l := awL) (a := 5) (by decide) (by decide) (by decide)) rfl ?_
  simp only [lv_cons, lv_nil, app_cons, app_nil]
  refine wp_lt (d := .b true) rfl ?_
  simp only [lv_cons, lv_nil, app_cons, app_nil]
  refine wp_ite (t := true) rfl (fun _ => ?_) (fun h => by cases h)
  refine wp_lt (d := .b true) rfl ?_
  simp only [lv_cons, lv_nil, app_cons, app_nil]
  refine wp_ite (t := true) rfl (fun _ => ?_) (fun h => by cases h)
  refine wp_ite (t := true) rfl (fun _ => ?_) (fun h => by cases h)
  refine wp_lt (d := .b true) rfl ?_
  simp only [lv_cons, lv_nil, app_cons, app_nil]
  refine wp_ite (t := true) rfl (fun _ => ?_) (fun h => by cases h)
  refine wp_lt (d := I 3) rfl ?_
  simp only [lv_cons, lv_nil, app_cons, app_nil]
  refine wp_lt (d := .b true) rfl ?_
  simp only [lv_cons, lv_nil, app_cons, app_nil]
  refine wp_ite (t := true) rfl (fun _ => ?_) (fun h => by cases h)
  refine wp_chk rfl ?_
  refine wp_lt (d := .b true) rfl ?_
  simp only [lv_cons, lv_nil, app_cons, app_nil]
  refine wp_ite (t := true) rfl (fun _ => ?_) (fun h => by cases h)
  refine wp_lt (d := .b true) rfl ?_
  simp only [lv_cons, lv_nil, app_cons, app_nil]
  refine wp_ite (t := true) rfl (fun _ => ?_) (fun h => by cases h)
  refine wp_lt (d := .b true) rfl ?_
  simp only [lv_cons, lv_nil, app_cons, app_nil]
  refine wp_ite (t := true) rfl (fun _ => ?_) (fun h => by cases h)
  refine wp_lt (d := .b true) rfl ?_
  simp only [lv_cons, lv_nil, app_cons, app_nil]
  refine wp_ite (t := true) rfl (fun _ => ?_) (fun h => by cases h)
  refine wp_lt (d := .b true) rfl ?_
  simp only [lv_cons, lv_nil, app_cons, app_nil]
  refine wp_ite (t := true) rfl (fun _ => ?_) (fun h => by cases h)
  refine wp_lt (d := .b true) rfl ?_
  simp only [lv_cons, lv_nil, app_cons, app_nil]
  refine wp_ite (t := true) rfl (fun _ => ?_) (fun h => by cases h)
  exact wp_return rfl rfl
theorem fits10_con {k s t : Nat} {cs : List Cl} (hk : Kd k cs) (hs : s < 18446744073709551616) : Cn gAll 10 [md k s cs, u t] [bb (decide (cs.length ≤ 300) && rightM s cs && decide (t < 17592186044416))] := by
  refine con rfl rfl atlaslaw10_fits_c atlaslaw10_fits_p rfl ?_
  unfold atlaslaw10_fits_ir
  simp only [lv_cons, lv_nil, app_cons, app_nil]
  refine wp_call rfl (few_con (k := k) (s := s) (cs := cs)) rfl ?_
  simp only [lv_cons, lv_nil, app_cons, app_nil]
  refine wp_ite rfl (fun h => ?_) (fun h => ?_)
  · have h' := of_decide_eq_true h
    refine wp_call rfl (refRightM_con (s := s) hk hs (by omega)) rfl ?_
    simp only [lv_cons, lv_nil, app_cons, app_nil]
    refine wp_ite rfl (fun h2 => ?_) (fun h2 => ?_)
    · refine wp_lt (e_lss rfl rfl) ?_
      simp only [lv_cons, lv_nil, app_cons, app_nil]
      refine wp_return rfl (bb_iff ?_)
      rw [h, h2]
      simp only [Bool.true_and, decide_eq_true_eq]
      omega
    · refine wp_return rfl ?_
      rw [h, h2]
      rfl
  · refine wp_return rfl ?_
    rw [h]
    rfl
theorem kn_of {q : Nat} : Kn ((q % 3 : Nat) : Int) := by unfold Kn; omega
theorem WalkLooks_con {k s t a q : Nat} {cs : List Cl} (hk : Kd k cs) (hs : s < 18446744073709551616) (hC : COk cs) (ha : a < 18446744073709551616) : Cn gAll 3 [md k s cs, u t, u a, (false, [.i .u8 (q : Int)])] [bb true] := by
  refine con rfl rfl atlaslaw10_WalkLooks_c atlaslaw10_WalkLooks_p rfl ?_
  unfold atlaslaw10_WalkLooks_ir
  simp only [lv_cons, lv_nil, app_cons, app_nil]
  refine wp_call rfl awake10_con rfl ?_
  simp only [lv_cons, lv_nil, app_cons, app_nil]
  refine wp_lt (d := (.b false)) rfl ?_
  simp only [lv_cons, lv_nil, app_cons, app_nil]
  refine wp_ite (t := false) rfl (fun h => by cases h) (fun _ => ?_)
  refine wp_call rfl (fits10_con (k := k) (s := s) (cs := cs) (t := t) hk hs) rfl ?_
  simp only [lv_cons, lv_nil, app_cons, app_nil]
  refine wp_lt rfl ?_
  simp only [lv_cons, lv_nil, app_cons, app_nil]
  refine wp_ite rfl (fun hf => ?_) (fun hf => ?_)
  · refine wp_call rfl awake10_con rfl ?_
    simp only [lv_cons, lv_nil, app_cons, app_nil]
    exact wp_return rfl rfl
  have hf : (cs.length ≤ 300 ∧ rightM s cs = true) ∧ t < 17592186044416 := by simpa using hf
  obtain ⟨⟨hl, hr⟩, ht⟩ := hf
  have hR : RM s cs := right_rm.1 hr
  have hmost := hR.most
  refine wp_lt (rem8 (a := q) (m := 3) rfl (by decide)) ?_
  simp only [lv_cons, lv_nil, app_cons, app_nil]
  refine wp_lt (cv_i (n := ((q % 3 : Nat) : Int)) rfl (by omega) (by omega)) ?_
  simp only [lv_cons, lv_nil, app_cons, app_nil]
  have h1 := walkLook_con (t := t) (a := a) (kd := ((q % 3 : Nat) : Int)) hk hR hC (by omega) ht ha kn_of
  have h2 := refLook_con (t := t) (a := a) (kd := ((q % 3 : Nat) : Int)) hk hR hC (by omega) ht ha kn_of
  cases hlk : lookW s cs t a with
  | fault e =>
    rw [hlk] at h1 h2
    simp only [Lk.rs] at h1 h2
    refine wp_call rfl h1 rfl ?_
    simp only [lv_cons, lv_nil, Pt.ds, Lf.ds, app_cons, app_nil]
    refine wp_lt (rem8 (a := q) (m := 3) rfl (by decide)) ?_
    simp only [lv_cons, lv_nil, app_cons, app_nil]
    refine wp_lt (cv_i (n := ((q % 3 : Nat) : Int)) rfl (by omega) (by omega)) ?_
    simp only [lv_cons, lv_nil, app_cons, app_nil]
    refine wp_call rfl h2 rfl ?_
    simp only [lv_cons, lv_nil, Pt.ds, Lf.ds, app_cons, app_nil]
    refine wp_lt (d := .b true) (by repeat' first | refine ite_t (eqs_b rfl rfl) ?_ | refine ite_t (eqs_i rfl rfl) ?_ | exact rfl) ?_
    simp only [lv_cons, lv_nil, app_cons, app_nil]
    refine wp_ite (t := true) rfl (fun _ => ?_) (fun h => by cases h)
    refine wp_lt (d := .b true) (by repeat' first | refine ite_t (eqs_b rfl rfl) ?_ | refine ite_t (eqs_i rfl rfl) ?_ | exact rfl) ?_
    simp only [lv_cons, lv_nil, app_cons, app_nil]
    refine wp_ite (t := true) rfl (fun _ => ?_) (fun h => by cases h)
    refine wp_ite (t := true) rfl (fun _ => ?_) (fun h => by cases h)
    exact wp_return rfl rfl
  | leaf l =>
    have hl := (look_leaf hlk).2
    have hppn : l.pt.ppn < 17592186044416 := by
      obtain ⟨g, hg⟩ := hl.pt
      rw [hg]
      exact (ptN_may (wordN_lt hC)).2.1
    rw [hlk] at h1 h2
    simp only [Lk.rs] at h1 h2
    refine wp_call rfl h1 rfl ?_
    simp only [lv_cons, lv_nil, Pt.ds, Lf.ds, app_cons, app_nil]
    refine wp_lt (rem8 (a := q) (m := 3) rfl (by decide)) ?_
    simp only [lv_cons, lv_nil, app_cons, app_nil]
    refine wp_lt (cv_i (n := ((q % 3 : Nat) : Int)) rfl (by omega) (by omega)) ?_
    simp only [lv_cons, lv_nil, app_cons, app_nil]
    refine wp_call rfl h2 rfl ?_
    simp only [lv_cons, lv_nil, Pt.ds, Lf.ds, app_cons, app_nil]
    refine wp_lt (d := .b true) (by repeat' first | refine ite_t (eqs_b rfl rfl) ?_ | refine ite_t (eqs_i rfl rfl) ?_ | exact rfl) ?_
    simp only [lv_cons, lv_nil, app_cons, app_nil]
    refine wp_ite (t := true) rfl (fun _ => ?_) (fun h => by cases h)
    refine wp_lt (d := .b true) (by repeat' first | refine ite_t (eqs_b rfl rfl) ?_ | refine ite_t (eqs_i rfl rfl) ?_ | exact rfl) ?_
    simp only [lv_cons, lv_nil, app_cons, app_nil]
    refine wp_ite (t := true) rfl (fun _ => ?_) (fun h => by cases h)
    refine wp_ite (t := false) rfl (fun h => by cases h) (fun _ => ?_)
    refine wp_call rfl (phys_con (a := a) hppn hl.lv ha) rfl ?_
    simp only [lv_cons, lv_nil, app_cons, app_nil]
    refine wp_call rfl (refPhys_con (a := a) hppn hl.lv) rfl ?_
    simp only [lv_cons, lv_nil, app_cons, app_nil]
    generalize physN l a = z
    refine wp_lt (d := .b true) (cmp_e (e_eql rfl rfl) (beq_self_eq_true _)) ?_
    simp only [lv_cons, lv_nil, app_cons, app_nil]
    exact wp_return rfl rfl
end Go.Proofs.YthegeidecapfaaaDoor.Sx
