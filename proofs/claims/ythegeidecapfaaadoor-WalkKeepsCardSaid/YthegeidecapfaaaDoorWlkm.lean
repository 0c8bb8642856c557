/-
  Layer 10: the laws: walking, near addresses, ways.
-/
import Derived.Test.YthegeidecapfaaaDoorWlkl
namespace Go.Proofs.YthegeidecapfaaaDoor.Sx
open Go
set_option linter.unusedVariables false
set_option linter.unusedSimpArgs false
set_option maxRecDepth 100000

theorem WalkWalks_con {k s t a : Nat} {kd m : Int} {sm mx d : Bool} {cs : List Cl} (hk : Kd k cs) (hs : s < 18446744073709551616) (hC : COk cs) (ha : a < 18446744073709551616) : Cn gAll 4 [md k s cs, u t, u a, W4 kd m sm mx, bb d] [bb true] := by
  refine con rfl rfl atlaslaw10_WalkWalks_c atlaslaw10_WalkWalks_p rfl ?_
  unfold atlaslaw10_WalkWalks_ir
  simp only [lv_cons, lv_nil, app_cons, app_nil]
  refine wp_call rfl awake10_con rfl ?_
  simp only [lv_cons, lv_nil, app_cons, app_nil]
  refine wp_lt (d := (.b false)) rfl ?_
  simp only [lv_cons, lv_nil, app_cons, app_nil]
  refine wp_ite (t := false) rfl (fun h => by cases h) (fun _ => ?_)
  refine wp_call rfl (fits10_con (k := k) (s := s) (cs := cs) (t := t) hk hs) rfl ?_
  simp only [lv_cons, lv_nil, app_cons, app_nil]
  refine wp_lt rfl ?_
  simp only [lv_cons, lv_nil, app_cons, app_nil]
  refine wp_ite rfl (fun hf => ?_) (fun hf => ?_)
  · refine wp_call rfl awake10_con rfl ?_
    simp only [lv_cons, lv_nil, app_cons, app_nil]
    exact wp_return rfl rfl
  have hf : (cs.length ≤ 300 ∧ rightM s cs = true) ∧ t < 17592186044416 := by simpa using hf
  obtain ⟨⟨hl, hr⟩, ht⟩ := hf
  have hR : RM s cs := right_rm.1 hr
  have hmost := hR.most
  refine wp_call rfl (refIsWay_con (k := kd) (m := m) (s := sm) (x := mx)) rfl ?_
  simp only [lv_cons, lv_nil, app_cons, app_nil]
  refine wp_lt rfl ?_
  simp only [lv_cons, lv_nil, app_cons, app_nil]
  refine wp_ite rfl (fun hf => ?_) (fun hf => ?_)
  · refine wp_call rfl awake10_con rfl ?_
    simp only [lv_cons, lv_nil, app_cons, app_nil]
    exact wp_return rfl rfl
  have hway : isWay kd m = true := by simpa using hf
  obtain ⟨hkd0, hm0⟩ := isWay_iff.1 hway
  clear hway hf
  have h1 := walkWalk_con (t := t) (a := a) (k := kd) (m := m) (sm := sm) (mx := mx) hk hR hC (by omega) ht ha hkd0 hm0
  have h2 := refWalk_con (t := t) (a := a) (k := kd) (m := m) (sm := sm) (mx := mx) hk hR hC (by omega) ht ha hkd0 hm0
  have h3 := refLook_con (t := t) (a := a) (kd := kd) hk hR hC (by omega) ht ha hkd0
  cases hw : walkR s cs t a kd m sm mx with
  | fault e =>
    rw [hw] at h1 h2
    simp only [walkRs] at h1 h2
    refine wp_call rfl h1 rfl ?_
    simp only [lv_cons, lv_nil, Pt.ds, Lf.ds, app_cons, app_nil]
    refine wp_call rfl h2 rfl ?_
    simp only [lv_cons, lv_nil, Pt.ds, Lf.ds, app_cons, app_nil]
    refine wp_call rfl (sameM_con (s := s) hk hk (by omega)) rfl ?_
    simp only [lv_cons, lv_nil, app_cons, app_nil]
    refine wp_lt (d := .b false) rfl ?_
    simp only [lv_cons, lv_nil, app_cons, app_nil]
    refine wp_ite (t := false) rfl (fun h => by cases h) (fun _ => ?_)
    refine wp_lt (d := .b false) (not_e (t := true) (by repeat' first | refine ite_t (eqs_b rfl rfl) ?_ | refine ite_t (eqs_i rfl rfl) ?_ | exact rfl)) ?_
    simp only [lv_cons, lv_nil, app_cons, app_nil]
    refine wp_ite (t := false) rfl (fun h => by cases h) (fun _ => ?_)
    refine wp_lt (d := .b false) (not_e (t := true) (by repeat' first | refine ite_t (eqs_b rfl rfl) ?_ | refine ite_t (eqs_i rfl rfl) ?_ | exact rfl)) ?_
    simp only [lv_cons, lv_nil, app_cons, app_nil]
    refine wp_ite (t := false) rfl (fun h => by cases h) (fun _ => ?_)
    cases hlk : lookW s cs t a with
    | fault e =>
      rw [hlk] at h3
      simp only [Lk.rs] at h3
      refine wp_call rfl h3 rfl ?_
      simp only [lv_cons, lv_nil, Pt.ds, Lf.ds, app_cons, app_nil]
      refine wp_ite (t := true) rfl (fun _ => ?_) (fun h => by cases h)
      exact wp_return rfl rfl
    | leaf l =>
      have hl := (look_leaf hlk).2
      rw [hlk] at h3
      simp only [Lk.rs] at h3
      refine wp_call rfl h3 rfl ?_
      simp only [lv_cons, lv_nil, Pt.ds, Lf.ds, app_cons, app_nil]
      refine wp_ite (t := false) rfl (fun h => by cases h) (fun _ => ?_)
      refine wp_call rfl (walkMark_con (l := l) (d := d) hk hR hC (by omega) hl.al hl.low) rfl ?_
      simp only [lv_cons, lv_nil, Pt.ds, Lf.ds, app_cons, app_nil]
      refine wp_call rfl (refMark_con (l := l) (d := d) hk hR hC (by omega) hl.al hl.low) rfl ?_
      simp only [lv_cons, lv_nil, Pt.ds, Lf.ds, app_cons, app_nil]
      refine wp_call rfl (sameM_con (s := s) (.inl rfl) (.inl rfl) (by have := len_mark (s := s) (cs := cs) (pl := l.pl) (d := d); omega)) rfl ?_
      simp only [lv_cons, lv_nil, app_cons, app_nil]
      refine wp_ite (t := true) rfl (fun _ => ?_) (fun h => by cases h)
      refine wp_lt (d := .b true) (by repeat' first | refine ite_t (eqs_b rfl rfl) ?_ | refine ite_t (eqs_i rfl rfl) ?_ | exact rfl) ?_
      simp only [lv_cons, lv_nil, app_cons, app_nil]
      exact wp_return rfl rfl
  | leaf l0 =>
    rw [hw] at h1 h2
    simp only [walkRs] at h1 h2
    refine wp_call rfl h1 rfl ?_
    simp only [lv_cons, lv_nil, Pt.ds, Lf.ds, app_cons, app_nil]
    refine wp_call rfl h2 rfl ?_
    simp only [lv_cons, lv_nil, Pt.ds, Lf.ds, app_cons, app_nil]
    refine wp_call rfl (sameM_con (s := s) (.inl rfl) (.inl rfl) (by have := len_mark (s := s) (cs := cs) (pl := l0.pl) (d := kd == 2); omega)) rfl ?_
    simp only [lv_cons, lv_nil, app_cons, app_nil]
    refine wp_lt (d := .b false) rfl ?_
    simp only [lv_cons, lv_nil, app_cons, app_nil]
    refine wp_ite (t := false) rfl (fun h => by cases h) (fun _ => ?_)
    refine wp_lt (d := .b false) (not_e (t := true) (by repeat' first | refine ite_t (eqs_b rfl rfl) ?_ | refine ite_t (eqs_i rfl rfl) ?_ | exact rfl)) ?_
    simp only [lv_cons, lv_nil, app_cons, app_nil]
    refine wp_ite (t := false) rfl (fun h => by cases h) (fun _ => ?_)
    refine wp_lt (d := .b false) (not_e (t := true) (by repeat' first | refine ite_t (eqs_b rfl rfl) ?_ | refine ite_t (eqs_i rfl rfl) ?_ | exact rfl)) ?_
    simp only [lv_cons, lv_nil, app_cons, app_nil]
    refine wp_ite (t := false) rfl (fun h => by cases h) (fun _ => ?_)
    cases hlk : lookW s cs t a with
    | fault e =>
      rw [hlk] at h3
      simp only [Lk.rs] at h3
      refine wp_call rfl h3 rfl ?_
      simp only [lv_cons, lv_nil, Pt.ds, Lf.ds, app_cons, app_nil]
      refine wp_ite (t := true) rfl (fun _ => ?_) (fun h => by cases h)
      exact wp_return rfl rfl
    | leaf l =>
      have hl := (look_leaf hlk).2
      rw [hlk] at h3
      simp only [Lk.rs] at h3
      refine wp_call rfl h3 rfl ?_
      simp only [lv_cons, lv_nil, Pt.ds, Lf.ds, app_cons, app_nil]
      refine wp_ite (t := false) rfl (fun h => by cases h) (fun _ => ?_)
      refine wp_call rfl (walkMark_con (l := l) (d := d) hk hR hC (by omega) hl.al hl.low) rfl ?_
      simp only [lv_cons, lv_nil, Pt.ds, Lf.ds, app_cons, app_nil]
      refine wp_call rfl (refMark_con (l := l) (d := d) hk hR hC (by omega) hl.al hl.low) rfl ?_
      simp only [lv_cons, lv_nil, Pt.ds, Lf.ds, app_cons, app_nil]
      refine wp_call rfl (sameM_con (s := s) (.inl rfl) (.inl rfl) (by have := len_mark (s := s) (cs := cs) (pl := l.pl) (d := d); omega)) rfl ?_
      simp only [lv_cons, lv_nil, app_cons, app_nil]
      refine wp_ite (t := true) rfl (fun _ => ?_) (fun h => by cases h)
      refine wp_lt (d := .b true) (by repeat' first | refine ite_t (eqs_b rfl rfl) ?_ | refine ite_t (eqs_i rfl rfl) ?_ | exact rfl) ?_
      simp only [lv_cons, lv_nil, app_cons, app_nil]
      exact wp_return rfl rfl

theorem u_subw {ρ : List D} {x y : Ex} {a b : Nat} (hx : x.eval ρ = some (U a)) (hy : y.eval ρ = some (U b)) : (Ex.bin .sub x y).eval ρ = some (.i .u64 (IntKind.u64.wrap ((a : Int) - (b : Int)))) := by
  simp [Ex.eval, hx, hy, binD]
theorem refBase_con {a : Nat} {l : Int} (ha : a < 18446744073709551616) (h : Lv l) : Cn gAll 26 [u a, i l] [u (a / szN l * szN l)] := by
  refine con rfl rfl atlasref05_Base_c atlasref05_Base_p rfl ?_
  unfold atlasref05_Base_ir
  simp only [lv_cons, lv_nil, app_cons, app_nil]
  refine wp_call rfl (refSize_con h) rfl ?_
  simp only [lv_cons, lv_nil, app_cons, app_nil]
  refine wp_lt (u_quo rfl rfl (by have := szN_pos (l := l); omega) ha) ?_
  simp only [lv_cons, lv_nil, app_cons, app_nil]
  refine wp_call rfl (refSize_con h) rfl ?_
  simp only [lv_cons, lv_nil, app_cons, app_nil]
  refine wp_lt (u_mul rfl rfl (Nat.lt_of_le_of_lt (Nat.div_mul_le_self _ _) ha)) ?_
  simp only [lv_cons, lv_nil, app_cons, app_nil]
  exact wp_return rfl rfl
theorem base_top {a x : Nat} {l : Int} (h : Lv l) (ha : a < 18446744073709551616) (hx : x < szN l) : a / szN l * szN l + x < 18446744073709551616 := by
  rcases h with rfl | rfl | rfl
  · have : szN 0 = 4096 := rfl
    rw [this] at hx ⊢
    omega
  · have : szN 1 = 2097152 := rfl
    rw [this] at hx ⊢
    omega
  · have : szN 2 = 1073741824 := rfl
    rw [this] at hx ⊢
    omega
theorem WalkNear_con {k s t a o q q' : Nat} {cs : List Cl} (hk : Kd k cs) (hs : s < 18446744073709551616) (hC : COk cs) (ha : a < 18446744073709551616) (ho : o < 18446744073709551616) : Cn gAll 6 [md k s cs, u t, u a, u o, (false, [.i .u8 (q : Int)]), (false, [.i .u8 (q' : Int)])] [bb true] := by
  refine con rfl rfl atlaslaw10_WalkNear_c atlaslaw10_WalkNear_p rfl ?_
  unfold atlaslaw10_WalkNear_ir
  simp only [lv_cons, lv_nil, app_cons, app_nil]
  refine wp_call rfl awake10_con rfl ?_
  simp only [lv_cons, lv_nil, app_cons, app_nil]
  refine wp_lt (d := (.b false)) rfl ?_
  simp only [lv_cons, lv_nil, app_cons, app_nil]
  refine wp_ite (t := false) rfl (fun h => by cases h) (fun _ => ?_)
  refine wp_call rfl (fits10_con (k := k) (s := s) (cs := cs) (t := t) hk hs) rfl ?_
  simp only [lv_cons, lv_nil, app_cons, app_nil]
  refine wp_lt rfl ?_
  simp only [lv_cons, lv_nil, app_cons, app_nil]
  refine wp_ite rfl (fun hf => ?_) (fun hf => ?_)
  · refine wp_call rfl awake10_con rfl ?_
    simp only [lv_cons, lv_nil, app_cons, app_nil]
    exact wp_return rfl rfl
  have hf : (cs.length ≤ 300 ∧ rightM s cs = true) ∧ t < 17592186044416 := by simpa using hf
  obtain ⟨⟨hl, hr⟩, ht⟩ := hf
  have hR : RM s cs := right_rm.1 hr
  have hmost := hR.most
  refine wp_lt (rem8 (a := q) (m := 3) rfl (by decide)) ?_
  simp only [lv_cons, lv_nil, app_cons, app_nil]
  refine wp_lt (cv_i (n := ((q % 3 : Nat) : Int)) rfl (by omega) (by omega)) ?_
  simp only [lv_cons, lv_nil, app_cons, app_nil]
  have h1 := walkLook_con (t := t) (a := a) (kd := ((q % 3 : Nat) : Int)) hk hR hC (by omega) ht ha kn_of
  have h2 := walkLook_con (t := t) (a := a) (kd := ((q' % 3 : Nat) : Int)) hk hR hC (by omega) ht ha kn_of
  cases hlk : lookW s cs t a with
  | fault e =>
    have he := look_fault hlk
    rw [hlk] at h1 h2
    simp only [Lk.rs] at h1 h2
    refine wp_call rfl h1 rfl ?_
    simp only [lv_cons, lv_nil, Pt.ds, Lf.ds, app_cons, app_nil]
    refine wp_lt (rem8 (a := q') (m := 3) rfl (by decide)) ?_
    simp only [lv_cons, lv_nil, app_cons, app_nil]
    refine wp_lt (cv_i (n := ((q' % 3 : Nat) : Int)) rfl (by omega) (by omega)) ?_
    simp only [lv_cons, lv_nil, app_cons, app_nil]
    refine wp_call rfl h2 rfl ?_
    simp only [lv_cons, lv_nil, Pt.ds, Lf.ds, app_cons, app_nil]
    refine wp_lt (d := .b false) rfl ?_
    simp only [lv_cons, lv_nil, app_cons, app_nil]
    refine wp_ite (t := false) rfl (fun h => by cases h) (fun _ => ?_)
    refine wp_lt (d := .b false) (not_e (t := true) (by repeat' first | refine ite_t (eqs_b rfl rfl) ?_ | refine ite_t (eqs_i rfl rfl) ?_ | exact rfl)) ?_
    simp only [lv_cons, lv_nil, app_cons, app_nil]
    refine wp_ite (t := false) rfl (fun h => by cases h) (fun _ => ?_)
    refine wp_ite (t := true) rfl (fun _ => ?_) (fun h => by cases h)
    refine wp_lt (e_geq rfl rfl) ?_
    simp only [lv_cons, lv_nil, app_cons, app_nil]
    refine wp_lt (e_geq rfl rfl) ?_
    simp only [lv_cons, lv_nil, app_cons, app_nil]
    rw [cause_page he kn_of, cause_page he kn_of]
    refine wp_lt (d := .b true) (cmp_e (eqt_b rfl rfl) (beq_self_eq_true _)) ?_
    simp only [lv_cons, lv_nil, app_cons, app_nil]
    refine wp_ite (t := true) rfl (fun _ => ?_) (fun h => by cases h)
    refine wp_lt (d := .b true) (cmp_e (e_eql rfl rfl) (beq_self_eq_true _)) ?_
    simp only [lv_cons, lv_nil, app_cons, app_nil]
    exact wp_return rfl rfl
  | leaf l =>
    have hl := (look_leaf hlk).2
    have hppn : l.pt.ppn < 17592186044416 := by
      obtain ⟨g, hg⟩ := hl.pt
      rw [hg]
      exact (ptN_may (wordN_lt hC)).2.1
    have hsz := szN_pos (l := (l.lv : Int))
    have hx := Nat.mod_lt o hsz
    have hnt := base_top (lv_of hl.lv) ha hx
    obtain ⟨nr, hnr⟩ : ∃ nr, nr = a / szN l.lv * szN l.lv + o % szN l.lv := ⟨_, rfl⟩
    rw [← hnr] at hnt
    have hdiv : a / szN (l.lv : Int) = nr / szN (l.lv : Int) := by
      rw [hnr, Nat.mul_comm, Nat.mul_add_div hsz, Nat.div_eq_of_lt hx, Nat.add_zero]
    have hlk2 := look_near hlk hnt hdiv
    have h3 := walkLook_con (t := t) (a := nr) (kd := ((q % 3 : Nat) : Int)) hk hR hC (by omega) ht hnt kn_of
    rw [hlk] at h1 h2
    rw [hlk2] at h3
    simp only [Lk.rs] at h1 h2 h3
    refine wp_call rfl h1 rfl ?_
    simp only [lv_cons, lv_nil, Pt.ds, Lf.ds, app_cons, app_nil]
    refine wp_lt (rem8 (a := q') (m := 3) rfl (by decide)) ?_
    simp only [lv_cons, lv_nil, app_cons, app_nil]
    refine wp_lt (cv_i (n := ((q' % 3 : Nat) : Int)) rfl (by omega) (by omega)) ?_
    simp only [lv_cons, lv_nil, app_cons, app_nil]
    refine wp_call rfl h2 rfl ?_
    simp only [lv_cons, lv_nil, Pt.ds, Lf.ds, app_cons, app_nil]
    refine wp_lt (d := .b false) rfl ?_
    simp only [lv_cons, lv_nil, app_cons, app_nil]
    refine wp_ite (t := false) rfl (fun h => by cases h) (fun _ => ?_)
    refine wp_lt (d := .b false) (not_e (t := true) (by repeat' first | refine ite_t (eqs_b rfl rfl) ?_ | refine ite_t (eqs_i rfl rfl) ?_ | exact rfl)) ?_
    simp only [lv_cons, lv_nil, app_cons, app_nil]
    refine wp_ite (t := false) rfl (fun h => by cases h) (fun _ => ?_)
    refine wp_ite (t := false) rfl (fun h => by cases h) (fun _ => ?_)
    refine wp_call rfl (refBase_con ha (lv_of hl.lv)) rfl ?_
    simp only [lv_cons, lv_nil, app_cons, app_nil]
    refine wp_call rfl (refSize_con (lv_of hl.lv)) rfl ?_
    simp only [lv_cons, lv_nil, app_cons, app_nil]
    refine wp_lt (u_rem rfl rfl (by omega)) ?_
    simp only [lv_cons, lv_nil, app_cons, app_nil]
    refine wp_lt (u_add rfl rfl (by rw [← hnr]; exact hnt)) ?_
    rw [← hnr]
    simp only [lv_cons, lv_nil, app_cons, app_nil]
    refine wp_lt (rem8 (a := q) (m := 3) rfl (by decide)) ?_
    simp only [lv_cons, lv_nil, app_cons, app_nil]
    refine wp_lt (cv_i (n := ((q % 3 : Nat) : Int)) rfl (by omega) (by omega)) ?_
    simp only [lv_cons, lv_nil, app_cons, app_nil]
    refine wp_call rfl h3 rfl ?_
    simp only [lv_cons, lv_nil, Pt.ds, Lf.ds, app_cons, app_nil]
    refine wp_lt (d := .b true) rfl ?_
    simp only [lv_cons, lv_nil, app_cons, app_nil]
    refine wp_ite (t := true) rfl (fun _ => ?_) (fun h => by cases h)
    refine wp_lt (d := .b true) (by repeat' first | refine ite_t (eqs_b rfl rfl) ?_ | refine ite_t (eqs_i rfl rfl) ?_ | exact rfl) ?_
    simp only [lv_cons, lv_nil, app_cons, app_nil]
    refine wp_ite (t := true) rfl (fun _ => ?_) (fun h => by cases h)
    refine wp_call rfl (phys_con (a := nr) hppn hl.lv hnt) rfl ?_
    simp only [lv_cons, lv_nil, app_cons, app_nil]
    refine wp_call rfl (phys_con (a := a) hppn hl.lv ha) rfl ?_
    simp only [lv_cons, lv_nil, app_cons, app_nil]
    refine wp_lt (u_subw rfl rfl) ?_
    simp only [lv_cons, lv_nil, app_cons, app_nil]
    refine wp_lt (u_subw rfl rfl) ?_
    simp only [lv_cons, lv_nil, app_cons, app_nil]
    have hsub : ((physN l nr : Nat) : Int) - (physN l a : Nat) = (nr : Int) - a := by
      have e1 := Nat.div_add_mod nr (szN (l.lv : Int))
      have e2 := Nat.div_add_mod a (szN (l.lv : Int))
      rw [← hdiv] at e1
      unfold physN
      generalize szN (l.lv : Int) * (a / szN (l.lv : Int)) = z at e1 e2
      omega
    rw [hsub]
    refine wp_lt (d := .b true) (cmp_e (e_eql rfl rfl) (beq_self_eq_true _)) ?_
    simp only [lv_cons, lv_nil, app_cons, app_nil]
    exact wp_return rfl rfl
end Go.Proofs.YthegeidecapfaaaDoor.Sx
