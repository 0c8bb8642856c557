/-
  Layer 16: the laws: without a buffer the same; what stays; an access again; without sets; what is handed in.
-/
import Derived.Test.YtmmppghdnoeheaaGreatDoorZHartd
import Derived.Test.YtmmppghdnoeheaaGreatDoorZIrHl
namespace Go.Proofs.YtmmppghdnoeheaaGreatDoor.Sx
open Go
set_option linter.unusedVariables false
set_option linter.unusedSimpArgs false
set_option maxRecDepth 100000
theorem mode_8 {m a p : Nat} (h : mayS m a p = true) (hm : m ≠ 0) : m = 8 := by
  unfold mayS at h
  rw [if_neg hm] at h
  simp only [Bool.and_eq_true, beq_iff_eq] at h
  exact h.1.1
theorem rs_dv (r : Rs) (k : Int) (a : Nat) : ∃ (v : Nat) (b : Bool) (c : Int) (x : Nat), r.dv k a = (true, [U v, .b b, I c, U x]) := by
  cases r <;> exact ⟨_, _, _, _, rfl⟩
theorem rel_dv {r r' : Rs} {P Q : Nat → Nat → Prop} (k : Int) (a : Nat) (h : (∃ q, r = .fault q ∧ r' = .fault q) ∨ ∃ u w, r = .val u ∧ r' = .val w ∧ P u w ∧ Q u w) : ∃ (u w : Nat) (b : Bool) (c : Int) (x : Nat), r.dv k a = (true, [U u, .b b, I c, U x]) ∧ r'.dv k a = (true, [U w, .b b, I c, U x]) := by
  rcases h with ⟨q, rfl, rfl⟩ | ⟨u, w, rfl, rfl, _, _⟩
  · exact ⟨_, _, _, _, _, rfl, rfl⟩
  · exact ⟨_, _, _, _, _, rfl, rfl⟩
theorem acc_fault {h : Ht} {s a z v q : Nat} {k : Int} {cs : List Cl} (e : (accessH h s cs k a z v).2.2 = .fault q) : q = 2 ∨ accessH h s cs k a z v = (h, cs, .fault q) := by
  unfold accessH at e ⊢
  split
  · rename_i hal
    rw [if_pos hal] at e
    cases e
    exact .inr rfl
  · rename_i hal
    rw [if_neg hal] at e
    split
    · rename_i q' e'
      rw [e'] at e
      cases e
      exact .inr rfl
    · rename_i h' cs' pl e'
      rw [e'] at e
      simp only [touchH] at e
      split at e
      · split at e <;> cases e
      · cases e
        exact .inl rfl
theorem stored_loaded {h h1 : Ht} {s a z v w : Nat} {cs m1 : List Cl} (hM : RM s cs) (hz : Sz z) (hm : h.mode = 0) (e : accessH h s cs 2 a z v = (h1, m1, .val w)) : accessH h1 s m1 1 a z 0 = (h1, m1, .val (v % 256 ^ z)) := by
  unfold accessH at e
  split at e
  · cases e
  rename_i hal
  unfold leadH at e
  rw [if_pos (by omega)] at e
  simp only [touchH] at e
  split at e
  · rename_i hw
    rw [if_pos trivial] at e
    cases e
    obtain ⟨n, hn, _, _, h0, hlt⟩ := wrong_0 hw
    unfold accessH
    rw [if_neg hal]
    unfold leadH
    rw [if_pos (by omega)]
    simp only [touchH]
    rw [if_pos hw, if_neg (by decide), load_store hM.asc hz (by omega) hlt]
  · cases e
theorem bare_acc {h : Ht} {s a z v : Nat} {k : Int} {cs : List Cl} (hM : RM s cs) (hk : k ≠ 2) : (accessH (bareH h) s cs k a z v).1.ts = [] ∧ ((accessH (bareH h) s cs k a z v).1.vic = h.vic ∨ (accessH (bareH h) s cs k a z v).1.vic = -1) ∧ relM cs (accessH (bareH h) s cs k a z v).2.1 := by
  unfold accessH
  split
  · exact ⟨rfl, .inl rfl, .self⟩
  split
  · exact ⟨rfl, .inl rfl, .self⟩
  · rename_i h' cs' pl e
    rw [touch_load hk]
    simp only
    unfold leadH at e
    split at e
    · cases e
      exact ⟨rfl, .inl rfl, .self⟩
    split at e
    · cases e
    rw [bare_hit, if_neg (by decide)] at e
    split at e
    · cases e
    · rename_i l hw
      cases e
      have hl := (look_leaf (walkR_leaf hw)).2
      rw [show (k == 2) = false from beq_eq_false_iff_ne.2 hk]
      exact ⟨rfl, .inr rfl, relM.bring .self hM.asc hl⟩
theorem HartFlat_con {h : Ht} {s a q z v : Nat} {cs : List Cl} (hT : TOk h.ts) (hTl : h.ts.length < 9223372036854775808) (hs : s < 18446744073709551616) (hC : COk cs) (ha : a < 18446744073709551616) (hv : v < 18446744073709551616) : Cn gAll 3 [h.dv, md 2 s cs, (false, [.i .u8 (q : Int)]), u a, (false, [.i .u8 (z : Int)]), u v] [bb true] := by
  refine con rfl rfl atlaslaw16_HartFlat_c atlaslaw16_HartFlat_p rfl ?_
  unfold atlaslaw16_HartFlat_ir
  simp only [lv_cons, lv_nil, Pt.ds, Lf.ds, En.ds, Ht.ds, app_cons, app_nil]
  refine wp_call rfl awake16_con rfl ?_
  simp only [lv_cons, lv_nil, app_cons, app_nil]
  refine wp_lt (d := (.b false)) rfl ?_
  simp only [lv_cons, lv_nil, app_cons, app_nil]
  refine wp_ite (t := false) rfl (fun h => by cases h) (fun _ => ?_)
  refine wp_call rfl (fits16_con (h := h) (k := 2) (s := s) (cs := cs) hT hTl (.inl rfl) hs) rfl ?_
  simp only [lv_cons, lv_nil, app_cons, app_nil]
  refine wp_lt rfl ?_
  simp only [lv_cons, lv_nil, app_cons, app_nil]
  refine wp_ite rfl (fun hf => ?_) (fun hf => ?_)
  · refine wp_call rfl awake16_con rfl ?_
    simp only [lv_cons, lv_nil, app_cons, app_nil]
    exact wp_return rfl rfl
  have hf : ((h.ts.length ≤ 16 ∧ rightH h = true) ∧ cs.length ≤ 300) ∧ rightM s cs = true := by simpa using hf
  obtain ⟨⟨⟨htl, hrh⟩, hl⟩, hr⟩ := hf
  have hM : RM s cs := right_rm.1 hr
  have hH : RH h := rh_of hT hrh
  refine wp_lt (e_eql rfl rfl) ?_
  simp only [lv_cons, lv_nil, app_cons, app_nil]
  refine wp_ite rfl (fun h0 => ?_) (fun h0 => ?_)
  · refine wp_call rfl awake16_con rfl ?_
    simp only [lv_cons, lv_nil, app_cons, app_nil]
    exact wp_return rfl rfl
  have hm : h.mode = 8 := mode_8 hH.satp (by have := beq_eq_false_iff_ne.1 h0; omega)
  refine wp_call rfl (refAgrees_con (h := h) (s := s) (cs := cs) hH hM hC (by omega)) rfl ?_
  simp only [lv_cons, lv_nil, app_cons, app_nil]
  refine wp_lt rfl ?_
  simp only [lv_cons, lv_nil, app_cons, app_nil]
  refine wp_ite rfl (fun hag => ?_) (fun hag => ?_)
  · refine wp_call rfl awake16_con rfl ?_
    simp only [lv_cons, lv_nil, app_cons, app_nil]
    exact wp_return rfl rfl
  have hag : agreesB h s cs = true := by simpa using hag
  refine wp_lt (rem8 (a := q) (m := 3) rfl (by decide)) ?_
  simp only [lv_cons, lv_nil, app_cons, app_nil]
  refine wp_lt (cv_i (n := ((q % 3 : Nat) : Int)) rfl (by omega) (by omega)) ?_
  simp only [lv_cons, lv_nil, app_cons, app_nil]
  refine wp_call rfl (refPick_con (q := z)) rfl ?_
  simp only [lv_cons, lv_nil, app_cons, app_nil]
  have hz : Sz (pickN z) := pick_or z
  generalize pickN z = n at *
  have hkn : Kn ((q % 3 : Nat) : Int) := by unfold Kn; omega
  have A1 := access_H (a := a) (z := n) (v := v) hH hM hC (by omega) ha hz hv hkn
  have A2 := access_H (a := a) (z := n) (v := v) (bare_rh hH) hM hC (by omega) ha hz hv hkn
  have hfl := access_flat (z := n) (v := v) (k := ((q % 3 : Nat) : Int)) hH hM ha hag
  obtain ⟨r1, r2, r3, r4, _, _⟩ := acc_ok (a := a) (z := n) (v := v) (k := ((q % 3 : Nat) : Int)) hH hM hC
  have hga : ((q % 3 : Nat) : Int) ≠ 2 → _ := fun hk => agrees_access (z := n) (v := v) hH hM hC ha hk hag
  generalize accessH h s cs ((q % 3 : Nat) : Int) a n v = p at *
  generalize accessH (bareH h) s cs ((q % 3 : Nat) : Int) a n v = p' at *
  obtain ⟨h1, m1, x1⟩ := p
  obtain ⟨h2, m2, x2⟩ := p'
  simp only [Prod.mk.injEq] at hfl r1 r2 r3 r4 hga
  obtain ⟨rfl, rfl⟩ := hfl
  obtain ⟨x, b, c, y, ex⟩ := rs_dv x1 ((q % 3 : Nat) : Int) a
  simp only [accRs] at A1 A2
  rw [ex] at A1 A2
  refine wp_call rfl A1 rfl ?_
  simp only [lv_cons, lv_nil, Pt.ds, Lf.ds, En.ds, Ht.ds, app_cons, app_nil]
  refine wp_call rfl (bare_con (h := h)) rfl ?_
  simp only [lv_cons, lv_nil, Pt.ds, Lf.ds, En.ds, Ht.ds, app_cons, app_nil]
  refine wp_call (az := [(bareH h).dv, md 2 s cs, i ((q % 3 : Nat) : Int), u a, i n, u v]) rfl A2 rfl ?_
  simp only [lv_cons, lv_nil, Pt.ds, Lf.ds, En.ds, Ht.ds, app_cons, app_nil]
  refine wp_lt (d := .b true) ?_ ?_
  · focus
      repeat' first
        | refine ite_t (eqs_b rfl rfl) ?_
        | refine ite_t (eqs_i rfl rfl) ?_
        | exact rfl
  simp only [lv_cons, lv_nil, app_cons, app_nil]
  refine wp_ite (t := true) rfl (fun _ => ?_) (fun h => by cases h)
  refine wp_call rfl (sameM_con (s := s) (cs := m1) (.inl rfl) (.inl rfl) (by omega)) rfl ?_
  simp only [lv_cons, lv_nil, app_cons, app_nil]
  refine wp_ite (t := true) rfl (fun _ => ?_) (fun h => by cases h)
  refine wp_lt (e_eql rfl rfl) ?_
  simp only [lv_cons, lv_nil, app_cons, app_nil]
  refine wp_ite rfl (fun hk => ?_) (fun hk => ?_)
  · exact wp_return rfl rfl
  have hg := hga (beq_eq_false_iff_ne.1 hk)
  have G1 := hartAgrees_con r1 r2 r3 (by omega)
  have G2 := refAgrees_con r1 r2 r3 (by omega)
  rw [hg] at G1 G2
  refine wp_call (az := [h1.dv, md 2 s m1]) rfl G1 rfl ?_
  simp only [lv_cons, lv_nil, app_cons, app_nil]
  refine wp_ite (t := true) rfl (fun _ => ?_) (fun h => by cases h)
  refine wp_call (az := [h1.dv, md 2 s m1]) rfl G2 rfl ?_
  simp only [lv_cons, lv_nil, app_cons, app_nil]
  exact wp_return rfl rfl
theorem HartStays_con {h : Ht} {s a q z v : Nat} {cs : List Cl} (hT : TOk h.ts) (hTl : h.ts.length < 9223372036854775808) (hs : s < 18446744073709551616) (hC : COk cs) (ha : a < 18446744073709551616) (hv : v < 18446744073709551616) : Cn gAll 4 [h.dv, md 2 s cs, (false, [.i .u8 (q : Int)]), u a, (false, [.i .u8 (z : Int)]), u v] [bb true] := by
  refine con rfl rfl atlaslaw16_HartStays_c atlaslaw16_HartStays_p rfl ?_
  unfold atlaslaw16_HartStays_ir
  simp only [lv_cons, lv_nil, Pt.ds, Lf.ds, En.ds, Ht.ds, app_cons, app_nil]
  refine wp_call rfl awake16_con rfl ?_
  simp only [lv_cons, lv_nil, app_cons, app_nil]
  refine wp_lt (d := (.b false)) rfl ?_
  simp only [lv_cons, lv_nil, app_cons, app_nil]
  refine wp_ite (t := false) rfl (fun h => by cases h) (fun _ => ?_)
  refine wp_call rfl (fits16_con (h := h) (k := 2) (s := s) (cs := cs) hT hTl (.inl rfl) hs) rfl ?_
  simp only [lv_cons, lv_nil, app_cons, app_nil]
  refine wp_lt rfl ?_
  simp only [lv_cons, lv_nil, app_cons, app_nil]
  refine wp_ite rfl (fun hf => ?_) (fun hf => ?_)
  · refine wp_call rfl awake16_con rfl ?_
    simp only [lv_cons, lv_nil, app_cons, app_nil]
    exact wp_return rfl rfl
  have hf : ((h.ts.length ≤ 16 ∧ rightH h = true) ∧ cs.length ≤ 300) ∧ rightM s cs = true := by simpa using hf
  obtain ⟨⟨⟨htl, hrh⟩, hl⟩, hr⟩ := hf
  have hM : RM s cs := right_rm.1 hr
  have hH : RH h := rh_of hT hrh
  refine wp_lt (rem8 (a := q) (m := 3) rfl (by decide)) ?_
  simp only [lv_cons, lv_nil, app_cons, app_nil]
  refine wp_lt (cv_i (n := ((q % 3 : Nat) : Int)) rfl (by omega) (by omega)) ?_
  simp only [lv_cons, lv_nil, app_cons, app_nil]
  refine wp_call rfl (refPick_con (q := z)) rfl ?_
  simp only [lv_cons, lv_nil, app_cons, app_nil]
  have hz : Sz (pickN z) := pick_or z
  generalize pickN z = n at *
  have hkn : Kn ((q % 3 : Nat) : Int) := by unfold Kn; omega
  have A1 := access_H (a := a) (z := n) (v := v) hH hM hC (by omega) ha hz hv hkn
  obtain ⟨r1, r2, r3, r4, r5, r6⟩ := acc_ok (a := a) (z := n) (v := v) (k := ((q % 3 : Nat) : Int)) hH hM hC
  have hft := @acc_fault h s a n v (k := ((q % 3 : Nat) : Int)) (cs := cs)
  have hst : ∀ h1 m1 w, h.mode = 0 → q % 3 = 2 → accessH h s cs ((q % 3 : Nat) : Int) a n v = (h1, m1, .val w) → accessH h1 s m1 1 a n 0 = (h1, m1, .val (v % 256 ^ n)) := fun h1 m1 w hm hq e => by
    rw [hq] at e
    exact stored_loaded hM hz hm e
  generalize accessH h s cs ((q % 3 : Nat) : Int) a n v = p at *
  obtain ⟨h1, m1, x1⟩ := p
  simp only at r1 r2 r3 r4 r5 r6
  simp only [accRs] at A1
  obtain ⟨e1, e2, e3, e4, e5, e6⟩ := r5
  have hend : Cn gAll 16 [h1.dv] [bb true] := hartRight_con r1
  have hmr : Cn gAll 17 [md 2 s m1] [bb true] := by
    have := refRightM_con (k := 2) (s := s) (cs := m1) (.inl rfl) hs (by omega)
    rwa [right_rm.2 r2] at this
  obtain ⟨x, b, c, y, ex⟩ := rs_dv x1 ((q % 3 : Nat) : Int) a
  have A1' := A1
  rw [ex] at A1'
  refine wp_call rfl A1' rfl ?_
  simp only [lv_cons, lv_nil, Pt.ds, Lf.ds, En.ds, Ht.ds, app_cons, app_nil]
  refine wp_lt (not_e (t := true) ?_) ?_
  · exact ite_t (cmp_e (eqt_i rfl rfl) (by rw [e1]; exact beq_self_eq_true _)) (ite_t (cmp_e (eqt_i rfl rfl) (by rw [e2]; exact beq_self_eq_true _)) (ite_t (cmp_e (eqt_i rfl rfl) (by rw [e3]; exact beq_self_eq_true _)) rfl))
  simp only [lv_cons, lv_nil, app_cons, app_nil]
  refine wp_ite (t := false) rfl (fun h => by cases h) (fun _ => ?_)
  refine wp_lt (d := .b false) (cmp_e (e_neq rfl rfl) (by rw [e4]; exact bne_self_eq_false _)) ?_
  simp only [lv_cons, lv_nil, app_cons, app_nil]
  refine wp_ite (t := false) rfl (fun h => by cases h) (fun _ => ?_)
  refine wp_lt (d := .b false) (cmp_e (not_e (eqt_b rfl rfl)) (by rw [e5]; simp)) ?_
  simp only [lv_cons, lv_nil, app_cons, app_nil]
  refine wp_ite (t := false) rfl (fun h => by cases h) (fun _ => ?_)
  refine wp_lt (d := .b false) (cmp_e (not_e (eqt_b rfl rfl)) (by rw [e6]; simp)) ?_
  simp only [lv_cons, lv_nil, app_cons, app_nil]
  refine wp_ite (t := false) rfl (fun h => by cases h) (fun _ => ?_)
  refine wp_call (az := [h1.dv]) rfl hend rfl ?_
  simp only [lv_cons, lv_nil, app_cons, app_nil]
  refine wp_lt (d := (.b false)) rfl ?_
  simp only [lv_cons, lv_nil, app_cons, app_nil]
  refine wp_ite (t := false) rfl (fun h => by cases h) (fun _ => ?_)
  refine wp_call (az := [md 2 s m1]) rfl hmr rfl ?_
  simp only [lv_cons, lv_nil, app_cons, app_nil]
  refine wp_lt (d := (.b false)) rfl ?_
  simp only [lv_cons, lv_nil, app_cons, app_nil]
  refine wp_ite (t := false) rfl (fun h => by cases h) (fun _ => ?_)
  refine wp_lt (d := .b false) (cmp_e (e_neq rfl rfl) (bne_self_eq_false _)) ?_
  simp only [lv_cons, lv_nil, app_cons, app_nil]
  refine wp_ite (t := false) rfl (fun h => by cases h) (fun _ => ?_)
  cases x1 with
  | fault qf =>
    simp only [Rs.dv, Prod.mk.injEq, List.cons.injEq, D.b.injEq, D.i.injEq, true_and, and_true] at ex
    obtain ⟨ex1, rfl, rfl, ex4⟩ := ex
    refine wp_ite (t := true) rfl (fun _ => ?_) (fun h => by cases h)
    refine wp_lt (e_eql rfl rfl) ?_
    simp only [lv_cons, lv_nil, app_cons, app_nil]
    refine wp_ite rfl (fun g1 => ?_) (fun g1 => ?_)
    · refine wp_lt (d := .b true) (cmp_e (e_eql rfl rfl) (by rw [← ex1]; rfl)) ?_
      simp only [lv_cons, lv_nil, app_cons, app_nil]
      refine wp_ite (t := true) rfl (fun _ => ?_) (fun h => by cases h)
      refine wp_lt (d := .b true) (cmp_e (e_eql rfl rfl) (by rw [← ex4]; exact beq_self_eq_true _)) ?_
      simp only [lv_cons, lv_nil, app_cons, app_nil]
      refine wp_ite (t := true) rfl (fun _ => ?_) (fun h => by cases h)
      exact wp_return rfl rfl
    refine wp_lt (e_eql rfl rfl) ?_
    simp only [lv_cons, lv_nil, app_cons, app_nil]
    refine wp_ite rfl (fun g2 => ?_) (fun g2 => ?_)
    · refine wp_lt (d := .b true) (cmp_e (e_eql rfl rfl) (by rw [← ex1]; rfl)) ?_
      simp only [lv_cons, lv_nil, app_cons, app_nil]
      refine wp_ite (t := true) rfl (fun _ => ?_) (fun h => by cases h)
      refine wp_lt (d := .b true) (cmp_e (e_eql rfl rfl) (by rw [← ex4]; exact beq_self_eq_true _)) ?_
      simp only [lv_cons, lv_nil, app_cons, app_nil]
      refine wp_ite (t := true) rfl (fun _ => ?_) (fun h => by cases h)
      exact wp_return rfl rfl
    refine wp_lt (e_eql rfl rfl) ?_
    simp only [lv_cons, lv_nil, app_cons, app_nil]
    refine wp_lt (d := .b true) (cmp_e (e_eql rfl rfl) (by rw [← ex1]; rfl)) ?_
    simp only [lv_cons, lv_nil, app_cons, app_nil]
    refine wp_ite (t := true) rfl (fun _ => ?_) (fun h => by cases h)
    refine wp_lt (d := .b true) (cmp_e (e_eql rfl rfl) (by rw [← ex4]; exact beq_self_eq_true _)) ?_
    simp only [lv_cons, lv_nil, app_cons, app_nil]
    refine wp_ite (t := true) rfl (fun _ => ?_) (fun h => by cases h)
    refine wp_ite rfl (fun g3 => ?_) (fun g3 => ?_)
    · exact wp_return rfl rfl
    have hsame : (h1, m1) = (h, cs) := by
      rcases hft _ rfl with h2 | h2
      · exfalso
        subst h2
        have c1 := beq_eq_false_iff_ne.1 g1
        have c2 := beq_eq_false_iff_ne.1 g2
        have c3 := beq_eq_false_iff_ne.1 g3
        rcases hkn with hk | hk | hk <;> rw [hk] at c1 c2 c3
        · exact c1 rfl
        · exact c2 rfl
        · exact c3 rfl
      · cases h2
        rfl
    cases hsame
    refine wp_call (az := [h.dv, h.dv]) rfl (sameH_con (h := h) (by omega)) rfl ?_
    simp only [lv_cons, lv_nil, app_cons, app_nil]
    refine wp_ite (t := true) rfl (fun _ => ?_) (fun h => by cases h)
    refine wp_call rfl (sameM_con (s := s) (cs := cs) (.inl rfl) (.inl rfl) (by omega)) rfl ?_
    simp only [lv_cons, lv_nil, app_cons, app_nil]
    exact wp_return rfl rfl
  | val w =>
    simp only [Rs.dv, Prod.mk.injEq, List.cons.injEq, D.b.injEq, D.i.injEq, true_and, and_true] at ex
    obtain ⟨ex1, rfl, rfl, ex4⟩ := ex
    refine wp_ite (t := false) rfl (fun h => by cases h) (fun _ => ?_)
    refine wp_lt (e_neq rfl rfl) ?_
    simp only [lv_cons, lv_nil, app_cons, app_nil]
    refine wp_ite rfl (fun hk => ?_) (fun hk => ?_)
    · exact wp_return rfl rfl
    have hk : ((q % 3 : Nat) : Int) = 2 := by simpa using hk
    refine wp_lt (e_neq rfl rfl) ?_
    simp only [lv_cons, lv_nil, app_cons, app_nil]
    refine wp_ite rfl (fun h0 => ?_) (fun h0 => ?_)
    · exact wp_return rfl rfl
    have h0 : (h.mode : Int) = 0 := by simpa using h0
    have hE := hst h1 m1 w (by omega) (by omega) rfl
    have A2 := access_H (a := a) (z := n) (v := 0) (k := 1) r1 r2 r3 (by omega) ha hz (by decide) (by simp [Kn])
    rw [hE] at A2
    simp only [accRs, Rs.dv] at A2
    refine wp_call (az := [h1.dv, md 2 s m1, i 1, u a, i n, u 0]) rfl A2 rfl ?_
    simp only [lv_cons, lv_nil, Pt.ds, Lf.ds, En.ds, Ht.ds, app_cons, app_nil]
    refine wp_call rfl (refLow_con (v := v) (n := n) hv (by rcases hz with h | h | h | h <;> omega) (by rcases hz with h | h | h | h <;> omega)) rfl ?_
    simp only [lv_cons, lv_nil, app_cons, app_nil]
    refine wp_lt (d := .b true) ?_ ?_
    · focus
        repeat' first
          | refine ite_t (eqs_b rfl rfl) ?_
          | refine ite_t (eqs_i rfl rfl) ?_
          | exact rfl
    simp only [lv_cons, lv_nil, app_cons, app_nil]
    exact wp_return rfl rfl
theorem HartAgain_con {h : Ht} {s a q z : Nat} {cs : List Cl} (hT : TOk h.ts) (hTl : h.ts.length < 9223372036854775808) (hs : s < 18446744073709551616) (hC : COk cs) (ha : a < 18446744073709551616) : Cn gAll 5 [h.dv, md 2 s cs, (false, [.i .u8 (q : Int)]), u a, (false, [.i .u8 (z : Int)])] [bb true] := by
  refine con rfl rfl atlaslaw16_HartAgain_c atlaslaw16_HartAgain_p rfl ?_
  unfold atlaslaw16_HartAgain_ir
  simp only [lv_cons, lv_nil, Pt.ds, Lf.ds, En.ds, Ht.ds, app_cons, app_nil]
  refine wp_call rfl awake16_con rfl ?_
  simp only [lv_cons, lv_nil, app_cons, app_nil]
  refine wp_lt (d := (.b false)) rfl ?_
  simp only [lv_cons, lv_nil, app_cons, app_nil]
  refine wp_ite (t := false) rfl (fun h => by cases h) (fun _ => ?_)
  refine wp_call rfl (fits16_con (h := h) (k := 2) (s := s) (cs := cs) hT hTl (.inl rfl) hs) rfl ?_
  simp only [lv_cons, lv_nil, app_cons, app_nil]
  refine wp_lt rfl ?_
  simp only [lv_cons, lv_nil, app_cons, app_nil]
  refine wp_ite rfl (fun hf => ?_) (fun hf => ?_)
  · refine wp_call rfl awake16_con rfl ?_
    simp only [lv_cons, lv_nil, app_cons, app_nil]
    exact wp_return rfl rfl
  have hf : ((h.ts.length ≤ 16 ∧ rightH h = true) ∧ cs.length ≤ 300) ∧ rightM s cs = true := by simpa using hf
  obtain ⟨⟨⟨htl, hrh⟩, hl⟩, hr⟩ := hf
  have hM : RM s cs := right_rm.1 hr
  have hH : RH h := rh_of hT hrh
  refine wp_lt (e_eql rfl rfl) ?_
  simp only [lv_cons, lv_nil, app_cons, app_nil]
  refine wp_ite rfl (fun h0 => ?_) (fun h0 => ?_)
  · refine wp_call rfl awake16_con rfl ?_
    simp only [lv_cons, lv_nil, app_cons, app_nil]
    exact wp_return rfl rfl
  have hm : h.mode = 8 := mode_8 hH.satp (by have := beq_eq_false_iff_ne.1 h0; omega)
  refine wp_call rfl (refAgrees_con (h := h) (s := s) (cs := cs) hH hM hC (by omega)) rfl ?_
  simp only [lv_cons, lv_nil, app_cons, app_nil]
  refine wp_lt rfl ?_
  simp only [lv_cons, lv_nil, app_cons, app_nil]
  refine wp_ite rfl (fun hag => ?_) (fun hag => ?_)
  · refine wp_call rfl awake16_con rfl ?_
    simp only [lv_cons, lv_nil, app_cons, app_nil]
    exact wp_return rfl rfl
  have hag : agreesB h s cs = true := by simpa using hag
  refine wp_lt (rem8 (a := q) (m := 2) rfl (by decide)) ?_
  simp only [lv_cons, lv_nil, app_cons, app_nil]
  refine wp_lt (cv_i (n := ((q % 2 : Nat) : Int)) rfl (by omega) (by omega)) ?_
  simp only [lv_cons, lv_nil, app_cons, app_nil]
  refine wp_call rfl (refPick_con (q := z)) rfl ?_
  simp only [lv_cons, lv_nil, app_cons, app_nil]
  have hz : Sz (pickN z) := pick_or z
  generalize pickN z = n at *
  have hkn : Kn ((q % 2 : Nat) : Int) := by unfold Kn; omega
  have hk2 : ((q % 2 : Nat) : Int) ≠ 2 := by omega
  have A1 := access_H (a := a) (z := n) (v := 0) hH hM hC (by omega) ha hz (by decide) hkn
  obtain ⟨r1, r2, r3, r4, _, r6⟩ := acc_ok (a := a) (z := n) (v := 0) (k := ((q % 2 : Nat) : Int)) hH hM hC
  obtain ⟨g1, g2, g3⟩ := access_again (z := n) (v := 0) hH hM hC ha hk2 hag hm
  have A2 := access_H (a := a) (z := n) (v := 0) r1 r2 r3 (by omega) ha hz (by decide) hkn
  generalize accessH h s cs ((q % 2 : Nat) : Int) a n 0 = p at *
  obtain ⟨h1, m1, x1⟩ := p
  simp only at A1 A2 r1 r2 r3 r4 r6 g1 g2 g3
  generalize accessH h1 s m1 ((q % 2 : Nat) : Int) a n 0 = p' at *
  obtain ⟨h2, m2, x2⟩ := p'
  simp only [Prod.mk.injEq] at g1 g2 g3
  obtain ⟨rfl, rfl⟩ := g1
  obtain ⟨x, b, c, y, ex⟩ := rs_dv x2 ((q % 2 : Nat) : Int) a
  simp only [accRs] at A1 A2
  rw [ex] at A1 A2
  refine wp_call rfl A1 rfl ?_
  simp only [lv_cons, lv_nil, Pt.ds, Lf.ds, En.ds, Ht.ds, app_cons, app_nil]
  refine wp_call (az := [h1.dv, md 2 s m2, i ((q % 2 : Nat) : Int), u a, i n, u 0]) rfl A2 rfl ?_
  simp only [lv_cons, lv_nil, Pt.ds, Lf.ds, En.ds, Ht.ds, app_cons, app_nil]
  refine wp_lt (not_e (t := true) ?_) ?_
  · focus
      repeat' first
        | refine ite_t (eqs_b rfl rfl) ?_
        | refine ite_t (eqs_i rfl rfl) ?_
        | exact rfl
  simp only [lv_cons, lv_nil, app_cons, app_nil]
  refine wp_ite (t := false) rfl (fun h => by cases h) (fun _ => ?_)
  refine wp_call rfl (sameM_con (s := s) (cs := m2) (.inl rfl) (.inl rfl) (by omega)) rfl ?_
  simp only [lv_cons, lv_nil, app_cons, app_nil]
  refine wp_lt (d := (.b false)) rfl ?_
  simp only [lv_cons, lv_nil, app_cons, app_nil]
  refine wp_ite (t := false) rfl (fun h => by cases h) (fun _ => ?_)
  refine wp_lt (len_is rfl (List.length_map ..)) ?_
  simp only [lv_cons, lv_nil, app_cons, app_nil]
  refine wp_lt (len_is rfl (List.length_map ..)) ?_
  simp only [lv_cons, lv_nil, app_cons, app_nil]
  refine wp_lt (d := .b false) (cmp_e (e_neq rfl rfl) (by rw [g2]; exact bne_self_eq_false _)) ?_
  simp only [lv_cons, lv_nil, app_cons, app_nil]
  refine wp_ite (t := false) rfl (fun h => by cases h) (fun _ => ?_)
  refine wp_rounds (fun m ds => ∃ (b : Bool) (n : Nat), ds = [.b b, I n] ∧ n + m = h1.ts.length + 1 ∧ n ≤ h1.ts.length) (h1.ts.length + 1) rfl ⟨_, 0, rfl, by omega, by omega⟩ ?_
    (fun es hes => by obtain ⟨_, n, _, h1, h2⟩ := hes; omega)
  rintro m es Q ⟨b', j, rfl, hm', hle⟩ hQ
  simp only [lv_cons, lv_nil, app_cons, app_nil]
  refine wp_lt (len_is rfl (List.length_map ..)) ?_
  simp only [lv_cons, lv_nil, app_cons, app_nil]
  refine wp_lt (e_lss rfl rfl) ?_
  simp only [lv_cons, lv_nil, app_cons, app_nil]
  refine wp_ite rfl (fun hc => ?_) (fun hc => ?_)
  · have hc := of_decide_eq_true hc
    have hnl : j < h1.ts.length := by omega
    obtain ⟨p, hp⟩ : ∃ p, h1.ts[j]? = some p := ⟨_, List.getElem?_eq_getElem hnl⟩
    obtain ⟨p', hp'⟩ : ∃ p, h2.ts[j]? = some p := ⟨_, List.getElem?_eq_getElem (by omega)⟩
    have hways := g3 j p p' hp hp'
    have w0 : p'.w0 = p.w0 := hways 0
    have w1 : p'.w1 = p.w1 := hways 1
    have w2 : p'.w2 = p.w2 := hways 2
    have w3 : p'.w3 = p.w3 := hways 3
    obtain ⟨v0, v1, v2, v3, vt⟩ := p
    obtain ⟨v0', v1', v2', v3', vt'⟩ := p'
    simp only at w0 w1 w2 w3
    subst w0 w1 w2 w3
    have hrow := row_of hp
    have hrow' := row_of hp'
    refine wp_chk (inb_t rfl rfl (by rw [List.length_map]; exact hnl)) ?_
    refine wp_chk (inb_t rfl rfl (by rw [List.length_map]; omega)) ?_
    refine wp_lt (not_e (t := true) ?_) ?_
    · focus
        refine ite_t (eqs_b (idx_e rfl rfl hrow rfl) (idx_e rfl rfl hrow' rfl)) ?_
        repeat' first
          | refine ite_t (eqs_b (idx_e rfl rfl hrow rfl) (idx_e rfl rfl hrow' rfl)) ?_
          | refine ite_t (eqs_i (idx_e rfl rfl hrow rfl) (idx_e rfl rfl hrow' rfl)) ?_
          | exact rfl
    simp only [lv_cons, lv_nil, app_cons, app_nil]
    refine wp_ite (t := false) rfl (fun h => by cases h) (fun _ => ?_)
    refine wp_lt (i_add (a := (j : Int)) (b := 1) rfl rfl (by omega) (by omega)) ?_
    simp only [lv_cons, lv_nil, app_cons, app_nil]
    exact wp_cont rfl rfl (hQ _ ⟨_, j + 1, rfl, by omega, by omega⟩)
  · exact wp_return rfl rfl
theorem HartNone_con {h : Ht} {s a q z o : Nat} {cs : List Cl} (hT : TOk h.ts) (hTl : h.ts.length < 9223372036854775808) (hs : s < 18446744073709551616) (hC : COk cs) (ha : a < 18446744073709551616) (ho : o < 18446744073709551616) : Cn gAll 7 [h.dv, md 2 s cs, (false, [.i .u8 (q : Int)]), u a, (false, [.i .u8 (z : Int)]), u o] [bb true] := by
  refine con rfl rfl atlaslaw16_HartNone_c atlaslaw16_HartNone_p rfl ?_
  unfold atlaslaw16_HartNone_ir
  simp only [lv_cons, lv_nil, Pt.ds, Lf.ds, En.ds, Ht.ds, app_cons, app_nil]
  refine wp_call rfl awake16_con rfl ?_
  simp only [lv_cons, lv_nil, app_cons, app_nil]
  refine wp_lt (d := (.b false)) rfl ?_
  simp only [lv_cons, lv_nil, app_cons, app_nil]
  refine wp_ite (t := false) rfl (fun h => by cases h) (fun _ => ?_)
  refine wp_call rfl (fits16_con (h := h) (k := 2) (s := s) (cs := cs) hT hTl (.inl rfl) hs) rfl ?_
  simp only [lv_cons, lv_nil, app_cons, app_nil]
  refine wp_lt rfl ?_
  simp only [lv_cons, lv_nil, app_cons, app_nil]
  refine wp_ite rfl (fun hf => ?_) (fun hf => ?_)
  · refine wp_call rfl awake16_con rfl ?_
    simp only [lv_cons, lv_nil, app_cons, app_nil]
    exact wp_return rfl rfl
  have hf : ((h.ts.length ≤ 16 ∧ rightH h = true) ∧ cs.length ≤ 300) ∧ rightM s cs = true := by simpa using hf
  obtain ⟨⟨⟨htl, hrh⟩, hl⟩, hr⟩ := hf
  have hM : RM s cs := right_rm.1 hr
  have hH : RH h := rh_of hT hrh
  refine wp_call rfl (bare_con (h := h)) rfl ?_
  simp only [lv_cons, lv_nil, Pt.ds, Lf.ds, En.ds, Ht.ds, app_cons, app_nil]
  refine wp_lt (rem8 (a := q) (m := 2) rfl (by decide)) ?_
  simp only [lv_cons, lv_nil, app_cons, app_nil]
  refine wp_lt (cv_i (n := ((q % 2 : Nat) : Int)) rfl (by omega) (by omega)) ?_
  simp only [lv_cons, lv_nil, app_cons, app_nil]
  refine wp_call rfl (refPick_con (q := z)) rfl ?_
  simp only [lv_cons, lv_nil, app_cons, app_nil]
  have hz : Sz (pickN z) := pick_or z
  generalize pickN z = n at *
  have hkn : Kn ((q % 2 : Nat) : Int) := by unfold Kn; omega
  have hk2 : ((q % 2 : Nat) : Int) ≠ 2 := by omega
  have hB := bare_rh hH
  have A1 := access_H (a := a) (z := n) (v := 0) hB hM hC (by omega) ha hz (by decide) hkn
  have A2 := access_H (a := o) (z := 1) (v := 0) (k := 1) hB hM hC (by omega) ho (by simp [Sz]) (by decide) (by simp [Kn])
  obtain ⟨r1, r2, r3, r4, r5, _⟩ := acc_ok (a := a) (z := n) (v := 0) (k := ((q % 2 : Nat) : Int)) hB hM hC
  obtain ⟨_, p2, p3, p4, _, _⟩ := acc_ok (a := o) (z := 1) (v := 0) (k := 1) hB hM hC
  obtain ⟨b1, b2, b3⟩ := bare_acc (h := h) (a := a) (z := n) (v := 0) hM hk2
  obtain ⟨_, _, c3⟩ := bare_acc (h := h) (a := o) (z := 1) (v := 0) (k := 1) hM (by decide)
  have A3 := access_H (a := a) (z := n) (v := 0) hB p2 p3 (by omega) ha hz (by decide) hkn
  have A4 := access_H (a := a) (z := n) (v := 0) r1 r2 r3 (by omega) ha hz (by decide) hkn
  have R3 := (access_rel (a := a) (z := n) (v := 0) (k := ((q % 2 : Nat) : Int)) (h := bareH h) (x := bareH h) rfl rfl .self hz hM p2 c3).2
  have R4 := (access_rel (a := a) (z := n) (v := 0) (k := ((q % 2 : Nat) : Int)) (h := bareH h) rfl b1 r5 hz hM r2 b3).2
  have R3 := rel_dv ((q % 2 : Nat) : Int) a R3
  have R4 := rel_dv ((q % 2 : Nat) : Int) a R4
  have hE1 : ∀ p, accessH (bareH h) s cs ((q % 2 : Nat) : Int) a n 0 = p → p.2.2.dv ((q % 2 : Nat) : Int) a = (accessH (bareH h) s cs ((q % 2 : Nat) : Int) a n 0).2.2.dv ((q % 2 : Nat) : Int) a := fun p e => by rw [e]
  generalize accessH (bareH h) s cs 1 o 1 0 = l at *
  obtain ⟨h2, m2, x2⟩ := l
  simp only at p2 p3 p4 c3 A3 R3
  generalize accessH (bareH h) s m2 ((q % 2 : Nat) : Int) a n 0 = l3 at *
  generalize accessH (bareH h) s cs ((q % 2 : Nat) : Int) a n 0 = l1 at *
  obtain ⟨h1, m1, x1⟩ := l1
  simp only at r1 r2 r3 r4 b1 b2 b3 A4 R3 R4
  generalize accessH h1 s m1 ((q % 2 : Nat) : Int) a n 0 = l4 at *
  obtain ⟨h3, m3, x3⟩ := l3
  obtain ⟨h4, m4, x4⟩ := l4
  simp only at R3 R4
  obtain ⟨u1, w1, t1, c1, y1, e1, e2⟩ := R3
  obtain ⟨u2, w2, t2, c2, y2, e3, e4⟩ := R4
  rw [e1] at e3
  cases e3
  obtain ⟨x, b, c, y, ex⟩ := rs_dv x2 1 o
  simp only [accRs] at A1 A2 A3 A4
  rw [e1] at A1
  rw [ex] at A2
  rw [e2] at A3
  rw [e4] at A4
  refine wp_call (az := [(bareH h).dv, md 2 s cs, i ((q % 2 : Nat) : Int), u a, i n, u 0]) rfl A1 rfl ?_
  simp only [lv_cons, lv_nil, Pt.ds, Lf.ds, En.ds, Ht.ds, app_cons, app_nil]
  refine wp_lt (len_is rfl (List.length_map ..)) ?_
  simp only [lv_cons, lv_nil, app_cons, app_nil]
  refine wp_lt (d := .b false) (cmp_e (e_neq rfl rfl) (by rw [b1]; rfl)) ?_
  simp only [lv_cons, lv_nil, app_cons, app_nil]
  refine wp_ite (t := false) rfl (fun h => by cases h) (fun _ => ?_)
  refine wp_lt (e_neq rfl rfl) ?_
  simp only [lv_cons, lv_nil, app_cons, app_nil]
  refine wp_ite rfl (fun g1 => ?_) (fun g1 => ?_)
  · refine wp_lt (d := .b false) (cmp_e (e_neq rfl rfl) ?_) ?_
    · rcases b2 with b2 | b2
      · exact absurd b2 (bne_iff_ne.1 g1)
      · rw [b2]; rfl
    simp only [lv_cons, lv_nil, app_cons, app_nil]
    refine wp_ite (t := false) rfl (fun h => by cases h) (fun _ => ?_)
    refine wp_call (az := [(bareH h).dv, md 2 s cs, i 1, u o, i 1, u 0]) rfl A2 rfl ?_
    simp only [lv_cons, lv_nil, Pt.ds, Lf.ds, En.ds, Ht.ds, app_cons, app_nil]
    refine wp_call (az := [(bareH h).dv, md 2 s m2, i ((q % 2 : Nat) : Int), u a, i n, u 0]) rfl A3 rfl ?_
    simp only [lv_cons, lv_nil, Pt.ds, Lf.ds, En.ds, Ht.ds, app_cons, app_nil]
    refine wp_call (az := [h1.dv, md 2 s m1, i ((q % 2 : Nat) : Int), u a, i n, u 0]) rfl A4 rfl ?_
    simp only [lv_cons, lv_nil, Pt.ds, Lf.ds, En.ds, Ht.ds, app_cons, app_nil]
    refine wp_lt (d := .b true) ?_ ?_
    · focus
        repeat' first
          | refine ite_t (eqs_b rfl rfl) ?_
          | refine ite_t (eqs_i rfl rfl) ?_
          | exact rfl
    simp only [lv_cons, lv_nil, app_cons, app_nil]
    refine wp_ite (t := true) rfl (fun _ => ?_) (fun h => by cases h)
    refine wp_lt (d := .b true) ?_ ?_
    · focus
        repeat' first
          | refine ite_t (eqs_b rfl rfl) ?_
          | refine ite_t (eqs_i rfl rfl) ?_
          | exact rfl
    simp only [lv_cons, lv_nil, app_cons, app_nil]
    exact wp_return rfl rfl
  · refine wp_call (az := [(bareH h).dv, md 2 s cs, i 1, u o, i 1, u 0]) rfl A2 rfl ?_
    simp only [lv_cons, lv_nil, Pt.ds, Lf.ds, En.ds, Ht.ds, app_cons, app_nil]
    refine wp_call (az := [(bareH h).dv, md 2 s m2, i ((q % 2 : Nat) : Int), u a, i n, u 0]) rfl A3 rfl ?_
    simp only [lv_cons, lv_nil, Pt.ds, Lf.ds, En.ds, Ht.ds, app_cons, app_nil]
    refine wp_call (az := [h1.dv, md 2 s m1, i ((q % 2 : Nat) : Int), u a, i n, u 0]) rfl A4 rfl ?_
    simp only [lv_cons, lv_nil, Pt.ds, Lf.ds, En.ds, Ht.ds, app_cons, app_nil]
    refine wp_lt (d := .b true) ?_ ?_
    · focus
        repeat' first
          | refine ite_t (eqs_b rfl rfl) ?_
          | refine ite_t (eqs_i rfl rfl) ?_
          | exact rfl
    simp only [lv_cons, lv_nil, app_cons, app_nil]
    refine wp_ite (t := true) rfl (fun _ => ?_) (fun h => by cases h)
    refine wp_lt (d := .b true) ?_ ?_
    · focus
        repeat' first
          | refine ite_t (eqs_b rfl rfl) ?_
          | refine ite_t (eqs_i rfl rfl) ?_
          | exact rfl
    simp only [lv_cons, lv_nil, app_cons, app_nil]
    exact wp_return rfl rfl
theorem HartKeeps_con {h : Ht} {s a q z v : Nat} {cs : List Cl} (hT : TOk h.ts) (hTl : h.ts.length < 9223372036854775808) (hs : s < 18446744073709551616) (hC : COk cs) (ha : a < 18446744073709551616) (hv : v < 18446744073709551616) : Cn gAll 6 [h.dv, md 2 s cs, (false, [.i .u8 (q : Int)]), u a, (false, [.i .u8 (z : Int)]), u v] [bb true] := by
  refine con rfl rfl atlaslaw16_HartKeeps_c atlaslaw16_HartKeeps_p rfl ?_
  unfold atlaslaw16_HartKeeps_ir
  simp only [lv_cons, lv_nil, Pt.ds, Lf.ds, En.ds, Ht.ds, app_cons, app_nil]
  refine wp_call rfl awake16_con rfl ?_
  simp only [lv_cons, lv_nil, app_cons, app_nil]
  refine wp_lt (d := (.b false)) rfl ?_
  simp only [lv_cons, lv_nil, app_cons, app_nil]
  refine wp_ite (t := false) rfl (fun h => by cases h) (fun _ => ?_)
  refine wp_call rfl (fits16_con (h := h) (k := 2) (s := s) (cs := cs) hT hTl (.inl rfl) hs) rfl ?_
  simp only [lv_cons, lv_nil, app_cons, app_nil]
  refine wp_lt rfl ?_
  simp only [lv_cons, lv_nil, app_cons, app_nil]
  refine wp_ite rfl (fun hf => ?_) (fun hf => ?_)
  · refine wp_call rfl awake16_con rfl ?_
    simp only [lv_cons, lv_nil, app_cons, app_nil]
    exact wp_return rfl rfl
  have hf : ((h.ts.length ≤ 16 ∧ rightH h = true) ∧ cs.length ≤ 300) ∧ rightM s cs = true := by simpa using hf
  obtain ⟨⟨⟨htl, hrh⟩, hl⟩, hr⟩ := hf
  have hM : RM s cs := right_rm.1 hr
  have hH : RH h := rh_of hT hrh
  refine wp_chk (room_t (app0_e rfl) (by rw [List.length_map]; omega)) ?_
  refine wp_chk (row_room (own_cells (.inl rfl) rfl) (by omega)) ?_
  refine wp_lt (own_cells (cs := cs) (k := 2) (.inl rfl) rfl) ?_
  simp only [lv_cons, lv_nil, app_cons, app_nil]
  refine wp_lt (rem8 (a := q) (m := 3) rfl (by decide)) ?_
  simp only [lv_cons, lv_nil, app_cons, app_nil]
  refine wp_lt (cv_i (n := ((q % 3 : Nat) : Int)) rfl (by omega) (by omega)) ?_
  simp only [lv_cons, lv_nil, app_cons, app_nil]
  refine wp_call rfl (refPick_con (q := z)) rfl ?_
  simp only [lv_cons, lv_nil, app_cons, app_nil]
  have hz : Sz (pickN z) := pick_or z
  generalize pickN z = n at *
  have hkn : Kn ((q % 3 : Nat) : Int) := by unfold Kn; omega
  have A1 := access_H (a := a) (z := n) (v := v) hH hM hC (by omega) ha hz hv hkn
  generalize accessH h s cs ((q % 3 : Nat) : Int) a n v = p at *
  obtain ⟨h1, m1, x1⟩ := p
  obtain ⟨x, b, c, y, ex⟩ := rs_dv x1 ((q % 3 : Nat) : Int) a
  simp only [accRs] at A1
  rw [ex] at A1
  refine wp_call (az := [h.dv, md 2 s cs, i ((q % 3 : Nat) : Int), u a, i n, u v]) (evs_cons (es_cons (app0_e rfl) rfl) rfl) A1 rfl ?_
  simp only [lv_cons, lv_nil, Pt.ds, Lf.ds, En.ds, Ht.ds, app_cons, app_nil]
  refine wp_call (az := [h.dv, h.dv]) (evs_cons (es_cons (app0_e rfl) rfl) rfl) (sameH_con (h := h) (by omega)) rfl ?_
  simp only [lv_cons, lv_nil, app_cons, app_nil]
  refine wp_chk rfl ?_
  refine wp_ite (t := true) rfl (fun _ => ?_) (fun h => by cases h)
  refine wp_call rfl (sameM_con (s := s) (.inl rfl) (.inl rfl) (by omega)) rfl ?_
  simp only [lv_cons, lv_nil, app_cons, app_nil]
  exact wp_return rfl rfl
end Go.Proofs.YtmmppghdnoeheaaGreatDoor.Sx
