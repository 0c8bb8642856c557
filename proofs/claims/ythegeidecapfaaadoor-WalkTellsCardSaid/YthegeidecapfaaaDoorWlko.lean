/-
  Layer 10: the law: what a walk tells.
-/
import Derived.Test.YthegeidecapfaaaDoorWlkn
namespace Go.Proofs.YthegeidecapfaaaDoor.Sx
open Go
set_option linter.unusedVariables false
set_option linter.unusedSimpArgs false
set_option maxRecDepth 100000

theorem mk_or192 {w : Nat} {d : Bool} : mkN w d ||| 192 = w ||| 192 := by
  refine Nat.eq_of_testBit_eq fun i => ?_
  rw [Nat.testBit_or, Nat.testBit_or, mkN_bit, show (192 : Nat) = 2 ^ 6 ||| 2 ^ 7 from rfl, Nat.testBit_or, Nat.testBit_two_pow, Nat.testBit_two_pow]
  cases w.testBit i <;> cases d <;> cases decide (6 = i) <;> cases decide (7 = i) <;> rfl
theorem mk_and {w : Nat} {d : Bool} : mkN w d &&& w = w := by
  refine Nat.eq_of_testBit_eq fun i => ?_
  rw [Nat.testBit_and, mkN_bit]
  cases w.testBit i <;> simp
theorem mk_and64 {w : Nat} {d : Bool} : mkN w d &&& 64 = 64 := by
  refine Nat.eq_of_testBit_eq fun i => ?_
  rw [Nat.testBit_and, mkN_bit, show (64 : Nat) = 2 ^ 6 from rfl, Nat.testBit_two_pow]
  cases w.testBit i <;> cases d <;> cases decide (6 = i) <;> cases decide (7 = i) <;> rfl
theorem mk_and128 {w : Nat} : mkN w true &&& 128 = 128 := by
  refine Nat.eq_of_testBit_eq fun i => ?_
  rw [Nat.testBit_and, mkN_bit, show (128 : Nat) = 2 ^ 7 from rfl, Nat.testBit_two_pow]
  cases w.testBit i <;> cases decide (6 = i) <;> cases decide (7 = i) <;> rfl
theorem mk_and128' {w : Nat} : mkN w false &&& 128 = w &&& 128 := by
  refine Nat.eq_of_testBit_eq fun i => ?_
  rw [Nat.testBit_and, Nat.testBit_and, mkN_bit, show (128 : Nat) = 2 ^ 7 from rfl, Nat.testBit_two_pow]
  by_cases h : 7 = i
  · subst h; simp
  · rw [decide_eq_false h]; simp
theorem WalkTells_con {k s t a lk : Nat} {kd m : Int} {sm mx : Bool} {cs : List Cl} (hk : Kd k cs) (hs : s < 18446744073709551616) (hC : COk cs) (ha : a < 18446744073709551616) (hlk : lk < 18446744073709551616) : Cn gAll 5 [md k s cs, u t, u a, W4 kd m sm mx, u lk] [bb true] := by
  refine con rfl rfl atlaslaw10_WalkTells_c atlaslaw10_WalkTells_p rfl ?_
  unfold atlaslaw10_WalkTells_ir
  simp only [lv_cons, lv_nil, app_cons, app_nil]
  refine wp_call rfl awake10_con rfl ?_
  simp only [lv_cons, lv_nil, app_cons, app_nil]
  refine wp_lt (d := (.b false)) rfl ?_
  simp only [lv_cons, lv_nil, app_cons, app_nil]
  refine wp_ite (t := false) rfl (fun h => by cases h) (fun _ => ?_)
  refine wp_call rfl (fits10_con (k := k) (s := s) (cs := cs) (t := t) hk hs) rfl ?_
  simp only [lv_cons, lv_nil, app_cons, app_nil]
  refine wp_lt rfl ?_
  simp only [lv_cons, lv_nil, app_cons, app_nil]
  refine wp_ite rfl (fun hf => ?_) (fun hf => ?_)
  · refine wp_call rfl awake10_con rfl ?_
    simp only [lv_cons, lv_nil, app_cons, app_nil]
    exact wp_return rfl rfl
  have hf : (cs.length ≤ 300 ∧ rightM s cs = true) ∧ t < 17592186044416 := by simpa using hf
  obtain ⟨⟨hl, hr⟩, ht⟩ := hf
  have hR : RM s cs := right_rm.1 hr
  have hmost := hR.most
  refine wp_call rfl (refIsWay_con (k := kd) (m := m) (s := sm) (x := mx)) rfl ?_
  simp only [lv_cons, lv_nil, app_cons, app_nil]
  refine wp_lt rfl ?_
  simp only [lv_cons, lv_nil, app_cons, app_nil]
  refine wp_ite rfl (fun hf => ?_) (fun hf => ?_)
  · refine wp_call rfl awake10_con rfl ?_
    simp only [lv_cons, lv_nil, app_cons, app_nil]
    exact wp_return rfl rfl
  have hway : isWay kd m = true := by simpa using hf
  obtain ⟨hkd0, hm0⟩ := isWay_iff.1 hway
  clear hway hf
  have h1 := walkWalk_con (t := t) (a := a) (k := kd) (m := m) (sm := sm) (mx := mx) hk hR hC (by omega) ht ha hkd0 hm0
  cases hw : walkR s cs t a kd m sm mx with
  | fault e =>
    rw [hw] at h1
    simp only [walkRs] at h1
    refine wp_call rfl h1 rfl ?_
    simp only [lv_cons, lv_nil, Pt.ds, Lf.ds, app_cons, app_nil]
    refine wp_ite (t := true) rfl (fun _ => ?_) (fun h => by cases h)
    refine wp_call rfl (sameM_con (s := s) hk hk (by omega)) rfl ?_
    simp only [lv_cons, lv_nil, app_cons, app_nil]
    refine wp_ite (t := true) rfl (fun _ => ?_) (fun h => by cases h)
    refine wp_lt (d := .b true) (by repeat' first | refine ite_t (eqs_b rfl rfl) ?_ | refine ite_t (eqs_i rfl rfl) ?_ | exact rfl) ?_
    simp only [lv_cons, lv_nil, app_cons, app_nil]
    refine wp_ite (t := true) rfl (fun _ => ?_) (fun h => by cases h)
    refine wp_lt (d := .b true) (cmp_e (e_eql rfl rfl) (beq_self_eq_true _)) ?_
    simp only [lv_cons, lv_nil, app_cons, app_nil]
    exact wp_return rfl rfl
  | leaf l =>
    have hlal : lookW s cs t a = .leaf l ∧ allowsF l.pt.r l.pt.w l.pt.x l.pt.u kd m sm mx = true := by
      unfold walkR at hw
      cases hlw : lookW s cs t a with
      | fault e => rw [hlw] at hw; cases hw
      | leaf l' =>
        rw [hlw] at hw
        simp only at hw
        split at hw
        · rename_i h; cases hw; exact ⟨rfl, h⟩
        · cases hw
    obtain ⟨hlw, hall⟩ := hlal
    obtain ⟨hva, hl⟩ := look_leaf hlw
    have hW := wordN_lt (s := s) (a := l.pl) hC
    have hR1 := hR.mark (d := kd == 2) hl.low
    have hC1 := cok_mark (d := kd == 2) hR hC hl.low
    have hl1 := len_mark (s := s) (cs := cs) (pl := l.pl) (d := kd == 2)
    have hw1 := mark_word (d := kd == 2) hR.asc hl.low
    have hal := refAllows_con l.pt.r l.pt.w l.pt.x l.pt.u (k := kd) (m := m) sm mx hkd0 hm0
    rw [hall] at hal
    have h2 := walkWalk_con (t := t) (a := a) (k := kd) (m := m) (sm := sm) (mx := mx) (.inl (rfl : (2 : Nat) = 2)) hR1 hC1 (by omega) ht ha hkd0 hm0
    have hw2 : walkR s (markM s cs l.pl (kd == 2)) t a kd m sm mx = .leaf (markL s cs l (kd == 2)) := by
      unfold walkR
      rw [look_mark hR.asc hlw]
      show (if allowsF l.pt.r l.pt.w l.pt.x l.pt.u kd m sm mx then _ else _) = _
      rw [hall, if_pos rfl]
    rw [hw2] at h2
    have e1 : markM s (markM s cs l.pl (kd == 2)) (markL s cs l (kd == 2)).pl (kd == 2) = markM s cs l.pl (kd == 2) := mark_mark hR hl.low
    have e2 := mkL_mkL (d := kd == 2) hR.asc hl
    simp only [walkRs] at h2
    rw [e1, e2] at h2
    rw [hw] at h1
    simp only [walkRs] at h1
    have hwo := fun x (hx : x < s) => word_mark (x := x) (pl := l.pl) (d := kd == 2) hR.asc hx
    have hwo' := fun x (hx : s ≤ x) => word_mark_out (cs := cs) (pl := l.pl) (d := kd == 2) hx
    have hpl : (markL s cs l (kd == 2)).pl = l.pl := rfl
    have hlvv : (markL s cs l (kd == 2)).lv = l.lv := rfl
    have hm8 := hl.al
    have hlow := hl.low
    have hlv := hl.lv
    have hal' : Cn gAll 23 [P4 (markL s cs l (kd == 2)).pt.r (markL s cs l (kd == 2)).pt.w (markL s cs l (kd == 2)).pt.x (markL s cs l (kd == 2)).pt.u, W4 kd m sm mx] [bb true] := hal
    clear hal e1 e2 hw2
    have hal := hal'
    refine wp_call rfl h1 rfl ?_
    clear h1 hal'
    generalize markM s cs l.pl (kd == 2) = cm at *
    rw [← hpl] at hw1 hm8 hlow hwo hW
    rw [← hlvv] at hlv
    generalize markL s cs l (kd == 2) = lm at *
    simp only [lv_cons, lv_nil, Pt.ds, Lf.ds, app_cons, app_nil]
    have hva : (!isVaB a) = false := by rw [hva]; rfl
    refine wp_ite (t := false) rfl (fun h => by cases h) (fun _ => ?_)
    refine wp_call rfl (refRightM_con (s := s) (.inl rfl) hs (by omega)) rfl ?_
    rw [right_rm.2 hR1]
    simp only [lv_cons, lv_nil, app_cons, app_nil]
    refine wp_lt (d := .b false) rfl ?_
    simp only [lv_cons, lv_nil, app_cons, app_nil]
    refine wp_ite (t := false) rfl (fun h => by cases h) (fun _ => ?_)
    refine wp_lt (u_quo (b := 8) rfl rfl (by decide) hlk) ?_
    simp only [lv_cons, lv_nil, app_cons, app_nil]
    refine wp_lt (u_quo (b := 8) rfl rfl (by decide) (by omega)) ?_
    simp only [lv_cons, lv_nil, app_cons, app_nil]
    refine wp_lt (e_neq rfl rfl) ?_
    simp only [lv_cons, lv_nil, app_cons, app_nil]
    refine wp_ite rfl (fun hne => ?_) (fun hne => ?_)
    · have hne := bne_iff_ne.1 hne
      have hsame : wordN s cm lk = wordN s cs lk := by
        by_cases hx : lk < s
        · rw [hwo lk hx, if_neg (by omega)]
        · exact hwo' lk (by omega)
      refine wp_call rfl (refWord_con (s := s) (a := lk) (.inl rfl) hR1.asc (by omega) hlk) rfl ?_
      rw [hsame]
      simp only [lv_cons, lv_nil, app_cons, app_nil]
      refine wp_call rfl (refWord_con (s := s) (a := lk) hk hR.asc (by omega) hlk) rfl ?_
      simp only [lv_cons, lv_nil, app_cons, app_nil]
      refine wp_lt (d := .b false) (cmp_e rfl (bne_self_eq_false _)) ?_
      simp only [lv_cons, lv_nil, app_cons, app_nil]
      refine wp_ite (t := false) rfl (fun h => by cases h) (fun _ => ?_)
      refine wp_call rfl (refWord_con (s := s) (a := lm.pl) hk hR.asc (by omega) (by omega)) rfl ?_
      simp only [lv_cons, lv_nil, app_cons, app_nil]
      refine wp_call rfl (refWord_con (s := s) (a := lm.pl) (.inl rfl) hR1.asc (by omega) (by omega)) rfl ?_
      rw [hw1]
      simp only [lv_cons, lv_nil, app_cons, app_nil]
      refine wp_lt (u_or rfl rfl hW (by decide)) ?_
      simp only [lv_cons, lv_nil, app_cons, app_nil]
      refine wp_lt (u_or rfl rfl (mkN_lt hW) (by decide)) ?_
      rw [mk_or192]
      simp only [lv_cons, lv_nil, app_cons, app_nil]
      refine wp_lt (d := .b false) (cmp_e rfl (bne_self_eq_false _)) ?_
      simp only [lv_cons, lv_nil, app_cons, app_nil]
      refine wp_ite (t := false) rfl (fun h => by cases h) (fun _ => ?_)
      refine wp_lt (u_and rfl rfl (mkN_lt hW) hW) ?_
      rw [mk_and]
      simp only [lv_cons, lv_nil, app_cons, app_nil]
      refine wp_lt (d := .b false) (cmp_e rfl (bne_self_eq_false _)) ?_
      simp only [lv_cons, lv_nil, app_cons, app_nil]
      refine wp_ite (t := false) rfl (fun h => by cases h) (fun _ => ?_)
      refine wp_lt (u_and (b := 64) rfl rfl (mkN_lt hW) (by decide)) ?_
      rw [mk_and64]
      simp only [lv_cons, lv_nil, app_cons, app_nil]
      refine wp_lt (d := .b false) rfl ?_
      simp only [lv_cons, lv_nil, app_cons, app_nil]
      refine wp_ite (t := false) rfl (fun h => by cases h) (fun _ => ?_)
      refine wp_lt (e_eql rfl rfl) ?_
      simp only [lv_cons, lv_nil, app_cons, app_nil]
      refine wp_ite rfl (fun h2k => ?_) (fun h2k => ?_)
      · have hk2 : kd = 2 := beq_iff_eq.1 h2k
        refine wp_lt (u_and (b := 128) rfl rfl (mkN_lt hW) (by decide)) ?_
        rw [h2k, mk_and128]
        simp only [lv_cons, lv_nil, app_cons, app_nil]
        refine wp_lt (d := .b false) rfl ?_
        simp only [lv_cons, lv_nil, app_cons, app_nil]
        refine wp_ite (t := false) rfl (fun h => by cases h) (fun _ => ?_)
        refine wp_lt (d := .b false) (cmp_e (e_neq rfl rfl) (by rw [hk2]; rfl)) ?_
        simp only [lv_cons, lv_nil, app_cons, app_nil]
        refine wp_ite (t := false) rfl (fun h => by cases h) (fun _ => ?_)
        refine wp_call rfl (refPerm_con (p := lm.pt)) rfl ?_
        simp only [lv_cons, lv_nil, app_cons, app_nil]
        refine wp_call rfl hal rfl ?_
        simp only [lv_cons, lv_nil, app_cons, app_nil]
        refine wp_lt (d := .b false) rfl ?_
        simp only [lv_cons, lv_nil, app_cons, app_nil]
        refine wp_ite (t := false) rfl (fun h => by cases h) (fun _ => ?_)
        refine wp_lt (d := .b false) (cmp_e (e_lss rfl rfl) (decide_eq_false (by omega))) ?_
        simp only [lv_cons, lv_nil, app_cons, app_nil]
        refine wp_ite (t := false) rfl (fun h => by cases h) (fun _ => ?_)
        refine wp_lt (d := .b false) (cmp_e (e_gtr rfl rfl) (decide_eq_false (by omega))) ?_
        simp only [lv_cons, lv_nil, app_cons, app_nil]
        refine wp_ite (t := false) rfl (fun h => by cases h) (fun _ => ?_)
        refine wp_lt (u_rem (b := 8) rfl rfl (by decide)) ?_
        rw [hm8]
        simp only [lv_cons, lv_nil, app_cons, app_nil]
        refine wp_lt (d := .b false) rfl ?_
        simp only [lv_cons, lv_nil, app_cons, app_nil]
        refine wp_ite (t := false) rfl (fun h => by cases h) (fun _ => ?_)
        refine wp_call rfl (isVa_con (a := a)) rfl ?_
        simp only [lv_cons, lv_nil, app_cons, app_nil]
        refine wp_lt (d := .b false) (cmp_e (not_e rfl) hva) ?_
        simp only [lv_cons, lv_nil, app_cons, app_nil]
        refine wp_ite (t := false) rfl (fun h => by cases h) (fun _ => ?_)
        refine wp_call rfl h2 rfl ?_
        simp only [lv_cons, lv_nil, Pt.ds, Lf.ds, app_cons, app_nil]
        refine wp_lt (d := .b true) rfl ?_
        simp only [lv_cons, lv_nil, app_cons, app_nil]
        refine wp_ite (t := true) rfl (fun _ => ?_) (fun h => by cases h)
        refine wp_call rfl (sameM_con (s := s) (.inl rfl) (.inl rfl) (by omega)) rfl ?_
        simp only [lv_cons, lv_nil, app_cons, app_nil]
        refine wp_ite (t := true) rfl (fun _ => ?_) (fun h => by cases h)
        refine wp_lt (d := .b true) (by repeat' first | refine ite_t (eqs_b rfl rfl) ?_ | refine ite_t (eqs_i rfl rfl) ?_ | exact rfl) ?_
        simp only [lv_cons, lv_nil, app_cons, app_nil]
        exact wp_return rfl rfl
      · refine wp_lt (d := .b true) (cmp_e (e_neq rfl rfl) (bne_iff_ne.2 (beq_eq_false_iff_ne.1 h2k))) ?_
        simp only [lv_cons, lv_nil, app_cons, app_nil]
        refine wp_ite (t := true) rfl (fun _ => ?_) (fun h => by cases h)
        refine wp_lt (u_and (b := 128) rfl rfl (mkN_lt hW) (by decide)) ?_
        rw [h2k, mk_and128']
        simp only [lv_cons, lv_nil, app_cons, app_nil]
        refine wp_lt (u_and (b := 128) rfl rfl hW (by decide)) ?_
        simp only [lv_cons, lv_nil, app_cons, app_nil]
        refine wp_lt (d := .b false) (cmp_e rfl (bne_self_eq_false _)) ?_
        simp only [lv_cons, lv_nil, app_cons, app_nil]
        refine wp_ite (t := false) rfl (fun h => by cases h) (fun _ => ?_)
        refine wp_call rfl (refPerm_con (p := lm.pt)) rfl ?_
        simp only [lv_cons, lv_nil, app_cons, app_nil]
        refine wp_call rfl hal rfl ?_
        simp only [lv_cons, lv_nil, app_cons, app_nil]
        refine wp_lt (d := .b false) rfl ?_
        simp only [lv_cons, lv_nil, app_cons, app_nil]
        refine wp_ite (t := false) rfl (fun h => by cases h) (fun _ => ?_)
        refine wp_lt (d := .b false) (cmp_e (e_lss rfl rfl) (decide_eq_false (by omega))) ?_
        simp only [lv_cons, lv_nil, app_cons, app_nil]
        refine wp_ite (t := false) rfl (fun h => by cases h) (fun _ => ?_)
        refine wp_lt (d := .b false) (cmp_e (e_gtr rfl rfl) (decide_eq_false (by omega))) ?_
        simp only [lv_cons, lv_nil, app_cons, app_nil]
        refine wp_ite (t := false) rfl (fun h => by cases h) (fun _ => ?_)
        refine wp_lt (u_rem (b := 8) rfl rfl (by decide)) ?_
        rw [hm8]
        simp only [lv_cons, lv_nil, app_cons, app_nil]
        refine wp_lt (d := .b false) rfl ?_
        simp only [lv_cons, lv_nil, app_cons, app_nil]
        refine wp_ite (t := false) rfl (fun h => by cases h) (fun _ => ?_)
        refine wp_call rfl (isVa_con (a := a)) rfl ?_
        simp only [lv_cons, lv_nil, app_cons, app_nil]
        refine wp_lt (d := .b false) (cmp_e (not_e rfl) hva) ?_
        simp only [lv_cons, lv_nil, app_cons, app_nil]
        refine wp_ite (t := false) rfl (fun h => by cases h) (fun _ => ?_)
        refine wp_call rfl h2 rfl ?_
        simp only [lv_cons, lv_nil, Pt.ds, Lf.ds, app_cons, app_nil]
        refine wp_lt (d := .b true) rfl ?_
        simp only [lv_cons, lv_nil, app_cons, app_nil]
        refine wp_ite (t := true) rfl (fun _ => ?_) (fun h => by cases h)
        refine wp_call rfl (sameM_con (s := s) (.inl rfl) (.inl rfl) (by omega)) rfl ?_
        simp only [lv_cons, lv_nil, app_cons, app_nil]
        refine wp_ite (t := true) rfl (fun _ => ?_) (fun h => by cases h)
        refine wp_lt (d := .b true) (by repeat' first | refine ite_t (eqs_b rfl rfl) ?_ | refine ite_t (eqs_i rfl rfl) ?_ | exact rfl) ?_
        simp only [lv_cons, lv_nil, app_cons, app_nil]
        exact wp_return rfl rfl
    · refine wp_call rfl (refWord_con (s := s) (a := lm.pl) hk hR.asc (by omega) (by omega)) rfl ?_
      simp only [lv_cons, lv_nil, app_cons, app_nil]
      refine wp_call rfl (refWord_con (s := s) (a := lm.pl) (.inl rfl) hR1.asc (by omega) (by omega)) rfl ?_
      rw [hw1]
      simp only [lv_cons, lv_nil, app_cons, app_nil]
      refine wp_lt (u_or rfl rfl hW (by decide)) ?_
      simp only [lv_cons, lv_nil, app_cons, app_nil]
      refine wp_lt (u_or rfl rfl (mkN_lt hW) (by decide)) ?_
      rw [mk_or192]
      simp only [lv_cons, lv_nil, app_cons, app_nil]
      refine wp_lt (d := .b false) (cmp_e rfl (bne_self_eq_false _)) ?_
      simp only [lv_cons, lv_nil, app_cons, app_nil]
      refine wp_ite (t := false) rfl (fun h => by cases h) (fun _ => ?_)
      refine wp_lt (u_and rfl rfl (mkN_lt hW) hW) ?_
      rw [mk_and]
      simp only [lv_cons, lv_nil, app_cons, app_nil]
      refine wp_lt (d := .b false) (cmp_e rfl (bne_self_eq_false _)) ?_
      simp only [lv_cons, lv_nil, app_cons, app_nil]
      refine wp_ite (t := false) rfl (fun h => by cases h) (fun _ => ?_)
      refine wp_lt (u_and (b := 64) rfl rfl (mkN_lt hW) (by decide)) ?_
      rw [mk_and64]
      simp only [lv_cons, lv_nil, app_cons, app_nil]
      refine wp_lt (d := .b false) rfl ?_
      simp only [lv_cons, lv_nil, app_cons, app_nil]
      refine wp_ite (t := false) rfl (fun h => by cases h) (fun _ => ?_)
      refine wp_lt (e_eql rfl rfl) ?_
      simp only [lv_cons, lv_nil, app_cons, app_nil]
      refine wp_ite rfl (fun h2k => ?_) (fun h2k => ?_)
      · have hk2 : kd = 2 := beq_iff_eq.1 h2k
        refine wp_lt (u_and (b := 128) rfl rfl (mkN_lt hW) (by decide)) ?_
        rw [h2k, mk_and128]
        simp only [lv_cons, lv_nil, app_cons, app_nil]
        refine wp_lt (d := .b false) rfl ?_
        simp only [lv_cons, lv_nil, app_cons, app_nil]
        refine wp_ite (t := false) rfl (fun h => by cases h) (fun _ => ?_)
        refine wp_lt (d := .b false) (cmp_e (e_neq rfl rfl) (by rw [hk2]; rfl)) ?_
        simp only [lv_cons, lv_nil, app_cons, app_nil]
        refine wp_ite (t := false) rfl (fun h => by cases h) (fun _ => ?_)
        refine wp_call rfl (refPerm_con (p := lm.pt)) rfl ?_
        simp only [lv_cons, lv_nil, app_cons, app_nil]
        refine wp_call rfl hal rfl ?_
        simp only [lv_cons, lv_nil, app_cons, app_nil]
        refine wp_lt (d := .b false) rfl ?_
        simp only [lv_cons, lv_nil, app_cons, app_nil]
        refine wp_ite (t := false) rfl (fun h => by cases h) (fun _ => ?_)
        refine wp_lt (d := .b false) (cmp_e (e_lss rfl rfl) (decide_eq_false (by omega))) ?_
        simp only [lv_cons, lv_nil, app_cons, app_nil]
        refine wp_ite (t := false) rfl (fun h => by cases h) (fun _ => ?_)
        refine wp_lt (d := .b false) (cmp_e (e_gtr rfl rfl) (decide_eq_false (by omega))) ?_
        simp only [lv_cons, lv_nil, app_cons, app_nil]
        refine wp_ite (t := false) rfl (fun h => by cases h) (fun _ => ?_)
        refine wp_lt (u_rem (b := 8) rfl rfl (by decide)) ?_
        rw [hm8]
        simp only [lv_cons, lv_nil, app_cons, app_nil]
        refine wp_lt (d := .b false) rfl ?_
        simp only [lv_cons, lv_nil, app_cons, app_nil]
        refine wp_ite (t := false) rfl (fun h => by cases h) (fun _ => ?_)
        refine wp_call rfl (isVa_con (a := a)) rfl ?_
        simp only [lv_cons, lv_nil, app_cons, app_nil]
        refine wp_lt (d := .b false) (cmp_e (not_e rfl) hva) ?_
        simp only [lv_cons, lv_nil, app_cons, app_nil]
        refine wp_ite (t := false) rfl (fun h => by cases h) (fun _ => ?_)
        refine wp_call rfl h2 rfl ?_
        simp only [lv_cons, lv_nil, Pt.ds, Lf.ds, app_cons, app_nil]
        refine wp_lt (d := .b true) rfl ?_
        simp only [lv_cons, lv_nil, app_cons, app_nil]
        refine wp_ite (t := true) rfl (fun _ => ?_) (fun h => by cases h)
        refine wp_call rfl (sameM_con (s := s) (.inl rfl) (.inl rfl) (by omega)) rfl ?_
        simp only [lv_cons, lv_nil, app_cons, app_nil]
        refine wp_ite (t := true) rfl (fun _ => ?_) (fun h => by cases h)
        refine wp_lt (d := .b true) (by repeat' first | refine ite_t (eqs_b rfl rfl) ?_ | refine ite_t (eqs_i rfl rfl) ?_ | exact rfl) ?_
        simp only [lv_cons, lv_nil, app_cons, app_nil]
        exact wp_return rfl rfl
      · refine wp_lt (d := .b true) (cmp_e (e_neq rfl rfl) (bne_iff_ne.2 (beq_eq_false_iff_ne.1 h2k))) ?_
        simp only [lv_cons, lv_nil, app_cons, app_nil]
        refine wp_ite (t := true) rfl (fun _ => ?_) (fun h => by cases h)
        refine wp_lt (u_and (b := 128) rfl rfl (mkN_lt hW) (by decide)) ?_
        rw [h2k, mk_and128']
        simp only [lv_cons, lv_nil, app_cons, app_nil]
        refine wp_lt (u_and (b := 128) rfl rfl hW (by decide)) ?_
        simp only [lv_cons, lv_nil, app_cons, app_nil]
        refine wp_lt (d := .b false) (cmp_e rfl (bne_self_eq_false _)) ?_
        simp only [lv_cons, lv_nil, app_cons, app_nil]
        refine wp_ite (t := false) rfl (fun h => by cases h) (fun _ => ?_)
        refine wp_call rfl (refPerm_con (p := lm.pt)) rfl ?_
        simp only [lv_cons, lv_nil, app_cons, app_nil]
        refine wp_call rfl hal rfl ?_
        simp only [lv_cons, lv_nil, app_cons, app_nil]
        refine wp_lt (d := .b false) rfl ?_
        simp only [lv_cons, lv_nil, app_cons, app_nil]
        refine wp_ite (t := false) rfl (fun h => by cases h) (fun _ => ?_)
        refine wp_lt (d := .b false) (cmp_e (e_lss rfl rfl) (decide_eq_false (by omega))) ?_
        simp only [lv_cons, lv_nil, app_cons, app_nil]
        refine wp_ite (t := false) rfl (fun h => by cases h) (fun _ => ?_)
        refine wp_lt (d := .b false) (cmp_e (e_gtr rfl rfl) (decide_eq_false (by omega))) ?_
        simp only [lv_cons, lv_nil, app_cons, app_nil]
        refine wp_ite (t := false) rfl (fun h => by cases h) (fun _ => ?_)
        refine wp_lt (u_rem (b := 8) rfl rfl (by decide)) ?_
        rw [hm8]
        simp only [lv_cons, lv_nil, app_cons, app_nil]
        refine wp_lt (d := .b false) rfl ?_
        simp only [lv_cons, lv_nil, app_cons, app_nil]
        refine wp_ite (t := false) rfl (fun h => by cases h) (fun _ => ?_)
        refine wp_call rfl (isVa_con (a := a)) rfl ?_
        simp only [lv_cons, lv_nil, app_cons, app_nil]
        refine wp_lt (d := .b false) (cmp_e (not_e rfl) hva) ?_
        simp only [lv_cons, lv_nil, app_cons, app_nil]
        refine wp_ite (t := false) rfl (fun h => by cases h) (fun _ => ?_)
        refine wp_call rfl h2 rfl ?_
        simp only [lv_cons, lv_nil, Pt.ds, Lf.ds, app_cons, app_nil]
        refine wp_lt (d := .b true) rfl ?_
        simp only [lv_cons, lv_nil, app_cons, app_nil]
        refine wp_ite (t := true) rfl (fun _ => ?_) (fun h => by cases h)
        refine wp_call rfl (sameM_con (s := s) (.inl rfl) (.inl rfl) (by omega)) rfl ?_
        simp only [lv_cons, lv_nil, app_cons, app_nil]
        refine wp_ite (t := true) rfl (fun _ => ?_) (fun h => by cases h)
        refine wp_lt (d := .b true) (by repeat' first | refine ite_t (eqs_b rfl rfl) ?_ | refine ite_t (eqs_i rfl rfl) ?_ | exact rfl) ?_
        simp only [lv_cons, lv_nil, app_cons, app_nil]
        exact wp_return rfl rfl
end Go.Proofs.YthegeidecapfaaaDoor.Sx
