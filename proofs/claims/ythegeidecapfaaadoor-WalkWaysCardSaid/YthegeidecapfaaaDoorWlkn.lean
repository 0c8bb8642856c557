/-
  Layer 10: the laws: ways, what a walk tells.
-/
import Derived.Test.YthegeidecapfaaaDoorWlkm
namespace Go.Proofs.YthegeidecapfaaaDoor.Sx
open Go
set_option linter.unusedVariables false
set_option linter.unusedSimpArgs false
set_option maxRecDepth 100000

theorem mk_or128 {w : Nat} {d : Bool} : mkN w d ||| 128 = mkN w true := by
  refine Nat.eq_of_testBit_eq fun i => ?_
  rw [Nat.testBit_or, mkN_bit, mkN_bit, show (128 : Nat) = 2 ^ 7 from rfl, Nat.testBit_two_pow]
  cases w.testBit i <;> cases d <;> cases decide (6 = i) <;> cases decide (7 = i) <;> rfl
theorem mark_word {s pl : Nat} {d : Bool} {cs : List Cl} (hs : Asc cs) (hp : pl < s) : wordN s (markM s cs pl d) pl = mkN (wordN s cs pl) d := by rw [word_mark hs hp, if_pos rfl]
theorem mark_d {s pl : Nat} {cs : List Cl} {d e : Bool} (hs : Asc cs) (hp : pl < s) (hde : d ≠ e) (h : markM s cs pl d = markM s cs pl e) : (ptN (wordN s cs pl)).d = true := by
  have h1 := mark_word (d := d) hs hp
  rw [h, mark_word hs hp] at h1
  have h2 := congrArg (fun z => z.testBit 7) h1
  simp only [mkN_bit] at h2
  show (wordN s cs pl).testBit 7 = true
  cases d <;> cases e <;> simp_all
theorem WalkWays_con {k s t a : Nat} {k1 m1 k2 m2 : Int} {s1 x1 s2 x2 : Bool} {cs : List Cl} (hk : Kd k cs) (hs : s < 18446744073709551616) (hC : COk cs) (ha : a < 18446744073709551616) : Cn gAll 8 [md k s cs, u t, u a, W4 k1 m1 s1 x1, W4 k2 m2 s2 x2] [bb true] := by
  refine con rfl rfl atlaslaw10_WalkWays_c atlaslaw10_WalkWays_p rfl ?_
  unfold atlaslaw10_WalkWays_ir
  simp only [lv_cons, lv_nil, app_cons, app_nil]
  refine wp_call rfl awake10_con rfl ?_
  simp only [lv_cons, lv_nil, app_cons, app_nil]
  refine wp_lt (d := (.b false)) rfl ?_
  simp only [lv_cons, lv_nil, app_cons, app_nil]
  refine wp_ite (t := false) rfl (fun h => by cases h) (fun _ => ?_)
  refine wp_call rfl (fits10_con (k := k) (s := s) (cs := cs) (t := t) hk hs) rfl ?_
  simp only [lv_cons, lv_nil, app_cons, app_nil]
  refine wp_lt rfl ?_
  simp only [lv_cons, lv_nil, app_cons, app_nil]
  refine wp_ite rfl (fun hf => ?_) (fun hf => ?_)
  · refine wp_call rfl awake10_con rfl ?_
    simp only [lv_cons, lv_nil, app_cons, app_nil]
    exact wp_return rfl rfl
  have hf : (cs.length ≤ 300 ∧ rightM s cs = true) ∧ t < 17592186044416 := by simpa using hf
  obtain ⟨⟨hl, hr⟩, ht⟩ := hf
  have hR : RM s cs := right_rm.1 hr
  have hmost := hR.most
  refine wp_call rfl (refIsWay_con (k := k1) (m := m1) (s := s1) (x := x1)) rfl ?_
  simp only [lv_cons, lv_nil, app_cons, app_nil]
  refine wp_lt rfl ?_
  simp only [lv_cons, lv_nil, app_cons, app_nil]
  refine wp_ite rfl (fun hf => ?_) (fun hf => ?_)
  · refine wp_call rfl awake10_con rfl ?_
    simp only [lv_cons, lv_nil, app_cons, app_nil]
    exact wp_return rfl rfl
  have hway : isWay k1 m1 = true := by simpa using hf
  obtain ⟨hkd1, hm1⟩ := isWay_iff.1 hway
  clear hway hf
  refine wp_call rfl (refIsWay_con (k := k2) (m := m2) (s := s2) (x := x2)) rfl ?_
  simp only [lv_cons, lv_nil, app_cons, app_nil]
  refine wp_lt rfl ?_
  simp only [lv_cons, lv_nil, app_cons, app_nil]
  refine wp_ite rfl (fun hf => ?_) (fun hf => ?_)
  · refine wp_call rfl awake10_con rfl ?_
    simp only [lv_cons, lv_nil, app_cons, app_nil]
    exact wp_return rfl rfl
  have hway : isWay k2 m2 = true := by simpa using hf
  obtain ⟨hkd2, hm2⟩ := isWay_iff.1 hway
  clear hway hf
  have h1 := walkWalk_con (t := t) (a := a) (k := k1) (m := m1) (sm := s1) (mx := x1) hk hR hC (by omega) ht ha hkd1 hm1
  have h2 := walkWalk_con (t := t) (a := a) (k := k2) (m := m2) (sm := s2) (mx := x2) hk hR hC (by omega) ht ha hkd2 hm2
  have h3 := walkLook_con (t := t) (a := a) (kd := k1) hk hR hC (by omega) ht ha hkd1
  unfold walkR at h1 h2
  cases hlk : lookW s cs t a with
  | fault e =>
    rw [hlk] at h1 h2 h3
    simp only [Lk.rs, walkRs] at h1 h2 h3
    refine wp_call rfl h1 rfl ?_
    simp only [lv_cons, lv_nil, Pt.ds, Lf.ds, app_cons, app_nil]
    refine wp_call rfl h2 rfl ?_
    simp only [lv_cons, lv_nil, Pt.ds, Lf.ds, app_cons, app_nil]
    refine wp_call rfl h3 rfl ?_
    simp only [lv_cons, lv_nil, Pt.ds, Lf.ds, app_cons, app_nil]
    refine wp_ite (t := true) rfl (fun _ => ?_) (fun h => by cases h)
    refine wp_ite (t := true) rfl (fun _ => ?_) (fun h => by cases h)
    refine wp_ite (t := true) rfl (fun _ => ?_) (fun h => by cases h)
    refine wp_lt (d := .b true) (by repeat' first | refine ite_t (eqs_b rfl rfl) ?_ | refine ite_t (eqs_i rfl rfl) ?_ | exact rfl) ?_
    simp only [lv_cons, lv_nil, app_cons, app_nil]
    exact wp_return rfl rfl
  | leaf l =>
    have hl := (look_leaf hlk).2
    have ha1 := refAllows_con l.pt.r l.pt.w l.pt.x l.pt.u (k := k1) (m := m1) s1 x1 hkd1 hm1
    have ha2 := refAllows_con l.pt.r l.pt.w l.pt.x l.pt.u (k := k2) (m := m2) s2 x2 hkd2 hm2
    rw [hlk] at h1 h2 h3
    simp only [Lk.rs] at h1 h2 h3
    generalize allowsF l.pt.r l.pt.w l.pt.x l.pt.u k1 m1 s1 x1 = al1 at h1 ha1
    generalize allowsF l.pt.r l.pt.w l.pt.x l.pt.u k2 m2 s2 x2 = al2 at h2 ha2
    cases al1 with
    | false =>
      simp only [Bool.false_eq_true, if_false, walkRs] at h1
      refine wp_call rfl h1 rfl ?_
      simp only [lv_cons, lv_nil, Pt.ds, Lf.ds, app_cons, app_nil]
      cases al2 with
      | false =>
        simp only [Bool.false_eq_true, if_false, walkRs] at h2
        refine wp_call rfl h2 rfl ?_
        simp only [lv_cons, lv_nil, Pt.ds, Lf.ds, app_cons, app_nil]
        refine wp_call rfl h3 rfl ?_
        simp only [lv_cons, lv_nil, Pt.ds, Lf.ds, app_cons, app_nil]
        refine wp_ite (t := false) rfl (fun h => by cases h) (fun _ => ?_)
        refine wp_call rfl (refPerm_con (p := l.pt)) rfl ?_
        simp only [lv_cons, lv_nil, app_cons, app_nil]
        refine wp_call rfl ha1 rfl ?_
        simp only [lv_cons, lv_nil, app_cons, app_nil]
        refine wp_lt (d := .b false) rfl ?_
        simp only [lv_cons, lv_nil, app_cons, app_nil]
        refine wp_ite (t := false) rfl (fun h => by cases h) (fun _ => ?_)
        refine wp_call rfl ha2 rfl ?_
        simp only [lv_cons, lv_nil, app_cons, app_nil]
        refine wp_lt (d := .b false) rfl ?_
        simp only [lv_cons, lv_nil, app_cons, app_nil]
        refine wp_ite (t := false) rfl (fun h => by cases h) (fun _ => ?_)
        refine wp_ite (t := true) rfl (fun _ => ?_) (fun h => by cases h)
        exact wp_return rfl rfl
      | true =>
        simp only [if_true, walkRs] at h2
        refine wp_call rfl h2 rfl ?_
        simp only [lv_cons, lv_nil, Pt.ds, Lf.ds, app_cons, app_nil]
        refine wp_call rfl h3 rfl ?_
        simp only [lv_cons, lv_nil, Pt.ds, Lf.ds, app_cons, app_nil]
        refine wp_ite (t := false) rfl (fun h => by cases h) (fun _ => ?_)
        refine wp_call rfl (refPerm_con (p := l.pt)) rfl ?_
        simp only [lv_cons, lv_nil, app_cons, app_nil]
        refine wp_call rfl ha1 rfl ?_
        simp only [lv_cons, lv_nil, app_cons, app_nil]
        refine wp_lt (d := .b false) rfl ?_
        simp only [lv_cons, lv_nil, app_cons, app_nil]
        refine wp_ite (t := false) rfl (fun h => by cases h) (fun _ => ?_)
        refine wp_call rfl ha2 rfl ?_
        simp only [lv_cons, lv_nil, app_cons, app_nil]
        refine wp_lt (d := .b false) rfl ?_
        simp only [lv_cons, lv_nil, app_cons, app_nil]
        refine wp_ite (t := false) rfl (fun h => by cases h) (fun _ => ?_)
        refine wp_ite (t := true) rfl (fun _ => ?_) (fun h => by cases h)
        exact wp_return rfl rfl
    | true =>
      simp only [if_true, walkRs] at h1
      refine wp_call rfl h1 rfl ?_
      simp only [lv_cons, lv_nil, Pt.ds, Lf.ds, app_cons, app_nil]
      cases al2 with
      | false =>
        simp only [Bool.false_eq_true, if_false, walkRs] at h2
        refine wp_call rfl h2 rfl ?_
        simp only [lv_cons, lv_nil, Pt.ds, Lf.ds, app_cons, app_nil]
        refine wp_call rfl h3 rfl ?_
        simp only [lv_cons, lv_nil, Pt.ds, Lf.ds, app_cons, app_nil]
        refine wp_ite (t := false) rfl (fun h => by cases h) (fun _ => ?_)
        refine wp_call rfl (refPerm_con (p := l.pt)) rfl ?_
        simp only [lv_cons, lv_nil, app_cons, app_nil]
        refine wp_call rfl ha1 rfl ?_
        simp only [lv_cons, lv_nil, app_cons, app_nil]
        refine wp_lt (d := .b false) rfl ?_
        simp only [lv_cons, lv_nil, app_cons, app_nil]
        refine wp_ite (t := false) rfl (fun h => by cases h) (fun _ => ?_)
        refine wp_call rfl ha2 rfl ?_
        simp only [lv_cons, lv_nil, app_cons, app_nil]
        refine wp_lt (d := .b false) rfl ?_
        simp only [lv_cons, lv_nil, app_cons, app_nil]
        refine wp_ite (t := false) rfl (fun h => by cases h) (fun _ => ?_)
        refine wp_ite (t := false) rfl (fun h => by cases h) (fun _ => ?_)
        refine wp_ite (t := true) rfl (fun _ => ?_) (fun h => by cases h)
        exact wp_return rfl rfl
      | true =>
        simp only [if_true, walkRs] at h2
        refine wp_call rfl h2 rfl ?_
        simp only [lv_cons, lv_nil, Pt.ds, Lf.ds, app_cons, app_nil]
        refine wp_call rfl h3 rfl ?_
        simp only [lv_cons, lv_nil, Pt.ds, Lf.ds, app_cons, app_nil]
        refine wp_ite (t := false) rfl (fun h => by cases h) (fun _ => ?_)
        refine wp_call rfl (refPerm_con (p := l.pt)) rfl ?_
        simp only [lv_cons, lv_nil, app_cons, app_nil]
        refine wp_call rfl ha1 rfl ?_
        simp only [lv_cons, lv_nil, app_cons, app_nil]
        refine wp_lt (d := .b false) rfl ?_
        simp only [lv_cons, lv_nil, app_cons, app_nil]
        refine wp_ite (t := false) rfl (fun h => by cases h) (fun _ => ?_)
        refine wp_call rfl ha2 rfl ?_
        simp only [lv_cons, lv_nil, app_cons, app_nil]
        refine wp_lt (d := .b false) rfl ?_
        simp only [lv_cons, lv_nil, app_cons, app_nil]
        refine wp_ite (t := false) rfl (fun h => by cases h) (fun _ => ?_)
        refine wp_ite (t := false) rfl (fun h => by cases h) (fun _ => ?_)
        refine wp_ite (t := false) rfl (fun h => by cases h) (fun _ => ?_)
        have hW := wordN_lt (s := s) (a := l.pl) hC
        have hb1 := mkN_lt (d := k1 == 2) hW
        have hb2 := mkN_lt (d := k2 == 2) hW
        have hmd := fun hde => mark_d (d := k1 == 2) (e := k2 == 2) hR.asc hl.low hde
        have hR1 := hR.mark (d := k1 == 2) hl.low
        have hR2 := hR.mark (d := k2 == 2) hl.low
        have hw1 := mark_word (d := k1 == 2) hR.asc hl.low
        have hw2 := mark_word (d := k2 == 2) hR.asc hl.low
        have hl1 := len_mark (s := s) (cs := cs) (pl := l.pl) (d := k1 == 2)
        have hl2 := len_mark (s := s) (cs := cs) (pl := l.pl) (d := k2 == 2)
        have hpd : ∀ b, (ptN (wordN s cs l.pl)).d = b → l.pt.d = b := fun b hb => by
          obtain ⟨g, hg⟩ := hl.pt
          rw [hg]
          exact hb
        have hmm : (k1 == 2) = (k2 == 2) → markM s cs l.pl (k1 == 2) = markM s cs l.pl (k2 == 2) := fun h => by rw [h]
        refine wp_call rfl (refWord_con (s := s) (a := l.pl) (.inl rfl) hR1.asc (by omega) (by have := hl.low; omega)) rfl ?_
        rw [hw1]
        simp only [lv_cons, lv_nil, app_cons, app_nil]
        refine wp_call rfl (refWord_con (s := s) (a := l.pl) (.inl rfl) hR2.asc (by omega) (by have := hl.low; omega)) rfl ?_
        rw [hw2]
        simp only [lv_cons, lv_nil, app_cons, app_nil]
        generalize markM s cs l.pl (k1 == 2) = c1 at *
        generalize markM s cs l.pl (k2 == 2) = c2 at *
        unfold markL
        generalize hpw : ptN (wordN s cs l.pl) = pw at *
        refine wp_lt (d := .b true) (by repeat' first | refine ite_t (eqs_b rfl rfl) ?_ | refine ite_t (eqs_i rfl rfl) ?_ | exact rfl) ?_
        simp only [lv_cons, lv_nil, app_cons, app_nil]
        refine wp_ite (t := true) rfl (fun _ => ?_) (fun h => by cases h)
        refine wp_lt (u_or rfl rfl hb1 (by decide)) ?_
        simp only [lv_cons, lv_nil, app_cons, app_nil]
        refine wp_lt (u_or rfl rfl hb2 (by decide)) ?_
        rw [mk_or128, mk_or128]
        simp only [lv_cons, lv_nil, app_cons, app_nil]
        refine wp_lt (d := .b true) (cmp_e (e_eql rfl rfl) (beq_self_eq_true _)) ?_
        simp only [lv_cons, lv_nil, app_cons, app_nil]
        refine wp_ite (t := true) rfl (fun _ => ?_) (fun h => by cases h)
        refine wp_lt (e_eql rfl rfl) ?_
        simp only [lv_cons, lv_nil, app_cons, app_nil]
        refine wp_lt (e_eql rfl rfl) ?_
        simp only [lv_cons, lv_nil, app_cons, app_nil]
        refine wp_lt (eqt_b rfl rfl) ?_
        simp only [lv_cons, lv_nil, app_cons, app_nil]
        refine wp_call rfl (sameM_dec (s := s) (.inl rfl) (.inl rfl) (by omega) (by omega)) rfl ?_
        simp only [lv_cons, lv_nil, app_cons, app_nil]
        refine wp_lt (eqt_b rfl rfl) ?_
        simp only [lv_cons, lv_nil, app_cons, app_nil]
        refine wp_ite rfl (fun hq => ?_) (fun hq => ?_)
        · exact wp_return rfl rfl
        · have hdt : pw.d = true := by
            by_cases hde : (k1 == 2) = (k2 == 2)
            · rw [hmm hde] at hq
              simp [hde] at hq
            · refine hmd hde ?_
              cases hcc : decide (c1 = c2) with
              | true => exact of_decide_eq_true hcc
              | false =>
                rw [hcc] at hq
                exfalso
                revert hq hde
                cases (k1 == 2) <;> cases (k2 == 2) <;> simp
          have hld := hpd true hdt
          refine wp_lt (d := .b true) (by repeat' first | refine ite_t (eqs_b rfl rfl) ?_ | refine ite_t (eqs_i rfl rfl) ?_ | exact rfl) ?_
          simp only [lv_cons, lv_nil, app_cons, app_nil]
          refine wp_ite (t := true) rfl (fun _ => ?_) (fun h => by cases h)
          refine wp_lt (u_or rfl rfl hb1 (by decide)) ?_
          simp only [lv_cons, lv_nil, app_cons, app_nil]
          refine wp_lt (u_or rfl rfl hb2 (by decide)) ?_
          rw [mk_or128, mk_or128]
          simp only [lv_cons, lv_nil, app_cons, app_nil]
          refine wp_lt (d := .b true) (cmp_e (e_eql rfl rfl) (beq_self_eq_true _)) ?_
          simp only [lv_cons, lv_nil, app_cons, app_nil]
          refine wp_ite (t := true) rfl (fun _ => ?_) (fun h => by cases h)
          refine wp_return rfl ?_
          rw [hld]
end Go.Proofs.YthegeidecapfaaaDoor.Sx
