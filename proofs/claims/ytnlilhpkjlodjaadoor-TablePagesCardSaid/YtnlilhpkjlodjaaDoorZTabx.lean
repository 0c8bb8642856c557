/-
  Layer 19: TableWrites.
-/
import Derived.Test.YtnlilhpkjlodjaaDoorZTabw
import Derived.Test.YtnlilhpkjlodjaaDoorZTabf
namespace Go.Proofs.YtnlilhpkjlodjaaDoor.Sx
open Go
set_option linter.unusedVariables false
set_option linter.unusedSimpArgs false
set_option maxRecDepth 100000
theorem ptN_wdN {p : Pt} (h : p.May) : ptN (wdN p) = p := by
  obtain ⟨v, r, w, x, u, g, a, d, rsw, ppn, high⟩ := p
  obtain ⟨h1, h2, h3⟩ := h
  simp only at h1 h2 h3
  have b : ∀ j, j < 8 → (wdN ⟨v, r, w, x, u, g, a, d, rsw, ppn, high⟩).testBit j = (([v, r, w, x, u, g, a, d] : List Bool)[j]?).getD false := fun j hj => wdN_lo hj
  have e1 : wdN ⟨v, r, w, x, u, g, a, d, rsw, ppn, high⟩ / 256 % 4 = rsw := by
    refine Nat.eq_of_testBit_eq fun j => ?_
    rw [show (256 : Nat) = 2 ^ 8 from rfl, show (4 : Nat) = 2 ^ 2 from rfl, Nat.testBit_mod_two_pow, Nat.testBit_div_two_pow, wdN, setN_testBit, setN_testBit, setN_testBit]
    by_cases hj : j < 2
    · rw [if_neg (by omega), if_neg (by omega), if_pos (by omega), decide_eq_true hj, decide_eq_true (show j + 8 < 64 by omega), show j + 8 - 8 = j by omega]
      simp
    · rw [decide_eq_false hj, Bool.false_and]
      exact (Nat.testBit_lt_two_pow (Nat.lt_of_lt_of_le h1 (show (4 : Nat) ≤ 2 ^ j from Nat.pow_le_pow_right (n := 2) (by decide) (show 2 ≤ j by omega)))).symm
  have e2 : wdN ⟨v, r, w, x, u, g, a, d, rsw, ppn, high⟩ / 1024 % 17592186044416 = ppn := by
    refine Nat.eq_of_testBit_eq fun j => ?_
    rw [show (1024 : Nat) = 2 ^ 10 from rfl, show (17592186044416 : Nat) = 2 ^ 44 from rfl, Nat.testBit_mod_two_pow, Nat.testBit_div_two_pow, wdN, setN_testBit, setN_testBit]
    by_cases hj : j < 44
    · rw [if_neg (by omega), if_pos (by omega), decide_eq_true hj, decide_eq_true (show j + 10 < 64 by omega), show j + 10 - 10 = j by omega]
      simp
    · rw [decide_eq_false hj, Bool.false_and]
      exact (Nat.testBit_lt_two_pow (Nat.lt_of_lt_of_le h2 (show (17592186044416 : Nat) ≤ 2 ^ j from Nat.pow_le_pow_right (n := 2) (by decide) (show 44 ≤ j by omega)))).symm
  have e3 : wdN ⟨v, r, w, x, u, g, a, d, rsw, ppn, high⟩ / 18014398509481984 = high := by
    refine Nat.eq_of_testBit_eq fun j => ?_
    rw [show (18014398509481984 : Nat) = 2 ^ 54 from rfl, Nat.testBit_div_two_pow, wdN, setN_testBit]
    by_cases hj : j < 10
    · rw [if_pos (by omega), decide_eq_true (show j + 54 < 64 by omega), show j + 54 - 54 = j by omega]
      simp
    · rw [decide_eq_false (show ¬ j + 54 < 64 by omega), Bool.false_and]
      exact (Nat.testBit_lt_two_pow (Nat.lt_of_lt_of_le h3 (show (1024 : Nat) ≤ 2 ^ j from Nat.pow_le_pow_right (n := 2) (by decide) (show 10 ≤ j by omega)))).symm
  unfold ptN
  rw [b 0 (by decide), b 1 (by decide), b 2 (by decide), b 3 (by decide), b 4 (by decide), b 5 (by decide), b 6 (by decide), b 7 (by decide), e1, e2, e3]
  rfl
def Pt.mayB (p : Pt) : Bool := decide (p.rsw < 4) && decide (p.ppn < 17592186044416) && decide (p.high < 1024)
theorem refMay06_con {p : Pt} : Cn gAll 27 [p.dv] [bb p.mayB] := by
  refine con rfl rfl atlasref06_May_c atlasref06_May_p rfl ?_
  unfold atlasref06_May_ir
  simp only [lv_cons, lv_nil, Pt.ds, Lf.ds, app_cons, app_nil]
  refine wp_lt (d := .b (decide (p.rsw < 4))) (cmp_e (e_lss rfl rfl) (decide_eq_decide.2 (by omega))) ?_
  simp only [lv_cons, lv_nil, app_cons, app_nil]
  refine wp_ite rfl (fun h1 => ?_) (fun h1 => wp_return rfl (bb_eq (by rw [Pt.mayB, h1]; rfl)))
  refine wp_lt (d := .b (decide (p.ppn < 17592186044416))) (cmp_e (e_lss rfl rfl) (decide_eq_decide.2 (by omega))) ?_
  simp only [lv_cons, lv_nil, app_cons, app_nil]
  refine wp_ite rfl (fun h2 => ?_) (fun h2 => wp_return rfl (bb_eq (by rw [Pt.mayB, h1, h2]; rfl)))
  refine wp_lt (d := .b (decide (p.high < 1024))) (cmp_e (e_lss rfl rfl) (decide_eq_decide.2 (by omega))) ?_
  simp only [lv_cons, lv_nil, app_cons, app_nil]
  exact wp_return rfl (bb_eq (by rw [Pt.mayB, h1, h2]; rfl))
theorem mayB_may {p : Pt} (h : p.mayB = true) : p.May := by
  simp only [Pt.mayB, Bool.and_eq_true, decide_eq_true_eq] at h
  exact ⟨h.1.1, h.1.2, h.2⟩
theorem lnk_of_link {p : Pt} {l : Int} (h : p.link = false) : lnkB p l = false := by rw [lnkB, h]; rfl
def putE (s : Nat) (cs : List Cl) (a : Nat) (r : Nat × Nat) (p : Pt) : List Cl := putM cs (r.2 * 512 + ixN a r.1) (wdN p)
structure PutOk (s : Nat) (cs : List Cl) : Prop where
  rm : RM s cs
  cok : COk cs
  len : cs.length ≤ 301
theorem putE_ok {s a l t : Nat} {cs : List Cl} {p : Pt} {lv : Int} (h : FitOk s cs lv t l) (hO : COk cs) : PutOk s (putE s cs a (reachN s cs a 0 l t) p) := by
  have hlow := h.tree.low _ (reach_mem (s := s) (a := a) (w := 0) (cs := cs) (l := l) (t := t)).1
  have hix := ixN_lt (a := a) (l := (reachN s cs a 0 l t).1)
  have he := h.rm.even
  have hm := h.rm.most
  have hlen := len_put (cs := cs) (p := (reachN s cs a 0 l t).2 * 512 + ixN a (reachN s cs a 0 l t).1) (v := wdN p)
  have hl := h.len
  exact ⟨h.rm.put (by omega), cok_put h.rm.asc hO (by omega) wdN_lt, by unfold putE; omega⟩
theorem FitOk.t44 {s l t : Nat} {cs : List Cl} {lv : Int} (h : FitOk s cs lv t l) : t < 17592186044416 := by
  have := h.tree.head
  have := h.rm.most
  omega
theorem TableWrites_con {s top va other : Nat} {lv : Int} {cs : List Cl} {p : Pt} (hs : s < 18446744073709551616) (hO : COk cs) (htop : top < 18446744073709551616) (h0 : -9223372036854775808 ≤ lv) (h1 : lv < 9223372036854775808) (hva : va < 18446744073709551616) (hot : other < 18446744073709551616) :
    Cn gAll 5 [md 2 s cs, u top, i lv, u va, u other, p.dv] [bb true] := by
  refine con rfl rfl atlaslaw19_TableWrites_c atlaslaw19_TableWrites_p rfl ?_
  unfold atlaslaw19_TableWrites_ir
  simp only [lv_cons, lv_nil, Pt.ds, Lf.ds, app_cons, app_nil]
  refine wp_call rfl awake19_con rfl ?_
  simp only [lv_cons, lv_nil, app_cons, app_nil]
  refine wp_lt (d := (.b false)) rfl ?_
  simp only [lv_cons, lv_nil, app_cons, app_nil]
  refine wp_ite (t := false) rfl (fun h => by cases h) (fun _ => ?_)
  obtain ⟨b, hf, hb⟩ := fits19_con (cs := cs) (lv := lv) hs hO htop h0 h1
  refine wp_call rfl hf rfl ?_
  simp only [lv_cons, lv_nil, app_cons, app_nil]
  refine wp_lt (not_e rfl) ?_
  simp only [lv_cons, lv_nil, app_cons, app_nil]
  refine wp_ite rfl (fun hc => ?_) (fun hc => ?_)
  · refine wp_call rfl awake19_con rfl ?_
    simp only [lv_cons, lv_nil, app_cons, app_nil]
    exact wp_return rfl rfl
  obtain ⟨l, hF⟩ := hb (by simpa using hc)
  obtain rfl := hF.eq
  clear hf hb
  refine wp_call rfl (isVa_con (a := va)) rfl ?_
  simp only [lv_cons, lv_nil, app_cons, app_nil]
  refine wp_lt (not_e rfl) ?_
  simp only [lv_cons, lv_nil, app_cons, app_nil]
  refine wp_ite rfl (fun hc => ?_) (fun hc => ?_)
  · refine wp_call rfl awake19_con rfl ?_
    simp only [lv_cons, lv_nil, app_cons, app_nil]
    exact wp_return rfl rfl
  refine wp_call rfl (isVa_con (a := other)) rfl ?_
  simp only [lv_cons, lv_nil, app_cons, app_nil]
  refine wp_lt (not_e rfl) ?_
  simp only [lv_cons, lv_nil, app_cons, app_nil]
  refine wp_ite rfl (fun hc => ?_) (fun hc => ?_)
  · refine wp_call rfl awake19_con rfl ?_
    simp only [lv_cons, lv_nil, app_cons, app_nil]
    exact wp_return rfl rfl
  refine wp_call rfl (refMay06_con (p := p)) rfl ?_
  simp only [lv_cons, lv_nil, app_cons, app_nil]
  refine wp_lt (not_e rfl) ?_
  simp only [lv_cons, lv_nil, app_cons, app_nil]
  refine wp_ite rfl (fun hc => ?_) (fun hc => ?_)
  · refine wp_call rfl awake19_con rfl ?_
    simp only [lv_cons, lv_nil, app_cons, app_nil]
    exact wp_return rfl rfl
  have hp : p.May := mayB_may (by simpa using hc)
  refine wp_call rfl (refLink_con (p := p)) rfl ?_
  simp only [lv_cons, lv_nil, app_cons, app_nil]
  refine wp_ite rfl (fun hc => ?_) (fun hlk => ?_)
  · refine wp_call rfl awake19_con rfl ?_
    simp only [lv_cons, lv_nil, app_cons, app_nil]
    exact wp_return rfl rfl
  have hRM := hF.rm
  have hl := hF.len
  have hr1 := reach_con (s := s) (t := top) (a := va) (l := l) (want := 0) hRM.asc hO (by omega) hva hF.le hF.t44 (by decide)
  have hr2 := reach_con (s := s) (t := top) (a := other) (l := l) (want := 0) hRM.asc hO (by omega) hot hF.le hF.t44 (by decide)
  obtain ⟨hm1, hm2⟩ := reach_mem (s := s) (a := va) (w := 0) (cs := cs) (l := l) (t := top)
  have hlow := hF.tree.low _ hm1
  have hP := putE_ok (a := va) (p := p) hF hO
  have hput := put_reach (s := s) (a := va) (w := 0) (v := wdN p) hRM hF.tree (by rw [ptN_wdN hp]; exact lnk_of_link hlk)
  have hoth := put_other (s := s) (a := va) (b := other) (w := 0) (v := wdN p) hRM hF.tree
  have hPl := hP.len
  have hr3 := reach_con (s := s) (t := top) (a := va) (l := l) (want := 0) hP.rm.asc hP.cok (by omega) hva hF.le hF.t44 (by decide)
  have hr4 := reach_con (s := s) (t := top) (a := other) (l := l) (want := 0) hP.rm.asc hP.cok (by omega) hot hF.le hF.t44 (by decide)
  have hle := hF.le
  unfold putE at hr3 hr4 hP
  rw [hput] at hr3
  obtain ⟨o, ho⟩ : ∃ o, o = reachN s cs other 0 l top := ⟨_, rfl⟩
  rw [← ho] at hr2 hoth
  obtain ⟨r, hr⟩ : ∃ r, r = reachN s cs va 0 l top := ⟨_, rfl⟩
  rw [← hr] at hr1 hr3 hr4 hoth hP hlow hm2
  unfold spotD at hr1 hr2 hr3 hr4
  have e3 : ptA s (putM cs (r.2 * 512 + ixN va r.1) (wdN p)) r.2 va r.1 = p := by
    rw [ptA, ent_put hRM hlow ixN_lt ixN_lt, if_pos ⟨rfl, rfl⟩, ptN_wdN hp]
  rw [e3] at hr3
  obtain ⟨qo, hqo⟩ : ∃ qo, qo = ptA s cs o.2 other o.1 := ⟨_, rfl⟩
  rw [← hqo] at hr2
  obtain ⟨qr, hqr⟩ : ∃ qr, qr = ptA s cs r.2 va r.1 := ⟨_, rfl⟩
  rw [← hqr] at hr1
  refine wp_call rfl hr1 rfl ?_
  simp only [lv_cons, lv_nil, Pt.ds, Lf.ds, app_cons, app_nil]
  refine wp_call rfl hr2 rfl ?_
  simp only [lv_cons, lv_nil, Pt.ds, Lf.ds, app_cons, app_nil]
  refine wp_call rfl (with_con (s := s) (t := r.2) (a := va) (l := r.1) (p := p) (q := qr) hRM hO (by omega) hva (by omega) hlow hp) rfl ?_
  simp only [lv_cons, lv_nil, app_cons, app_nil]
  refine wp_call rfl hr3 rfl ?_
  simp only [lv_cons, lv_nil, Pt.ds, Lf.ds, app_cons, app_nil]
  refine wp_lt (d := .b false) (not_e (t := true) ?_) ?_
  · repeat' first | refine ite_t (eqs_b rfl rfl) ?_ | refine ite_t (eqs_i rfl rfl) ?_ | exact rfl
  simp only [lv_cons, lv_nil, app_cons, app_nil]
  refine wp_ite (t := false) rfl (fun h => by cases h) (fun _ => ?_)
  have hright := refRightM_con (k := 2) (s := s) (cs := putM cs (r.2 * 512 + ixN va r.1) (wdN p)) (.inl rfl) hs (by have := hP.len; omega)
  rw [right_rm.2 hP.rm] at hright
  refine wp_call rfl hright rfl ?_
  simp only [lv_cons, lv_nil, app_cons, app_nil]
  refine wp_lt (d := (.b false)) rfl ?_
  simp only [lv_cons, lv_nil, app_cons, app_nil]
  refine wp_ite (t := false) rfl (fun h => by cases h) (fun _ => ?_)
  have hend : ¬ (o.2 = r.2 ∧ ixN va r.1 = ixN other r.1) → Cn gAll 29 [md 2 s (putM cs (r.2 * 512 + ixN va r.1) (wdN p)), u top, i (l : Nat), u other, i 0] [(true, U o.2 :: I o.1 :: qo.ds)] := fun hne => by
    obtain ⟨g1, g2⟩ := hoth hne
    rw [g1] at hr4
    have e4 : ptA s (putM cs (r.2 * 512 + ixN va r.1) (wdN p)) o.2 other o.1 = qo := by
      rw [hqo]
      exact congrArg ptN g2
    rw [e4] at hr4
    exact hr4
  refine wp_lt (d := .b (o.2 == r.2)) (cmp_e (e_eql rfl rfl) (by rw [Bool.eq_iff_iff, beq_iff_eq, beq_iff_eq]; omega)) ?_
  simp only [lv_cons, lv_nil, app_cons, app_nil]
  refine wp_ite rfl (fun hc1 => ?_) (fun hc1 => ?_)
  · have hc1 : o.2 = r.2 := eq_of_beq hc1
    refine wp_call rfl (refIndex05_con (a := va) (l := r.1) hva (by omega)) rfl ?_
    simp only [lv_cons, lv_nil, app_cons, app_nil]
    refine wp_call rfl (refIndex05_con (a := other) (l := r.1) hot (by omega)) rfl ?_
    simp only [lv_cons, lv_nil, app_cons, app_nil]
    refine wp_lt (d := .b (ixN va r.1 == ixN other r.1)) (cmp_e (e_eql rfl rfl) (by rw [Bool.eq_iff_iff, beq_iff_eq, beq_iff_eq]; unfold ixN; omega)) ?_
    simp only [lv_cons, lv_nil, app_cons, app_nil]
    refine wp_ite rfl (fun hc2 => wp_return rfl rfl) (fun hc2 => ?_)
    have hne : ¬ (o.2 = r.2 ∧ ixN va r.1 = ixN other r.1) := fun h => by rw [h.2] at hc2; simp at hc2
    refine wp_call rfl (hend hne) rfl ?_
    simp only [lv_cons, lv_nil, Pt.ds, Lf.ds, app_cons, app_nil]
    refine wp_lt (d := .b true) ?_ ?_
    · repeat' first | refine ite_t (eqs_b rfl rfl) ?_ | refine ite_t (eqs_i rfl rfl) ?_ | exact rfl
    simp only [lv_cons, lv_nil, app_cons, app_nil]
    exact wp_return rfl rfl
  · have hne : ¬ (o.2 = r.2 ∧ ixN va r.1 = ixN other r.1) := fun h => by rw [h.1] at hc1; simp at hc1
    refine wp_call rfl (hend hne) rfl ?_
    simp only [lv_cons, lv_nil, Pt.ds, Lf.ds, app_cons, app_nil]
    refine wp_lt (d := .b true) ?_ ?_
    · repeat' first | refine ite_t (eqs_b rfl rfl) ?_ | refine ite_t (eqs_i rfl rfl) ?_ | exact rfl
    simp only [lv_cons, lv_nil, app_cons, app_nil]
    exact wp_return rfl rfl
end Go.Proofs.YtnlilhpkjlodjaaDoor.Sx
