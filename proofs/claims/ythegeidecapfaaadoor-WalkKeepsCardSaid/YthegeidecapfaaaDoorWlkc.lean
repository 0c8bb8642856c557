/-
  Layers 5, 6, 8, 9: causes, permissions, parts of addresses: contracts.
-/
import Derived.Test.YthegeidecapfaaaDoorWlkb
namespace Go.Proofs.YthegeidecapfaaaDoor.Sx
open Go
set_option linter.unusedVariables false
set_option linter.unusedSimpArgs false
set_option maxRecDepth 100000

theorem refBad_con {p : Pt} {l : Int} (hl : Lv l) : Cn gAll 59 [p.dv, i l] [bb (p.bad l)] := by
  refine con rfl rfl atlasref06_Bad_c atlasref06_Bad_p rfl ?_
  unfold atlasref06_Bad_ir
  simp only [lv_cons, lv_nil, Pt.ds, app_cons, app_nil]
  refine wp_lt (d := (.b (!p.v))) rfl ?_
  simp only [lv_cons, lv_nil, app_cons, app_nil]
  refine wp_ite rfl (fun h1 => ?_) (fun h1 => ?_)
  · exact wp_return rfl (bb_eq (by simp only [Pt.bad, h1, Bool.true_or]))
  have h1 : p.v = true := by simpa using h1
  refine wp_ite rfl (fun h2 => ?_) (fun h2 => ?_)
  · refine wp_lt (d := (.b (!p.r))) rfl ?_
    simp only [lv_cons, lv_nil, app_cons, app_nil]
    refine wp_ite rfl (fun h2' => ?_) (fun h2' => ?_)
    · exact wp_return rfl (bb_eq (by simp only [Pt.bad, h2, h2', Bool.true_and, Bool.or_true, Bool.true_or]))
    have hr : p.r = true := by simpa using h2'
    have hw : (p.w && !p.r) = false := by rw [hr]; simp
    refine wp_lt (e_gtr rfl rfl) ?_
    simp only [lv_cons, lv_nil, app_cons, app_nil]
    refine wp_ite rfl (fun h3 => ?_) (fun h3 => ?_)
    · have h3 := of_decide_eq_true h3
      exact wp_return rfl (bb_eq (by simp only [Pt.bad, show (p.high != 0) = true by rw [bne_iff_ne]; omega, Bool.true_or, Bool.or_true]))
    have h3 : p.high = 0 := by have := of_decide_eq_false h3; omega
    refine wp_lt (d := (.b (!p.r))) rfl ?_
    simp only [lv_cons, lv_nil, app_cons, app_nil]
    refine wp_ite rfl (fun h5 => ?_) (fun h5 => ?_)
    · refine wp_lt (d := (.b (!p.x))) rfl ?_
      simp only [lv_cons, lv_nil, app_cons, app_nil]
      refine wp_ite rfl (fun h6 => ?_) (fun h6 => ?_)
      · have h4 : (!p.r && !p.x) = true := by rw [h5, h6]; rfl
        refine wp_lt (e_eql rfl rfl) ?_
        simp only [lv_cons, lv_nil, app_cons, app_nil]
        refine wp_ite rfl (fun h7 => ?_) (fun h7 => ?_)
        · exact wp_return rfl (bb_eq (by simp [Pt.bad, h4, beq_iff_eq.1 h7]))
        refine wp_ite rfl (fun h8 => ?_) (fun h8 => ?_)
        · exact wp_return rfl (bb_eq (by simp [Pt.bad, h4, h8]))
        refine wp_ite rfl (fun h9 => ?_) (fun h9 => ?_)
        · exact wp_return rfl (bb_eq (by simp [Pt.bad, h4, h9]))
        exact wp_return rfl (bb_eq (by simp [Pt.bad, h1, hw, h3, h4, h8, h9, beq_eq_false_iff_ne.1 h7]))
      · have h4 : (!p.r && !p.x) = false := by rw [h6, Bool.and_false]
        refine wp_lt (e_eql rfl rfl) ?_
        simp only [lv_cons, lv_nil, app_cons, app_nil]
        refine wp_ite rfl (fun h8 => ?_) (fun h8 => ?_)
        · have h8 := beq_iff_eq.1 h8
          subst h8
          refine wp_lt (u_rem (a := p.ppn) (b := 512) rfl rfl (by decide)) ?_
          simp only [lv_cons, lv_nil, app_cons, app_nil]
          refine wp_lt (e_gtr rfl rfl) ?_
          simp only [lv_cons, lv_nil, app_cons, app_nil]
          refine wp_return rfl (bb_iff ?_)
          simp [Pt.bad, h1, hw, h3, h4, pgN, decide_eq_true_eq]
          omega
        refine wp_lt (e_eql rfl rfl) ?_
        simp only [lv_cons, lv_nil, app_cons, app_nil]
        refine wp_ite rfl (fun h9 => ?_) (fun h9 => ?_)
        · have h9 := beq_iff_eq.1 h9
          subst h9
          refine wp_lt (u_rem (a := p.ppn) (b := 262144) rfl rfl (by decide)) ?_
          simp only [lv_cons, lv_nil, app_cons, app_nil]
          refine wp_lt (e_gtr rfl rfl) ?_
          simp only [lv_cons, lv_nil, app_cons, app_nil]
          refine wp_return rfl (bb_iff ?_)
          simp [Pt.bad, h1, hw, h3, h4, pgN, decide_eq_true_eq]
          omega
        have h0 : l = 0 := by
          have := beq_eq_false_iff_ne.1 h8
          have := beq_eq_false_iff_ne.1 h9
          rcases hl with h | h | h
          · exact h
          · omega
          · omega
        subst h0
        exact wp_return rfl (bb_eq (by simp [Pt.bad, h1, hw, h3, h4, pgN, Nat.mod_one]))
    · have h4 : (!p.r && !p.x) = false := by rw [h5, Bool.false_and]
      refine wp_lt (e_eql rfl rfl) ?_
      simp only [lv_cons, lv_nil, app_cons, app_nil]
      refine wp_ite rfl (fun h8 => ?_) (fun h8 => ?_)
      · have h8 := beq_iff_eq.1 h8
        subst h8
        refine wp_lt (u_rem (a := p.ppn) (b := 512) rfl rfl (by decide)) ?_
        simp only [lv_cons, lv_nil, app_cons, app_nil]
        refine wp_lt (e_gtr rfl rfl) ?_
        simp only [lv_cons, lv_nil, app_cons, app_nil]
        refine wp_return rfl (bb_iff ?_)
        simp [Pt.bad, h1, hw, h3, h4, pgN, decide_eq_true_eq]
        omega
      refine wp_lt (e_eql rfl rfl) ?_
      simp only [lv_cons, lv_nil, app_cons, app_nil]
      refine wp_ite rfl (fun h9 => ?_) (fun h9 => ?_)
      · have h9 := beq_iff_eq.1 h9
        subst h9
        refine wp_lt (u_rem (a := p.ppn) (b := 262144) rfl rfl (by decide)) ?_
        simp only [lv_cons, lv_nil, app_cons, app_nil]
        refine wp_lt (e_gtr rfl rfl) ?_
        simp only [lv_cons, lv_nil, app_cons, app_nil]
        refine wp_return rfl (bb_iff ?_)
        simp [Pt.bad, h1, hw, h3, h4, pgN, decide_eq_true_eq]
        omega
      have h0 : l = 0 := by
        have := beq_eq_false_iff_ne.1 h8
        have := beq_eq_false_iff_ne.1 h9
        rcases hl with h | h | h
        · exact h
        · omega
        · omega
      subst h0
      exact wp_return rfl (bb_eq (by simp [Pt.bad, h1, hw, h3, h4, pgN, Nat.mod_one]))
  · have hw : (p.w && !p.r) = false := by rw [h2]; rfl
    refine wp_lt (e_gtr rfl rfl) ?_
    simp only [lv_cons, lv_nil, app_cons, app_nil]
    refine wp_ite rfl (fun h3 => ?_) (fun h3 => ?_)
    · have h3 := of_decide_eq_true h3
      exact wp_return rfl (bb_eq (by simp only [Pt.bad, show (p.high != 0) = true by rw [bne_iff_ne]; omega, Bool.true_or, Bool.or_true]))
    have h3 : p.high = 0 := by have := of_decide_eq_false h3; omega
    refine wp_lt (d := (.b (!p.r))) rfl ?_
    simp only [lv_cons, lv_nil, app_cons, app_nil]
    refine wp_ite rfl (fun h5 => ?_) (fun h5 => ?_)
    · refine wp_lt (d := (.b (!p.x))) rfl ?_
      simp only [lv_cons, lv_nil, app_cons, app_nil]
      refine wp_ite rfl (fun h6 => ?_) (fun h6 => ?_)
      · have h4 : (!p.r && !p.x) = true := by rw [h5, h6]; rfl
        refine wp_lt (e_eql rfl rfl) ?_
        simp only [lv_cons, lv_nil, app_cons, app_nil]
        refine wp_ite rfl (fun h7 => ?_) (fun h7 => ?_)
        · exact wp_return rfl (bb_eq (by simp [Pt.bad, h4, beq_iff_eq.1 h7]))
        refine wp_ite rfl (fun h8 => ?_) (fun h8 => ?_)
        · exact wp_return rfl (bb_eq (by simp [Pt.bad, h4, h8]))
        refine wp_ite rfl (fun h9 => ?_) (fun h9 => ?_)
        · exact wp_return rfl (bb_eq (by simp [Pt.bad, h4, h9]))
        exact wp_return rfl (bb_eq (by simp [Pt.bad, h1, hw, h3, h4, h8, h9, beq_eq_false_iff_ne.1 h7]))
      · have h4 : (!p.r && !p.x) = false := by rw [h6, Bool.and_false]
        refine wp_lt (e_eql rfl rfl) ?_
        simp only [lv_cons, lv_nil, app_cons, app_nil]
        refine wp_ite rfl (fun h8 => ?_) (fun h8 => ?_)
        · have h8 := beq_iff_eq.1 h8
          subst h8
          refine wp_lt (u_rem (a := p.ppn) (b := 512) rfl rfl (by decide)) ?_
          simp only [lv_cons, lv_nil, app_cons, app_nil]
          refine wp_lt (e_gtr rfl rfl) ?_
          simp only [lv_cons, lv_nil, app_cons, app_nil]
          refine wp_return rfl (bb_iff ?_)
          simp [Pt.bad, h1, hw, h3, h4, pgN, decide_eq_true_eq]
          omega
        refine wp_lt (e_eql rfl rfl) ?_
        simp only [lv_cons, lv_nil, app_cons, app_nil]
        refine wp_ite rfl (fun h9 => ?_) (fun h9 => ?_)
        · have h9 := beq_iff_eq.1 h9
          subst h9
          refine wp_lt (u_rem (a := p.ppn) (b := 262144) rfl rfl (by decide)) ?_
          simp only [lv_cons, lv_nil, app_cons, app_nil]
          refine wp_lt (e_gtr rfl rfl) ?_
          simp only [lv_cons, lv_nil, app_cons, app_nil]
          refine wp_return rfl (bb_iff ?_)
          simp [Pt.bad, h1, hw, h3, h4, pgN, decide_eq_true_eq]
          omega
        have h0 : l = 0 := by
          have := beq_eq_false_iff_ne.1 h8
          have := beq_eq_false_iff_ne.1 h9
          rcases hl with h | h | h
          · exact h
          · omega
          · omega
        subst h0
        exact wp_return rfl (bb_eq (by simp [Pt.bad, h1, hw, h3, h4, pgN, Nat.mod_one]))
    · have h4 : (!p.r && !p.x) = false := by rw [h5, Bool.false_and]
      refine wp_lt (e_eql rfl rfl) ?_
      simp only [lv_cons, lv_nil, app_cons, app_nil]
      refine wp_ite rfl (fun h8 => ?_) (fun h8 => ?_)
      · have h8 := beq_iff_eq.1 h8
        subst h8
        refine wp_lt (u_rem (a := p.ppn) (b := 512) rfl rfl (by decide)) ?_
        simp only [lv_cons, lv_nil, app_cons, app_nil]
        refine wp_lt (e_gtr rfl rfl) ?_
        simp only [lv_cons, lv_nil, app_cons, app_nil]
        refine wp_return rfl (bb_iff ?_)
        simp [Pt.bad, h1, hw, h3, h4, pgN, decide_eq_true_eq]
        omega
      refine wp_lt (e_eql rfl rfl) ?_
      simp only [lv_cons, lv_nil, app_cons, app_nil]
      refine wp_ite rfl (fun h9 => ?_) (fun h9 => ?_)
      · have h9 := beq_iff_eq.1 h9
        subst h9
        refine wp_lt (u_rem (a := p.ppn) (b := 262144) rfl rfl (by decide)) ?_
        simp only [lv_cons, lv_nil, app_cons, app_nil]
        refine wp_lt (e_gtr rfl rfl) ?_
        simp only [lv_cons, lv_nil, app_cons, app_nil]
        refine wp_return rfl (bb_iff ?_)
        simp [Pt.bad, h1, hw, h3, h4, pgN, decide_eq_true_eq]
        omega
      have h0 : l = 0 := by
        have := beq_eq_false_iff_ne.1 h8
        have := beq_eq_false_iff_ne.1 h9
        rcases hl with h | h | h
        · exact h
        · omega
        · omega
      subst h0
      exact wp_return rfl (bb_eq (by simp [Pt.bad, h1, hw, h3, h4, pgN, Nat.mod_one]))

/-! ### causes -/
def Kn (k : Int) : Prop := k = 0 ∨ k = 1 ∨ k = 2
theorem page_con {k : Int} {a : Nat} (hk : Kn k) : Cn gAll 30 [i k, u a] [fdv true (causeN 3 k) a] := by
  refine con rfl rfl cause_Page_c cause_Page_p rfl ?_
  rcases hk with rfl | rfl | rfl <;> exact wp_chk rfl (wp_return rfl rfl)
theorem access_con {k : Int} {a : Nat} (hk : Kn k) : Cn gAll 33 [i k, u a] [fdv true (causeN 2 k) a] := by
  refine con rfl rfl cause_Access_c cause_Access_p rfl ?_
  rcases hk with rfl | rfl | rfl <;> exact wp_chk rfl (wp_return rfl rfl)
theorem refFault_con {q : Nat} {k : Int} {a : Nat} (hq : q = 2 ∨ q = 3) (hk : Kn k) : Cn gAll 37 [i (q : Int), i k, u a] [fdv true (causeN q k) a] := by
  have hn : Cn gAll 56 [i (q : Int), i k] [i (causeN q k)] := by
    rcases hq with rfl | rfl <;> rcases hk with rfl | rfl | rfl <;> exact con_of_run TIrW_ok rfl 50 rfl rfl
  refine con rfl rfl atlasref09_Fault_c atlasref09_Fault_p rfl ?_
  unfold atlasref09_Fault_ir
  simp only [lv_cons, lv_nil, app_cons, app_nil]
  refine wp_call rfl hn rfl ?_
  simp only [lv_cons, lv_nil, app_cons, app_nil]
  exact wp_return rfl rfl

/-! ### permissions -/
abbrev P4 (r w x u : Bool) : DV := (true, [.b r, .b w, .b x, .b u])
abbrev W4 (k m : Int) (s x : Bool) : DV := (true, [.i .i64 k, .i .i64 m, .b s, .b x])
def allowsF (r w x u : Bool) (k m : Int) (s mx : Bool) : Bool :=
  (if m = 0 then u else if u then k != 0 && s else true) && (if k = 0 then x else if k = 1 then r || (x && mx) else w)
def Pv (m : Int) : Prop := m = 0 ∨ m = 1
theorem allows_con (a b c d : Bool) {k m : Int} (s x : Bool) (hk : Kn k) (hm : Pv m) : Cn gAll 41 [P4 a b c d, W4 k m s x] [bb (allowsF a b c d k m s x)] := by
  have hh : (allB fun a => allB fun b => allB fun c => allB fun d => ([0, 1, 2] : List Int).all fun k => ([0, 1] : List Int).all fun m => allB fun s => allB fun x => isV (run TIrW 100 perm_Allows_ir [] [.b a, .b b, .b c, .b d, .i .i64 k, .i .i64 m, .b s, .b x])
    [bb (allowsF a b c d k m s x)]) = true := by kernel_rfl
  have h0 := allB_all (allB_all (allB_all (allB_all hh a) b) c) d
  have h1 := List.all_eq_true.1 h0 k (by rcases hk with rfl | rfl | rfl <;> simp)
  have h2 := List.all_eq_true.1 h1 m (by rcases hm with rfl | rfl <;> simp)
  exact con_of_run TIrW_ok rfl 100 rfl (isV_eq (allB_all (allB_all h2 s) x))
theorem refAllows_con (a b c d : Bool) {k m : Int} (s x : Bool) (hk : Kn k) (hm : Pv m) : Cn gAll 23 [P4 a b c d, W4 k m s x] [bb (allowsF a b c d k m s x)] := by
  have hh : (allB fun a => allB fun b => allB fun c => allB fun d => ([0, 1, 2] : List Int).all fun k => ([0, 1] : List Int).all fun m => allB fun s => allB fun x => isV (run TIrW 100 atlasref08_Allows_ir [] [.b a, .b b, .b c, .b d, .i .i64 k, .i .i64 m, .b s, .b x])
    [bb (allowsF a b c d k m s x)]) = true := by kernel_rfl
  have h0 := allB_all (allB_all (allB_all (allB_all hh a) b) c) d
  have h1 := List.all_eq_true.1 h0 k (by rcases hk with rfl | rfl | rfl <;> simp)
  have h2 := List.all_eq_true.1 h1 m (by rcases hm with rfl | rfl <;> simp)
  exact con_of_run TIrW_ok rfl 100 rfl (isV_eq (allB_all (allB_all h2 s) x))
def isWay (k m : Int) : Bool := (k == 0 || k == 1 || k == 2) && (m == 0 || m == 1)
theorem isWay_iff {k m : Int} : isWay k m = true ↔ Kn k ∧ Pv m := by
  simp only [isWay, Kn, Pv, Bool.and_eq_true, Bool.or_eq_true, beq_iff_eq, or_assoc]
theorem refIsWay_con {k m : Int} {s x : Bool} : Cn gAll 15 [W4 k m s x] [bb (isWay k m)] := by
  refine con rfl rfl atlasref08_Is_c atlasref08_Is_p rfl ?_
  unfold atlasref08_Is_ir
  simp only [lv_cons, lv_nil, app_cons, app_nil]
  refine wp_lt (e_eql rfl rfl) ?_
  simp only [lv_cons, lv_nil, app_cons, app_nil]
  refine wp_ite rfl (fun h1 => ?_) (fun h1 => ?_)
  · refine wp_lt (e_eql rfl rfl) ?_
    simp only [lv_cons, lv_nil, app_cons, app_nil]
    refine wp_ite rfl (fun h2 => ?_) (fun h2 => ?_)
    · exact wp_return rfl (bb_eq (by simp [isWay, h1, h2, h1]))
    refine wp_lt (e_eql rfl rfl) ?_
    simp only [lv_cons, lv_nil, app_cons, app_nil]
    exact wp_return rfl (bb_eq (by simp only [isWay, h1, h2, h1, Bool.true_or, Bool.false_or, Bool.or_true, Bool.true_and]))
  refine wp_lt (e_eql rfl rfl) ?_
  simp only [lv_cons, lv_nil, app_cons, app_nil]
  refine wp_ite rfl (fun h1' => ?_) (fun h1' => ?_)
  · refine wp_lt (e_eql rfl rfl) ?_
    simp only [lv_cons, lv_nil, app_cons, app_nil]
    refine wp_ite rfl (fun h2 => ?_) (fun h2 => ?_)
    · exact wp_return rfl (bb_eq (by simp [isWay, h1, h2, h1']))
    refine wp_lt (e_eql rfl rfl) ?_
    simp only [lv_cons, lv_nil, app_cons, app_nil]
    exact wp_return rfl (bb_eq (by simp only [isWay, h1, h2, h1', Bool.true_or, Bool.false_or, Bool.or_true, Bool.true_and]))
  refine wp_lt (e_eql rfl rfl) ?_
  simp only [lv_cons, lv_nil, app_cons, app_nil]
  refine wp_ite rfl (fun h1'' => ?_) (fun h1'' => ?_)
  · refine wp_lt (e_eql rfl rfl) ?_
    simp only [lv_cons, lv_nil, app_cons, app_nil]
    refine wp_ite rfl (fun h2 => ?_) (fun h2 => ?_)
    · exact wp_return rfl (bb_eq (by simp [isWay, h1, h2, h1',h1'']))
    refine wp_lt (e_eql rfl rfl) ?_
    simp only [lv_cons, lv_nil, app_cons, app_nil]
    exact wp_return rfl (bb_eq (by simp only [isWay, h1, h2, h1',h1'', Bool.true_or, Bool.false_or, Bool.or_true, Bool.true_and]))
  · exact wp_return rfl (bb_eq (by simp only [isWay, h1, h1', h1'', Bool.false_or, Bool.false_and]))

/-! ### parts of addresses -/
theorem szN_pow {l : Nat} (h : l ≤ 2) : szN (l : Int) = 2 ^ (12 + 9 * l) := by
  rcases l with _ | _ | _ | l
  · rfl
  · rfl
  · rfl
  · omega
theorem lv_of {l : Nat} (h : l ≤ 2) : Lv (l : Int) := by unfold Lv; omega
theorem index_con {a l : Nat} (ha : a < 18446744073709551616) (h : l ≤ 2) : Cn gAll 49 [u a, i l] [i (a / szN l % 512 : Nat)] := by
  refine con rfl rfl va_Index_c va_Index_p rfl ?_
  unfold va_Index_ir
  simp only [lv_cons, lv_nil, app_cons, app_nil]
  refine wp_lt (d := I (9 * l : Nat)) ((i_mul (a := 9) (b := (l : Int)) rfl rfl (by omega) (by omega)).trans (by rw [Int.natCast_mul]; rfl)) ?_
  simp only [lv_cons, lv_nil, app_cons, app_nil]
  refine wp_lt (d := I (12 + 9 * l : Nat)) ((i_add (a := 12) (b := ((9 * l : Nat) : Int)) rfl rfl (by omega) (by omega)).trans (by rw [Int.natCast_add 12]; rfl)) ?_
  simp only [lv_cons, lv_nil, app_cons, app_nil]
  refine wp_call rfl (bitsGet_con (a := a) (lo := 12 + 9 * l) (w := 9) ha (by omega) (by decide)) rfl ?_
  simp only [lv_cons, lv_nil, app_cons, app_nil]
  have hlt : getN a (12 + 9 * l) 9 < 2 ^ 9 := getN_lt
  refine wp_lt (cv_i rfl (by omega) (by omega)) ?_
  simp only [lv_cons, lv_nil, app_cons, app_nil]
  refine wp_return rfl ?_
  rw [szN_pow h]
  rfl
theorem refIndex_con {a l : Nat} (ha : a < 18446744073709551616) (h : l ≤ 2) : Cn gAll 57 [u a, i l] [i (a / szN l % 512 : Nat)] := by
  refine con rfl rfl atlasref05_Index_c atlasref05_Index_p rfl ?_
  unfold atlasref05_Index_ir
  simp only [lv_cons, lv_nil, app_cons, app_nil]
  refine wp_call rfl (refSize_con (lv_of h)) rfl ?_
  simp only [lv_cons, lv_nil, app_cons, app_nil]
  have hp := pgN_pos (l := (l : Int))
  have hs := szN_eq (l := (l : Int))
  refine wp_lt (u_quo rfl rfl (by omega) ha) ?_
  simp only [lv_cons, lv_nil, app_cons, app_nil]
  refine wp_lt (u_rem (b := 512) rfl rfl (by decide)) ?_
  simp only [lv_cons, lv_nil, app_cons, app_nil]
  refine wp_lt (cv_i rfl (by omega) (by omega)) ?_
  simp only [lv_cons, lv_nil, app_cons, app_nil]
  exact wp_return rfl rfl
theorem refOffset_con {a : Nat} {l : Int} (h : Lv l) : Cn gAll 40 [u a, i l] [u (a % szN l)] := by
  refine con rfl rfl atlasref05_Offset_c atlasref05_Offset_p rfl ?_
  unfold atlasref05_Offset_ir
  simp only [lv_cons, lv_nil, app_cons, app_nil]
  refine wp_call rfl (refSize_con h) rfl ?_
  simp only [lv_cons, lv_nil, app_cons, app_nil]
  have hp := pgN_pos (l := l)
  have hs := szN_eq (l := l)
  refine wp_lt (u_rem rfl rfl (by omega)) ?_
  simp only [lv_cons, lv_nil, app_cons, app_nil]
  exact wp_return rfl rfl
theorem sign_va {a : Nat} (ha : a < 18446744073709551616) : (signN a 39 = a) ↔ (a < 274877906944 ∨ 18446743798831644672 ≤ a) := by
  have hb : ∀ i, (signN a 39).testBit i = (decide (i < 64) && a.testBit (min i 38)) := fun i => by unfold signN; rw [ofF_testBit]
  constructor
  · intro h
    have hh : ∀ j, j < 26 → (a / 2 ^ 38).testBit j = a.testBit 38 := fun j hj => by
      rw [Nat.testBit_div_two_pow]
      have := hb (j + 38)
      rw [h, decide_eq_true (show j + 38 < 64 by omega), Bool.true_and, Nat.min_eq_right (by omega)] at this
      rw [← this]
    have hlt : a / 2 ^ 38 < 2 ^ 26 := by omega
    cases hc : a.testBit 38 with
    | false =>
      left
      have : a / 2 ^ 38 = 0 := Nat.eq_of_testBit_eq fun j => by
        rw [Nat.zero_testBit]
        by_cases hj : j < 26
        · rw [hh j hj, hc]
        · exact Nat.testBit_lt_two_pow (Nat.lt_of_lt_of_le hlt (Nat.pow_le_pow_right (by decide) (by omega)))
      omega
    | true =>
      right
      have : a / 2 ^ 38 = 2 ^ 26 - 1 := Nat.eq_of_testBit_eq fun j => by
        rw [Nat.testBit_two_pow_sub_one]
        by_cases hj : j < 26
        · rw [hh j hj, hc, decide_eq_true hj]
        · rw [decide_eq_false hj]
          exact Nat.testBit_lt_two_pow (Nat.lt_of_lt_of_le hlt (Nat.pow_le_pow_right (by decide) (by omega)))
      omega
  · intro h
    refine Nat.eq_of_testBit_eq fun i => ?_
    rw [hb]
    by_cases hi : i < 64
    · rw [decide_eq_true hi, Bool.true_and]
      by_cases h38 : i ≤ 38
      · rw [Nat.min_eq_left h38]
      · rw [Nat.min_eq_right (by omega)]
        rcases h with h | h
        · rw [Nat.testBit_lt_two_pow (x := a) (i := 38) h, Nat.testBit_lt_two_pow (Nat.lt_of_lt_of_le h (show 274877906944 ≤ 2 ^ i from Nat.pow_le_pow_right (n := 2) (i := 38) (by decide) (by omega)))]
        · have e : a / 2 ^ 38 = 2 ^ 26 - 1 := by omega
          have hj : ∀ j, j < 26 → a.testBit (j + 38) = true := fun j hj => by
            rw [← Nat.testBit_div_two_pow, e, Nat.testBit_two_pow_sub_one, decide_eq_true hj]
          have h1 := hj 0 (by decide)
          have h2 := hj (i - 38) (by omega)
          rw [show i - 38 + 38 = i by omega] at h2
          rw [h2]
          exact h1
    · rw [decide_eq_false hi, Bool.false_and, testBit_lt64 ha (by omega)]
theorem vaIs_con {a : Nat} (ha : a < 18446744073709551616) : Cn gAll 29 [u a] [bb (isVaB a)] := by
  refine con rfl rfl va_Is_c va_Is_p rfl ?_
  unfold va_Is_ir
  simp only [lv_cons, lv_nil, app_cons, app_nil]
  refine wp_call rfl (bitsSign_con (n := 39) ha (by decide) (by decide)) rfl ?_
  simp only [lv_cons, lv_nil, app_cons, app_nil]
  refine wp_lt (e_eql rfl rfl) ?_
  simp only [lv_cons, lv_nil, app_cons, app_nil]
  refine wp_return rfl (bb_iff ?_)
  rw [isVaB, decide_eq_true_eq, ← sign_va ha, beq_iff_eq]
  omega
end Go.Proofs.YthegeidecapfaaaDoor.Sx
