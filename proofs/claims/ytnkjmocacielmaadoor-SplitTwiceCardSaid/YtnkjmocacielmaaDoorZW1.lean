/-
 Layers 6 and 10: entries of tables, and walks, as plain data: no program in sight.
 Layers 5, 6, 8, 9: entries of tables, causes, permissions: contracts.
 Layers 5, 6, 8, 9: causes, permissions, parts of addresses: contracts.
 Layer 10: looking: contracts.
 Layer 10: marking, walking: contracts.
 Layer 10: what marking leaves, what is near: plain data, no program in sight.
-/
import Derived.Test.YtnkjmocacielmaaDoorZM1
import Derived.Test.YtnkjmocacielmaaDoorZS1
import Derived.Test.YtnkjmocacielmaaDoorZIrW
namespace Go.Proofs.YtnkjmocacielmaaDoor.Sx
open Go
set_option linter.unusedVariables false
set_option linter.unusedSimpArgs false
set_option maxRecDepth 100000
structure Pt where
 v : Bool
 r : Bool
 w : Bool
 x : Bool
 u : Bool
 g : Bool
 a : Bool
 d : Bool
 rsw : Nat
 ppn : Nat
 high : Nat
def Pt.ds (p : Pt) : List D := [.b p.v, .b p.r, .b p.w, .b p.x, .b p.u, .b p.g, .b p.a, .b p.d, U p.rsw, U p.ppn, U p.high]
abbrev Pt.dv (p : Pt) : DV := (true, p.ds)
def Pt.zero : Pt := ⟨false, false, false, false, false, false, false, false, 0, 0, 0⟩
def ptN (w : Nat) : Pt := ⟨w.testBit 0, w.testBit 1, w.testBit 2, w.testBit 3, w.testBit 4, w.testBit 5, w.testBit 6, w.testBit 7, w / 256 % 4, w / 1024 % 17592186044416, w / 18014398509481984⟩
def Pt.link (p : Pt) : Bool := p.v && !p.r && !p.x
def Pt.leaf (p : Pt) : Bool := p.v && (p.r || p.x)
def Pt.bad (p : Pt) (l : Int) : Bool := !p.v || (p.w && !p.r) || p.high != 0 || (if !p.r && !p.x then l == 0 || p.a || p.d || p.u else p.ppn % pgN l != 0)
theorem Pt.leaf_of {p : Pt} {l : Int} (h : p.bad l = false) (hl : p.link = false) : p.leaf = true := by
 obtain ⟨v, r, w, x, u, g, a, d, rsw, ppn, high⟩ := p
 simp only [Pt.bad, Pt.link, Pt.leaf, Bool.or_eq_false_iff] at *
 revert h hl
 cases v <;> cases r <;> cases x <;> simp
theorem Pt.link_low {p : Pt} (h : p.bad 0 = false) : p.link = false := by
 obtain ⟨v, r, w, x, u, g, a, d, rsw, ppn, high⟩ := p
 simp only [Pt.bad, Pt.link, Bool.or_eq_false_iff] at *
 revert h
 cases v <;> cases r <;> cases x <;> simp
structure Lf where
 lv : Nat
 pl : Nat
 pt : Pt
def Lf.ds (l : Lf) : List D := I l.lv :: U l.pl :: l.pt.ds
abbrev Lf.dv (l : Lf) : DV := (true, l.ds)
def Lf.zero : Lf := ⟨0, 0, Pt.zero⟩
inductive Lk where
 | leaf (l : Lf)
 | fault (sort : Nat)
def causeN (sort : Nat) (k : Int) : Int := if sort = 2 then (if k = 0 then 1 else if k = 1 then 5 else 7) else (if k = 0 then 12 else if k = 1 then 13 else 15)
abbrev fdv (b : Bool) (c : Int) (a : Nat) : DV := (true, [.b b, I c, U a])
def Lk.rs (r : Lk) (k : Int) (a : Nat) : List DV := match r with
 | .leaf l => [l.dv, fdv false 0 0]
 | .fault q => [Lf.zero.dv, fdv true (causeN q k) a]
end Go.Proofs.YtnkjmocacielmaaDoor.Sx
namespace Go.Proofs.YtnkjmocacielmaaDoor.Sx
open Go
set_option linter.unusedVariables false
set_option linter.unusedSimpArgs false
set_option maxRecDepth 100000
theorem isBit_con {w k : Nat} (hw : w < 18446744073709551616) (hk : k ≤ 63) : Cn gAll (capOff + 90) [(false, [.i .i64 1]), i k, (true, [U w])] [bb (w.testBit k)] := by
 refine conK (az := [i k]) (caz := [(true, [U w])]) rfl rfl pte_Get_1_c pte_Get_1_p rfl rfl (by simp [leavesOf, D.plain]) ?_
 unfold pte_Get_1_ir
 simp only [lv_cons, lv_nil, app_cons, app_nil]
 refine wp_call rfl (bitsGet_con (a := w) (lo := k) (w := 1) hw (by omega) (by decide)) rfl ?_
 simp only [lv_cons, lv_nil, app_cons, app_nil]
 refine wp_lt (e_eql rfl rfl) ?_
 simp only [lv_cons, lv_nil, app_cons, app_nil]
 refine wp_return rfl (bb_iff ?_)
 rw [getN, Nat.testBit_eq_decide_div_mod_eq, decide_eq_true_eq]
 simp only [Nat.pow_one, beq_iff_eq]
 omega
theorem pteGet_con {w : Nat} (hw : w < 18446744073709551616) : Cn gAll 75 [u w] [(ptN w).dv] := by
 refine con rfl rfl pte_Get_c pte_Get_p rfl ?_
 unfold pte_Get_ir
 simp only [lv_cons, lv_nil, app_cons, app_nil]
 refine wp_call rfl (isBit_con (w := w) (k := 0) hw (by decide)) rfl ?_
 simp only [lv_cons, lv_nil, app_cons, app_nil]
 refine wp_call rfl (isBit_con (w := w) (k := 1) hw (by decide)) rfl ?_
 simp only [lv_cons, lv_nil, app_cons, app_nil]
 refine wp_call rfl (isBit_con (w := w) (k := 2) hw (by decide)) rfl ?_
 simp only [lv_cons, lv_nil, app_cons, app_nil]
 refine wp_call rfl (isBit_con (w := w) (k := 3) hw (by decide)) rfl ?_
 simp only [lv_cons, lv_nil, app_cons, app_nil]
 refine wp_call rfl (isBit_con (w := w) (k := 4) hw (by decide)) rfl ?_
 simp only [lv_cons, lv_nil, app_cons, app_nil]
 refine wp_call rfl (isBit_con (w := w) (k := 5) hw (by decide)) rfl ?_
 simp only [lv_cons, lv_nil, app_cons, app_nil]
 refine wp_call rfl (isBit_con (w := w) (k := 6) hw (by decide)) rfl ?_
 simp only [lv_cons, lv_nil, app_cons, app_nil]
 refine wp_call rfl (isBit_con (w := w) (k := 7) hw (by decide)) rfl ?_
 simp only [lv_cons, lv_nil, app_cons, app_nil]
 refine wp_call rfl (bitsGet_con (a := w) (lo := 8) (w := 2) hw (by decide) (by decide)) rfl ?_
 simp only [lv_cons, lv_nil, app_cons, app_nil]
 refine wp_call rfl (bitsGet_con (a := w) (lo := 10) (w := 44) hw (by decide) (by decide)) rfl ?_
 simp only [lv_cons, lv_nil, app_cons, app_nil]
 refine wp_call rfl (bitsGet_con (a := w) (lo := 54) (w := 10) hw (by decide) (by decide)) rfl ?_
 simp only [lv_cons, lv_nil, app_cons, app_nil]
 refine wp_return rfl ?_
 have h1 : getN w 8 2 = w / 256 % 4 := rfl
 have h2 : getN w 10 44 = w / 1024 % 17592186044416 := rfl
 have h3 : getN w 54 10 = w / 18014398509481984 := by
  show w / 18014398509481984 % 1024 = _
  omega
 rw [h1, h2, h3]
 rfl
def Pt.May (p : Pt) : Prop := p.rsw < 4 ∧ p.ppn < 17592186044416 ∧ p.high < 1024
theorem ptN_may {w : Nat} (hw : w < 18446744073709551616) : (ptN w).May := ⟨Nat.mod_lt _ (by decide), Nat.mod_lt _ (by decide), by show w / 18014398509481984 < 1024; omega⟩
theorem getN_0 {a n : Nat} (h : a < 2 ^ n) : getN a 0 n = a := by rw [getN, Nat.pow_zero, Nat.div_one, Nat.mod_eq_of_lt h]
theorem pteMay_con {p : Pt} (h : p.May) : Cn gAll 81 [p.dv] [bb true] := by
 obtain ⟨v, r, w, x, u, g, a, d, rsw, ppn, high⟩ := p
 obtain ⟨h1, h2, h3⟩ := h
 simp only at h1 h2 h3
 refine con rfl rfl pte_May_c pte_May_p rfl ?_
 unfold pte_May_ir
 simp only [lv_cons, lv_nil, Pt.ds, app_cons, app_nil]
 refine wp_call rfl (bitsGet_con (a := rsw) (lo := 0) (w := 2) (by omega) (by decide) (by decide)) rfl ?_
 simp only [lv_cons, lv_nil, app_cons, app_nil]
 rw [getN_0 h1]
 refine wp_lt (d := .b true) (cmp_e (e_eql rfl rfl) (beq_self_eq_true _)) ?_
 simp only [lv_cons, lv_nil, app_cons, app_nil]
 refine wp_ite (t := true) rfl (fun _ => ?_) (fun h => by cases h)
 refine wp_call rfl (bitsGet_con (a := ppn) (lo := 0) (w := 44) (by omega) (by decide) (by decide)) rfl ?_
 simp only [lv_cons, lv_nil, app_cons, app_nil]
 rw [getN_0 h2]
 refine wp_lt (d := .b true) (cmp_e (e_eql rfl rfl) (beq_self_eq_true _)) ?_
 simp only [lv_cons, lv_nil, app_cons, app_nil]
 refine wp_ite (t := true) rfl (fun _ => ?_) (fun h => by cases h)
 refine wp_call rfl (bitsGet_con (a := high) (lo := 0) (w := 10) (by omega) (by decide) (by decide)) rfl ?_
 simp only [lv_cons, lv_nil, app_cons, app_nil]
 rw [getN_0 h3]
 refine wp_lt (d := .b true) (cmp_e (e_eql rfl rfl) (beq_self_eq_true _)) ?_
 simp only [lv_cons, lv_nil, app_cons, app_nil]
 exact wp_return rfl rfl
theorem ofB_end {l : List Bool} {b : Bool} (h : l.length < 64) : setN (ofB l) l.length 1 b.toNat = ofB (l ++ [b]) := by
 refine Nat.eq_of_testBit_eq fun i => ?_
 rw [setN_testBit, ofB_testBit, ofB_testBit]
 by_cases h1 : i < l.length
 ·rw [decide_eq_true (show i < 64 by omega), if_neg (by omega), List.getElem?_append_left h1, Bool.true_and]
 ·by_cases h2 : i = l.length
  ·subst h2
   rw [decide_eq_true h, if_pos (by omega), Nat.sub_self, List.getElem?_append_right (Nat.le_refl _), Nat.sub_self, Bool.true_and]
   cases b <;> rfl
  ·rw [if_neg (by omega), List.getElem?_eq_none (by omega), List.getElem?_eq_none (by rw [List.length_append, List.length_singleton]; omega)]
   simp
theorem row_con {l : List Bool} (h : l.length ≤ 64) : Cn gAll 82 [(false, [.sl 1 (l.map fun b => [.b b])])] [u (ofB l)] := by
 refine con rfl rfl pte_row_c pte_row_p rfl ?_
 unfold pte_row_ir
 simp only [lv_cons, lv_nil, app_cons, app_nil]
 refine wp_lt (len_is rfl (List.length_map ..)) ?_
 simp only [lv_cons, lv_nil, app_cons, app_nil]
 refine wp_rounds (fun m ds => ∃ (n : Nat), ds = [U (ofB (l.take n)), I n] ∧ n + m = l.length + 1 ∧ n ≤ l.length) (l.length + 1) rfl ⟨0, rfl, by omega, by omega⟩ ?_
  (fun es hes => by obtain ⟨_, _, h1, h2⟩ := hes; omega)
 rintro m es Q ⟨n, rfl, hm, hle⟩ hQ
 simp only [lv_cons, lv_nil, app_cons, app_nil]
 refine wp_lt rfl ?_
 simp only [lv_cons, lv_nil, app_cons, app_nil]
 refine wp_ite rfl (fun hc => ?_) (fun hc => ?_)
 ·have hc := of_decide_eq_true hc
  have hnl : n < l.length := by omega
  obtain ⟨b, hb⟩ : ∃ b, l[n]? = some b := ⟨_, List.getElem?_eq_getElem hnl⟩
  have hrow : (l.map fun b => [D.b b])[n]? = some [.b b] := by rw [List.getElem?_map, hb]; rfl
  have hst : l.take (n + 1) = l.take n ++ [b] := by rw [List.take_add_one, hb]; rfl
  have hlen : (l.take n).length = n := by rw [List.length_take]; omega
  have hlt : ofB (l.take n) < 18446744073709551616 := Nat.lt_of_lt_of_le (ofB_lt _) (Nat.pow_le_pow_right (n := 2) (by decide) (show (l.take n).length ≤ 64 by omega))
  refine wp_chk (inb_t rfl rfl (by rw [List.length_map]; exact hnl)) ?_
  refine wp_call (evs_cons (evs_one (idx_e rfl rfl hrow rfl)) rfl) (bool_con (b := b)) rfl ?_
  simp only [lv_cons, lv_nil, app_cons, app_nil]
  refine wp_call rfl (bitsSet_con (a := ofB (l.take n)) (lo := n) (w := 1) (v := b.toNat) hlt (by cases b <;> decide) (by omega) (by decide)) rfl ?_
  simp only [lv_cons, lv_nil, app_cons, app_nil]
  have := ofB_end (l := l.take n) (b := b) (by omega)
  rw [hlen, ← hst] at this
  rw [this]
  refine wp_lt (i_add (a := (n : Int)) (b := 1) rfl rfl (by omega) (by omega)) ?_
  simp only [lv_cons, lv_nil, app_cons, app_nil]
  exact wp_cont rfl rfl (hQ _ ⟨n + 1, rfl, by omega, by omega⟩)
 ·have hc := of_decide_eq_false hc
  obtain rfl : n = l.length := by omega
  exact wp_return rfl (by rw [List.take_length])
def wdN (p : Pt) : Nat := setN (setN (setN (ofB [p.v, p.r, p.w, p.x, p.u, p.g, p.a, p.d]) 8 2 p.rsw) 10 44 p.ppn) 54 10 p.high
theorem wdN_lt {p : Pt} : wdN p < 18446744073709551616 := setN_lt ..
theorem ptePut_con {p : Pt} (h : p.May) : Cn gAll 61 [p.dv] [u (wdN p), i 0] := by
 have hmay := pteMay_con h
 obtain ⟨v, r, w, x, u, g, a, d, rsw, ppn, high⟩ := p
 obtain ⟨h1, h2, h3⟩ := h
 simp only at h1 h2 h3
 refine con rfl rfl pte_Put_c pte_Put_p rfl ?_
 unfold pte_Put_ir
 simp only [lv_cons, lv_nil, Pt.ds, app_cons, app_nil]
 refine wp_call rfl hmay rfl ?_
 simp only [lv_cons, lv_nil, app_cons, app_nil]
 refine wp_lt (d := (.b false)) rfl ?_
 simp only [lv_cons, lv_nil, app_cons, app_nil]
 refine wp_ite (t := false) rfl (fun h => by cases h) (fun _ => ?_)
 refine wp_call rfl (row_con (l := [v, r, w, x, u, g, a, d]) (by simp)) rfl ?_
 simp only [lv_cons, lv_nil, app_cons, app_nil]
 refine wp_chk (eqs_i rfl rfl) ?_
 have hb : ofB [v, r, w, x, u, g, a, d] < 18446744073709551616 := by
  have : ofB [v, r, w, x, u, g, a, d] < 2 ^ 8 := ofB_lt _
  omega
 refine wp_call rfl (bitsSet_con (lo := 8) (w := 2) (v := rsw) hb (by omega) (by decide) (by decide)) rfl ?_
 simp only [lv_cons, lv_nil, app_cons, app_nil]
 refine wp_call rfl (bitsSet_con (lo := 10) (w := 44) (v := ppn) (setN_lt ..) (by omega) (by decide) (by decide)) rfl ?_
 simp only [lv_cons, lv_nil, app_cons, app_nil]
 refine wp_call rfl (bitsSet_con (lo := 54) (w := 10) (v := high) (setN_lt ..) (by omega) (by decide) (by decide)) rfl ?_
 simp only [lv_cons, lv_nil, app_cons, app_nil]
 exact wp_return rfl rfl
theorem wdN_lo {p : Pt} {i : Nat} (h : i < 8) : (wdN p).testBit i = (([p.v, p.r, p.w, p.x, p.u, p.g, p.a, p.d] : List Bool)[i]?).getD false := by
 unfold wdN
 simp only [setN_testBit]
 rw [decide_eq_true (show i < 64 by omega), if_neg (by omega), if_neg (by omega), if_neg (by omega), ofB_testBit]
 rfl
theorem pteLeaf_con {p : Pt} : Cn gAll 34 [p.dv] [bb p.leaf] := by
 refine con rfl rfl pte_Leaf_c pte_Leaf_p rfl ?_
 unfold pte_Leaf_ir
 simp only [lv_cons, lv_nil, Pt.ds, app_cons, app_nil]
 refine wp_ite rfl (fun h1 => ?_) (fun h1 => ?_)
 ·refine wp_ite rfl (fun h2 => ?_) (fun h2 => ?_)
  ·exact wp_return rfl (bb_eq (by simp [Pt.leaf, h1, h2]))
  ·exact wp_return rfl (bb_eq (by simp [Pt.leaf, h1, h2]))
 ·exact wp_return rfl (bb_eq (by simp [Pt.leaf, Pt.link, h1]))
theorem pteLink_con {p : Pt} : Cn gAll 69 [p.dv] [bb p.link] := by
 refine con rfl rfl pte_Link_c pte_Link_p rfl ?_
 unfold pte_Link_ir
 simp only [lv_cons, lv_nil, Pt.ds, app_cons, app_nil]
 refine wp_ite rfl (fun h1 => ?_) (fun h1 => ?_)
 ·refine wp_lt (d := (.b (!p.r))) rfl ?_
  simp only [lv_cons, lv_nil, app_cons, app_nil]
  refine wp_ite rfl (fun h2 => ?_) (fun h2 => ?_)
  ·refine wp_lt (d := (.b (!p.x))) rfl ?_
   simp only [lv_cons, lv_nil, app_cons, app_nil]
   exact wp_return rfl (bb_eq (by simp at h2; simp [Pt.link, h1, h2]))
  ·exact wp_return rfl (bb_eq (by simp at h2; simp [Pt.link, h1, h2]))
 ·exact wp_return rfl (bb_eq (by simp [Pt.leaf, Pt.link, h1]))
theorem refLeaf_con {p : Pt} : Cn gAll 16 [p.dv] [bb p.leaf] := by
 refine con rfl rfl atlasref06_Leaf_c atlasref06_Leaf_p rfl ?_
 unfold atlasref06_Leaf_ir
 simp only [lv_cons, lv_nil, Pt.ds, app_cons, app_nil]
 refine wp_ite rfl (fun h1 => ?_) (fun h1 => ?_)
 ·refine wp_ite rfl (fun h2 => ?_) (fun h2 => ?_)
  ·exact wp_return rfl (bb_eq (by simp [Pt.leaf, h1, h2]))
  ·refine wp_ite rfl (fun _ => ?_) (fun h3 => by rw [h1] at h3; cases h3)
   exact wp_return rfl (bb_eq (by simp [Pt.leaf, h1, h2]))
 ·refine wp_ite rfl (fun h3 => by rw [h1] at h3; cases h3) (fun _ => ?_)
  exact wp_return rfl (bb_eq (by simp [Pt.leaf, Pt.link, h1]))
theorem refLink_con {p : Pt} : Cn gAll 41 [p.dv] [bb p.link] := by
 have hl := refLeaf_con (p := p)
 refine con rfl rfl atlasref06_Link_c atlasref06_Link_p rfl ?_
 unfold atlasref06_Link_ir
 simp only [lv_cons, lv_nil, Pt.ds, app_cons, app_nil]
 refine wp_ite rfl (fun h1 => ?_) (fun h1 => ?_)
 ·refine wp_call rfl hl rfl ?_
  simp only [lv_cons, lv_nil, app_cons, app_nil]
  refine wp_lt (d := (.b (!p.leaf))) rfl ?_
  simp only [lv_cons, lv_nil, app_cons, app_nil]
  exact wp_return rfl (bb_eq (by simp [Pt.leaf, Pt.link, h1]))
 ·exact wp_return rfl (bb_eq (by simp [Pt.leaf, Pt.link, h1]))
theorem refPerm_con {p : Pt} : Cn gAll 48 [p.dv] [(true, [.b p.r, .b p.w, .b p.x, .b p.u])] := by
 refine con rfl rfl atlasref06_Perm_c atlasref06_Perm_p rfl ?_
 exact wp_return rfl rfl
theorem refGet06_con {w : Nat} (hw : w < 18446744073709551616) : Cn gAll 64 [u w] [(ptN w).dv] := by
 refine con rfl rfl atlasref06_Get_c atlasref06_Get_p rfl ?_
 unfold atlasref06_Get_ir
 simp only [lv_cons, lv_nil, app_cons, app_nil]
 refine wp_call rfl (refBit_conN (w := w) (n := 0) hw) rfl ?_
 simp only [lv_cons, lv_nil, app_cons, app_nil]
 refine wp_call rfl (refBit_conN (w := w) (n := 1) hw) rfl ?_
 simp only [lv_cons, lv_nil, app_cons, app_nil]
 refine wp_call rfl (refBit_conN (w := w) (n := 2) hw) rfl ?_
 simp only [lv_cons, lv_nil, app_cons, app_nil]
 refine wp_call rfl (refBit_conN (w := w) (n := 3) hw) rfl ?_
 simp only [lv_cons, lv_nil, app_cons, app_nil]
 refine wp_call rfl (refBit_conN (w := w) (n := 4) hw) rfl ?_
 simp only [lv_cons, lv_nil, app_cons, app_nil]
 refine wp_call rfl (refBit_conN (w := w) (n := 5) hw) rfl ?_
 simp only [lv_cons, lv_nil, app_cons, app_nil]
 refine wp_call rfl (refBit_conN (w := w) (n := 6) hw) rfl ?_
 simp only [lv_cons, lv_nil, app_cons, app_nil]
 refine wp_call rfl (refBit_conN (w := w) (n := 7) hw) rfl ?_
 simp only [lv_cons, lv_nil, app_cons, app_nil]
 refine wp_lt (u_quo (b := 256) rfl rfl (by decide) hw) ?_
 simp only [lv_cons, lv_nil, app_cons, app_nil]
 refine wp_lt (u_rem (b := 4) rfl rfl (by decide)) ?_
 simp only [lv_cons, lv_nil, app_cons, app_nil]
 refine wp_lt (u_quo (b := 1024) rfl rfl (by decide) hw) ?_
 simp only [lv_cons, lv_nil, app_cons, app_nil]
 refine wp_lt (u_rem (b := 17592186044416) rfl rfl (by decide)) ?_
 simp only [lv_cons, lv_nil, app_cons, app_nil]
 refine wp_lt (u_quo (b := 18014398509481984) rfl rfl (by decide) hw) ?_
 simp only [lv_cons, lv_nil, app_cons, app_nil]
 exact wp_return rfl rfl
theorem pteBad_con {p : Pt} {l : Int} (hl : Lv l) : Cn gAll 70 [p.dv, i l] [bb (p.bad l)] := by
 have hlink := pteLink_con (p := p)
 refine con rfl rfl pte_Bad_c pte_Bad_p rfl ?_
 unfold pte_Bad_ir
 simp only [lv_cons, lv_nil, Pt.ds, app_cons, app_nil]
 refine wp_lt (d := (.b (!p.v))) rfl ?_
 simp only [lv_cons, lv_nil, app_cons, app_nil]
 refine wp_ite rfl (fun h1 => ?_) (fun h1 => ?_)
 ·exact wp_return rfl (bb_eq (by simp only [Pt.bad, h1, Bool.true_or]))
 have h1 : p.v = true := by simpa using h1
 refine wp_ite rfl (fun h2 => ?_) (fun h2 => ?_)
 ·refine wp_lt (d := (.b (!p.r))) rfl ?_
  simp only [lv_cons, lv_nil, app_cons, app_nil]
  refine wp_ite rfl (fun h2' => ?_) (fun h2' => ?_)
  ·exact wp_return rfl (bb_eq (by simp only [Pt.bad, h2, h2', Bool.true_and, Bool.or_true, Bool.true_or]))
  refine wp_lt (e_neq rfl rfl) ?_
  simp only [lv_cons, lv_nil, app_cons, app_nil]
  refine wp_ite rfl (fun h3 => ?_) (fun h3 => ?_)
  ·exact wp_return rfl (bb_eq (by simp only [Pt.bad, show (p.high != 0) = true by rw [bne_iff_ne] at h3 ⊢; omega, Bool.true_or, Bool.or_true]))
  have h3 : p.high = 0 := by have := (bne_eq_false_iff_eq (a := (p.high : Int)) (b := 0)).1 h3; omega
  refine wp_call rfl hlink rfl ?_
  simp only [lv_cons, lv_nil, app_cons, app_nil]
  refine wp_ite rfl (fun h4 => ?_) (fun h4 => ?_)
  ·have h4 : p.r = false ∧ p.x = false := by
    simp only [Pt.link, Bool.and_eq_true, Bool.not_eq_true'] at h4
    exact ⟨h4.1.2, h4.2⟩
   refine wp_lt (e_eql rfl rfl) ?_
   simp only [lv_cons, lv_nil, app_cons, app_nil]
   refine wp_ite rfl (fun h5 => ?_) (fun h5 => ?_)
   ·exact wp_return rfl (bb_eq (by simp [Pt.bad, h4.1, h4.2, beq_iff_eq.1 h5]))
   refine wp_ite rfl (fun h6 => ?_) (fun h6 => ?_)
   ·exact wp_return rfl (bb_eq (by simp [Pt.bad, h4.1, h4.2, h6]))
   refine wp_ite rfl (fun h7 => ?_) (fun h7 => ?_)
   ·exact wp_return rfl (bb_eq (by simp [Pt.bad, h4.1, h4.2, h7]))
   exact wp_return rfl (bb_eq (by have := beq_eq_false_iff_ne.1 h5; simp_all [Pt.bad]))
  ·have h4 : (!p.r && !p.x) = false := by
    simp only [Pt.link] at h4
    rw [h1, Bool.true_and] at h4
    exact h4
   refine wp_call rfl (vaSize_con hl) rfl ?_
   simp only [lv_cons, lv_nil, app_cons, app_nil]
   refine wp_lt (u_quo (b := 4096) rfl rfl (by decide) (by rw [szN_eq]; have := pgN_le (l := l); omega)) ?_
   simp only [lv_cons, lv_nil, app_cons, app_nil]
   have hq : szN l / 4096 = pgN l := by rw [szN_eq, Nat.mul_div_cancel_left _ (by decide)]
   rw [hq]
   refine wp_call rfl (even_con (a := p.ppn) (b := pgN l) (by have := pgN_pos (l := l); omega)) rfl ?_
   simp only [lv_cons, lv_nil, app_cons, app_nil]
   refine wp_lt (d := .b (!decide (p.ppn % pgN l = 0))) rfl ?_
   simp only [lv_cons, lv_nil, app_cons, app_nil]
   refine wp_return rfl (bb_eq ?_)
   simp only [Pt.bad, h4, h3, h1, h2,h2']
   rw [Bool.eq_iff_iff]
   simp
 ·refine wp_lt (e_neq rfl rfl) ?_
  simp only [lv_cons, lv_nil, app_cons, app_nil]
  refine wp_ite rfl (fun h3 => ?_) (fun h3 => ?_)
  ·exact wp_return rfl (bb_eq (by simp only [Pt.bad, show (p.high != 0) = true by rw [bne_iff_ne] at h3 ⊢; omega, Bool.true_or, Bool.or_true]))
  have h3 : p.high = 0 := by have := (bne_eq_false_iff_eq (a := (p.high : Int)) (b := 0)).1 h3; omega
  refine wp_call rfl hlink rfl ?_
  simp only [lv_cons, lv_nil, app_cons, app_nil]
  refine wp_ite rfl (fun h4 => ?_) (fun h4 => ?_)
  ·have h4 : p.r = false ∧ p.x = false := by
    simp only [Pt.link, Bool.and_eq_true, Bool.not_eq_true'] at h4
    exact ⟨h4.1.2, h4.2⟩
   refine wp_lt (e_eql rfl rfl) ?_
   simp only [lv_cons, lv_nil, app_cons, app_nil]
   refine wp_ite rfl (fun h5 => ?_) (fun h5 => ?_)
   ·exact wp_return rfl (bb_eq (by simp [Pt.bad, h4.1, h4.2, beq_iff_eq.1 h5]))
   refine wp_ite rfl (fun h6 => ?_) (fun h6 => ?_)
   ·exact wp_return rfl (bb_eq (by simp [Pt.bad, h4.1, h4.2, h6]))
   refine wp_ite rfl (fun h7 => ?_) (fun h7 => ?_)
   ·exact wp_return rfl (bb_eq (by simp [Pt.bad, h4.1, h4.2, h7]))
   exact wp_return rfl (bb_eq (by have := beq_eq_false_iff_ne.1 h5; simp_all [Pt.bad]))
  ·have h4 : (!p.r && !p.x) = false := by
    simp only [Pt.link] at h4
    rw [h1, Bool.true_and] at h4
    exact h4
   refine wp_call rfl (vaSize_con hl) rfl ?_
   simp only [lv_cons, lv_nil, app_cons, app_nil]
   refine wp_lt (u_quo (b := 4096) rfl rfl (by decide) (by rw [szN_eq]; have := pgN_le (l := l); omega)) ?_
   simp only [lv_cons, lv_nil, app_cons, app_nil]
   have hq : szN l / 4096 = pgN l := by rw [szN_eq, Nat.mul_div_cancel_left _ (by decide)]
   rw [hq]
   refine wp_call rfl (even_con (a := p.ppn) (b := pgN l) (by have := pgN_pos (l := l); omega)) rfl ?_
   simp only [lv_cons, lv_nil, app_cons, app_nil]
   refine wp_lt (d := .b (!decide (p.ppn % pgN l = 0))) rfl ?_
   simp only [lv_cons, lv_nil, app_cons, app_nil]
   refine wp_return rfl (bb_eq ?_)
   simp only [Pt.bad, h4, h3, h1, h2]
   rw [Bool.eq_iff_iff]
   simp
end Go.Proofs.YtnkjmocacielmaaDoor.Sx
namespace Go.Proofs.YtnkjmocacielmaaDoor.Sx
open Go
set_option linter.unusedVariables false
set_option linter.unusedSimpArgs false
set_option maxRecDepth 100000
theorem refBad_con {p : Pt} {l : Int} (hl : Lv l) : Cn gAll 45 [p.dv, i l] [bb (p.bad l)] := by
 refine con rfl rfl atlasref06_Bad_c atlasref06_Bad_p rfl ?_
 unfold atlasref06_Bad_ir
 simp only [lv_cons, lv_nil, Pt.ds, app_cons, app_nil]
 refine wp_lt (d := (.b (!p.v))) rfl ?_
 simp only [lv_cons, lv_nil, app_cons, app_nil]
 refine wp_ite rfl (fun h1 => ?_) (fun h1 => ?_)
 ·exact wp_return rfl (bb_eq (by simp only [Pt.bad, h1, Bool.true_or]))
 have h1 : p.v = true := by simpa using h1
 refine wp_ite rfl (fun h2 => ?_) (fun h2 => ?_)
 ·refine wp_lt (d := (.b (!p.r))) rfl ?_
  simp only [lv_cons, lv_nil, app_cons, app_nil]
  refine wp_ite rfl (fun h2' => ?_) (fun h2' => ?_)
  ·exact wp_return rfl (bb_eq (by simp only [Pt.bad, h2, h2', Bool.true_and, Bool.or_true, Bool.true_or]))
  have hr : p.r = true := by simpa using h2'
  have hw : (p.w && !p.r) = false := by rw [hr]; simp
  refine wp_lt (e_gtr rfl rfl) ?_
  simp only [lv_cons, lv_nil, app_cons, app_nil]
  refine wp_ite rfl (fun h3 => ?_) (fun h3 => ?_)
  ·have h3 := of_decide_eq_true h3
   exact wp_return rfl (bb_eq (by simp only [Pt.bad, show (p.high != 0) = true by rw [bne_iff_ne]; omega, Bool.true_or, Bool.or_true]))
  have h3 : p.high = 0 := by have := of_decide_eq_false h3; omega
  refine wp_lt (d := (.b (!p.r))) rfl ?_
  simp only [lv_cons, lv_nil, app_cons, app_nil]
  refine wp_ite rfl (fun h5 => ?_) (fun h5 => ?_)
  ·refine wp_lt (d := (.b (!p.x))) rfl ?_
   simp only [lv_cons, lv_nil, app_cons, app_nil]
   refine wp_ite rfl (fun h6 => ?_) (fun h6 => ?_)
   ·have h4 : (!p.r && !p.x) = true := by rw [h5, h6]; rfl
    refine wp_lt (e_eql rfl rfl) ?_
    simp only [lv_cons, lv_nil, app_cons, app_nil]
    refine wp_ite rfl (fun h7 => ?_) (fun h7 => ?_)
    ·exact wp_return rfl (bb_eq (by simp [Pt.bad, h4, beq_iff_eq.1 h7]))
    refine wp_ite rfl (fun h8 => ?_) (fun h8 => ?_)
    ·exact wp_return rfl (bb_eq (by simp [Pt.bad, h4, h8]))
    refine wp_ite rfl (fun h9 => ?_) (fun h9 => ?_)
    ·exact wp_return rfl (bb_eq (by simp [Pt.bad, h4, h9]))
    exact wp_return rfl (bb_eq (by simp [Pt.bad, h1, hw, h3, h4, h8, h9, beq_eq_false_iff_ne.1 h7]))
   ·have h4 : (!p.r && !p.x) = false := by rw [h6, Bool.and_false]
    refine wp_lt (e_eql rfl rfl) ?_
    simp only [lv_cons, lv_nil, app_cons, app_nil]
    refine wp_ite rfl (fun h8 => ?_) (fun h8 => ?_)
    ·have h8 := beq_iff_eq.1 h8
     subst h8
     refine wp_lt (u_rem (a := p.ppn) (b := 512) rfl rfl (by decide)) ?_
     simp only [lv_cons, lv_nil, app_cons, app_nil]
     refine wp_lt (e_gtr rfl rfl) ?_
     simp only [lv_cons, lv_nil, app_cons, app_nil]
     refine wp_return rfl (bb_iff ?_)
     simp [Pt.bad, h1, hw, h3, h4, pgN, decide_eq_true_eq]
     omega
    refine wp_lt (e_eql rfl rfl) ?_
    simp only [lv_cons, lv_nil, app_cons, app_nil]
    refine wp_ite rfl (fun h9 => ?_) (fun h9 => ?_)
    ·have h9 := beq_iff_eq.1 h9
     subst h9
     refine wp_lt (u_rem (a := p.ppn) (b := 262144) rfl rfl (by decide)) ?_
     simp only [lv_cons, lv_nil, app_cons, app_nil]
     refine wp_lt (e_gtr rfl rfl) ?_
     simp only [lv_cons, lv_nil, app_cons, app_nil]
     refine wp_return rfl (bb_iff ?_)
     simp [Pt.bad, h1, hw, h3, h4, pgN, decide_eq_true_eq]
     omega
    have h0 : l = 0 := by
     have := beq_eq_false_iff_ne.1 h8
     have := beq_eq_false_iff_ne.1 h9
     rcases hl with h | h | h
     ·exact h
     ·omega
     ·omega
    subst h0
    exact wp_return rfl (bb_eq (by simp [Pt.bad, h1, hw, h3, h4, pgN, Nat.mod_one]))
  ·have h4 : (!p.r && !p.x) = false := by rw [h5, Bool.false_and]
   refine wp_lt (e_eql rfl rfl) ?_
   simp only [lv_cons, lv_nil, app_cons, app_nil]
   refine wp_ite rfl (fun h8 => ?_) (fun h8 => ?_)
   ·have h8 := beq_iff_eq.1 h8
    subst h8
    refine wp_lt (u_rem (a := p.ppn) (b := 512) rfl rfl (by decide)) ?_
    simp only [lv_cons, lv_nil, app_cons, app_nil]
    refine wp_lt (e_gtr rfl rfl) ?_
    simp only [lv_cons, lv_nil, app_cons, app_nil]
    refine wp_return rfl (bb_iff ?_)
    simp [Pt.bad, h1, hw, h3, h4, pgN, decide_eq_true_eq]
    omega
   refine wp_lt (e_eql rfl rfl) ?_
   simp only [lv_cons, lv_nil, app_cons, app_nil]
   refine wp_ite rfl (fun h9 => ?_) (fun h9 => ?_)
   ·have h9 := beq_iff_eq.1 h9
    subst h9
    refine wp_lt (u_rem (a := p.ppn) (b := 262144) rfl rfl (by decide)) ?_
    simp only [lv_cons, lv_nil, app_cons, app_nil]
    refine wp_lt (e_gtr rfl rfl) ?_
    simp only [lv_cons, lv_nil, app_cons, app_nil]
    refine wp_return rfl (bb_iff ?_)
    simp [Pt.bad, h1, hw, h3, h4, pgN, decide_eq_true_eq]
    omega
   have h0 : l = 0 := by
    have := beq_eq_false_iff_ne.1 h8
    have := beq_eq_false_iff_ne.1 h9
    rcases hl with h | h | h
    ·exact h
    ·omega
    ·omega
   subst h0
   exact wp_return rfl (bb_eq (by simp [Pt.bad, h1, hw, h3, h4, pgN, Nat.mod_one]))
 ·have hw : (p.w && !p.r) = false := by rw [h2]; rfl
  refine wp_lt (e_gtr rfl rfl) ?_
  simp only [lv_cons, lv_nil, app_cons, app_nil]
  refine wp_ite rfl (fun h3 => ?_) (fun h3 => ?_)
  ·have h3 := of_decide_eq_true h3
   exact wp_return rfl (bb_eq (by simp only [Pt.bad, show (p.high != 0) = true by rw [bne_iff_ne]; omega, Bool.true_or, Bool.or_true]))
  have h3 : p.high = 0 := by have := of_decide_eq_false h3; omega
  refine wp_lt (d := (.b (!p.r))) rfl ?_
  simp only [lv_cons, lv_nil, app_cons, app_nil]
  refine wp_ite rfl (fun h5 => ?_) (fun h5 => ?_)
  ·refine wp_lt (d := (.b (!p.x))) rfl ?_
   simp only [lv_cons, lv_nil, app_cons, app_nil]
   refine wp_ite rfl (fun h6 => ?_) (fun h6 => ?_)
   ·have h4 : (!p.r && !p.x) = true := by rw [h5, h6]; rfl
    refine wp_lt (e_eql rfl rfl) ?_
    simp only [lv_cons, lv_nil, app_cons, app_nil]
    refine wp_ite rfl (fun h7 => ?_) (fun h7 => ?_)
    ·exact wp_return rfl (bb_eq (by simp [Pt.bad, h4, beq_iff_eq.1 h7]))
    refine wp_ite rfl (fun h8 => ?_) (fun h8 => ?_)
    ·exact wp_return rfl (bb_eq (by simp [Pt.bad, h4, h8]))
    refine wp_ite rfl (fun h9 => ?_) (fun h9 => ?_)
    ·exact wp_return rfl (bb_eq (by simp [Pt.bad, h4, h9]))
    exact wp_return rfl (bb_eq (by simp [Pt.bad, h1, hw, h3, h4, h8, h9, beq_eq_false_iff_ne.1 h7]))
   ·have h4 : (!p.r && !p.x) = false := by rw [h6, Bool.and_false]
    refine wp_lt (e_eql rfl rfl) ?_
    simp only [lv_cons, lv_nil, app_cons, app_nil]
    refine wp_ite rfl (fun h8 => ?_) (fun h8 => ?_)
    ·have h8 := beq_iff_eq.1 h8
     subst h8
     refine wp_lt (u_rem (a := p.ppn) (b := 512) rfl rfl (by decide)) ?_
     simp only [lv_cons, lv_nil, app_cons, app_nil]
     refine wp_lt (e_gtr rfl rfl) ?_
     simp only [lv_cons, lv_nil, app_cons, app_nil]
     refine wp_return rfl (bb_iff ?_)
     simp [Pt.bad, h1, hw, h3, h4, pgN, decide_eq_true_eq]
     omega
    refine wp_lt (e_eql rfl rfl) ?_
    simp only [lv_cons, lv_nil, app_cons, app_nil]
    refine wp_ite rfl (fun h9 => ?_) (fun h9 => ?_)
    ·have h9 := beq_iff_eq.1 h9
     subst h9
     refine wp_lt (u_rem (a := p.ppn) (b := 262144) rfl rfl (by decide)) ?_
     simp only [lv_cons, lv_nil, app_cons, app_nil]
     refine wp_lt (e_gtr rfl rfl) ?_
     simp only [lv_cons, lv_nil, app_cons, app_nil]
     refine wp_return rfl (bb_iff ?_)
     simp [Pt.bad, h1, hw, h3, h4, pgN, decide_eq_true_eq]
     omega
    have h0 : l = 0 := by
     have := beq_eq_false_iff_ne.1 h8
     have := beq_eq_false_iff_ne.1 h9
     rcases hl with h | h | h
     ·exact h
     ·omega
     ·omega
    subst h0
    exact wp_return rfl (bb_eq (by simp [Pt.bad, h1, hw, h3, h4, pgN, Nat.mod_one]))
  ·have h4 : (!p.r && !p.x) = false := by rw [h5, Bool.false_and]
   refine wp_lt (e_eql rfl rfl) ?_
   simp only [lv_cons, lv_nil, app_cons, app_nil]
   refine wp_ite rfl (fun h8 => ?_) (fun h8 => ?_)
   ·have h8 := beq_iff_eq.1 h8
    subst h8
    refine wp_lt (u_rem (a := p.ppn) (b := 512) rfl rfl (by decide)) ?_
    simp only [lv_cons, lv_nil, app_cons, app_nil]
    refine wp_lt (e_gtr rfl rfl) ?_
    simp only [lv_cons, lv_nil, app_cons, app_nil]
    refine wp_return rfl (bb_iff ?_)
    simp [Pt.bad, h1, hw, h3, h4, pgN, decide_eq_true_eq]
    omega
   refine wp_lt (e_eql rfl rfl) ?_
   simp only [lv_cons, lv_nil, app_cons, app_nil]
   refine wp_ite rfl (fun h9 => ?_) (fun h9 => ?_)
   ·have h9 := beq_iff_eq.1 h9
    subst h9
    refine wp_lt (u_rem (a := p.ppn) (b := 262144) rfl rfl (by decide)) ?_
    simp only [lv_cons, lv_nil, app_cons, app_nil]
    refine wp_lt (e_gtr rfl rfl) ?_
    simp only [lv_cons, lv_nil, app_cons, app_nil]
    refine wp_return rfl (bb_iff ?_)
    simp [Pt.bad, h1, hw, h3, h4, pgN, decide_eq_true_eq]
    omega
   have h0 : l = 0 := by
    have := beq_eq_false_iff_ne.1 h8
    have := beq_eq_false_iff_ne.1 h9
    rcases hl with h | h | h
    ·exact h
    ·omega
    ·omega
   subst h0
   exact wp_return rfl (bb_eq (by simp [Pt.bad, h1, hw, h3, h4, pgN, Nat.mod_one]))
abbrev P4 (r w x u : Bool) : DV := (true, [.b r, .b w, .b x, .b u])
abbrev W4 (k m : Int) (s x : Bool) : DV := (true, [.i .i64 k, .i .i64 m, .b s, .b x])
theorem szN_pow {l : Nat} (h : l ≤ 2) : szN (l : Int) = 2 ^ (12 + 9 * l) := by
 rcases l with _ | _ | _ | l
 ·rfl
 ·rfl
 ·rfl
 ·omega
theorem lv_of {l : Nat} (h : l ≤ 2) : Lv (l : Int) := by unfold Lv; omega
theorem index_con {a l : Nat} (ha : a < 18446744073709551616) (h : l ≤ 2) : Cn gAll 57 [u a, i l] [i (a / szN l % 512 : Nat)] := by
 refine con rfl rfl va_Index_c va_Index_p rfl ?_
 unfold va_Index_ir
 simp only [lv_cons, lv_nil, app_cons, app_nil]
 refine wp_lt (d := I (9 * l : Nat)) ((i_mul (a := 9) (b := (l : Int)) rfl rfl (by omega) (by omega)).trans (by rw [Int.natCast_mul]; rfl)) ?_
 simp only [lv_cons, lv_nil, app_cons, app_nil]
 refine wp_lt (d := I (12 + 9 * l : Nat)) ((i_add (a := 12) (b := ((9 * l : Nat) : Int)) rfl rfl (by omega) (by omega)).trans (by rw [Int.natCast_add 12]; rfl)) ?_
 simp only [lv_cons, lv_nil, app_cons, app_nil]
 refine wp_call rfl (bitsGet_con (a := a) (lo := 12 + 9 * l) (w := 9) ha (by omega) (by decide)) rfl ?_
 simp only [lv_cons, lv_nil, app_cons, app_nil]
 have hlt : getN a (12 + 9 * l) 9 < 2 ^ 9 := getN_lt
 refine wp_lt (cv_i rfl (by omega) (by omega)) ?_
 simp only [lv_cons, lv_nil, app_cons, app_nil]
 refine wp_return rfl ?_
 rw [szN_pow h]
 rfl
theorem refIndex05_con {a l : Nat} (ha : a < 18446744073709551616) (h : l ≤ 2) : Cn gAll 32 [u a, i l] [i (a / szN l % 512 : Nat)] := by
 refine con rfl rfl atlasref05_Index_c atlasref05_Index_p rfl ?_
 unfold atlasref05_Index_ir
 simp only [lv_cons, lv_nil, app_cons, app_nil]
 refine wp_call rfl (refSize_con (lv_of h)) rfl ?_
 simp only [lv_cons, lv_nil, app_cons, app_nil]
 have hp := pgN_pos (l := (l : Int))
 have hs := szN_eq (l := (l : Int))
 refine wp_lt (u_quo rfl rfl (by omega) ha) ?_
 simp only [lv_cons, lv_nil, app_cons, app_nil]
 refine wp_lt (u_rem (b := 512) rfl rfl (by decide)) ?_
 simp only [lv_cons, lv_nil, app_cons, app_nil]
 refine wp_lt (cv_i rfl (by omega) (by omega)) ?_
 simp only [lv_cons, lv_nil, app_cons, app_nil]
 exact wp_return rfl rfl
end Go.Proofs.YtnkjmocacielmaaDoor.Sx
namespace Go.Proofs.YtnkjmocacielmaaDoor.Sx
open Go
set_option linter.unusedVariables false
set_option linter.unusedSimpArgs false
set_option maxRecDepth 100000
end Go.Proofs.YtnkjmocacielmaaDoor.Sx
namespace Go.Proofs.YtnkjmocacielmaaDoor.Sx
open Go
set_option linter.unusedVariables false
set_option linter.unusedSimpArgs false
set_option maxRecDepth 100000
theorem store8 {s pl w : Nat} {cs : List Cl} (h8 : pl % 8 = 0) (hw : w < 18446744073709551616) : storeM s cs pl 8 w = putM cs (pl / 8) w := by
 have e : setN (wordN s cs pl) (pl % 8 * 8) (8 * 8) w = w := by
  rw [h8]
  refine Nat.eq_of_testBit_eq fun i => ?_
  rw [setN_testBit]
  by_cases h : i < 64
  ·rw [decide_eq_true h, if_pos (by omega), Bool.true_and]
   congr 1
  ·rw [decide_eq_false h, Bool.false_and, testBit_lt64 hw (by omega)]
 rw [storeM, e]
structure LeafOk (s : Nat) (cs : List Cl) (l : Lf) : Prop where
 al : l.pl % 8 = 0
 low : l.pl < s
 lv : l.lv ≤ 2
 pt : ∃ g, l.pt = { ptN (wordN s cs l.pl) with g := g }
 good : l.pt.bad l.lv = false
 leaf : l.pt.leaf = true
theorem szN_pos {l : Int} : 0 < szN l := by unfold szN; split <;> (try split) <;> omega
end Go.Proofs.YtnkjmocacielmaaDoor.Sx
namespace Go.Proofs.YtnkjmocacielmaaDoor.Sx
open Go
set_option linter.unusedVariables false
set_option linter.unusedSimpArgs false
set_option maxRecDepth 100000
theorem word_put {s p v x : Nat} {cs : List Cl} (hs : Asc cs) (hx : x < s) : wordN s (putM cs p v) x = if x / 8 = p then v else wordN s cs x := by
 rw [word_in hx, word_in hx, look_putM hs]
end Go.Proofs.YtnkjmocacielmaaDoor.Sx
