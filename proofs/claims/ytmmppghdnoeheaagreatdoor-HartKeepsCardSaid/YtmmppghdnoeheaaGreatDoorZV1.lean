/-
  Layers 7, 16, 17: harts as data; bringing, letting go, picking: contracts.
  Layer 17: what is brought in twice; what stays right: plain; answers that the document fixes.
  Layer 17: a right hart and a right memory of few cells: contract.
-/
import Derived.Test.YtmmppghdnoeheaaGreatDoorZW1
import Derived.Test.YtmmppghdnoeheaaGreatDoorZM1
import Derived.Test.YtmmppghdnoeheaaGreatDoorZT1
import Derived.Test.YtmmppghdnoeheaaGreatDoorZIrV
namespace Go.Proofs.YtmmppghdnoeheaaGreatDoor.Sx
open Go
set_option linter.unusedVariables false
set_option linter.unusedSimpArgs false
set_option maxRecDepth 100000
structure Ht where
  ts : List SetD
  mode : Nat
  asid : Nat
  ppn : Nat
  priv : Int
  sum : Bool
  mxr : Bool
  vic : Int
def Ht.ds (h : Ht) : List D := [tlb h.ts, U h.mode, U h.asid, U h.ppn, I h.priv, .b h.sum, .b h.mxr, I h.vic]
abbrev Ht.dv (h : Ht) : DV := (true, h.ds)
def mayS (m a p : Nat) : Bool := if m = 0 then a == 0 && p == 0 else m == 8 && decide (a < 65536) && decide (p < 17592186044416)
def rightH (h : Ht) : Bool := rightT h.ts && mayS h.mode h.asid h.ppn && (h.priv == 0 || h.priv == 1)
structure RH (h : Ht) : Prop where
  tr : TR h.ts
  satp : mayS h.mode h.asid h.ppn = true
  priv : Pv h.priv
theorem rh_of {h : Ht} (hO : TOk h.ts) (hr : rightH h = true) : RH h := by
  simp only [rightH, Bool.and_eq_true, Bool.or_eq_true, beq_iff_eq] at hr
  exact ⟨⟨hr.1.1, hO⟩, hr.1.2, hr.2⟩
theorem mayS_lt {m a p : Nat} (h : mayS m a p = true) : a < 65536 ∧ p < 17592186044416 := by
  unfold mayS at h
  split at h
  · simp only [Bool.and_eq_true, beq_iff_eq] at h
    omega
  · simp only [Bool.and_eq_true, decide_eq_true_eq] at h
    omega
theorem refMayS_con {m a p : Nat} : Cn gAll 43 [(true, [U m, U a, U p])] [bb (mayS m a p)] := by
  refine con rfl rfl atlasref07_May_c atlasref07_May_p rfl ?_
  unfold atlasref07_May_ir
  simp only [lv_cons, lv_nil, app_cons, app_nil]
  refine wp_lt (e_eql rfl rfl) ?_
  simp only [lv_cons, lv_nil, app_cons, app_nil]
  refine wp_ite rfl (fun h1 => ?_) (fun h1 => ?_)
  · have h1 : m = 0 := by have := beq_iff_eq.1 h1; omega
    subst h1
    refine wp_lt (e_eql rfl rfl) ?_
    simp only [lv_cons, lv_nil, app_cons, app_nil]
    refine wp_ite rfl (fun h2 => ?_) (fun h2 => ?_)
    · have h2 : a = 0 := by have := beq_iff_eq.1 h2; omega
      subst h2
      refine wp_lt (e_eql rfl rfl) ?_
      simp only [lv_cons, lv_nil, app_cons, app_nil]
      refine wp_return rfl (bb_iff ?_)
      simp [mayS]
    · have h2 : ¬ a = 0 := by have := beq_eq_false_iff_ne.1 h2; omega
      exact wp_return rfl (bb_eq (by simp [mayS, h2]))
  · have h1 : ¬ m = 0 := by have := beq_eq_false_iff_ne.1 h1; omega
    refine wp_lt (e_eql rfl rfl) ?_
    simp only [lv_cons, lv_nil, app_cons, app_nil]
    refine wp_ite rfl (fun h2 => ?_) (fun h2 => ?_)
    · have h2 : m = 8 := by have := beq_iff_eq.1 h2; omega
      subst h2
      refine wp_lt (e_lss rfl rfl) ?_
      simp only [lv_cons, lv_nil, app_cons, app_nil]
      refine wp_ite rfl (fun h3 => ?_) (fun h3 => ?_)
      · have h3 : a < 65536 := by have := of_decide_eq_true h3; omega
        refine wp_lt (e_lss rfl rfl) ?_
        simp only [lv_cons, lv_nil, app_cons, app_nil]
        refine wp_return rfl (bb_iff ?_)
        simp only [mayS, if_neg h1, beq_self_eq_true, Bool.true_and, Bool.and_eq_true, decide_eq_true_eq]
        omega
      · have h3 : ¬ a < 65536 := by have := of_decide_eq_false h3; omega
        exact wp_return rfl (bb_eq (by simp [mayS, h3]))
    · have h2 : ¬ m = 8 := by have := beq_eq_false_iff_ne.1 h2; omega
      exact wp_return rfl (bb_eq (by simp [mayS, h1, h2]))
theorem refRightH_con {h : Ht} (hO : TOk h.ts) (hl : h.ts.length < 9223372036854775808) : Cn gAll 23 [h.dv] [bb (rightH h)] := by
  refine con rfl rfl atlasref16_Right_c atlasref16_Right_p rfl ?_
  unfold atlasref16_Right_ir
  simp only [lv_cons, lv_nil, Pt.ds, Lf.ds, En.ds, Ht.ds, app_cons, app_nil]
  refine wp_call rfl (refRightT_con hO hl) rfl ?_
  simp only [lv_cons, lv_nil, app_cons, app_nil]
  refine wp_ite rfl (fun h1 => ?_) (fun h1 => ?_)
  · refine wp_call rfl (refMayS_con (m := h.mode) (a := h.asid) (p := h.ppn)) rfl ?_
    simp only [lv_cons, lv_nil, app_cons, app_nil]
    refine wp_ite rfl (fun h2 => ?_) (fun h2 => ?_)
    · refine wp_lt (e_eql rfl rfl) ?_
      simp only [lv_cons, lv_nil, app_cons, app_nil]
      refine wp_ite rfl (fun h3 => ?_) (fun h3 => ?_)
      · exact wp_return rfl (bb_eq (by simp [rightH, h1, h2, h3]))
      · refine wp_lt (e_eql rfl rfl) ?_
        simp only [lv_cons, lv_nil, app_cons, app_nil]
        exact wp_return rfl (bb_eq (by simp only [rightH, h1, h2, h3, Bool.true_and, Bool.false_or]))
    · exact wp_return rfl (bb_eq (by simp only [rightH, h1, h2, Bool.and_false, Bool.false_and]))
  · exact wp_return rfl (bb_eq (by simp only [rightH, h1, Bool.false_and]))
theorem sameH_con {h : Ht} (hl : h.ts.length ≤ 1000000) : Cn gAll 18 [h.dv, h.dv] [bb true] := by
  refine con rfl rfl atlasref16_Same_c atlasref16_Same_p rfl ?_
  unfold atlasref16_Same_ir
  simp only [lv_cons, lv_nil, Pt.ds, Lf.ds, En.ds, Ht.ds, app_cons, app_nil]
  refine wp_call rfl (sameT_con hl) rfl ?_
  simp only [lv_cons, lv_nil, app_cons, app_nil]
  refine wp_ite (t := true) rfl (fun _ => ?_) (fun h => by cases h)
  refine wp_lt (d := .b true) (by repeat' first | refine ite_t (eqs_b rfl rfl) ?_ | refine ite_t (eqs_i rfl rfl) ?_ | exact rfl) ?_
  simp only [lv_cons, lv_nil, app_cons, app_nil]
  refine wp_ite (t := true) rfl (fun _ => ?_) (fun h => by cases h)
  refine wp_lt (d := .b true) (cmp_e (e_eql rfl rfl) (beq_self_eq_true _)) ?_
  simp only [lv_cons, lv_nil, app_cons, app_nil]
  refine wp_ite (t := true) rfl (fun _ => ?_) (fun h => by cases h)
  refine wp_lt (d := .b true) (cmp_e (eqt_b rfl rfl) (beq_self_eq_true _)) ?_
  simp only [lv_cons, lv_nil, app_cons, app_nil]
  refine wp_ite (t := true) rfl (fun _ => ?_) (fun h => by cases h)
  refine wp_lt (d := .b true) (cmp_e (eqt_b rfl rfl) (beq_self_eq_true _)) ?_
  simp only [lv_cons, lv_nil, app_cons, app_nil]
  refine wp_ite (t := true) rfl (fun _ => ?_) (fun h => by cases h)
  refine wp_lt (d := .b true) (cmp_e (e_eql rfl rfl) (beq_self_eq_true _)) ?_
  simp only [lv_cons, lv_nil, app_cons, app_nil]
  exact wp_return rfl rfl
def entryOf (l : Lf) (a asid : Nat) : En := ⟨true, asid, l.pt.g, l.lv, numF a - numF a % pgN l.lv, l.pt.ppn, l.pt.r, l.pt.w, l.pt.x, l.pt.u, l.pt.d⟩
theorem num_base {a : Nat} {l : Int} (hl : Lv l) : (a - a % szN l) / 4096 % 134217728 = numF a - numF a % pgN l := by
  have e := szN_eq (l := l)
  unfold numF
  rcases hl with rfl | rfl | rfl
  · rw [e]; simp only [pgN, if_pos]; omega
  · have : pgN 1 = 512 := rfl
    rw [e, this]; omega
  · have : pgN 2 = 262144 := rfl
    rw [e, this]; omega
theorem entryOf_con {l : Lf} {a n : Nat} (hl : l.lv ≤ 2) (ha : a < 18446744073709551616) : Cn gAll 58 [l.dv, u a, u n] [(entryOf l a n).dv] := by
  refine con rfl rfl entry_Of_c entry_Of_p rfl ?_
  unfold entry_Of_ir
  simp only [lv_cons, lv_nil, Pt.ds, Lf.ds, En.ds, Ht.ds, app_cons, app_nil]
  refine wp_call rfl (base_con ha (lv_of hl)) rfl ?_
  simp only [lv_cons, lv_nil, app_cons, app_nil]
  refine wp_call rfl (number_con (a := a - a % szN l.lv) (by omega)) rfl ?_
  simp only [lv_cons, lv_nil, app_cons, app_nil]
  rw [num_base (lv_of hl)]
  refine wp_call rfl (ptePerm_con (p := l.pt)) rfl ?_
  simp only [lv_cons, lv_nil, app_cons, app_nil]
  exact wp_return rfl rfl
theorem entryOf_may {s : Nat} {cs : List Cl} {l : Lf} {a n : Nat} (hO : COk cs) (hl : LeafOk s cs l) (hn : n < 65536) : (entryOf l a n).may = true := by
  have hp : l.pt.ppn < 17592186044416 := by
    obtain ⟨g, hg⟩ := hl.pt
    rw [hg]
    exact (ptN_may (wordN_lt hO)).2.1
  have hlv := lv_of hl.lv
  have h1 : (entryOf l a n).may = true ↔ _ := En.may_of (e := entryOf l a n) rfl hlv
  refine h1.2 ⟨?_, hp, hn, ?_, ?_⟩
  · show numF a - numF a % pgN l.lv < _
    have := numF_lt a
    omega
  · show (numF a - numF a % pgN l.lv) % pgN l.lv = 0
    have hpos := pgN_pos (l := (l.lv : Int))
    have := Nat.div_add_mod (numF a) (pgN l.lv)
    rw [show numF a - numF a % pgN l.lv = pgN l.lv * (numF a / pgN l.lv) by omega]
    exact Nat.mul_mod_right _ _
  · show l.pt.ppn % pgN l.lv = 0
    have hb := hl.good
    have hlf := hl.leaf
    simp only [Pt.leaf, Bool.and_eq_true, Bool.or_eq_true] at hlf
    have hrx : (!l.pt.r && !l.pt.x) = false := by rcases hlf.2 with h | h <;> simp [h]
    unfold Pt.bad at hb
    rw [hrx] at hb
    simp only [Bool.or_eq_false_iff, Bool.false_eq_true, if_false, bne_eq_false_iff_eq] at hb
    exact hb.2
theorem entryOf_ok {s : Nat} {cs : List Cl} {l : Lf} {a n : Nat} (hO : COk cs) (hl : LeafOk s cs l) (hn : n < 65536) : (entryOf l a n).Ok := by
  have h := En.may_May (entryOf_may (a := a) hO hl hn)
  exact ⟨by have := h.asid; omega, by have := h.vpn; omega, by have := h.ppn; omega⟩
theorem LeafOk.mark {s : Nat} {cs : List Cl} {l : Lf} {d : Bool} (hs : Asc cs) (hl : LeafOk s cs l) : LeafOk s (markM s cs l.pl d) (markL s cs l d) := by
  refine ⟨hl.al, hl.low, hl.lv, ?_, ?_, ?_⟩
  · obtain ⟨g, hg⟩ := hl.pt
    refine ⟨g, ?_⟩
    show _ = ({ ptN (wordN s (markM s cs l.pl d) l.pl) with g := g } : Pt)
    rw [word_mark hs hl.low, if_pos rfl, pt_mk]
    unfold markL
    rw [hg]
  · have := Pt.bad_ad (p := l.pt) (l := (l.lv : Int)) (a := true) (d := (ptN (wordN s cs l.pl)).d || d) (g := l.pt.g) hl.leaf
    rw [hl.good] at this
    exact this
  · exact hl.leaf
def bringL (h : Ht) (s : Nat) (cs : List Cl) (a : Nat) : Option Lf := if h.mode = 8 then (match lookW s cs h.ppn a with | .leaf l => some l | .fault _ => none) else none
def bringH (h : Ht) (s : Nat) (cs : List Cl) (a : Nat) : Ht := match bringL h s cs a with
  | some l => { h with ts := putT h.ts (entryOf (markL s cs l false) a h.asid) h.vic, vic := -1 }
  | none => h
def bringM (h : Ht) (s : Nat) (cs : List Cl) (a : Nat) : List Cl := match bringL h s cs a with
  | some l => markM s cs l.pl false
  | none => cs
theorem bringL_of {h : Ht} {s a : Nat} {cs : List Cl} {l : Lf} (hb : bringL h s cs a = some l) : h.mode = 8 ∧ lookW s cs h.ppn a = .leaf l := by
  unfold bringL at hb
  split at hb
  · rename_i hm
    split at hb
    · rename_i l' hl
      cases hb
      exact ⟨hm, hl⟩
    · cases hb
  · cases hb
theorem bringH_some {h : Ht} {s a : Nat} {cs : List Cl} {l : Lf} (hb : bringL h s cs a = some l) : bringH h s cs a = { h with ts := putT h.ts (entryOf (markL s cs l false) a h.asid) h.vic, vic := -1 } := by rw [bringH, hb]
theorem bringM_some {h : Ht} {s a : Nat} {cs : List Cl} {l : Lf} (hb : bringL h s cs a = some l) : bringM h s cs a = markM s cs l.pl false := by rw [bringM, hb]
theorem bringH_none {h : Ht} {s a : Nat} {cs : List Cl} (hb : bringL h s cs a = none) : bringH h s cs a = h := by rw [bringH, hb]
theorem bringM_none {h : Ht} {s a : Nat} {cs : List Cl} (hb : bringL h s cs a = none) : bringM h s cs a = cs := by rw [bringM, hb]
end Go.Proofs.YtmmppghdnoeheaaGreatDoor.Sx
namespace Go.Proofs.YtmmppghdnoeheaaGreatDoor.Sx
open Go
set_option linter.unusedVariables false
set_option linter.unusedSimpArgs false
set_option maxRecDepth 100000
section
variable {e d0 d1 d2 d3 : En} {t : Nat}
end
abbrev ah : Ht := ⟨newT 1, 8, 1, 1, 0, false, false, -1⟩
abbrev ae : En := ⟨true, 1, false, 2, 0, 0, false, false, true, false, false⟩
abbrev ad : Ht := ⟨[⟨En.zero, En.zero, ae, En.zero, touN 0 2⟩], 8, 1, 1, 0, false, false, -1⟩
theorem ah_rh : RH ah := ⟨newT_ok (by decide), by decide, .inl rfl⟩
end Go.Proofs.YtmmppghdnoeheaaGreatDoor.Sx
namespace Go.Proofs.YtmmppghdnoeheaaGreatDoor.Sx
open Go
set_option linter.unusedVariables false
set_option linter.unusedSimpArgs false
set_option maxRecDepth 100000
end Go.Proofs.YtmmppghdnoeheaaGreatDoor.Sx
