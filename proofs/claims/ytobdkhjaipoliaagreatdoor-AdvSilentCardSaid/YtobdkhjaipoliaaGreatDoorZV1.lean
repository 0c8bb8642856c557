/-
  Layers 7, 16, 17: harts as data; bringing, letting go, picking: contracts.
  Layer 17: what is brought in twice; what stays right: plain; answers that the document fixes.
  Layer 17: a right hart and a right memory of few cells: contract.
-/
import Derived.Test.YtobdkhjaipoliaaGreatDoorZW1
import Derived.Test.YtobdkhjaipoliaaGreatDoorZM1
import Derived.Test.YtobdkhjaipoliaaGreatDoorZT1
import Derived.Test.YtobdkhjaipoliaaGreatDoorZIrV
namespace Go.Proofs.YtobdkhjaipoliaaGreatDoor.Sx
open Go
set_option linter.unusedVariables false
set_option linter.unusedSimpArgs false
set_option maxRecDepth 100000
structure Ht where
  ts : List SetD
  mode : Nat
  asid : Nat
  ppn : Nat
  priv : Int
  sum : Bool
  mxr : Bool
  vic : Int
def Ht.ds (h : Ht) : List D := [tlb h.ts, U h.mode, U h.asid, U h.ppn, I h.priv, .b h.sum, .b h.mxr, I h.vic]
abbrev Ht.dv (h : Ht) : DV := (true, h.ds)
def mayS (m a p : Nat) : Bool := if m = 0 then a == 0 && p == 0 else m == 8 && decide (a < 65536) && decide (p < 17592186044416)
def rightH (h : Ht) : Bool := rightT h.ts && mayS h.mode h.asid h.ppn && (h.priv == 0 || h.priv == 1)
structure RH (h : Ht) : Prop where
  tr : TR h.ts
  satp : mayS h.mode h.asid h.ppn = true
  priv : Pv h.priv
theorem rh_of {h : Ht} (hO : TOk h.ts) (hr : rightH h = true) : RH h := by
  simp only [rightH, Bool.and_eq_true, Bool.or_eq_true, beq_iff_eq] at hr
  exact ⟨⟨hr.1.1, hO⟩, hr.1.2, hr.2⟩
theorem mayS_lt {m a p : Nat} (h : mayS m a p = true) : a < 65536 ∧ p < 17592186044416 := by
  unfold mayS at h
  split at h
  · simp only [Bool.and_eq_true, beq_iff_eq] at h
    omega
  · simp only [Bool.and_eq_true, decide_eq_true_eq] at h
    omega
theorem refMayS_con {m a p : Nat} : Cn gAll 34 [(true, [U m, U a, U p])] [bb (mayS m a p)] := by
  refine con rfl rfl atlasref07_May_c atlasref07_May_p rfl ?_
  unfold atlasref07_May_ir
  simp only [lv_cons, lv_nil, app_cons, app_nil]
  refine wp_lt (e_eql rfl rfl) ?_
  simp only [lv_cons, lv_nil, app_cons, app_nil]
  refine wp_ite rfl (fun h1 => ?_) (fun h1 => ?_)
  · have h1 : m = 0 := by have := beq_iff_eq.1 h1; omega
    subst h1
    refine wp_lt (e_eql rfl rfl) ?_
    simp only [lv_cons, lv_nil, app_cons, app_nil]
    refine wp_ite rfl (fun h2 => ?_) (fun h2 => ?_)
    · have h2 : a = 0 := by have := beq_iff_eq.1 h2; omega
      subst h2
      refine wp_lt (e_eql rfl rfl) ?_
      simp only [lv_cons, lv_nil, app_cons, app_nil]
      refine wp_return rfl (bb_iff ?_)
      simp [mayS]
    · have h2 : ¬ a = 0 := by have := beq_eq_false_iff_ne.1 h2; omega
      exact wp_return rfl (bb_eq (by simp [mayS, h2]))
  · have h1 : ¬ m = 0 := by have := beq_eq_false_iff_ne.1 h1; omega
    refine wp_lt (e_eql rfl rfl) ?_
    simp only [lv_cons, lv_nil, app_cons, app_nil]
    refine wp_ite rfl (fun h2 => ?_) (fun h2 => ?_)
    · have h2 : m = 8 := by have := beq_iff_eq.1 h2; omega
      subst h2
      refine wp_lt (e_lss rfl rfl) ?_
      simp only [lv_cons, lv_nil, app_cons, app_nil]
      refine wp_ite rfl (fun h3 => ?_) (fun h3 => ?_)
      · have h3 : a < 65536 := by have := of_decide_eq_true h3; omega
        refine wp_lt (e_lss rfl rfl) ?_
        simp only [lv_cons, lv_nil, app_cons, app_nil]
        refine wp_return rfl (bb_iff ?_)
        simp only [mayS, if_neg h1, beq_self_eq_true, Bool.true_and, Bool.and_eq_true, decide_eq_true_eq]
        omega
      · have h3 : ¬ a < 65536 := by have := of_decide_eq_false h3; omega
        exact wp_return rfl (bb_eq (by simp [mayS, h3]))
    · have h2 : ¬ m = 8 := by have := beq_eq_false_iff_ne.1 h2; omega
      exact wp_return rfl (bb_eq (by simp [mayS, h1, h2]))
theorem refRightH_con {h : Ht} (hO : TOk h.ts) (hl : h.ts.length < 9223372036854775808) : Cn gAll 16 [h.dv] [bb (rightH h)] := by
  refine con rfl rfl atlasref16_Right_c atlasref16_Right_p rfl ?_
  unfold atlasref16_Right_ir
  simp only [lv_cons, lv_nil, Pt.ds, Lf.ds, En.ds, Ht.ds, app_cons, app_nil]
  refine wp_call rfl (refRightT_con hO hl) rfl ?_
  simp only [lv_cons, lv_nil, app_cons, app_nil]
  refine wp_ite rfl (fun h1 => ?_) (fun h1 => ?_)
  · refine wp_call rfl (refMayS_con (m := h.mode) (a := h.asid) (p := h.ppn)) rfl ?_
    simp only [lv_cons, lv_nil, app_cons, app_nil]
    refine wp_ite rfl (fun h2 => ?_) (fun h2 => ?_)
    · refine wp_lt (e_eql rfl rfl) ?_
      simp only [lv_cons, lv_nil, app_cons, app_nil]
      refine wp_ite rfl (fun h3 => ?_) (fun h3 => ?_)
      · exact wp_return rfl (bb_eq (by simp [rightH, h1, h2, h3]))
      · refine wp_lt (e_eql rfl rfl) ?_
        simp only [lv_cons, lv_nil, app_cons, app_nil]
        exact wp_return rfl (bb_eq (by simp only [rightH, h1, h2, h3, Bool.true_and, Bool.false_or]))
    · exact wp_return rfl (bb_eq (by simp only [rightH, h1, h2, Bool.and_false, Bool.false_and]))
  · exact wp_return rfl (bb_eq (by simp only [rightH, h1, Bool.false_and]))
theorem sameH_con {h : Ht} (hl : h.ts.length ≤ 1000000) : Cn gAll 14 [h.dv, h.dv] [bb true] := by
  refine con rfl rfl atlasref16_Same_c atlasref16_Same_p rfl ?_
  unfold atlasref16_Same_ir
  simp only [lv_cons, lv_nil, Pt.ds, Lf.ds, En.ds, Ht.ds, app_cons, app_nil]
  refine wp_call rfl (sameT_con hl) rfl ?_
  simp only [lv_cons, lv_nil, app_cons, app_nil]
  refine wp_ite (t := true) rfl (fun _ => ?_) (fun h => by cases h)
  refine wp_lt (d := .b true) (by repeat' first | refine ite_t (eqs_b rfl rfl) ?_ | refine ite_t (eqs_i rfl rfl) ?_ | exact rfl) ?_
  simp only [lv_cons, lv_nil, app_cons, app_nil]
  refine wp_ite (t := true) rfl (fun _ => ?_) (fun h => by cases h)
  refine wp_lt (d := .b true) (cmp_e (e_eql rfl rfl) (beq_self_eq_true _)) ?_
  simp only [lv_cons, lv_nil, app_cons, app_nil]
  refine wp_ite (t := true) rfl (fun _ => ?_) (fun h => by cases h)
  refine wp_lt (d := .b true) (cmp_e (eqt_b rfl rfl) (beq_self_eq_true _)) ?_
  simp only [lv_cons, lv_nil, app_cons, app_nil]
  refine wp_ite (t := true) rfl (fun _ => ?_) (fun h => by cases h)
  refine wp_lt (d := .b true) (cmp_e (eqt_b rfl rfl) (beq_self_eq_true _)) ?_
  simp only [lv_cons, lv_nil, app_cons, app_nil]
  refine wp_ite (t := true) rfl (fun _ => ?_) (fun h => by cases h)
  refine wp_lt (d := .b true) (cmp_e (e_eql rfl rfl) (beq_self_eq_true _)) ?_
  simp only [lv_cons, lv_nil, app_cons, app_nil]
  exact wp_return rfl rfl
def entryOf (l : Lf) (a asid : Nat) : En := ⟨true, asid, l.pt.g, l.lv, numF a - numF a % pgN l.lv, l.pt.ppn, l.pt.r, l.pt.w, l.pt.x, l.pt.u, l.pt.d⟩
theorem num_base {a : Nat} {l : Int} (hl : Lv l) : (a - a % szN l) / 4096 % 134217728 = numF a - numF a % pgN l := by
  have e := szN_eq (l := l)
  unfold numF
  rcases hl with rfl | rfl | rfl
  · rw [e]; simp only [pgN, if_pos]; omega
  · have : pgN 1 = 512 := rfl
    rw [e, this]; omega
  · have : pgN 2 = 262144 := rfl
    rw [e, this]; omega
theorem entryOf_con {l : Lf} {a n : Nat} (hl : l.lv ≤ 2) (ha : a < 18446744073709551616) : Cn gAll 26 [l.dv, u a, u n] [(entryOf l a n).dv] := by
  refine con rfl rfl entry_Of_c entry_Of_p rfl ?_
  unfold entry_Of_ir
  simp only [lv_cons, lv_nil, Pt.ds, Lf.ds, En.ds, Ht.ds, app_cons, app_nil]
  refine wp_call rfl (base_con ha (lv_of hl)) rfl ?_
  simp only [lv_cons, lv_nil, app_cons, app_nil]
  refine wp_call rfl (number_con (a := a - a % szN l.lv) (by omega)) rfl ?_
  simp only [lv_cons, lv_nil, app_cons, app_nil]
  rw [num_base (lv_of hl)]
  refine wp_call rfl (ptePerm_con (p := l.pt)) rfl ?_
  simp only [lv_cons, lv_nil, app_cons, app_nil]
  exact wp_return rfl rfl
theorem entryOf_may {s : Nat} {cs : List Cl} {l : Lf} {a n : Nat} (hO : COk cs) (hl : LeafOk s cs l) (hn : n < 65536) : (entryOf l a n).may = true := by
  have hp : l.pt.ppn < 17592186044416 := by
    obtain ⟨g, hg⟩ := hl.pt
    rw [hg]
    exact (ptN_may (wordN_lt hO)).2.1
  have hlv := lv_of hl.lv
  have h1 : (entryOf l a n).may = true ↔ _ := En.may_of (e := entryOf l a n) rfl hlv
  refine h1.2 ⟨?_, hp, hn, ?_, ?_⟩
  · show numF a - numF a % pgN l.lv < _
    have := numF_lt a
    omega
  · show (numF a - numF a % pgN l.lv) % pgN l.lv = 0
    have hpos := pgN_pos (l := (l.lv : Int))
    have := Nat.div_add_mod (numF a) (pgN l.lv)
    rw [show numF a - numF a % pgN l.lv = pgN l.lv * (numF a / pgN l.lv) by omega]
    exact Nat.mul_mod_right _ _
  · show l.pt.ppn % pgN l.lv = 0
    have hb := hl.good
    have hlf := hl.leaf
    simp only [Pt.leaf, Bool.and_eq_true, Bool.or_eq_true] at hlf
    have hrx : (!l.pt.r && !l.pt.x) = false := by rcases hlf.2 with h | h <;> simp [h]
    unfold Pt.bad at hb
    rw [hrx] at hb
    simp only [Bool.or_eq_false_iff, Bool.false_eq_true, if_false, bne_eq_false_iff_eq] at hb
    exact hb.2
theorem entryOf_ok {s : Nat} {cs : List Cl} {l : Lf} {a n : Nat} (hO : COk cs) (hl : LeafOk s cs l) (hn : n < 65536) : (entryOf l a n).Ok := by
  have h := En.may_May (entryOf_may (a := a) hO hl hn)
  exact ⟨by have := h.asid; omega, by have := h.vpn; omega, by have := h.ppn; omega⟩
theorem LeafOk.mark {s : Nat} {cs : List Cl} {l : Lf} {d : Bool} (hs : Asc cs) (hl : LeafOk s cs l) : LeafOk s (markM s cs l.pl d) (markL s cs l d) := by
  refine ⟨hl.al, hl.low, hl.lv, ?_, ?_, ?_⟩
  · obtain ⟨g, hg⟩ := hl.pt
    refine ⟨g, ?_⟩
    show _ = ({ ptN (wordN s (markM s cs l.pl d) l.pl) with g := g } : Pt)
    rw [word_mark hs hl.low, if_pos rfl, pt_mk]
    unfold markL
    rw [hg]
  · have := Pt.bad_ad (p := l.pt) (l := (l.lv : Int)) (a := true) (d := (ptN (wordN s cs l.pl)).d || d) (g := l.pt.g) hl.leaf
    rw [hl.good] at this
    exact this
  · exact hl.leaf
def bringL (h : Ht) (s : Nat) (cs : List Cl) (a : Nat) : Option Lf := if h.mode = 8 then (match lookW s cs h.ppn a with | .leaf l => some l | .fault _ => none) else none
def bringH (h : Ht) (s : Nat) (cs : List Cl) (a : Nat) : Ht := match bringL h s cs a with
  | some l => { h with ts := putT h.ts (entryOf (markL s cs l false) a h.asid) h.vic, vic := -1 }
  | none => h
def bringM (h : Ht) (s : Nat) (cs : List Cl) (a : Nat) : List Cl := match bringL h s cs a with
  | some l => markM s cs l.pl false
  | none => cs
theorem bringL_of {h : Ht} {s a : Nat} {cs : List Cl} {l : Lf} (hb : bringL h s cs a = some l) : h.mode = 8 ∧ lookW s cs h.ppn a = .leaf l := by
  unfold bringL at hb
  split at hb
  · rename_i hm
    split at hb
    · rename_i l' hl
      cases hb
      exact ⟨hm, hl⟩
    · cases hb
  · cases hb
theorem bringH_some {h : Ht} {s a : Nat} {cs : List Cl} {l : Lf} (hb : bringL h s cs a = some l) : bringH h s cs a = { h with ts := putT h.ts (entryOf (markL s cs l false) a h.asid) h.vic, vic := -1 } := by rw [bringH, hb]
theorem bringM_some {h : Ht} {s a : Nat} {cs : List Cl} {l : Lf} (hb : bringL h s cs a = some l) : bringM h s cs a = markM s cs l.pl false := by rw [bringM, hb]
theorem bringH_none {h : Ht} {s a : Nat} {cs : List Cl} (hb : bringL h s cs a = none) : bringH h s cs a = h := by rw [bringH, hb]
theorem bringM_none {h : Ht} {s a : Nat} {cs : List Cl} (hb : bringL h s cs a = none) : bringM h s cs a = cs := by rw [bringM, hb]
theorem bring_con {h : Ht} {s a : Nat} {kd : Int} {cs : List Cl} (hR : RH h) (hM : RM s cs) (hO : COk cs) (hlen : cs.length ≤ 400000) (ha : a < 18446744073709551616) (hkd : Kn kd) : Cn gAll 7 [h.dv, md 2 s cs, u a, i kd] [(bringH h s cs a).dv, md 2 s (bringM h s cs a)] := by
  refine con rfl rfl adv_Bring_c adv_Bring_p rfl ?_
  unfold adv_Bring_ir
  obtain ⟨hasid, hppn⟩ := mayS_lt hR.satp
  have hon : Cn gAll 22 [(true, [U h.mode, U h.asid, U h.ppn])] [bb ((h.mode : Int) == 8)] := by
    refine con rfl rfl satp_On_c satp_On_p rfl ?_
    unfold satp_On_ir
    simp only [lv_cons, lv_nil, app_cons, app_nil]
    refine wp_lt (e_eql rfl rfl) ?_
    simp only [lv_cons, lv_nil, app_cons, app_nil]
    exact wp_return rfl rfl
  simp only [lv_cons, lv_nil, Pt.ds, Lf.ds, En.ds, Ht.ds, app_cons, app_nil]
  refine wp_call rfl hon rfl ?_
  simp only [lv_cons, lv_nil, app_cons, app_nil]
  refine wp_lt rfl ?_
  simp only [lv_cons, lv_nil, app_cons, app_nil]
  refine wp_ite rfl (fun hm => ?_) (fun hm => ?_)
  · have hm : ¬ h.mode = 8 := by
      have hm : ((h.mode : Int) == 8) = false := by simpa using hm
      have := beq_eq_false_iff_ne.1 hm
      omega
    have hb : bringL h s cs a = none := by rw [bringL, if_neg hm]
    refine wp_return rfl ?_
    rw [bringH, bringM, hb]
    rfl
  have hm : h.mode = 8 := by
    have hm : ((h.mode : Int) == 8) = true := by simpa using hm
    have := beq_iff_eq.1 hm
    omega
  have hlook := walkLook_con (k := 2) (s := s) (t := h.ppn) (a := a) (kd := kd) (.inl rfl) hM hO (by omega) hppn ha hkd
  cases hlk : lookW s cs h.ppn a with
  | fault e =>
    rw [hlk] at hlook
    simp only [Lk.rs] at hlook
    have hb : bringL h s cs a = none := by rw [bringL, if_pos hm, hlk]
    refine wp_call rfl hlook rfl ?_
    simp only [lv_cons, lv_nil, Pt.ds, Lf.ds, En.ds, Ht.ds, app_cons, app_nil]
    refine wp_ite (t := true) rfl (fun _ => ?_) (fun h => by cases h)
    refine wp_return rfl ?_
    rw [bringH, bringM, hb]
    rfl
  | leaf l =>
    rw [hlk] at hlook
    simp only [Lk.rs] at hlook
    have hl := (look_leaf hlk).2
    have hb : bringL h s cs a = some l := by rw [bringL, if_pos hm, hlk]
    refine wp_call rfl hlook rfl ?_
    simp only [lv_cons, lv_nil, Pt.ds, Lf.ds, En.ds, Ht.ds, app_cons, app_nil]
    refine wp_ite (t := false) rfl (fun h => by cases h) (fun _ => ?_)
    refine wp_call rfl (walkMark_con (k := 2) (l := l) (d := false) (.inl rfl) hM hO hlen hl.al hl.low) rfl ?_
    have hml := hl.mark (d := false) hM.asc
    have hmc := cok_mark (d := false) hM hO hl.low
    have hbh : bringH h s cs a = { h with ts := putT h.ts (entryOf (markL s cs l false) a h.asid) h.vic, vic := -1 } := by rw [bringH, hb]
    have hbm : bringM h s cs a = markM s cs l.pl false := by rw [bringM, hb]
    rw [hbh, hbm]
    generalize markM s cs l.pl false = cm at *
    generalize markL s cs l false = lm at *
    simp only [lv_cons, lv_nil, Pt.ds, Lf.ds, En.ds, Ht.ds, app_cons, app_nil]
    refine wp_call rfl (entryOf_con (l := lm) (a := a) (n := h.asid) hml.lv ha) rfl ?_
    have hem := entryOf_may (a := a) hmc hml hasid
    have heo := entryOf_ok (a := a) hmc hml hasid
    generalize entryOf lm a h.asid = e at *
    simp only [lv_cons, lv_nil, Pt.ds, Lf.ds, En.ds, Ht.ds, app_cons, app_nil]
    refine wp_call rfl (tlbPut_con (e := e) (v := h.vic) hR.tr heo hem) rfl ?_
    simp only [lv_cons, lv_nil, app_cons, app_nil]
    exact wp_return rfl rfl
theorem evict_con {h : Ht} {j w : Int} (hR : RH h) : Cn gAll 8 [h.dv, i j, i w] [({ h with ts := (dropT h.ts j w).1 } : Ht).dv, i (dropT h.ts j w).2] := by
  refine con rfl rfl adv_Evict_c adv_Evict_p rfl ?_
  unfold adv_Evict_ir
  simp only [lv_cons, lv_nil, Pt.ds, Lf.ds, En.ds, Ht.ds, app_cons, app_nil]
  refine wp_call rfl (tlbDrop_con (j := j) (way := w) hR.tr) rfl ?_
  simp only [lv_cons, lv_nil, app_cons, app_nil]
  exact wp_return rfl rfl
def pickV (h : Ht) (w : Int) : Ht := if 0 ≤ w ∧ w < 4 then { h with vic := w } else h
def pickE (w : Int) : Int := if 0 ≤ w ∧ w < 4 then 0 else 1
theorem pickH_con {h : Ht} {w : Int} : Cn gAll 9 [h.dv, i w] [(pickV h w).dv, i (pickE w)] := by
  refine con rfl rfl adv_Pick_c adv_Pick_p rfl ?_
  unfold adv_Pick_ir
  simp only [lv_cons, lv_nil, Pt.ds, Lf.ds, En.ds, Ht.ds, app_cons, app_nil]
  refine wp_lt (e_lss rfl rfl) ?_
  simp only [lv_cons, lv_nil, app_cons, app_nil]
  refine wp_ite rfl (fun h1 => ?_) (fun h1 => ?_)
  · have h1 := of_decide_eq_true h1
    refine wp_return rfl ?_
    rw [pickV, pickE, if_neg (by omega), if_neg (by omega)]
    rfl
  have h1 := of_decide_eq_false h1
  refine wp_lt (e_geq rfl rfl) ?_
  simp only [lv_cons, lv_nil, app_cons, app_nil]
  refine wp_ite rfl (fun h2 => ?_) (fun h2 => ?_)
  · have h2 := of_decide_eq_true h2
    refine wp_return rfl ?_
    rw [pickV, pickE, if_neg (by omega), if_neg (by omega)]
    rfl
  · have h2 := of_decide_eq_false h2
    refine wp_return rfl ?_
    rw [pickV, pickE, if_pos (by omega), if_pos (by omega)]
    rfl
end Go.Proofs.YtobdkhjaipoliaaGreatDoor.Sx
namespace Go.Proofs.YtobdkhjaipoliaaGreatDoor.Sx
open Go
set_option linter.unusedVariables false
set_option linter.unusedSimpArgs false
set_option maxRecDepth 100000
theorem bring_right {h : Ht} {s a : Nat} {cs : List Cl} (hR : RH h) (hM : RM s cs) (hO : COk cs) : RH (bringH h s cs a) ∧ RM s (bringM h s cs a) ∧ COk (bringM h s cs a) ∧ (bringM h s cs a).length ≤ cs.length + 1 := by
  unfold bringH bringM
  cases hb : bringL h s cs a with
  | none => exact ⟨hR, hM, hO, by simp⟩
  | some l =>
    have hl := (look_leaf (bringL_of hb).2).2
    have hml := hl.mark (d := false) hM.asc
    have hmc := cok_mark (d := false) hM hO hl.low
    have hasid := (mayS_lt hR.satp).1
    exact ⟨⟨hR.tr.put (entryOf_ok hmc hml hasid) (entryOf_may hmc hml hasid), hR.satp, hR.priv⟩, hM.mark hl.low, hmc, len_mark⟩
section
variable {e d0 d1 d2 d3 : En} {t : Nat}
end
abbrev ah : Ht := ⟨newT 1, 8, 1, 1, 0, false, false, -1⟩
abbrev am : List Cl := [(512, 9)]
abbrev ae : En := ⟨true, 1, false, 2, 0, 0, false, false, true, false, false⟩
abbrev ad : Ht := ⟨[⟨En.zero, En.zero, ae, En.zero, touN 0 2⟩], 8, 1, 1, 0, false, false, -1⟩
theorem ah_rh : RH ah := ⟨newT_ok (by decide), by decide, .inl rfl⟩
theorem ah2_rh : RH { ah with vic := 2 } := ⟨newT_ok (by decide), by decide, .inl rfl⟩
theorem am_rm : RM 8192 am := right_rm.1 (by decide)
theorem am_ok : COk am := fun c hc => by rw [List.mem_singleton.1 hc]; decide
theorem aw_b1 : bringH { ah with vic := 2 } 8192 am 5 = ad := by kernel_rfl
theorem aw_b2 : bringM { ah with vic := 2 } 8192 am 5 = [(512, 73)] := by kernel_rfl
theorem aw_b3 : bringH ah 8192 am 1073741824 = ah := by kernel_rfl
theorem aw_b4 : bringM ah 8192 am 1073741824 = am := by kernel_rfl
theorem aw_d1 : dropT ad.ts 0 2 = ([⟨En.zero, En.zero, En.zero, En.zero, touN 0 2⟩], 0) := by kernel_rfl
theorem aw_d2 : dropT ad.ts 1 0 = (ad.ts, 1) := by kernel_rfl
theorem aw_all : allT [⟨En.zero, En.zero, En.zero, En.zero, touN 0 2⟩] = [] := by kernel_rfl
theorem ad_rh : RH ad := by
  have := (bring_right (a := 5) ah2_rh am_rm am_ok).1
  rwa [aw_b1] at this
theorem awake17_con : Cn gAll 4 [] [bb true] := by
  refine con rfl rfl atlaslaw17_awake_c atlaslaw17_awake_p rfl ?_
  unfold atlaslaw17_awake_ir
  refine wp_chk rfl ?_
  refine wp_call (az := [ah.dv, i 2]) rfl (pickH_con (h := ah) (w := 2)) rfl ?_
  simp only [pickV, pickE]
  simp only [lv_cons, lv_nil, Pt.ds, Lf.ds, En.ds, Ht.ds, app_cons, app_nil]
  refine wp_call (az := [ah.dv, i 4]) rfl (pickH_con (h := ah) (w := 4)) rfl ?_
  simp only [pickV, pickE]
  simp only [lv_cons, lv_nil, Pt.ds, Lf.ds, En.ds, Ht.ds, app_cons, app_nil]
  have h3 := bring_con (a := 5) (kd := 1) ah2_rh am_rm am_ok (by decide) (by decide) (by simp [Kn])
  rw [aw_b1, aw_b2] at h3
  refine wp_call rfl h3 rfl ?_
  simp only [lv_cons, lv_nil, Pt.ds, Lf.ds, En.ds, Ht.ds, app_cons, app_nil]
  have h4 := evict_con (j := 0) (w := 2) ad_rh
  rw [aw_d1] at h4
  refine wp_call rfl h4 rfl ?_
  simp only [lv_cons, lv_nil, Pt.ds, Lf.ds, En.ds, Ht.ds, app_cons, app_nil]
  have h5 := evict_con (j := 1) (w := 0) ad_rh
  rw [aw_d2] at h5
  refine wp_call rfl h5 rfl ?_
  simp only [lv_cons, lv_nil, Pt.ds, Lf.ds, En.ds, Ht.ds, app_cons, app_nil]
  have h6 := bring_con (a := 1073741824) (kd := 1) ah_rh am_rm am_ok (by decide) (by decide) (by simp [Kn])
  rw [aw_b3, aw_b4] at h6
  refine wp_call rfl h6 rfl ?_
  simp only [lv_cons, lv_nil, Pt.ds, Lf.ds, En.ds, Ht.ds, app_cons, app_nil]
  refine wp_lt (d := .b true) rfl ?_
  simp only [lv_cons, lv_nil, app_cons, app_nil]
  refine wp_ite (t := true) rfl (fun _ => ?_) (fun h => by cases h)
  refine wp_lt (d := .b true) rfl ?_
  simp only [lv_cons, lv_nil, app_cons, app_nil]
  refine wp_ite (t := true) rfl (fun _ => ?_) (fun h => by cases h)
  refine wp_lt (d := .b true) rfl ?_
  simp only [lv_cons, lv_nil, app_cons, app_nil]
  refine wp_ite (t := true) rfl (fun _ => ?_) (fun h => by cases h)
  refine wp_lt (d := .b true) rfl ?_
  simp only [lv_cons, lv_nil, app_cons, app_nil]
  refine wp_ite (t := true) rfl (fun _ => ?_) (fun h => by cases h)
  refine wp_lt (d := I 1) rfl ?_
  simp only [lv_cons, lv_nil, app_cons, app_nil]
  refine wp_lt (d := .b true) rfl ?_
  simp only [lv_cons, lv_nil, app_cons, app_nil]
  refine wp_ite (t := true) rfl (fun _ => ?_) (fun h => by cases h)
  refine wp_chk rfl ?_
  refine wp_ite (t := true) rfl (fun _ => ?_) (fun h => by cases h)
  refine wp_chk rfl ?_
  refine wp_lt (d := .b true) rfl ?_
  simp only [lv_cons, lv_nil, app_cons, app_nil]
  refine wp_ite (t := true) rfl (fun _ => ?_) (fun h => by cases h)
  refine wp_lt (d := .b true) rfl ?_
  simp only [lv_cons, lv_nil, app_cons, app_nil]
  refine wp_ite (t := true) rfl (fun _ => ?_) (fun h => by cases h)
  have h7 := refAll_con (ts := [⟨En.zero, En.zero, En.zero, En.zero, touN 0 2⟩]) (by decide)
  rw [aw_all] at h7
  refine wp_call rfl h7 rfl ?_
  simp only [lv_cons, lv_nil, app_cons, app_nil]
  refine wp_lt (d := I 0) rfl ?_
  simp only [lv_cons, lv_nil, app_cons, app_nil]
  refine wp_lt (d := .b true) rfl ?_
  simp only [lv_cons, lv_nil, app_cons, app_nil]
  refine wp_ite (t := true) rfl (fun _ => ?_) (fun h => by cases h)
  refine wp_lt (d := .b true) rfl ?_
  simp only [lv_cons, lv_nil, app_cons, app_nil]
  refine wp_ite (t := true) rfl (fun _ => ?_) (fun h => by cases h)
  refine wp_call (az := [ah.dv, ah.dv]) rfl (sameH_con (h := ah) (by decide)) rfl ?_
  simp only [lv_cons, lv_nil, app_cons, app_nil]
  refine wp_chk rfl ?_
  refine wp_ite (t := true) rfl (fun _ => ?_) (fun h => by cases h)
  refine wp_call (az := [md 2 8192 am, md 2 8192 am]) rfl (sameM_con (s := 8192) (cs := am) (.inl rfl) (.inl rfl) (by decide)) rfl ?_
  simp only [lv_cons, lv_nil, app_cons, app_nil]
  refine wp_chk rfl ?_
  exact wp_return rfl rfl
end Go.Proofs.YtobdkhjaipoliaaGreatDoor.Sx
namespace Go.Proofs.YtobdkhjaipoliaaGreatDoor.Sx
open Go
set_option linter.unusedVariables false
set_option linter.unusedSimpArgs false
set_option maxRecDepth 100000
theorem kn_of {q : Nat} : Kn ((q % 3 : Nat) : Int) := by unfold Kn; omega
theorem fits17_con {h : Ht} {k s : Nat} {cs : List Cl} (hO : TOk h.ts) (hl : h.ts.length < 9223372036854775808) (hk : Kd k cs) (hs : s < 18446744073709551616) : Cn gAll 5 [h.dv, md k s cs] [bb (decide (h.ts.length ≤ 16) && rightH h && decide (cs.length ≤ 300) && rightM s cs)] := by
  refine con rfl rfl atlaslaw17_fits_c atlaslaw17_fits_p rfl ?_
  unfold atlaslaw17_fits_ir
  simp only [lv_cons, lv_nil, Pt.ds, Lf.ds, En.ds, Ht.ds, app_cons, app_nil]
  refine wp_lt (len_is rfl (List.length_map ..)) ?_
  simp only [lv_cons, lv_nil, app_cons, app_nil]
  refine wp_lt (e_leq rfl rfl) ?_
  simp only [lv_cons, lv_nil, app_cons, app_nil]
  refine wp_ite rfl (fun h1 => ?_) (fun h1 => ?_)
  · have h1 : h.ts.length ≤ 16 := by have := of_decide_eq_true h1; omega
    refine wp_call rfl (refRightH_con hO hl) rfl ?_
    simp only [lv_cons, lv_nil, app_cons, app_nil]
    refine wp_ite rfl (fun h2 => ?_) (fun h2 => ?_)
    · refine wp_call rfl (few_con (k := k) (s := s) (cs := cs)) rfl ?_
      simp only [lv_cons, lv_nil, app_cons, app_nil]
      refine wp_ite rfl (fun h3 => ?_) (fun h3 => ?_)
      · have h3' := of_decide_eq_true h3
        refine wp_call rfl (refRightM_con (s := s) hk hs (by omega)) rfl ?_
        simp only [lv_cons, lv_nil, app_cons, app_nil]
        refine wp_return rfl (bb_eq ?_)
        rw [h2, h3, decide_eq_true h1]
        rfl
      · refine wp_return rfl (bb_eq ?_)
        rw [h2, h3, decide_eq_true h1]
        rfl
    · refine wp_return rfl (bb_eq ?_)
      rw [h2, decide_eq_true h1]
      rfl
  · have h1 : ¬ h.ts.length ≤ 16 := by have := of_decide_eq_false h1; omega
    refine wp_return rfl (bb_eq ?_)
    rw [decide_eq_false h1]
    rfl
end Go.Proofs.YtobdkhjaipoliaaGreatDoor.Sx
