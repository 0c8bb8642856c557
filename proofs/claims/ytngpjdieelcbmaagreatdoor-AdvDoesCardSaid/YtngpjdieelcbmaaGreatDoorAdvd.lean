/-
  Layer 17: the reference's bringing, letting go, picking: contracts; the law.
-/
import Derived.Test.YtngpjdieelcbmaaGreatDoorV1
import Derived.Test.YtngpjdieelcbmaaGreatDoorIrVz
import Derived.Test.YtngpjdieelcbmaaGreatDoorIrVd
namespace Go.Proofs.YtngpjdieelcbmaaGreatDoor.Sx
open Go
set_option linter.unusedVariables false
set_option linter.unusedSimpArgs false
set_option maxRecDepth 100000

theorem refOf_con {l : Lf} {a n : Nat} (hl : l.lv ≤ 2) (ha : a < 18446744073709551616) : Cn gAll 34 [l.dv, u a, u n] [(entryOf l a n).dv] := by
  refine con rfl rfl atlasref12_Of_c atlasref12_Of_p rfl ?_
  unfold atlasref12_Of_ir
  simp only [lv_cons, lv_nil, Pt.ds, Lf.ds, En.ds, Ht.ds, app_cons, app_nil]
  refine wp_call rfl (refNumber_con (a := a) ha) rfl ?_
  simp only [lv_cons, lv_nil, app_cons, app_nil]
  refine wp_call rfl (refPages_con (lv_of hl)) rfl ?_
  simp only [lv_cons, lv_nil, app_cons, app_nil]
  refine wp_lt (u_rem rfl rfl (by have := pgN_pos (l := (l.lv : Int)); omega)) ?_
  simp only [lv_cons, lv_nil, app_cons, app_nil]
  refine wp_lt (u_sub rfl rfl (Nat.mod_le ..) (by omega)) ?_
  simp only [lv_cons, lv_nil, app_cons, app_nil]
  refine wp_call rfl (refPerm_con (p := l.pt)) rfl ?_
  simp only [lv_cons, lv_nil, app_cons, app_nil]
  exact wp_return rfl rfl
theorem refBring_con {h : Ht} {s a : Nat} {kd : Int} {cs : List Cl} (hR : RH h) (hM : RM s cs) (hO : COk cs) (hlen : cs.length ≤ 400000) (ha : a < 18446744073709551616) (hkd : Kn kd) : Cn gAll 9 [h.dv, md 2 s cs, u a, i kd] [(bringH h s cs a).dv, md 2 s (bringM h s cs a)] := by
  refine con rfl rfl atlasref17_Bring_c atlasref17_Bring_p rfl ?_
  unfold atlasref17_Bring_ir
  obtain ⟨hasid, hppn⟩ := mayS_lt hR.satp
  simp only [lv_cons, lv_nil, Pt.ds, Lf.ds, En.ds, Ht.ds, app_cons, app_nil]
  refine wp_lt (e_neq rfl rfl) ?_
  simp only [lv_cons, lv_nil, app_cons, app_nil]
  refine wp_ite rfl (fun hm => ?_) (fun hm => ?_)
  · have hm : ¬ h.mode = 8 := by
      have := bne_iff_ne.1 hm
      omega
    have hb : bringL h s cs a = none := by rw [bringL, if_neg hm]
    refine wp_return rfl ?_
    rw [bringH_none hb, bringM_none hb]
    rfl
  have hm : h.mode = 8 := by
    have := (bne_eq_false_iff_eq (a := (h.mode : Int)) (b := 8)).1 hm
    omega
  have hlook := refLook_con (k := 2) (s := s) (t := h.ppn) (a := a) (kd := kd) (.inl rfl) hM hO (by omega) hppn ha hkd
  cases hlk : lookW s cs h.ppn a with
  | fault e =>
    rw [hlk] at hlook
    simp only [Lk.rs] at hlook
    have hb : bringL h s cs a = none := by rw [bringL, if_pos hm, hlk]
    refine wp_call rfl hlook rfl ?_
    simp only [lv_cons, lv_nil, Pt.ds, Lf.ds, En.ds, Ht.ds, app_cons, app_nil]
    refine wp_ite (t := true) rfl (fun _ => ?_) (fun h => by cases h)
    refine wp_return rfl ?_
    rw [bringH_none hb, bringM_none hb]
    rfl
  | leaf l =>
    rw [hlk] at hlook
    simp only [Lk.rs] at hlook
    have hl := (look_leaf hlk).2
    have hb : bringL h s cs a = some l := by rw [bringL, if_pos hm, hlk]
    refine wp_call rfl hlook rfl ?_
    simp only [lv_cons, lv_nil, Pt.ds, Lf.ds, En.ds, Ht.ds, app_cons, app_nil]
    refine wp_ite (t := false) rfl (fun h => by cases h) (fun _ => ?_)
    refine wp_call rfl (refMark_con (k := 2) (l := l) (d := false) (.inl rfl) hM hO hlen hl.al hl.low) rfl ?_
    have hml := hl.mark (d := false) hM.asc
    have hmc := cok_mark (d := false) hM hO hl.low
    rw [bringH_some hb, bringM_some hb]
    generalize markM s cs l.pl false = cm at *
    generalize markL s cs l false = lm at *
    simp only [lv_cons, lv_nil, Pt.ds, Lf.ds, En.ds, Ht.ds, app_cons, app_nil]
    refine wp_call rfl (refOf_con (l := lm) (a := a) (n := h.asid) hml.lv ha) rfl ?_
    have hem := entryOf_may (a := a) hmc hml hasid
    have heo := entryOf_ok (a := a) hmc hml hasid
    generalize entryOf lm a h.asid = e at *
    simp only [lv_cons, lv_nil, Pt.ds, Lf.ds, En.ds, Ht.ds, app_cons, app_nil]
    refine wp_call rfl (refTPut_con (e := e) (v := h.vic) hR.tr heo hem) rfl ?_
    simp only [lv_cons, lv_nil, app_cons, app_nil]
    exact wp_return rfl rfl
theorem refEvict_con {h : Ht} {j w : Int} (hR : RH h) : Cn gAll 11 [h.dv, i j, i w] [({ h with ts := (dropT h.ts j w).1 } : Ht).dv, i (dropT h.ts j w).2] := by
  refine con rfl rfl atlasref17_Evict_c atlasref17_Evict_p rfl ?_
  unfold atlasref17_Evict_ir
  simp only [lv_cons, lv_nil, Pt.ds, Lf.ds, En.ds, Ht.ds, app_cons, app_nil]
  refine wp_call rfl (refTDrop_con (j := j) (way := w) hR.tr) rfl ?_
  simp only [lv_cons, lv_nil, app_cons, app_nil]
  exact wp_return rfl rfl
theorem refPickH_con {h : Ht} {w : Int} : Cn gAll 13 [h.dv, i w] [(pickV h w).dv, i (pickE w)] := by
  refine con rfl rfl atlasref17_Pick_c atlasref17_Pick_p rfl ?_
  unfold atlasref17_Pick_ir
  simp only [lv_cons, lv_nil, Pt.ds, Lf.ds, En.ds, Ht.ds, app_cons, app_nil]
  refine wp_lt (e_lss rfl rfl) ?_
  simp only [lv_cons, lv_nil, app_cons, app_nil]
  refine wp_ite rfl (fun h1 => ?_) (fun h1 => ?_)
  · have h1 := of_decide_eq_true h1
    refine wp_return rfl ?_
    rw [pickV, pickE, if_neg (by omega), if_neg (by omega)]
    rfl
  have h1 := of_decide_eq_false h1
  refine wp_lt (e_gtr rfl rfl) ?_
  simp only [lv_cons, lv_nil, app_cons, app_nil]
  refine wp_ite rfl (fun h2 => ?_) (fun h2 => ?_)
  · have h2 := of_decide_eq_true h2
    refine wp_return rfl ?_
    rw [pickV, pickE, if_neg (by omega), if_neg (by omega)]
    rfl
  · have h2 := of_decide_eq_false h2
    refine wp_return rfl ?_
    rw [pickV, pickE, if_pos (by omega), if_pos (by omega)]
    rfl
theorem dropT_len' {ts : List SetD} {j w : Int} : (dropT ts j w).1.length = ts.length := by
  unfold dropT
  split
  · split
    · exact List.length_set ..
    · rfl
  · rfl
theorem pickV_ts {h : Ht} {w : Int} : (pickV h w).ts = h.ts := by unfold pickV; split <;> rfl
theorem AdvDoes_con {h : Ht} {s a q : Nat} {st wy : Int} {cs : List Cl} (hT : TOk h.ts) (hTl : h.ts.length < 9223372036854775808) (hs : s < 18446744073709551616) (hC : COk cs) (ha : a < 18446744073709551616) : Cn gAll 3 [h.dv, md 2 s cs, u a, (false, [.i .u8 (q : Int)]), i st, i wy] [bb true] := by
  refine con rfl rfl atlaslaw17_AdvDoes_c atlaslaw17_AdvDoes_p rfl ?_
  unfold atlaslaw17_AdvDoes_ir
  simp only [lv_cons, lv_nil, Pt.ds, Lf.ds, En.ds, Ht.ds, app_cons, app_nil]
  refine wp_call rfl awake17_con rfl ?_
  simp only [lv_cons, lv_nil, app_cons, app_nil]
  refine wp_lt (d := (.b false)) rfl ?_
  simp only [lv_cons, lv_nil, app_cons, app_nil]
  refine wp_ite (t := false) rfl (fun h => by cases h) (fun _ => ?_)
  refine wp_call rfl (fits17_con (h := h) (k := 2) (s := s) (cs := cs) hT hTl (.inl rfl) hs) rfl ?_
  simp only [lv_cons, lv_nil, app_cons, app_nil]
  refine wp_lt rfl ?_
  simp only [lv_cons, lv_nil, app_cons, app_nil]
  refine wp_ite rfl (fun hf => ?_) (fun hf => ?_)
  · refine wp_call rfl awake17_con rfl ?_
    simp only [lv_cons, lv_nil, app_cons, app_nil]
    exact wp_return rfl rfl
  have hf : ((h.ts.length ≤ 16 ∧ rightH h = true) ∧ cs.length ≤ 300) ∧ rightM s cs = true := by simpa using hf
  obtain ⟨⟨⟨htl, hrh⟩, hl⟩, hr⟩ := hf
  have hM : RM s cs := right_rm.1 hr
  have hH : RH h := rh_of hT hrh
  have hb1 := bring_con (h := h) (a := a) (kd := ((q % 3 : Nat) : Int)) hH hM hC (by omega) ha kn_of
  have hb2 := refBring_con (h := h) (a := a) (kd := ((q % 3 : Nat) : Int)) hH hM hC (by omega) ha kn_of
  have he1 := evict_con (h := h) (j := st) (w := wy) hH
  have he2 := refEvict_con (h := h) (j := st) (w := wy) hH
  have hp1 := pickH_con (h := h) (w := wy)
  have hp2 := refPickH_con (h := h) (w := wy)
  have l1 := bringH_len (h := h) (s := s) (a := a) (cs := cs)
  have l2 : (bringM h s cs a).length ≤ cs.length + 1 := (bring_right (a := a) hH hM hC).2.2.2
  have l3 : ({ h with ts := (dropT h.ts st wy).1 } : Ht).ts.length = h.ts.length := dropT_len'
  have l4 : (pickV h wy).ts.length = h.ts.length := by rw [pickV_ts]
  generalize bringH h s cs a = x1 at *
  generalize bringM h s cs a = x2 at *
  generalize (dropT h.ts st wy).2 = x4 at *
  generalize ({ h with ts := (dropT h.ts st wy).1 } : Ht) = x3 at *
  generalize pickV h wy = x5 at *
  generalize pickE wy = x6 at *
  refine wp_lt (rem8 (a := q) (m := 3) rfl (by decide)) ?_
  simp only [lv_cons, lv_nil, app_cons, app_nil]
  refine wp_lt (cv_i (n := ((q % 3 : Nat) : Int)) rfl (by omega) (by omega)) ?_
  simp only [lv_cons, lv_nil, app_cons, app_nil]
  refine wp_call rfl hb1 rfl ?_
  simp only [lv_cons, lv_nil, Pt.ds, Lf.ds, En.ds, Ht.ds, app_cons, app_nil]
  refine wp_lt (rem8 (a := q) (m := 3) rfl (by decide)) ?_
  simp only [lv_cons, lv_nil, app_cons, app_nil]
  refine wp_lt (cv_i (n := ((q % 3 : Nat) : Int)) rfl (by omega) (by omega)) ?_
  simp only [lv_cons, lv_nil, app_cons, app_nil]
  refine wp_call rfl hb2 rfl ?_
  simp only [lv_cons, lv_nil, Pt.ds, Lf.ds, En.ds, Ht.ds, app_cons, app_nil]
  refine wp_call rfl he1 rfl ?_
  simp only [lv_cons, lv_nil, Pt.ds, Lf.ds, En.ds, Ht.ds, app_cons, app_nil]
  refine wp_call rfl he2 rfl ?_
  simp only [lv_cons, lv_nil, Pt.ds, Lf.ds, En.ds, Ht.ds, app_cons, app_nil]
  refine wp_call rfl hp1 rfl ?_
  simp only [lv_cons, lv_nil, Pt.ds, Lf.ds, En.ds, Ht.ds, app_cons, app_nil]
  refine wp_call rfl hp2 rfl ?_
  simp only [lv_cons, lv_nil, Pt.ds, Lf.ds, En.ds, Ht.ds, app_cons, app_nil]
  refine wp_call rfl (sameH_con (h := x1) (by omega)) rfl ?_
  simp only [lv_cons, lv_nil, app_cons, app_nil]
  refine wp_ite (t := true) rfl (fun _ => ?_) (fun h => by cases h)
  refine wp_call rfl (sameM_con (s := s) (cs := x2) (.inl rfl) (.inl rfl) (by omega)) rfl ?_
  simp only [lv_cons, lv_nil, app_cons, app_nil]
  refine wp_ite (t := true) rfl (fun _ => ?_) (fun h => by cases h)
  refine wp_call rfl (sameH_con (h := x3) (by omega)) rfl ?_
  simp only [lv_cons, lv_nil, app_cons, app_nil]
  refine wp_ite (t := true) rfl (fun _ => ?_) (fun h => by cases h)
  refine wp_lt (d := .b true) (cmp_e (e_eql rfl rfl) (beq_self_eq_true _)) ?_
  simp only [lv_cons, lv_nil, app_cons, app_nil]
  refine wp_ite (t := true) rfl (fun _ => ?_) (fun h => by cases h)
  refine wp_call rfl (sameH_con (h := x5) (by omega)) rfl ?_
  simp only [lv_cons, lv_nil, app_cons, app_nil]
  refine wp_ite (t := true) rfl (fun _ => ?_) (fun h => by cases h)
  refine wp_lt (d := .b true) (cmp_e (e_eql rfl rfl) (beq_self_eq_true _)) ?_
  simp only [lv_cons, lv_nil, app_cons, app_nil]
  exact wp_return rfl rfl
end Go.Proofs.YtngpjdieelcbmaaGreatDoor.Sx
