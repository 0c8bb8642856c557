/-
  Layer 17: the law: where the buffer told no more than the tables, it does not behind any of the three.
-/
import Derived.Test.YtngpjdieelcbmaaGreatDoorAdvf
import Derived.Test.YtngpjdieelcbmaaGreatDoorIrVz
import Derived.Test.YtngpjdieelcbmaaGreatDoorIrVa
namespace Go.Proofs.YtngpjdieelcbmaaGreatDoor.Sx
open Go
set_option linter.unusedVariables false
set_option linter.unusedSimpArgs false
set_option maxRecDepth 100000

theorem satpMay_con {m a p : Nat} (h : mayS m a p = true) : Cn gAll 41 [(true, [U m, U a, U p])] [bb true] := by
  have hon : Cn gAll 26 [(true, [U m, U a, U p])] [bb ((m : Int) == 8)] := by
    refine con rfl rfl satp_On_c satp_On_p rfl ?_
    unfold satp_On_ir
    simp only [lv_cons, lv_nil, app_cons, app_nil]
    refine wp_lt (e_eql rfl rfl) ?_
    simp only [lv_cons, lv_nil, app_cons, app_nil]
    exact wp_return rfl rfl
  obtain ⟨ha, hp⟩ := mayS_lt h
  refine con rfl rfl satp_May_c satp_May_p rfl ?_
  unfold satp_May_ir
  simp only [lv_cons, lv_nil, app_cons, app_nil]
  refine wp_call rfl hon rfl ?_
  simp only [lv_cons, lv_nil, app_cons, app_nil]
  refine wp_lt rfl ?_
  simp only [lv_cons, lv_nil, app_cons, app_nil]
  unfold mayS at h
  refine wp_ite rfl (fun hm => ?_) (fun hm => ?_)
  · have hm : ((m : Int) == 8) = false := by simpa using hm
    have hm := beq_eq_false_iff_ne.1 hm
    split at h
    · rename_i h0
      simp only [Bool.and_eq_true, beq_iff_eq] at h
      obtain ⟨rfl, rfl⟩ := h
      subst h0
      refine wp_lt (d := .b true) rfl ?_
      simp only [lv_cons, lv_nil, app_cons, app_nil]
      exact wp_return rfl rfl
    · simp only [Bool.and_eq_true, beq_iff_eq] at h
      omega
  · refine wp_call rfl (bitsGet_con (a := p) (lo := 0) (w := 44) (by omega) (by decide) (by decide)) rfl ?_
    rw [getN_0 (by omega)]
    simp only [lv_cons, lv_nil, app_cons, app_nil]
    refine wp_lt (d := .b true) (cmp_e (e_eql rfl rfl) (beq_self_eq_true _)) ?_
    simp only [lv_cons, lv_nil, app_cons, app_nil]
    refine wp_ite (t := true) rfl (fun _ => ?_) (fun h => by cases h)
    refine wp_call rfl (bitsGet_con (a := a) (lo := 0) (w := 16) (by omega) (by decide) (by decide)) rfl ?_
    rw [getN_0 (by omega)]
    simp only [lv_cons, lv_nil, app_cons, app_nil]
    refine wp_lt (d := .b true) (cmp_e (e_eql rfl rfl) (beq_self_eq_true _)) ?_
    simp only [lv_cons, lv_nil, app_cons, app_nil]
    exact wp_return rfl rfl
theorem hartRight_con {h : Ht} (hR : RH h) : Cn gAll 18 [h.dv] [bb true] := by
  refine con rfl rfl hart_Right_c hart_Right_p rfl ?_
  unfold hart_Right_ir
  simp only [lv_cons, lv_nil, Pt.ds, Lf.ds, En.ds, Ht.ds, app_cons, app_nil]
  have hl := hR.tr.len
  refine wp_call rfl (tlbRight_con (ts := h.ts) hR.tr.ok (by omega)) rfl ?_
  rw [hR.tr.right]
  simp only [lv_cons, lv_nil, app_cons, app_nil]
  refine wp_ite (t := true) rfl (fun _ => ?_) (fun h => by cases h)
  refine wp_call rfl (satpMay_con hR.satp) rfl ?_
  simp only [lv_cons, lv_nil, app_cons, app_nil]
  refine wp_ite (t := true) rfl (fun _ => ?_) (fun h => by cases h)
  refine wp_lt (e_eql rfl rfl) ?_
  simp only [lv_cons, lv_nil, app_cons, app_nil]
  refine wp_ite rfl (fun h1 => ?_) (fun h1 => ?_)
  · exact wp_return rfl rfl
  · have h1 := beq_eq_false_iff_ne.1 h1
    have h2 : h.priv = 1 := hR.priv.resolve_left h1
    refine wp_lt (e_eql rfl rfl) ?_
    simp only [lv_cons, lv_nil, app_cons, app_nil]
    exact wp_return rfl (bb_eq (by rw [h2]; rfl))
theorem RH.dropH {h : Ht} (hR : RH h) {j w : Int} : RH { h with ts := (dropT h.ts j w).1 } := by
  refine ⟨?_, hR.satp, hR.priv⟩
  show TR (dropT h.ts j w).1
  unfold dropT
  split
  · rename_i hc
    split
    · rename_i s hs
      exact hR.tr.drop hs (by omega)
    · exact hR.tr
  · exact hR.tr
theorem RH.pickH {h : Ht} (hR : RH h) {w : Int} : RH (pickV h w) := by
  unfold pickV
  split
  · exact ⟨hR.tr, hR.satp, hR.priv⟩
  · exact hR
theorem mk_or64 {w : Nat} : mkN w false ||| 64 = w ||| 64 := by
  refine Nat.eq_of_testBit_eq fun i => ?_
  rw [Nat.testBit_or, Nat.testBit_or, mkN_bit, show (64 : Nat) = 2 ^ 6 from rfl, Nat.testBit_two_pow]
  cases w.testBit i <;> cases decide (6 = i) <;> rfl
theorem word_bring {h : Ht} {s a x : Nat} {cs : List Cl} (hM : RM s cs) : wordN s (bringM h s cs a) x ||| 64 = wordN s cs x ||| 64 := by
  cases hb : bringL h s cs a with
  | none => rw [bringM_none hb]
  | some l =>
    rw [bringM_some hb]
    have hl := (look_leaf (bringL_of hb).2).2
    by_cases hx : x < s
    · rw [word_mark hM.asc hx]
      split
      · rename_i he
        have : wordN s cs x = wordN s cs l.pl := by rw [word_in hx, word_in hl.low, he]
        rw [mk_or64, this]
      · rfl
    · rw [word_mark_out (by omega)]
theorem AdvAgrees_con {h : Ht} {s a q lk : Nat} {st wy : Int} {cs : List Cl} (hT : TOk h.ts) (hTl : h.ts.length < 9223372036854775808) (hs : s < 18446744073709551616) (hC : COk cs) (ha : a < 18446744073709551616) (hlk : lk < 18446744073709551616) : Cn gAll 4 [h.dv, md 2 s cs, u a, (false, [.i .u8 (q : Int)]), i st, i wy, u lk] [bb true] := by
  refine con rfl rfl atlaslaw17_AdvAgrees_c atlaslaw17_AdvAgrees_p rfl ?_
  unfold atlaslaw17_AdvAgrees_ir
  simp only [lv_cons, lv_nil, Pt.ds, Lf.ds, En.ds, Ht.ds, app_cons, app_nil]
  refine wp_call rfl awake17_con rfl ?_
  simp only [lv_cons, lv_nil, app_cons, app_nil]
  refine wp_lt (d := (.b false)) rfl ?_
  simp only [lv_cons, lv_nil, app_cons, app_nil]
  refine wp_ite (t := false) rfl (fun h => by cases h) (fun _ => ?_)
  refine wp_call rfl (fits17_con (h := h) (k := 2) (s := s) (cs := cs) hT hTl (.inl rfl) hs) rfl ?_
  simp only [lv_cons, lv_nil, app_cons, app_nil]
  refine wp_lt rfl ?_
  simp only [lv_cons, lv_nil, app_cons, app_nil]
  refine wp_ite rfl (fun hf => ?_) (fun hf => ?_)
  · refine wp_call rfl awake17_con rfl ?_
    simp only [lv_cons, lv_nil, app_cons, app_nil]
    exact wp_return rfl rfl
  have hf : ((h.ts.length ≤ 16 ∧ rightH h = true) ∧ cs.length ≤ 300) ∧ rightM s cs = true := by simpa using hf
  obtain ⟨⟨⟨htl, hrh⟩, hl⟩, hr⟩ := hf
  have hM : RM s cs := right_rm.1 hr
  have hH : RH h := rh_of hT hrh
  refine wp_lt (e_eql rfl rfl) ?_
  simp only [lv_cons, lv_nil, app_cons, app_nil]
  refine wp_ite rfl (fun h0 => ?_) (fun h0 => ?_)
  · refine wp_call rfl awake17_con rfl ?_
    simp only [lv_cons, lv_nil, app_cons, app_nil]
    exact wp_return rfl rfl
  refine wp_call rfl (refAgrees_con (h := h) (s := s) (cs := cs) hH hM hC (by omega)) rfl ?_
  simp only [lv_cons, lv_nil, app_cons, app_nil]
  refine wp_lt rfl ?_
  simp only [lv_cons, lv_nil, app_cons, app_nil]
  refine wp_ite rfl (fun hag => ?_) (fun hag => ?_)
  · refine wp_call rfl awake17_con rfl ?_
    simp only [lv_cons, lv_nil, app_cons, app_nil]
    exact wp_return rfl rfl
  have hag : agreesB h s cs = true := by rw [Bool.not_eq_false'] at hag; exact hag
  obtain ⟨r1, r2, r3, r4⟩ := bring_right (a := a) hH hM hC
  have hb1 := bring_con (h := h) (a := a) (kd := ((q % 3 : Nat) : Int)) hH hM hC (by omega) ha kn_of
  have he1 := evict_con (h := h) (j := st) (w := wy) hH
  have hp1 := pickH_con (h := h) (w := wy)
  have r5 := hH.dropH (j := st) (w := wy)
  have r6 := hH.pickH (w := wy)
  have g1 := agrees_bring hH hM hC ha hag
  have g2 := agrees_drop (j := st) (w := wy) hag
  have g3 := agrees_pick (w := wy) hag
  have hwd := word_bring (h := h) (a := a) (x := lk) hM
  have a1 := refAgrees_con (h := bringH h s cs a) (s := s) (cs := bringM h s cs a) r1 r2 r3 (by omega)
  have a2 := refAgrees_con (h := { h with ts := (dropT h.ts st wy).1 }) (s := s) (cs := cs) r5 hM hC (by omega)
  have a3 := refAgrees_con (h := pickV h wy) (s := s) (cs := cs) r6 hM hC (by omega)
  rw [g1] at a1
  rw [g2] at a2
  rw [g3] at a3
  clear g1 g2 g3
  generalize bringH h s cs a = x1 at *
  generalize bringM h s cs a = x2 at *
  generalize (dropT h.ts st wy).2 = x4 at *
  generalize ({ h with ts := (dropT h.ts st wy).1 } : Ht) = x3 at *
  generalize pickV h wy = x5 at *
  generalize pickE wy = x6 at *
  refine wp_lt (rem8 (a := q) (m := 3) rfl (by decide)) ?_
  simp only [lv_cons, lv_nil, app_cons, app_nil]
  refine wp_lt (cv_i (n := ((q % 3 : Nat) : Int)) rfl (by omega) (by omega)) ?_
  simp only [lv_cons, lv_nil, app_cons, app_nil]
  refine wp_call rfl hb1 rfl ?_
  simp only [lv_cons, lv_nil, Pt.ds, Lf.ds, En.ds, Ht.ds, app_cons, app_nil]
  refine wp_call rfl he1 rfl ?_
  simp only [lv_cons, lv_nil, Pt.ds, Lf.ds, En.ds, Ht.ds, app_cons, app_nil]
  refine wp_call rfl hp1 rfl ?_
  simp only [lv_cons, lv_nil, Pt.ds, Lf.ds, En.ds, Ht.ds, app_cons, app_nil]
  refine wp_call rfl (refWord_con (s := s) (a := lk) (cs := cs) (.inl rfl) hM.asc (by omega) hlk) rfl ?_
  simp only [lv_cons, lv_nil, app_cons, app_nil]
  refine wp_call (az := [x1.dv, md 2 s x2]) rfl a1 rfl ?_
  simp only [lv_cons, lv_nil, app_cons, app_nil]
  refine wp_ite (t := true) rfl (fun _ => ?_) (fun h => by cases h)
  refine wp_call (az := [x3.dv, md 2 s cs]) rfl a2 rfl ?_
  simp only [lv_cons, lv_nil, app_cons, app_nil]
  refine wp_ite (t := true) rfl (fun _ => ?_) (fun h => by cases h)
  refine wp_call (az := [x5.dv, md 2 s cs]) rfl a3 rfl ?_
  simp only [lv_cons, lv_nil, app_cons, app_nil]
  refine wp_ite (t := true) rfl (fun _ => ?_) (fun h => by cases h)
  refine wp_call (az := [x1.dv]) rfl (hartRight_con r1) rfl ?_
  simp only [lv_cons, lv_nil, app_cons, app_nil]
  refine wp_ite (t := true) rfl (fun _ => ?_) (fun h => by cases h)
  refine wp_call (az := [x3.dv]) rfl (hartRight_con r5) rfl ?_
  simp only [lv_cons, lv_nil, app_cons, app_nil]
  refine wp_ite (t := true) rfl (fun _ => ?_) (fun h => by cases h)
  refine wp_call (az := [x5.dv]) rfl (hartRight_con r6) rfl ?_
  simp only [lv_cons, lv_nil, app_cons, app_nil]
  refine wp_ite (t := true) rfl (fun _ => ?_) (fun h => by cases h)
  refine wp_call rfl (refRightM_con (s := s) (cs := x2) (.inl rfl) hs (by omega)) rfl ?_
  rw [right_rm.2 r2]
  simp only [lv_cons, lv_nil, app_cons, app_nil]
  refine wp_ite (t := true) rfl (fun _ => ?_) (fun h => by cases h)
  refine wp_call rfl (refWord_con (s := s) (a := lk) (cs := x2) (.inl rfl) r2.asc (by omega) hlk) rfl ?_
  simp only [lv_cons, lv_nil, app_cons, app_nil]
  refine wp_lt (u_or rfl rfl (wordN_lt r3) (by decide)) ?_
  simp only [lv_cons, lv_nil, app_cons, app_nil]
  refine wp_lt (u_or rfl rfl (wordN_lt hC) (by decide)) ?_
  rw [hwd]
  simp only [lv_cons, lv_nil, app_cons, app_nil]
  refine wp_lt (d := .b true) (cmp_e (e_eql rfl rfl) (beq_self_eq_true _)) ?_
  simp only [lv_cons, lv_nil, app_cons, app_nil]
  exact wp_return rfl rfl
end Go.Proofs.YtngpjdieelcbmaaGreatDoor.Sx
