/-
  Layer 17: what is brought in twice; what stays right: plain; answers that the document fixes.
-/
import Derived.Test.YtngpjdieelcbmaaDoorAdv
namespace Go.Proofs.YtngpjdieelcbmaaDoor.Sx
open Go
set_option linter.unusedVariables false
set_option linter.unusedSimpArgs false
set_option maxRecDepth 100000

theorem bringH_some {h : Ht} {s a : Nat} {cs : List Cl} {l : Lf} (hb : bringL h s cs a = some l) : bringH h s cs a = { h with ts := putT h.ts (entryOf (markL s cs l false) a h.asid) h.vic, vic := -1 } := by rw [bringH, hb]
theorem bringM_some {h : Ht} {s a : Nat} {cs : List Cl} {l : Lf} (hb : bringL h s cs a = some l) : bringM h s cs a = markM s cs l.pl false := by rw [bringM, hb]
theorem bringH_none {h : Ht} {s a : Nat} {cs : List Cl} (hb : bringL h s cs a = none) : bringH h s cs a = h := by rw [bringH, hb]
theorem bringM_none {h : Ht} {s a : Nat} {cs : List Cl} (hb : bringL h s cs a = none) : bringM h s cs a = cs := by rw [bringM, hb]
theorem bringH_len {h : Ht} {s a : Nat} {cs : List Cl} : (bringH h s cs a).ts.length = h.ts.length := by
  unfold bringH
  split
  · exact putT_len
  · rfl
theorem bring_right {h : Ht} {s a : Nat} {cs : List Cl} (hR : RH h) (hM : RM s cs) (hO : COk cs) : RH (bringH h s cs a) ∧ RM s (bringM h s cs a) ∧ COk (bringM h s cs a) ∧ (bringM h s cs a).length ≤ cs.length + 1 := by
  unfold bringH bringM
  cases hb : bringL h s cs a with
  | none => exact ⟨hR, hM, hO, by simp⟩
  | some l =>
    have hl := (look_leaf (bringL_of hb).2).2
    have hml := hl.mark (d := false) hM.asc
    have hmc := cok_mark (d := false) hM hO hl.low
    have hasid := (mayS_lt hR.satp).1
    exact ⟨⟨hR.tr.put (entryOf_ok hmc hml hasid) (entryOf_may hmc hml hasid), hR.satp, hR.priv⟩, hM.mark hl.low, hmc, len_mark⟩
theorem dW_dW {e w : En} : dW e (dW e w) = dW e w := by
  unfold dW
  split
  · rw [if_neg]
    rw [same_zero']
    decide
  · rfl
theorem dW_self {e : En} (hv : e.v = true) : dW e e = En.zero := by
  unfold dW
  rw [if_pos]
  simp [sameF, hv]
section
variable {e d0 d1 d2 d3 : En} {t : Nat}
theorem again0 (hv : e.v = true) (h1 : dW e d1 = d1) (h2 : dW e d2 = d2) (h3 : dW e d3 = d3) : cnt (putW e ⟨e, d1, d2, d3, t⟩ (setPutK ⟨e, d1, d2, d3, t⟩ e (-1))) = cnt ⟨e, d1, d2, d3, t⟩ := by
  have hd := dW_self hv
  have hz : En.zero.v = false := rfl
  have hK : setPutK ⟨e, d1, d2, d3, t⟩ e (-1) = 0 := by simp [setPutK, dropTo, goesF, hd, hz]
  rw [hK, putW_0, cnt_eq, cnt_eq]
  simp only [h1, h2, h3]
theorem again1 (hv : e.v = true) (h0 : dW e d0 = d0) (h2 : dW e d2 = d2) (h3 : dW e d3 = d3) : cnt (putW e ⟨d0, e, d2, d3, t⟩ (setPutK ⟨d0, e, d2, d3, t⟩ e (-1))) = cnt ⟨d0, e, d2, d3, t⟩ := by
  have hd := dW_self hv
  have hz : En.zero.v = false := rfl
  by_cases q0 : d0.v = false
  · have hK : setPutK ⟨d0, e, d2, d3, t⟩ e (-1) = 0 := by simp [setPutK, dropTo, goesF, hd, hz, h0, q0]
    rw [hK, putW_0, cnt_eq, cnt_eq]
    simp only [hd, h2, h3, hz, q0, Bool.toNat_false]
    omega
  · have hK : setPutK ⟨d0, e, d2, d3, t⟩ e (-1) = 1 := by simp [setPutK, dropTo, goesF, hd, hz, h0, q0]
    rw [hK, putW_1, cnt_eq, cnt_eq]
    simp only [h0, h2, h3]
theorem again2 (hv : e.v = true) (h0 : dW e d0 = d0) (h1 : dW e d1 = d1) (h3 : dW e d3 = d3) : cnt (putW e ⟨d0, d1, e, d3, t⟩ (setPutK ⟨d0, d1, e, d3, t⟩ e (-1))) = cnt ⟨d0, d1, e, d3, t⟩ := by
  have hd := dW_self hv
  have hz : En.zero.v = false := rfl
  by_cases q0 : d0.v = false
  · have hK : setPutK ⟨d0, d1, e, d3, t⟩ e (-1) = 0 := by simp [setPutK, dropTo, goesF, hd, hz, h0, h1, q0]
    rw [hK, putW_0, cnt_eq, cnt_eq]
    simp only [hd, h1, h3, hz, q0, Bool.toNat_false]
    omega
  · by_cases q1 : d1.v = false
    · have hK : setPutK ⟨d0, d1, e, d3, t⟩ e (-1) = 1 := by simp [setPutK, dropTo, goesF, hd, hz, h0, h1, q0, q1]
      rw [hK, putW_1, cnt_eq, cnt_eq]
      simp only [hd, h0, h3, hz, q1, Bool.toNat_false]
      omega
    · have hK : setPutK ⟨d0, d1, e, d3, t⟩ e (-1) = 2 := by simp [setPutK, dropTo, goesF, hd, hz, h0, h1, q0, q1]
      rw [hK, putW_2, cnt_eq, cnt_eq]
      simp only [h0, h1, h3]
theorem again3 (hv : e.v = true) (h0 : dW e d0 = d0) (h1 : dW e d1 = d1) (h2 : dW e d2 = d2) : cnt (putW e ⟨d0, d1, d2, e, t⟩ (setPutK ⟨d0, d1, d2, e, t⟩ e (-1))) = cnt ⟨d0, d1, d2, e, t⟩ := by
  have hd := dW_self hv
  have hz : En.zero.v = false := rfl
  by_cases q0 : d0.v = false
  · have hK : setPutK ⟨d0, d1, d2, e, t⟩ e (-1) = 0 := by simp [setPutK, dropTo, goesF, hd, hz, h0, h1, h2, q0]
    rw [hK, putW_0, cnt_eq, cnt_eq]
    simp only [hd, h1, h2, hz, q0, Bool.toNat_false]
    omega
  · by_cases q1 : d1.v = false
    · have hK : setPutK ⟨d0, d1, d2, e, t⟩ e (-1) = 1 := by simp [setPutK, dropTo, goesF, hd, hz, h0, h1, h2, q0, q1]
      rw [hK, putW_1, cnt_eq, cnt_eq]
      simp only [hd, h0, h2, hz, q1, Bool.toNat_false]
      omega
    · by_cases q2 : d2.v = false
      · have hK : setPutK ⟨d0, d1, d2, e, t⟩ e (-1) = 2 := by simp [setPutK, dropTo, goesF, hd, hz, h0, h1, h2, q0, q1, q2]
        rw [hK, putW_2, cnt_eq, cnt_eq]
        simp only [hd, h0, h1, hz, q2, Bool.toNat_false]
        omega
      · have hK : setPutK ⟨d0, d1, d2, e, t⟩ e (-1) = 3 := by simp [setPutK, dropTo, goesF, hd, hz, h0, h1, h2, q0, q1, q2]
        rw [hK, putW_3, cnt_eq, cnt_eq]
        simp only [h0, h1, h2]
end
theorem cnt_again {e : En} {s : SetD} {k : Nat} (hv : e.v = true) (hk : k < 4) : cnt (putW e (putW e s k) (setPutK (putW e s k) e (-1))) = cnt (putW e s k) := by
  have hcase : k = 0 ∨ k = 1 ∨ k = 2 ∨ k = 3 := by omega
  rcases hcase with rfl | rfl | rfl | rfl
  · rw [putW_0]; exact again0 hv dW_dW dW_dW dW_dW
  · rw [putW_1]; exact again1 hv dW_dW dW_dW dW_dW
  · rw [putW_2]; exact again2 hv dW_dW dW_dW dW_dW
  · rw [putW_3]; exact again3 hv dW_dW dW_dW dW_dW
theorem put_again {ts : List SetD} {e : En} {v : Int} (h : TR ts) (he : e.Ok) (hm : e.may = true) (hv : e.v = true) : (allT (putT (putT ts e v) e (-1))).length = (allT (putT ts e v)).length := by
  have h1 := h.put (v := v) he hm
  rcases putT_cases (ts := ts) (e := e) (v := v) with ⟨rfl, hp⟩ | ⟨s, hs, hp⟩
  · rw [hp]; rfl
  · have hj := (List.getElem?_eq_some_iff.1 hs).1
    have hW := setPut_W (e := e) (v := v) (h.tree hs)
    have hk := setPutK_lt (e := e) (v := v) (h.tree hs)
    rw [hW] at hp
    have hl : (putT ts e v).length = ts.length := putT_len
    have hs1 : (putT ts e v)[idxF (putT ts e v).length e.vpn e.lv]? = some (putW e s (setPutK s e v)) := by
      rw [hl, hp, List.getElem?_set_self hj]
    have ht1 := h1.tree hs1
    rcases putT_cases (ts := putT ts e v) (e := e) (v := -1) with ⟨h0, _⟩ | ⟨s', hs', hp'⟩
    · rw [h0] at hl
      rw [← hl] at hj
      cases hj
    · rw [hs1] at hs'
      cases hs'
      rw [hp', setPut_W ht1]
      have := allT_set (s' := putW e (putW e s (setPutK s e v)) (setPutK (putW e s (setPutK s e v)) e (-1))) hs1
      have hc := cnt_again (s := s) hv hk
      omega
theorem bring_again {h : Ht} {s a : Nat} {cs : List Cl} (hR : RH h) (hM : RM s cs) (hO : COk cs) (hvc : h.vic = -1) : bringM (bringH h s cs a) s (bringM h s cs a) a = bringM h s cs a ∧ (allT (bringH (bringH h s cs a) s (bringM h s cs a) a).ts).length = (allT (bringH h s cs a).ts).length := by
  cases hb : bringL h s cs a with
  | none =>
    have h1 : bringH h s cs a = h := by rw [bringH, hb]
    have h2 : bringM h s cs a = cs := by rw [bringM, hb]
    rw [h1, h2, h1, h2]
    exact ⟨rfl, rfl⟩
  | some l =>
    obtain ⟨hm, hlk⟩ := bringL_of hb
    have hl := (look_leaf hlk).2
    have h1 := bringH_some hb
    have h2 := bringM_some hb
    have hb2 : bringL (bringH h s cs a) s (bringM h s cs a) a = some (markL s cs l false) := by
      rw [h1, h2, bringL, if_pos hm, look_mark hM.asc hlk]
    have hml := hl.mark (d := false) hM.asc
    have hmc := cok_mark (d := false) hM hO hl.low
    have hasid := (mayS_lt hR.satp).1
    have h3 : bringM (bringH h s cs a) s (bringM h s cs a) a = markM s (markM s cs l.pl false) l.pl false := by
      rw [bringM_some hb2, h2]
      rfl
    have h4 : (bringH (bringH h s cs a) s (bringM h s cs a) a).ts = putT (putT h.ts (entryOf (markL s cs l false) a h.asid) h.vic) (entryOf (markL s cs l false) a h.asid) (-1) := by
      rw [bringH_some hb2]
      simp only
      rw [h1, h2]
      simp only
      rw [mkL_mkL (d := false) hM.asc hl]
    rw [h3, h4, mark_mark hM hl.low, h1, h2]
    exact ⟨rfl, put_again hR.tr (entryOf_ok hmc hml hasid) (entryOf_may hmc hml hasid) rfl⟩

/-! ### answers that the document fixes -/
abbrev ah : Ht := ⟨newT 1, 8, 1, 1, 0, false, false, -1⟩
abbrev am : List Cl := [(512, 9)]
abbrev ae : En := ⟨true, 1, false, 2, 0, 0, false, false, true, false, false⟩
abbrev ad : Ht := ⟨[⟨En.zero, En.zero, ae, En.zero, touN 0 2⟩], 8, 1, 1, 0, false, false, -1⟩
theorem ah_rh : RH ah := ⟨newT_ok (by decide), by decide, .inl rfl⟩
theorem ah2_rh : RH { ah with vic := 2 } := ⟨newT_ok (by decide), by decide, .inl rfl⟩
theorem am_rm : RM 8192 am := right_rm.1 (by decide)
theorem am_ok : COk am := fun c hc => by rw [List.mem_singleton.1 hc]; decide
theorem aw_b1 : bringH { ah with vic := 2 } 8192 am 5 = ad := by kernel_rfl
theorem aw_b2 : bringM { ah with vic := 2 } 8192 am 5 = [(512, 73)] := by kernel_rfl
theorem aw_b3 : bringH ah 8192 am 1073741824 = ah := by kernel_rfl
theorem aw_b4 : bringM ah 8192 am 1073741824 = am := by kernel_rfl
theorem aw_d1 : dropT ad.ts 0 2 = ([⟨En.zero, En.zero, En.zero, En.zero, touN 0 2⟩], 0) := by kernel_rfl
theorem aw_d2 : dropT ad.ts 1 0 = (ad.ts, 1) := by kernel_rfl
theorem aw_all : allT [⟨En.zero, En.zero, En.zero, En.zero, touN 0 2⟩] = [] := by kernel_rfl
theorem ad_rh : RH ad := by
  have := (bring_right (a := 5) ah2_rh am_rm am_ok).1
  rwa [aw_b1] at this
theorem awake17_con : Cn gAll 5 [] [bb true] := by
  refine con rfl rfl atlaslaw17_awake_c atlaslaw17_awake_p rfl ?_
  unfold atlaslaw17_awake_ir
  refine wp_chk rfl ?_
  refine wp_call (az := [ah.dv, i 2]) rfl (pickH_con (h := ah) (w := 2)) rfl ?_
  simp only [pickV, pickE]
  simp only [lv_cons, lv_nil, Pt.ds, Lf.ds, En.ds, Ht.ds, app_cons, app_nil]
  refine wp_call (az := [ah.dv, i 4]) rfl (pickH_con (h := ah) (w := 4)) rfl ?_
  simp only [pickV, pickE]
  simp only [lv_cons, lv_nil, Pt.ds, Lf.ds, En.ds, Ht.ds, app_cons, app_nil]
  have h3 := bring_con (a := 5) (kd := 1) ah2_rh am_rm am_ok (by decide) (by decide) (by simp [Kn])
  rw [aw_b1, aw_b2] at h3
  refine wp_call rfl h3 rfl ?_
  simp only [lv_cons, lv_nil, Pt.ds, Lf.ds, En.ds, Ht.ds, app_cons, app_nil]
  have h4 := evict_con (j := 0) (w := 2) ad_rh
  rw [aw_d1] at h4
  refine wp_call rfl h4 rfl ?_
  simp only [lv_cons, lv_nil, Pt.ds, Lf.ds, En.ds, Ht.ds, app_cons, app_nil]
  have h5 := evict_con (j := 1) (w := 0) ad_rh
  rw [aw_d2] at h5
  refine wp_call rfl h5 rfl ?_
  simp only [lv_cons, lv_nil, Pt.ds, Lf.ds, En.ds, Ht.ds, app_cons, app_nil]
  have h6 := bring_con (a := 1073741824) (kd := 1) ah_rh am_rm am_ok (by decide) (by decide) (by simp [Kn])
  rw [aw_b3, aw_b4] at h6
  refine wp_call rfl h6 rfl ?_
  simp only [lv_cons, lv_nil, Pt.ds, Lf.ds, En.ds, Ht.ds, app_cons, app_nil]
  refine wp_lt (d := .b true) rfl ?_
  simp only [lv_cons, lv_nil, app_cons, app_nil]
  refine wp_ite (t := true) rfl (fun _ => ?_) (fun h => by cases h)
  refine wp_lt (d := .b true) rfl ?_
  simp only [lv_cons, lv_nil, app_cons, app_nil]
  refine wp_ite (t := true) rfl (fun _ => ?_) (fun h => by cases h)
  refine wp_lt (d := .b true) rfl ?_
  simp only [lv_cons, lv_nil, app_cons, app_nil]
  refine wp_ite (t := true) rfl (fun _ => ?_) (fun h => by cases h)
  refine wp_lt (d := .b true) rfl ?_
  simp only [lv_cons, lv_nil, app_cons, app_nil]
  refine wp_ite (t := true) rfl (fun _ => ?_) (fun h => by cases h)
  refine wp_lt (d := I 1) rfl ?_
  simp only [lv_cons, lv_nil, app_cons, app_nil]
  refine wp_lt (d := .b true) rfl ?_
  simp only [lv_cons, lv_nil, app_cons, app_nil]
  refine wp_ite (t := true) rfl (fun _ => ?_) (fun h => by cases h)
  refine wp_chk rfl ?_
  refine wp_ite (t := true) rfl (fun _ => ?_) (fun h => by cases h)
  refine wp_chk rfl ?_
  refine wp_lt (d := .b true) rfl ?_
  simp only [lv_cons, lv_nil, app_cons, app_nil]
  refine wp_ite (t := true) rfl (fun _ => ?_) (fun h => by cases h)
  refine wp_lt (d := .b true) rfl ?_
  simp only [lv_cons, lv_nil, app_cons, app_nil]
  refine wp_ite (t := true) rfl (fun _ => ?_) (fun h => by cases h)
  have h7 := refAll_con (ts := [⟨En.zero, En.zero, En.zero, En.zero, touN 0 2⟩]) (by decide)
  rw [aw_all] at h7
  refine wp_call rfl h7 rfl ?_
  simp only [lv_cons, lv_nil, app_cons, app_nil]
  refine wp_lt (d := I 0) rfl ?_
  simp only [lv_cons, lv_nil, app_cons, app_nil]
  refine wp_lt (d := .b true) rfl ?_
  simp only [lv_cons, lv_nil, app_cons, app_nil]
  refine wp_ite (t := true) rfl (fun _ => ?_) (fun h => by cases h)
  refine wp_lt (d := .b true) rfl ?_
  simp only [lv_cons, lv_nil, app_cons, app_nil]
  refine wp_ite (t := true) rfl (fun _ => ?_) (fun h => by cases h)
  refine wp_call (az := [ah.dv, ah.dv]) rfl (sameH_con (h := ah) (by decide)) rfl ?_
  simp only [lv_cons, lv_nil, app_cons, app_nil]
  refine wp_chk rfl ?_
  refine wp_ite (t := true) rfl (fun _ => ?_) (fun h => by cases h)
  refine wp_call (az := [md 2 8192 am, md 2 8192 am]) rfl (sameM_con (s := 8192) (cs := am) (.inl rfl) (.inl rfl) (by decide)) rfl ?_
  simp only [lv_cons, lv_nil, app_cons, app_nil]
  refine wp_chk rfl ?_
  exact wp_return rfl rfl
end Go.Proofs.YtngpjdieelcbmaaDoor.Sx
