/-
  Layer 19: TableFrames.
-/
import Derived.Test.YtnlilhpkjlodjaaDoorZTaba
namespace Go.Proofs.YtnlilhpkjlodjaaDoor.Sx
open Go
set_option linter.unusedVariables false
set_option linter.unusedSimpArgs false
set_option maxRecDepth 100000
theorem clrF_rm {s fr : Nat} {cs : List Cl} (h : RM s cs) : RM s (clrF cs fr) := h.clr (by omega)
theorem clrF_sub {cs : List Cl} {fr : Nat} (hs : Asc cs) : ∀ c ∈ clrF cs fr, c ∈ cs := fun c hc => by
  unfold clrF at hc
  rw [clr_filter hs (by omega)] at hc
  exact (List.mem_filter.1 hc).1
theorem clrF_len {cs : List Cl} {fr : Nat} (hs : Asc cs) : (clrF cs fr).length ≤ cs.length := by
  unfold clrF
  rw [clr_filter hs (by omega)]
  exact List.length_filter_le ..
theorem clrF_cok {cs : List Cl} {fr : Nat} (hs : Asc cs) (h : COk cs) : COk (clrF cs fr) := fun c hc => h c (clrF_sub hs c hc)
theorem clrF_empty {s fr : Nat} {cs : List Cl} (hs : Asc cs) : (idxE s (clrF cs fr) fr 512).isEmpty = true := by
  have : idxE s (clrF cs fr) fr 512 = [] := by
    unfold idxE
    rw [List.filter_eq_nil_iff]
    intro j hj
    have hj := List.mem_range.1 hj
    have : entN s (clrF cs fr) fr j = 0 := by
      unfold entN wordN
      split
      · rfl
      · unfold clrF
        rw [look_clr hs (by omega), if_pos ⟨by omega, by omega⟩]
    simp [this]
  rw [this]
  rfl
theorem fresh_both {b f s : Nat} {m : Int} {cs : List Cl} (h : PoolOk b m f) (hR : RM s cs) (hl : cs.length ≤ 300) : ∃ (cs1 : List Cl) (f1 fr : Nat) (e : Int), Cn gAll 12 [md 2 s cs, plD b m f] [md 2 s cs1, plD b m f1, u fr, i e] ∧ Cn gAll 13 [md 2 s cs, plD b m f] [md 2 s cs1, plD b m f1, u fr, i e] ∧ cs1.length ≤ 300 := by
  have hc8 : ∀ c ∈ cs, c.1 < 1152921504606846976 := fun c hc => by have := hR.low c hc; have := hR.most; omega
  rcases h.none_or with rfl | ⟨n, h1, h2, h3⟩
  · exact ⟨cs, 0, 0, 8, fresh_none, refFresh_none h, hl⟩
  · exact ⟨_, _, _, 0, fresh_some h h1 h2 h3 hR.asc (by omega), refFresh_some h h1 h2 h3 hR.asc hc8 (by omega), Nat.le_trans (clrF_len hR.asc) hl⟩
theorem TableFrames_con {s b f fr : Nat} {m : Int} {cs : List Cl} (hs : s < 18446744073709551616) (hO : COk cs) (hb : b < 18446744073709551616) (hf : f < 18446744073709551616) (hm0 : -9223372036854775808 ≤ m) (hm1 : m < 9223372036854775808) (hfr : fr < 18446744073709551616) :
    Cn gAll 3 [md 2 s cs, plD b m f, u fr] [bb true] := by
  refine con rfl rfl atlaslaw19_TableFrames_c atlaslaw19_TableFrames_p rfl ?_
  unfold atlaslaw19_TableFrames_ir
  simp only [lv_cons, lv_nil, app_cons, app_nil]
  refine wp_call rfl awake19_con rfl ?_
  simp only [lv_cons, lv_nil, app_cons, app_nil]
  refine wp_lt (d := (.b false)) rfl ?_
  simp only [lv_cons, lv_nil, app_cons, app_nil]
  refine wp_ite (t := false) rfl (fun h => by cases h) (fun _ => ?_)
  refine wp_call rfl few_con rfl ?_
  simp only [lv_cons, lv_nil, app_cons, app_nil]
  refine wp_lt (not_e rfl) ?_
  simp only [lv_cons, lv_nil, app_cons, app_nil]
  refine wp_ite rfl (fun hc => ?_) (fun hc => ?_)
  · refine wp_call rfl awake19_con rfl ?_
    simp only [lv_cons, lv_nil, app_cons, app_nil]
    exact wp_return rfl rfl
  have hl : cs.length ≤ 300 := by simpa using hc
  refine wp_call rfl (refRightM_con (.inl rfl) hs (by omega)) rfl ?_
  simp only [lv_cons, lv_nil, app_cons, app_nil]
  refine wp_lt (not_e rfl) ?_
  simp only [lv_cons, lv_nil, app_cons, app_nil]
  refine wp_ite rfl (fun hc => ?_) (fun hc => ?_)
  · refine wp_call rfl awake19_con rfl ?_
    simp only [lv_cons, lv_nil, app_cons, app_nil]
    exact wp_return rfl rfl
  have hR : RM s cs := right_rm.1 (by simpa using hc)
  obtain ⟨t, ht1, ht2⟩ := rightP_con (b := b) hf hm0 hm1
  refine wp_call rfl ht1 rfl ?_
  simp only [lv_cons, lv_nil, app_cons, app_nil]
  refine wp_lt (not_e rfl) ?_
  simp only [lv_cons, lv_nil, app_cons, app_nil]
  refine wp_ite rfl (fun hc => ?_) (fun hc => ?_)
  · refine wp_call rfl awake19_con rfl ?_
    simp only [lv_cons, lv_nil, app_cons, app_nil]
    exact wp_return rfl rfl
  have hP := ht2 (by simpa using hc)
  have hlo := hP.lo
  have hhi := hP.hi
  have hbs := hP.bs
  refine wp_lt (d := U m.toNat) (cv_u (n := m.toNat) (k := .i64) (by rw [Int.toNat_of_nonneg hlo]; rfl) (by omega)) ?_
  simp only [lv_cons, lv_nil, app_cons, app_nil]
  refine wp_lt (u_add rfl rfl (by omega)) ?_
  simp only [lv_cons, lv_nil, app_cons, app_nil]
  refine wp_lt (u_mul (b := 4096) rfl rfl (by omega)) ?_
  simp only [lv_cons, lv_nil, app_cons, app_nil]
  refine wp_lt (e_gtr rfl rfl) ?_
  simp only [lv_cons, lv_nil, app_cons, app_nil]
  refine wp_ite rfl (fun hc => ?_) (fun hc => ?_)
  · refine wp_call rfl awake19_con rfl ?_
    simp only [lv_cons, lv_nil, app_cons, app_nil]
    exact wp_return rfl rfl
  obtain ⟨cs1, f1, fr1, e, h1, h2, hl1⟩ := fresh_both hP hR hl
  refine wp_call rfl h1 rfl ?_
  simp only [lv_cons, lv_nil, app_cons, app_nil]
  refine wp_call rfl h2 rfl ?_
  simp only [lv_cons, lv_nil, app_cons, app_nil]
  refine wp_call rfl (sameM_con (.inl rfl) (.inl rfl) (by omega)) rfl ?_
  simp only [lv_cons, lv_nil, app_cons, app_nil]
  refine wp_lt (d := (.b false)) rfl ?_
  simp only [lv_cons, lv_nil, app_cons, app_nil]
  refine wp_ite (t := false) rfl (fun h => by cases h) (fun _ => ?_)
  refine wp_lt (d := .b false) (not_e (t := true) (ite_t (eqs_i rfl rfl) (ite_t (eqs_i rfl rfl) (ite_t (eqs_i rfl rfl) rfl)))) ?_
  simp only [lv_cons, lv_nil, app_cons, app_nil]
  refine wp_ite (t := false) rfl (fun h => by cases h) (fun _ => ?_)
  refine wp_lt (d := .b false) (cmp_e rfl (bne_self_eq_false _)) ?_
  simp only [lv_cons, lv_nil, app_cons, app_nil]
  refine wp_ite (t := false) rfl (fun h => by cases h) (fun _ => ?_)
  refine wp_lt (d := .b false) (cmp_e rfl (bne_self_eq_false _)) ?_
  simp only [lv_cons, lv_nil, app_cons, app_nil]
  refine wp_ite (t := false) rfl (fun h => by cases h) (fun _ => ?_)
  refine wp_call rfl (refIsP_con hP hfr) rfl ?_
  simp only [lv_cons, lv_nil, app_cons, app_nil]
  refine wp_lt (not_e rfl) ?_
  simp only [lv_cons, lv_nil, app_cons, app_nil]
  refine wp_ite rfl (fun hc => wp_return rfl rfl) (fun hc => ?_)
  have hi : isP b m f fr = true := by simpa using hc
  have hc8 : ∀ c ∈ cs, c.1 < 1152921504606846976 := fun c hc => by have := hR.low c hc; have := hR.most; omega
  refine wp_call rfl (back_con hP hi hR.asc (by omega)) rfl ?_
  simp only [lv_cons, lv_nil, app_cons, app_nil]
  refine wp_call rfl (refBack_con hP hi hR.asc hc8 (by omega)) rfl ?_
  simp only [lv_cons, lv_nil, app_cons, app_nil]
  have hl2 := clrF_len (fr := fr) hR.asc
  refine wp_call rfl (sameM_con (.inl rfl) (.inl rfl) (by omega)) rfl ?_
  simp only [lv_cons, lv_nil, app_cons, app_nil]
  refine wp_ite (t := true) rfl (fun _ => ?_) (fun h => by cases h)
  refine wp_lt (d := .b true) (ite_t (eqs_i rfl rfl) (ite_t (eqs_i rfl rfl) (ite_t (eqs_i rfl rfl) rfl))) ?_
  simp only [lv_cons, lv_nil, app_cons, app_nil]
  refine wp_ite (t := true) rfl (fun _ => ?_) (fun h => by cases h)
  have hfr1 := isP_lt hP hi
  have he := empty_con (s := s) (t := fr) (clrF_rm (fr := fr) hR).asc (clrF_cok hR.asc hO) (by omega) (by omega)
  rw [clrF_empty hR.asc] at he
  refine wp_call rfl he rfl ?_
  simp only [lv_cons, lv_nil, app_cons, app_nil]
  exact wp_return rfl rfl
end Go.Proofs.YtnlilhpkjlodjaaDoor.Sx
