/-
  The laws: bytes that become 0; what is stored is loaded; two stores; halves.
-/
import Derived.Test.YtffahdloddkcfaaMemi
import Derived.Test.YtffahdloddkcfaaM1
namespace Go.Proofs.Ytffahdloddkcfaa.Sx
open Go
set_option linter.unusedVariables false
set_option linter.unusedSimpArgs false
set_option maxRecDepth 100000

theorem MemClears_con {k s a b l : Nat} {cs : List Cl} (hk : Kd k cs) (hs : s < 18446744073709551616) (hC : COk cs) (ha : a < 18446744073709551616) (hb : b < 18446744073709551616) (hlk : l < 18446744073709551616) : Cn gAll 4 [md k s cs, u a, u b, u l] [bb true] := by
  refine con rfl rfl atlaslaw03_MemClears_c atlaslaw03_MemClears_p rfl ?_
  unfold atlaslaw03_MemClears_ir
  simp only [lv_cons, lv_nil, app_cons, app_nil]
  refine wp_call rfl awake_con rfl ?_
  simp only [lv_cons, lv_nil, app_cons, app_nil]
  refine wp_lt (d := (.b false)) rfl ?_
  simp only [lv_cons, lv_nil, app_cons, app_nil]
  refine wp_ite (t := false) rfl (fun h => by cases h) (fun _ => ?_)
  refine wp_call rfl (fits_con (k := k) (s := s) (cs := cs) hk hs) rfl ?_
  simp only [lv_cons, lv_nil, app_cons, app_nil]
  refine wp_lt rfl ?_
  simp only [lv_cons, lv_nil, app_cons, app_nil]
  refine wp_ite rfl (fun hf => ?_) (fun hf => ?_)
  · refine wp_call rfl awake_con rfl ?_
    simp only [lv_cons, lv_nil, app_cons, app_nil]
    exact wp_return rfl rfl
  have hf : cs.length ≤ 300 ∧ rightM s cs = true := by simpa using hf
  obtain ⟨hl, hr⟩ := hf
  have hR : RM s cs := right_rm.1 hr
  refine wp_lt (e_eql rfl rfl) ?_
  simp only [lv_cons, lv_nil, app_cons, app_nil]
  refine wp_ite rfl (fun h0 => ?_) (fun h0 => ?_)
  · refine wp_call rfl awake_con rfl ?_
    simp only [lv_cons, lv_nil, app_cons, app_nil]
    exact wp_return rfl rfl
  have h0 : s ≠ 0 := by
    have := beq_eq_false_iff_ne.1 h0
    omega
  have hev := hR.even
  have hmost := hR.most
  have hmod := Nat.mod_lt a (Nat.pos_of_ne_zero h0)
  refine wp_lt (u_rem (b := s) rfl rfl h0) ?_
  simp only [lv_cons, lv_nil, app_cons, app_nil]
  refine wp_lt (u_quo (b := 8) rfl rfl (by omega) (by omega)) ?_
  simp only [lv_cons, lv_nil, app_cons, app_nil]
  refine wp_lt (u_mul (b := 8) rfl rfl (by omega)) ?_
  simp only [lv_cons, lv_nil, app_cons, app_nil]
  obtain ⟨F, hF⟩ : ∃ F, F = a % s / 8 * 8 := ⟨_, rfl⟩
  rw [← hF]
  refine wp_lt (u_sub (a := s) (b := F) rfl rfl (by omega) hs) ?_
  simp only [lv_cons, lv_nil, app_cons, app_nil]
  refine wp_lt (u_add (b := 8) rfl rfl (by omega)) ?_
  simp only [lv_cons, lv_nil, app_cons, app_nil]
  have hmod2 := Nat.mod_lt b (show s - F + 8 > 0 by omega)
  refine wp_lt (u_rem (a := b) (b := s - F + 8) rfl rfl (by omega)) ?_
  simp only [lv_cons, lv_nil, app_cons, app_nil]
  refine wp_lt (u_quo (b := 8) rfl rfl (by omega) (by omega)) ?_
  simp only [lv_cons, lv_nil, app_cons, app_nil]
  refine wp_lt (u_mul (b := 8) rfl rfl (by omega)) ?_
  simp only [lv_cons, lv_nil, app_cons, app_nil]
  obtain ⟨M, hM⟩ : ∃ M, M = b % (s - F + 8) / 8 * 8 := ⟨_, rfl⟩
  rw [← hM]
  have hF8 : F % 8 = 0 := by omega
  have hM8 : M % 8 = 0 := by omega
  have hFM : F + M ≤ s := by omega
  clear hF hM hmod hmod2
  have hab : F / 8 ≤ (F + M) / 8 := by omega
  refine wp_call rfl (memClear_con (s := s) (a := F) (b := M) hk hR.asc (by omega) (by omega)) rfl ?_
  simp only [lv_cons, lv_nil, app_cons, app_nil]
  refine wp_call rfl (memWord_con (s := s) (a := l) hk hR.asc (by omega) hlk) rfl ?_
  simp only [lv_cons, lv_nil, app_cons, app_nil]
  have hRc := hR.clr hab
  have hlc := len_clr hR.asc hab
  have hlook := look_clr (q := l / 8) hR.asc hab
  have hflt : cs.filter (keptB F M) = clrM cs (F / 8) ((F + M) / 8) := by
    rw [clr_filter hR.asc hab]
    refine List.filter_congr fun c _ => ?_
    rw [Bool.eq_iff_iff]
    simp only [keptB, Bool.or_eq_true, decide_eq_true_eq]
    omega
  generalize clrM cs (F / 8) ((F + M) / 8) = cc at hRc hlc hlook hflt ⊢
  refine wp_lt (u_quo (b := 8) rfl rfl (by omega) hlk) ?_
  simp only [lv_cons, lv_nil, app_cons, app_nil]
  refine wp_lt (u_mul (b := 8) rfl rfl (by omega)) ?_
  simp only [lv_cons, lv_nil, app_cons, app_nil]
  refine wp_lt (e_geq rfl rfl) ?_
  simp only [lv_cons, lv_nil, app_cons, app_nil]
  refine wp_ite rfl (fun h1 => ?_) (fun h1 => ?_)
  · have h1 := of_decide_eq_true h1
    refine wp_lt (u_quo (b := 8) rfl rfl (by omega) hlk) ?_
    simp only [lv_cons, lv_nil, app_cons, app_nil]
    refine wp_lt (u_mul (b := 8) rfl rfl (by omega)) ?_
    simp only [lv_cons, lv_nil, app_cons, app_nil]
    refine wp_lt (u_add (a := F) (b := M) rfl rfl (by omega)) ?_
    simp only [lv_cons, lv_nil, app_cons, app_nil]
    refine wp_lt (e_lss rfl rfl) ?_
    simp only [lv_cons, lv_nil, app_cons, app_nil]
    refine wp_ite rfl (fun h2 => ?_) (fun h2 => ?_)
    · have h2 := of_decide_eq_true h2
      have hrc := refClear_con (k := k) (s := s) (a := F) (b := M) (cs := cs) hk (fun c hc => by have := hR.low c hc; omega) (by omega) (by omega)
      rw [hflt] at hrc
      refine wp_call rfl hrc rfl ?_
      simp only [lv_cons, lv_nil, app_cons, app_nil]
      refine wp_call rfl (sameM_con (s := s) (.inl rfl) (.inl rfl) (by omega)) rfl ?_
      simp only [lv_cons, lv_nil, app_cons, app_nil]
      refine wp_ite (t := true) rfl (fun _ => ?_) (fun h => by cases h)
      refine wp_call rfl (memRight_con (s := s) (.inl rfl) hs (by omega)) rfl ?_
      rw [right_rm.2 hRc]
      simp only [lv_cons, lv_nil, app_cons, app_nil]
      refine wp_ite (t := true) rfl (fun _ => ?_) (fun h => by cases h)
      refine wp_call rfl (memWord_con (s := s) (.inl rfl) hRc.asc (by omega) hlk) rfl ?_
      simp only [lv_cons, lv_nil, app_cons, app_nil]
      have hw : wordN s cc l = 0 := by
        unfold wordN
        rw [hlook, if_pos (show F / 8 ≤ l / 8 ∧ l / 8 < (F + M) / 8 by omega)]
        split <;> rfl
      rw [hw]
      exact wp_lt (d := .b true) rfl (wp_return rfl rfl)
    · have h2 := of_decide_eq_false h2
      have hrc := refClear_con (k := k) (s := s) (a := F) (b := M) (cs := cs) hk (fun c hc => by have := hR.low c hc; omega) (by omega) (by omega)
      rw [hflt] at hrc
      refine wp_call rfl hrc rfl ?_
      simp only [lv_cons, lv_nil, app_cons, app_nil]
      refine wp_call rfl (sameM_con (s := s) (.inl rfl) (.inl rfl) (by omega)) rfl ?_
      simp only [lv_cons, lv_nil, app_cons, app_nil]
      refine wp_ite (t := true) rfl (fun _ => ?_) (fun h => by cases h)
      refine wp_call rfl (memRight_con (s := s) (.inl rfl) hs (by omega)) rfl ?_
      rw [right_rm.2 hRc]
      simp only [lv_cons, lv_nil, app_cons, app_nil]
      refine wp_ite (t := true) rfl (fun _ => ?_) (fun h => by cases h)
      refine wp_call rfl (memWord_con (s := s) (.inl rfl) hRc.asc (by omega) hlk) rfl ?_
      simp only [lv_cons, lv_nil, app_cons, app_nil]
      have hw : wordN s cc l = wordN s cs l := by
        unfold wordN
        rw [hlook, if_neg (show ¬ (F / 8 ≤ l / 8 ∧ l / 8 < (F + M) / 8) by omega)]
      rw [hw]
      exact wp_lt (d := .b true) (cmp_e (e_eql rfl rfl) (beq_self_eq_true _)) (wp_return rfl rfl)
  · have h1 := of_decide_eq_false h1
    have hrc := refClear_con (k := k) (s := s) (a := F) (b := M) (cs := cs) hk (fun c hc => by have := hR.low c hc; omega) (by omega) (by omega)
    rw [hflt] at hrc
    refine wp_call rfl hrc rfl ?_
    simp only [lv_cons, lv_nil, app_cons, app_nil]
    refine wp_call rfl (sameM_con (s := s) (.inl rfl) (.inl rfl) (by omega)) rfl ?_
    simp only [lv_cons, lv_nil, app_cons, app_nil]
    refine wp_ite (t := true) rfl (fun _ => ?_) (fun h => by cases h)
    refine wp_call rfl (memRight_con (s := s) (.inl rfl) hs (by omega)) rfl ?_
    rw [right_rm.2 hRc]
    simp only [lv_cons, lv_nil, app_cons, app_nil]
    refine wp_ite (t := true) rfl (fun _ => ?_) (fun h => by cases h)
    refine wp_call rfl (memWord_con (s := s) (.inl rfl) hRc.asc (by omega) hlk) rfl ?_
    simp only [lv_cons, lv_nil, app_cons, app_nil]
    have hw : wordN s cc l = wordN s cs l := by
      unfold wordN
      rw [hlook, if_neg (show ¬ (F / 8 ≤ l / 8 ∧ l / 8 < (F + M) / 8) by omega)]
    rw [hw]
    exact wp_lt (d := .b true) (cmp_e (e_eql rfl rfl) (beq_self_eq_true _)) (wp_return rfl rfl)

theorem MemHolds_con {k s a b v q q' : Nat} {cs : List Cl} (hk : Kd k cs) (hs : s < 18446744073709551616) (hC : COk cs) (ha : a < 18446744073709551616) (hb : b < 18446744073709551616) (hv : v < 18446744073709551616) : Cn gAll 5 [md k s cs, u a, (false, [.i .u8 (q : Int)]), u v, u b, (false, [.i .u8 (q' : Int)])] [bb true] := by
  refine con rfl rfl atlaslaw03_MemHolds_c atlaslaw03_MemHolds_p rfl ?_
  unfold atlaslaw03_MemHolds_ir
  simp only [lv_cons, lv_nil, app_cons, app_nil]
  refine wp_call rfl awake_con rfl ?_
  simp only [lv_cons, lv_nil, app_cons, app_nil]
  refine wp_lt (d := (.b false)) rfl ?_
  simp only [lv_cons, lv_nil, app_cons, app_nil]
  refine wp_ite (t := false) rfl (fun h => by cases h) (fun _ => ?_)
  refine wp_call rfl (fits_con (k := k) (s := s) (cs := cs) hk hs) rfl ?_
  simp only [lv_cons, lv_nil, app_cons, app_nil]
  refine wp_lt rfl ?_
  simp only [lv_cons, lv_nil, app_cons, app_nil]
  refine wp_ite rfl (fun hf => ?_) (fun hf => ?_)
  · refine wp_call rfl awake_con rfl ?_
    simp only [lv_cons, lv_nil, app_cons, app_nil]
    exact wp_return rfl rfl
  have hf : cs.length ≤ 300 ∧ rightM s cs = true := by simpa using hf
  obtain ⟨hl, hr⟩ := hf
  have hR : RM s cs := right_rm.1 hr
  refine wp_lt (e_eql rfl rfl) ?_
  simp only [lv_cons, lv_nil, app_cons, app_nil]
  refine wp_ite rfl (fun h0 => ?_) (fun h0 => ?_)
  · refine wp_call rfl awake_con rfl ?_
    simp only [lv_cons, lv_nil, app_cons, app_nil]
    exact wp_return rfl rfl
  have h0 : s ≠ 0 := by
    have := beq_eq_false_iff_ne.1 h0
    omega
  have hev := hR.even
  have hmost := hR.most
  obtain ⟨S, hSe⟩ : ∃ S, S = pickN q := ⟨_, rfl⟩
  obtain ⟨O, hOe⟩ : ∃ O, O = pickN q' := ⟨_, rfl⟩
  refine wp_call rfl (refPick_con (q := q)) rfl ?_
  simp only [lv_cons, lv_nil, app_cons, app_nil]
  have hS : Sz S := by rw [hSe]; exact pick_or q
  rw [← hSe]
  have hSl : S ≤ 8 := by rcases hS with h | h | h | h <;> omega
  have hSp : S ≠ 0 := by rcases hS with h | h | h | h <;> omega
  refine wp_lt (cv_u rfl (by omega)) ?_
  simp only [lv_cons, lv_nil, app_cons, app_nil]
  refine wp_call rfl (refPick_con (q := q')) rfl ?_
  simp only [lv_cons, lv_nil, app_cons, app_nil]
  have hO : Sz O := by rw [hOe]; exact pick_or q'
  rw [← hOe]
  have hOl : O ≤ 8 := by rcases hO with h | h | h | h <;> omega
  have hOp : O ≠ 0 := by rcases hO with h | h | h | h <;> omega
  refine wp_lt (cv_u rfl (by omega)) ?_
  simp only [lv_cons, lv_nil, app_cons, app_nil]
  have hmod := Nat.mod_lt a (Nat.pos_of_ne_zero h0)
  have hmod' := Nat.mod_lt b (Nat.pos_of_ne_zero h0)
  refine wp_lt (u_rem (a := a) (b := s) rfl rfl h0) ?_
  simp only [lv_cons, lv_nil, app_cons, app_nil]
  refine wp_lt (u_quo (b := S) rfl rfl hSp (by omega)) ?_
  simp only [lv_cons, lv_nil, app_cons, app_nil]
  refine wp_lt (u_mul (b := S) rfl rfl (Nat.lt_of_le_of_lt (Nat.div_mul_le_self _ _) (by omega))) ?_
  simp only [lv_cons, lv_nil, app_cons, app_nil]
  refine wp_lt (u_rem (a := b) (b := s) rfl rfl h0) ?_
  simp only [lv_cons, lv_nil, app_cons, app_nil]
  refine wp_lt (u_quo (b := O) rfl rfl hOp (by omega)) ?_
  simp only [lv_cons, lv_nil, app_cons, app_nil]
  refine wp_lt (u_mul (b := O) rfl rfl (Nat.lt_of_le_of_lt (Nat.div_mul_le_self _ _) (by omega))) ?_
  simp only [lv_cons, lv_nil, app_cons, app_nil]
  obtain ⟨hiS, hiL⟩ := hS.place (a := a) hev h0
  obtain ⟨hkO, hkL⟩ := hO.place (a := b) hev h0
  clear hmod hmod'
  generalize a % s / S * S = x at hiS hiL ⊢
  generalize b % s / O * O = y at hkO hkL ⊢
  have hxs : x < s := by omega
  have hys : y < s := by omega
  have wx := hS.wrong hiS hxs
  have wy := hO.wrong hkO hys
  have hR1 := hR.store (n := S) (v := v) hxs
  have hC1 := cok_store (n := S) (v := v) hR hC hxs
  have hl1 := len_store (s := s) (a := x) (n := S) (v := v) (cs := cs)
  have hx := load_store (v := v) hR.asc hS hiS hxs
  have hy := fun hd => load_off (v := v) hR.asc hS hO hiS hkO hxs hys hd
  refine wp_lt (cv_i (n := (S : Int)) rfl (by omega) (by omega)) ?_
  simp only [lv_cons, lv_nil, app_cons, app_nil]
  refine wp_call rfl (memStore_ok (s := s) (a := x) (n := S) (v := v) hk hR.asc hC (by omega) (by omega) hv hS.ok wx) rfl ?_
  generalize storeM s cs x S v = c1 at hR1 hC1 hl1 hx hy ⊢
  simp only [lv_cons, lv_nil, app_cons, app_nil]
  refine wp_lt (cv_i (n := (S : Int)) rfl (by omega) (by omega)) ?_
  simp only [lv_cons, lv_nil, app_cons, app_nil]
  refine wp_call rfl (memLoad_ok (s := s) (a := x) (n := S) (.inl rfl) hR1.asc hC1 (by omega) (by omega) hS.ok wx) rfl ?_
  rw [hx]
  simp only [lv_cons, lv_nil, app_cons, app_nil]
  refine wp_lt (cv_i (n := (O : Int)) rfl (by omega) (by omega)) ?_
  simp only [lv_cons, lv_nil, app_cons, app_nil]
  refine wp_call rfl (memLoad_ok (s := s) (a := y) (n := O) hk hR.asc hC (by omega) (by omega) hO.ok wy) rfl ?_
  simp only [lv_cons, lv_nil, app_cons, app_nil]
  refine wp_lt (cv_i (n := (O : Int)) rfl (by omega) (by omega)) ?_
  simp only [lv_cons, lv_nil, app_cons, app_nil]
  refine wp_call rfl (memLoad_ok (s := s) (a := y) (n := O) (.inl rfl) hR1.asc hC1 (by omega) (by omega) hO.ok wy) rfl ?_
  simp only [lv_cons, lv_nil, app_cons, app_nil]
  refine wp_lt (d := .b false) rfl ?_
  simp only [lv_cons, lv_nil, app_cons, app_nil]
  refine wp_ite (t := false) rfl (fun h => by cases h) (fun _ => ?_)
  refine wp_lt (d := .b false) rfl ?_
  simp only [lv_cons, lv_nil, app_cons, app_nil]
  refine wp_ite (t := false) rfl (fun h => by cases h) (fun _ => ?_)
  refine wp_lt (d := .b false) rfl ?_
  simp only [lv_cons, lv_nil, app_cons, app_nil]
  refine wp_ite (t := false) rfl (fun h => by cases h) (fun _ => ?_)
  refine wp_lt (d := .b false) rfl ?_
  simp only [lv_cons, lv_nil, app_cons, app_nil]
  refine wp_ite (t := false) rfl (fun h => by cases h) (fun _ => ?_)
  refine wp_lt (cv_i (n := (S : Int)) rfl (by omega) (by omega)) ?_
  simp only [lv_cons, lv_nil, app_cons, app_nil]
  refine wp_call rfl (refLow_con (v := v) (n := S) hv (by omega) hSl) rfl ?_
  simp only [lv_cons, lv_nil, app_cons, app_nil]
  refine wp_lt (d := .b false) (cmp_e rfl (bne_self_eq_false _)) ?_
  simp only [lv_cons, lv_nil, app_cons, app_nil]
  refine wp_ite (t := false) rfl (fun h => by cases h) (fun _ => ?_)
  refine wp_call rfl (memRight_con (s := s) (.inl rfl) hs (by omega)) rfl ?_
  rw [right_rm.2 hR1]
  simp only [lv_cons, lv_nil, app_cons, app_nil]
  refine wp_lt (d := .b false) rfl ?_
  simp only [lv_cons, lv_nil, app_cons, app_nil]
  refine wp_ite (t := false) rfl (fun h => by cases h) (fun _ => ?_)
  refine wp_lt (u_add rfl rfl (by omega)) ?_
  simp only [lv_cons, lv_nil, app_cons, app_nil]
  refine wp_lt (e_lss rfl rfl) ?_
  simp only [lv_cons, lv_nil, app_cons, app_nil]
  refine wp_ite rfl (fun h1 => ?_) (fun h1 => ?_)
  · refine wp_lt (u_add rfl rfl (by omega)) ?_
    simp only [lv_cons, lv_nil, app_cons, app_nil]
    refine wp_lt (e_lss rfl rfl) ?_
    simp only [lv_cons, lv_nil, app_cons, app_nil]
    refine wp_ite rfl (fun h2 => ?_) (fun h2 => ?_)
    · exact wp_return rfl rfl
    · have h2 := of_decide_eq_false h2
      rw [hy (.inl (by omega))]
      exact wp_lt (d := .b true) (cmp_e (e_eql rfl rfl) (beq_self_eq_true _)) (wp_return rfl rfl)
  · have h1 := of_decide_eq_false h1
    rw [hy (.inr (by omega))]
    exact wp_lt (d := .b true) (cmp_e (e_eql rfl rfl) (beq_self_eq_true _)) (wp_return rfl rfl)

theorem MemTurned_con {k s a b v w q q' : Nat} {cs : List Cl} (hk : Kd k cs) (hs : s < 18446744073709551616) (hC : COk cs) (ha : a < 18446744073709551616) (hb : b < 18446744073709551616) (hv : v < 18446744073709551616) (hw : w < 18446744073709551616) : Cn gAll 6 [md k s cs, u a, (false, [.i .u8 (q : Int)]), u v, u b, (false, [.i .u8 (q' : Int)]), u w] [bb true] := by
  refine con rfl rfl atlaslaw03_MemTurned_c atlaslaw03_MemTurned_p rfl ?_
  unfold atlaslaw03_MemTurned_ir
  simp only [lv_cons, lv_nil, app_cons, app_nil]
  refine wp_call rfl awake_con rfl ?_
  simp only [lv_cons, lv_nil, app_cons, app_nil]
  refine wp_lt (d := (.b false)) rfl ?_
  simp only [lv_cons, lv_nil, app_cons, app_nil]
  refine wp_ite (t := false) rfl (fun h => by cases h) (fun _ => ?_)
  refine wp_call rfl (fits_con (k := k) (s := s) (cs := cs) hk hs) rfl ?_
  simp only [lv_cons, lv_nil, app_cons, app_nil]
  refine wp_lt rfl ?_
  simp only [lv_cons, lv_nil, app_cons, app_nil]
  refine wp_ite rfl (fun hf => ?_) (fun hf => ?_)
  · refine wp_call rfl awake_con rfl ?_
    simp only [lv_cons, lv_nil, app_cons, app_nil]
    exact wp_return rfl rfl
  have hf : cs.length ≤ 300 ∧ rightM s cs = true := by simpa using hf
  obtain ⟨hl, hr⟩ := hf
  have hR : RM s cs := right_rm.1 hr
  refine wp_lt (e_eql rfl rfl) ?_
  simp only [lv_cons, lv_nil, app_cons, app_nil]
  refine wp_ite rfl (fun h0 => ?_) (fun h0 => ?_)
  · refine wp_call rfl awake_con rfl ?_
    simp only [lv_cons, lv_nil, app_cons, app_nil]
    exact wp_return rfl rfl
  have h0 : s ≠ 0 := by
    have := beq_eq_false_iff_ne.1 h0
    omega
  have hev := hR.even
  have hmost := hR.most
  obtain ⟨S, hSe⟩ : ∃ S, S = pickN q := ⟨_, rfl⟩
  obtain ⟨O, hOe⟩ : ∃ O, O = pickN q' := ⟨_, rfl⟩
  refine wp_call rfl (refPick_con (q := q)) rfl ?_
  simp only [lv_cons, lv_nil, app_cons, app_nil]
  have hS : Sz S := by rw [hSe]; exact pick_or q
  rw [← hSe]
  have hSl : S ≤ 8 := by rcases hS with h | h | h | h <;> omega
  have hSp : S ≠ 0 := by rcases hS with h | h | h | h <;> omega
  refine wp_lt (cv_u rfl (by omega)) ?_
  simp only [lv_cons, lv_nil, app_cons, app_nil]
  refine wp_call rfl (refPick_con (q := q')) rfl ?_
  simp only [lv_cons, lv_nil, app_cons, app_nil]
  have hO : Sz O := by rw [hOe]; exact pick_or q'
  rw [← hOe]
  have hOl : O ≤ 8 := by rcases hO with h | h | h | h <;> omega
  have hOp : O ≠ 0 := by rcases hO with h | h | h | h <;> omega
  refine wp_lt (cv_u rfl (by omega)) ?_
  simp only [lv_cons, lv_nil, app_cons, app_nil]
  have hmod := Nat.mod_lt a (Nat.pos_of_ne_zero h0)
  have hmod' := Nat.mod_lt b (Nat.pos_of_ne_zero h0)
  refine wp_lt (u_rem (a := a) (b := s) rfl rfl h0) ?_
  simp only [lv_cons, lv_nil, app_cons, app_nil]
  refine wp_lt (u_quo (b := S) rfl rfl hSp (by omega)) ?_
  simp only [lv_cons, lv_nil, app_cons, app_nil]
  refine wp_lt (u_mul (b := S) rfl rfl (Nat.lt_of_le_of_lt (Nat.div_mul_le_self _ _) (by omega))) ?_
  simp only [lv_cons, lv_nil, app_cons, app_nil]
  refine wp_lt (u_rem (a := b) (b := s) rfl rfl h0) ?_
  simp only [lv_cons, lv_nil, app_cons, app_nil]
  refine wp_lt (u_quo (b := O) rfl rfl hOp (by omega)) ?_
  simp only [lv_cons, lv_nil, app_cons, app_nil]
  refine wp_lt (u_mul (b := O) rfl rfl (Nat.lt_of_le_of_lt (Nat.div_mul_le_self _ _) (by omega))) ?_
  simp only [lv_cons, lv_nil, app_cons, app_nil]
  obtain ⟨hiS, hiL⟩ := hS.place (a := a) hev h0
  obtain ⟨hkO, hkL⟩ := hO.place (a := b) hev h0
  clear hmod hmod'
  generalize a % s / S * S = x at hiS hiL ⊢
  generalize b % s / O * O = y at hkO hkL ⊢
  have hxs : x < s := by omega
  have hys : y < s := by omega
  have wx := hS.wrong hiS hxs
  have wy := hO.wrong hkO hys
  have hR1 := hR.store (n := S) (v := v) hxs
  have hC1 := cok_store (n := S) (v := v) hR hC hxs
  have hl1 := len_store (s := s) (a := x) (n := S) (v := v) (cs := cs)
  have hR2 := hR1.store (n := O) (v := w) hys
  have hl2 := len_store (s := s) (a := y) (n := O) (v := w) (cs := storeM s cs x S v)
  have hR3 := hR.store (n := O) (v := w) hys
  have hC3 := cok_store (n := O) (v := w) hR hC hys
  have hl3 := len_store (s := s) (a := y) (n := O) (v := w) (cs := cs)
  have hR4 := hR3.store (n := S) (v := v) hxs
  have hback := store_back (n := S) (v := v) hR hC hxs
  have hturn := fun hd => store_turn (v := v) (w := w) hR hS hO hiS hkO hxs hys hd
  have hlw : loadN s cs x S < 18446744073709551616 := Nat.lt_of_lt_of_le getN_lt hS.pow
  refine wp_lt (cv_i (n := (S : Int)) rfl (by omega) (by omega)) ?_
  simp only [lv_cons, lv_nil, app_cons, app_nil]
  refine wp_call rfl (memLoad_ok (s := s) (a := x) (n := S) hk hR.asc hC (by omega) (by omega) hS.ok wx) rfl ?_
  simp only [lv_cons, lv_nil, app_cons, app_nil]
  refine wp_lt (cv_i (n := (S : Int)) rfl (by omega) (by omega)) ?_
  simp only [lv_cons, lv_nil, app_cons, app_nil]
  refine wp_call rfl (memStore_ok (s := s) (a := x) (n := S) (v := v) hk hR.asc hC (by omega) (by omega) hv hS.ok wx) rfl ?_
  simp only [lv_cons, lv_nil, app_cons, app_nil]
  refine wp_lt (cv_i (n := (O : Int)) rfl (by omega) (by omega)) ?_
  simp only [lv_cons, lv_nil, app_cons, app_nil]
  refine wp_call rfl (memStore_ok (s := s) (a := y) (n := O) (v := w) (.inl rfl) hR1.asc hC1 (by omega) (by omega) hw hO.ok wy) rfl ?_
  simp only [lv_cons, lv_nil, app_cons, app_nil]
  refine wp_lt (cv_i (n := (O : Int)) rfl (by omega) (by omega)) ?_
  simp only [lv_cons, lv_nil, app_cons, app_nil]
  refine wp_call rfl (memStore_ok (s := s) (a := y) (n := O) (v := w) hk hR.asc hC (by omega) (by omega) hw hO.ok wy) rfl ?_
  simp only [lv_cons, lv_nil, app_cons, app_nil]
  refine wp_lt (cv_i (n := (S : Int)) rfl (by omega) (by omega)) ?_
  simp only [lv_cons, lv_nil, app_cons, app_nil]
  refine wp_call rfl (memStore_ok (s := s) (a := x) (n := S) (v := v) (.inl rfl) hR3.asc hC3 (by omega) (by omega) hv hS.ok wx) rfl ?_
  simp only [lv_cons, lv_nil, app_cons, app_nil]
  refine wp_lt (cv_i (n := (S : Int)) rfl (by omega) (by omega)) ?_
  simp only [lv_cons, lv_nil, app_cons, app_nil]
  refine wp_call rfl (memStore_ok (s := s) (a := x) (n := S) (v := loadN s cs x S) (.inl rfl) hR1.asc hC1 (by omega) (by omega) hlw hS.ok wx) rfl ?_
  rw [hback]
  simp only [lv_cons, lv_nil, app_cons, app_nil]
  refine wp_call rfl (sameM_con (s := s) (.inl rfl) hk (by omega)) rfl ?_
  simp only [lv_cons, lv_nil, app_cons, app_nil]
  refine wp_ite (t := true) rfl (fun _ => ?_) (fun h => by cases h)
  refine wp_lt (u_add rfl rfl (by omega)) ?_
  simp only [lv_cons, lv_nil, app_cons, app_nil]
  refine wp_lt (e_lss rfl rfl) ?_
  simp only [lv_cons, lv_nil, app_cons, app_nil]
  refine wp_ite rfl (fun h1 => ?_) (fun h1 => ?_)
  · refine wp_lt (u_add rfl rfl (by omega)) ?_
    simp only [lv_cons, lv_nil, app_cons, app_nil]
    refine wp_lt (e_lss rfl rfl) ?_
    simp only [lv_cons, lv_nil, app_cons, app_nil]
    refine wp_ite rfl (fun h2 => ?_) (fun h2 => ?_)
    · exact wp_return rfl rfl
    · have h2 := of_decide_eq_false h2
      rw [hturn (.inl (by omega))]
      refine wp_call rfl (sameM_con (s := s) (.inl rfl) (.inl rfl) (by have := hturn (.inl (by omega)); rw [← this]; omega)) rfl ?_
      simp only [lv_cons, lv_nil, app_cons, app_nil]
      exact wp_return rfl rfl
  · have h1 := of_decide_eq_false h1
    rw [hturn (.inr (by omega))]
    refine wp_call rfl (sameM_con (s := s) (.inl rfl) (.inl rfl) (by have := hturn (.inr (by omega)); rw [← this]; omega)) rfl ?_
    simp only [lv_cons, lv_nil, app_cons, app_nil]
    exact wp_return rfl rfl

theorem MemHalves_con {k s a v q : Nat} {cs : List Cl} (hk : Kd k cs) (hs : s < 18446744073709551616) (hC : COk cs) (ha : a < 18446744073709551616) (hv : v < 18446744073709551616) : Cn gAll 8 [md k s cs, u a, (false, [.i .u8 (q : Int)]), u v] [bb true] := by
  refine con rfl rfl atlaslaw03_MemHalves_c atlaslaw03_MemHalves_p rfl ?_
  unfold atlaslaw03_MemHalves_ir
  simp only [lv_cons, lv_nil, app_cons, app_nil]
  refine wp_call rfl awake_con rfl ?_
  simp only [lv_cons, lv_nil, app_cons, app_nil]
  refine wp_lt (d := (.b false)) rfl ?_
  simp only [lv_cons, lv_nil, app_cons, app_nil]
  refine wp_ite (t := false) rfl (fun h => by cases h) (fun _ => ?_)
  refine wp_call rfl (fits_con (k := k) (s := s) (cs := cs) hk hs) rfl ?_
  simp only [lv_cons, lv_nil, app_cons, app_nil]
  refine wp_lt rfl ?_
  simp only [lv_cons, lv_nil, app_cons, app_nil]
  refine wp_ite rfl (fun hf => ?_) (fun hf => ?_)
  · refine wp_call rfl awake_con rfl ?_
    simp only [lv_cons, lv_nil, app_cons, app_nil]
    exact wp_return rfl rfl
  have hf : cs.length ≤ 300 ∧ rightM s cs = true := by simpa using hf
  obtain ⟨hl, hr⟩ := hf
  have hR : RM s cs := right_rm.1 hr
  refine wp_lt (e_eql rfl rfl) ?_
  simp only [lv_cons, lv_nil, app_cons, app_nil]
  refine wp_ite rfl (fun h0 => ?_) (fun h0 => ?_)
  · refine wp_call rfl awake_con rfl ?_
    simp only [lv_cons, lv_nil, app_cons, app_nil]
    exact wp_return rfl rfl
  have h0 : s ≠ 0 := by
    have := beq_eq_false_iff_ne.1 h0
    omega
  have hev := hR.even
  have hmost := hR.most
  refine wp_lt (rem8 (a := q) (m := 3) rfl (by decide)) ?_
  simp only [lv_cons, lv_nil, app_cons, app_nil]
  obtain ⟨H, hHe⟩ : ∃ H, H = pickN (q % 3) := ⟨_, rfl⟩
  refine wp_call rfl (refPick_con (q := q % 3)) rfl ?_
  simp only [lv_cons, lv_nil, app_cons, app_nil]
  have hH : H = 1 ∨ H = 2 ∨ H = 4 := by
    have : q % 3 < 3 := Nat.mod_lt _ (by decide)
    rw [hHe]
    generalize q % 3 = r at this
    rcases r with _ | _ | _ | r
    · exact .inl rfl
    · exact .inr (.inl rfl)
    · exact .inr (.inr rfl)
    · omega
  rw [← hHe]
  have hS : Sz H := by rcases hH with h | h | h <;> simp [Sz, h]
  have hS2 : Sz (2 * H) := by rcases hH with h | h | h <;> simp [Sz, h]
  have hHl : H ≤ 4 := by omega
  refine wp_lt (cv_u rfl (by omega)) ?_
  simp only [lv_cons, lv_nil, app_cons, app_nil]
  have hmod := Nat.mod_lt a (Nat.pos_of_ne_zero h0)
  refine wp_lt (u_rem (a := a) (b := s) rfl rfl h0) ?_
  simp only [lv_cons, lv_nil, app_cons, app_nil]
  refine wp_lt (u_mul (a := 2) (b := H) rfl rfl (by omega)) ?_
  simp only [lv_cons, lv_nil, app_cons, app_nil]
  refine wp_lt (u_quo (b := 2 * H) rfl rfl (by omega) (by omega)) ?_
  simp only [lv_cons, lv_nil, app_cons, app_nil]
  refine wp_lt (u_mul (a := 2) (b := H) rfl rfl (by omega)) ?_
  simp only [lv_cons, lv_nil, app_cons, app_nil]
  refine wp_lt (u_mul (b := 2 * H) rfl rfl (Nat.lt_of_le_of_lt (Nat.div_mul_le_self _ _) (by omega))) ?_
  simp only [lv_cons, lv_nil, app_cons, app_nil]
  obtain ⟨hiS, hiL⟩ := hS2.place (a := a) hev h0
  clear hmod
  generalize a % s / (2 * H) * (2 * H) = x at hiS hiL ⊢
  have hxs : x < s := by omega
  have hx1 : x % H = 0 := by rcases hH with h | h | h <;> subst h <;> omega
  have hx2 : (x + H) % H = 0 := by rcases hH with h | h | h <;> subst h <;> omega
  have w2 := hS2.wrong hiS hxs
  have w1 := hS.wrong hx1 hxs
  have w3 := hS.wrong hx2 (show x + H < s by omega)
  have lh := load_halves hR.asc hS2 hiS hiL
  have sh := store_halves (v := v) hR hS2 hiS hiL
  have p1 : loadN s cs x H < 2 ^ (H * 8) := getN_lt
  have p2 : loadN s cs (x + H) H < 2 ^ (H * 8) := getN_lt
  have p3 : loadN s cs x H + loadN s cs (x + H) H * 2 ^ (8 * H) < 18446744073709551616 ∧ loadN s cs (x + H) H * 2 ^ (8 * H) < 18446744073709551616 := by
    generalize loadN s cs x H = z1 at p1
    generalize loadN s cs (x + H) H = z2 at p2
    rcases hH with h | h | h <;> subst h <;> omega
  have hR1 := hR.store (n := 2 * H) (v := v) hxs
  have hC1 := cok_store (n := 2 * H) (v := v) hR hC hxs
  have hl1 := len_store (s := s) (a := x) (n := 2 * H) (v := v) (cs := cs)
  have hR2 := hR.store (n := H) (v := v) hxs
  have hC2 := cok_store (n := H) (v := v) hR hC hxs
  have hl2 := len_store (s := s) (a := x) (n := H) (v := v) (cs := cs)
  refine wp_lt (u_mul (a := 2) (b := H) rfl rfl (by omega)) ?_
  simp only [lv_cons, lv_nil, app_cons, app_nil]
  refine wp_lt (cv_i (n := ((2 * H : Nat) : Int)) rfl (by omega) (by omega)) ?_
  simp only [lv_cons, lv_nil, app_cons, app_nil]
  refine wp_call rfl (memLoad_ok (s := s) (a := x) (n := 2 * H) hk hR.asc hC (by omega) (by omega) hS2.ok w2) rfl ?_
  simp only [lv_cons, lv_nil, app_cons, app_nil]
  refine wp_lt (cv_i (n := (H : Int)) rfl (by omega) (by omega)) ?_
  simp only [lv_cons, lv_nil, app_cons, app_nil]
  refine wp_call rfl (memLoad_ok (s := s) (a := x) (n := H) hk hR.asc hC (by omega) (by omega) hS.ok w1) rfl ?_
  simp only [lv_cons, lv_nil, app_cons, app_nil]
  refine wp_lt (u_add rfl rfl (by omega)) ?_
  simp only [lv_cons, lv_nil, app_cons, app_nil]
  refine wp_lt (cv_i (n := (H : Int)) rfl (by omega) (by omega)) ?_
  simp only [lv_cons, lv_nil, app_cons, app_nil]
  refine wp_call rfl (memLoad_ok (s := s) (a := x + H) (n := H) hk hR.asc hC (by omega) (by omega) hS.ok w3) rfl ?_
  simp only [lv_cons, lv_nil, app_cons, app_nil]
  refine wp_lt (d := .b false) rfl ?_
  simp only [lv_cons, lv_nil, app_cons, app_nil]
  refine wp_ite (t := false) rfl (fun h => by cases h) (fun _ => ?_)
  refine wp_lt (d := .b false) rfl ?_
  simp only [lv_cons, lv_nil, app_cons, app_nil]
  refine wp_ite (t := false) rfl (fun h => by cases h) (fun _ => ?_)
  refine wp_lt (d := .b false) rfl ?_
  simp only [lv_cons, lv_nil, app_cons, app_nil]
  refine wp_ite (t := false) rfl (fun h => by cases h) (fun _ => ?_)
  refine wp_lt (u_mul (a := 8) (b := H) rfl rfl (by omega)) ?_
  simp only [lv_cons, lv_nil, app_cons, app_nil]
  refine wp_lt (u_shl (b := 8 * H) rfl rfl (by omega) p3.2) ?_
  simp only [lv_cons, lv_nil, app_cons, app_nil]
  refine wp_lt (u_add rfl rfl p3.1) ?_
  rw [← lh]
  simp only [lv_cons, lv_nil, app_cons, app_nil]
  refine wp_lt (d := .b false) (cmp_e rfl (bne_self_eq_false _)) ?_
  simp only [lv_cons, lv_nil, app_cons, app_nil]
  refine wp_ite (t := false) rfl (fun h => by cases h) (fun _ => ?_)
  refine wp_lt (u_mul (a := 2) (b := H) rfl rfl (by omega)) ?_
  simp only [lv_cons, lv_nil, app_cons, app_nil]
  refine wp_lt (cv_i (n := ((2 * H : Nat) : Int)) rfl (by omega) (by omega)) ?_
  simp only [lv_cons, lv_nil, app_cons, app_nil]
  refine wp_call rfl (memStore_ok (s := s) (a := x) (n := 2 * H) (v := v) hk hR.asc hC (by omega) (by omega) hv hS2.ok w2) rfl ?_
  simp only [lv_cons, lv_nil, app_cons, app_nil]
  refine wp_lt (cv_i (n := (H : Int)) rfl (by omega) (by omega)) ?_
  simp only [lv_cons, lv_nil, app_cons, app_nil]
  refine wp_call rfl (memStore_ok (s := s) (a := x) (n := H) (v := v) hk hR.asc hC (by omega) (by omega) hv hS.ok w1) rfl ?_
  simp only [lv_cons, lv_nil, app_cons, app_nil]
  refine wp_lt (u_add rfl rfl (by omega)) ?_
  simp only [lv_cons, lv_nil, app_cons, app_nil]
  refine wp_lt (cv_i (n := (H : Int)) rfl (by omega) (by omega)) ?_
  simp only [lv_cons, lv_nil, app_cons, app_nil]
  refine wp_lt (u_mul (a := 8) (b := H) rfl rfl (by omega)) ?_
  simp only [lv_cons, lv_nil, app_cons, app_nil]
  refine wp_lt (u_shr (b := 8 * H) rfl rfl (by omega)) ?_
  simp only [lv_cons, lv_nil, app_cons, app_nil]
  refine wp_call rfl (memStore_ok (s := s) (a := x + H) (n := H) (v := v / 2 ^ (8 * H)) (.inl rfl) hR2.asc hC2 (by omega) (by omega) (Nat.lt_of_le_of_lt (Nat.div_le_self _ _) hv) hS.ok w3) rfl ?_
  rw [sh]
  simp only [lv_cons, lv_nil, app_cons, app_nil]
  refine wp_lt (u_quo (b := 8) rfl rfl (by omega) (by omega)) ?_
  simp only [lv_cons, lv_nil, app_cons, app_nil]
  refine wp_lt (u_mul (b := 8) rfl rfl (by omega)) ?_
  simp only [lv_cons, lv_nil, app_cons, app_nil]
  have hw8 : loadN s (storeM s cs x (2 * H) v) (x / 8 * 8) 8 = wordN s (storeM s cs x (2 * H) v) x := load_word hC1 hxs
  refine wp_call rfl (memLoad_ok (s := s) (a := x / 8 * 8) (n := 8) (.inl rfl) hR1.asc hC1 (by omega) (by omega) (by decide) ((show Sz 8 from .inr (.inr (.inr rfl))).wrong (by omega) (by omega))) rfl ?_
  rw [hw8]
  simp only [lv_cons, lv_nil, app_cons, app_nil]
  refine wp_call rfl (sameM_con (s := s) (.inl rfl) (.inl rfl) (by omega)) rfl ?_
  simp only [lv_cons, lv_nil, app_cons, app_nil]
  refine wp_ite (t := true) rfl (fun _ => ?_) (fun h => by cases h)
  refine wp_call rfl (memWord_con (s := s) (a := x) (.inl rfl) hR1.asc (by omega) (by omega)) rfl ?_
  simp only [lv_cons, lv_nil, app_cons, app_nil]
  exact wp_lt (d := .b true) (cmp_e (e_eql rfl rfl) (beq_self_eq_true _)) (wp_return rfl rfl)
end Go.Proofs.Ytffahdloddkcfaa.Sx
