/-
  Layer 14: TlbFinds.
-/
import Derived.Test.YtmjhghclgockjaaDoorTlba
namespace Go.Proofs.YtmjhghclgockjaaDoor.Sx
open Go
set_option linter.unusedVariables false
set_option linter.unusedSimpArgs false
set_option maxRecDepth 100000

/-! ### what is put is found -/
theorem may_valid {e : En} (h : e.may = true) (hv : e.v = true) : e.mayB = true := by
  unfold En.may at h
  rwa [hv] at h
theorem cov_page {e : En} {a : Nat} (hm : e.may = true) (h : coversF e a = true) : numF a / pgN e.lv = e.vpn / pgN e.lv := by
  have hb := may_valid hm (cov_v h)
  simp only [En.mayB, Bool.and_eq_true, decide_eq_true_eq] at hb
  simp only [coversF, Bool.and_eq_true, decide_eq_true_eq] at h
  have hp := pgN_pos (l := e.lv)
  have h1 : e.vpn % pgN e.lv = 0 := hb.1.2
  have h2 : e.vpn ≤ numF a := h.1.2
  have h3 : numF a < e.vpn + pgN e.lv := h.2
  generalize pgN e.lv = p at *
  generalize numF a = y at *
  obtain ⟨c, hc⟩ := Nat.dvd_of_mod_eq_zero h1
  rw [hc] at h2 h3 ⊢
  rw [Nat.mul_div_cancel_left _ hp]
  refine Nat.div_eq_of_lt_le ?_ ?_
  · rw [Nat.mul_comm]; exact h2
  · rw [Nat.add_mul, Nat.one_mul, Nat.mul_comm]; exact h3
theorem cov_idx {e : En} {a n : Nat} (hm : e.may = true) (h : coversF e a = true) : idxF n (numF a) e.lv = idxF n e.vpn e.lv := by
  unfold idxF
  rw [cov_page hm h]
theorem hit_self {e : En} {a : Nat} (h : coversF e a = true) : hitF e e.asid a e.lv = true := by
  simp [hitF, matchF, h]
theorem lv_is {l : Int} (h : Lv l) : ∃ q : Nat, q < 3 ∧ l = (q : Int) := by
  unfold Lv at h
  exact ⟨l.toNat, by omega, by omega⟩
theorem putT_found {ts : List SetD} {e : En} {v : Int} {a : Nat} (hT : TR ts) (hn : 0 < ts.length) (he : e.Ok) (hm : e.may = true) (h : coversF e a = true) : (findT (putT ts e v) e.asid a).2.2.2 = true ∧ (findT (putT ts e v) e.asid a).1.lv ≤ e.lv := by
  obtain ⟨j, k, s, hj, hs, hk, hp⟩ := putT_at (e := e) (v := v) hT hn
  obtain ⟨q, hq3, hq⟩ := lv_is (may_lv hm)
  have hjl := (List.getElem?_eq_some_iff.1 hs).1
  have hx : (putT ts e v)[lvI (putT ts e v) a q]? = some (putW e s k) := by
    have : lvI (putT ts e v) a q = j := by
      rw [lvI, putT_len, ← hq, cov_idx hm h, hj]
    rw [this, hp, List.getElem?_set_self hjl]
  have hat : (putW e s k).at k = e := by rw [putW_at hk, if_pos rfl]
  have hh : hitF ((putW e s k).at k) e.asid a q = true := by rw [hat, ← hq]; exact hit_self h
  have hok := findT_of hq3 hx hk hh
  refine ⟨hok, ?_⟩
  obtain ⟨l, j', k', s', hl, hs', hj', hk', hf, hb, hE⟩ := findT_use hok
  rw [hE]
  have hlv := (hit_match (findF_hit hf)).1
  show (s'.at k').lv ≤ e.lv
  rw [hlv, hq]
  by_cases hlq : l ≤ q
  · omega
  · exfalso
    have h1 := hb q (by omega)
    rw [lvF, setAt_of hx, hit_find hk hh] at h1
    cases h1
theorem putT_new {ts : List SetD} {e : En} {v : Int} {n a : Nat} (hT : TR ts) (hn : 0 < ts.length) (hw : (findT ts n a).2.2.2 = false) (hi : (findT (putT ts e v) n a).2.2.2 = true) : (findT (putT ts e v) n a).1 = e := by
  obtain ⟨j, k, s, hj, hs, hk, hp⟩ := putT_at (e := e) (v := v) hT hn
  have hjl := (List.getElem?_eq_some_iff.1 hs).1
  obtain ⟨l, j', k', s', hl, hs', hj', hk', hf, hb, hE⟩ := findT_use hi
  rw [hE]
  show s'.at k' = e
  have hh := findF_hit hf
  have hlv : lvI (putT ts e v) a l = lvI ts a l := by rw [lvI, lvI, putT_len]
  rw [hlv] at hj'
  subst hj'
  rw [hp, List.getElem?_set] at hs'
  split at hs'
  · rename_i hjj
    obtain rfl : putW e s k = s' := by simpa using hs'
    rw [putW_at hk'] at hh ⊢
    split
    · rfl
    · rename_i hkk
      rw [if_neg hkk] at hh
      exfalso
      have h2 : dW e (s.at k') = s.at k' := by
        have h3 := cov_v (match_cov (hit_match hh).2).1
        rw [dW_v] at h3
        unfold dW
        rw [if_neg]
        intro h4
        rw [h4] at h3
        simp at h3
      rw [h2] at hh
      have := findT_of hl (hjj ▸ hs) hk' hh
      rw [hw] at this
      cases this
  · exfalso
    have := findT_of hl hs' hk' hh
    rw [hw] at this
    cases this

set_option maxHeartbeats 4000000 in
theorem TlbFinds_con {ts : List SetD} {e : En} {v : Int} {n a : Nat} (hO : TOk ts) (hl : ts.length < 9223372036854775808) (he : e.Ok) (ha : a < 18446744073709551616) : Cn gAll 3 [tv ts, e.dv, i v, u a, u n] [bb true] := by
  refine con rfl rfl atlaslaw14_TlbFinds_c atlaslaw14_TlbFinds_p rfl ?_
  unfold atlaslaw14_TlbFinds_ir
  simp only [lv_cons, lv_nil, SetD.ds, En.ds, app_cons, app_nil]
  refine wp_jn (fun es => ∃ b, es = [.b b] ∧ (b = false → rightT ts = true ∧ e.may = true ∧ e.v = true ∧ 0 < ts.length)) ?_ ?_
  rotate_left
  · intro Q hQ
    refine wp_call rfl awake14_con rfl ?_
    simp only [lv_cons, lv_nil, app_cons, app_nil]
    refine wp_lt (d := (.b false)) rfl ?_
    simp only [lv_cons, lv_nil, app_cons, app_nil]
    refine wp_ite (t := false) rfl (fun h => by cases h) (fun _ => ?_)
    refine wp_call rfl (refRightT_con hO hl) rfl ?_
    simp only [lv_cons, lv_nil, app_cons, app_nil]
    refine wp_lt rfl ?_
    simp only [lv_cons, lv_nil, app_cons, app_nil]
    refine wp_ite rfl (fun _ => wp_cont rfl rfl (hQ _ ⟨_, rfl, fun h => by cases h⟩)) (fun h1 => ?_)
    refine wp_call rfl (refMay_con (e := e)) rfl ?_
    simp only [lv_cons, lv_nil, app_cons, app_nil]
    refine wp_lt rfl ?_
    simp only [lv_cons, lv_nil, app_cons, app_nil]
    refine wp_ite rfl (fun _ => wp_cont rfl rfl (hQ _ ⟨_, rfl, fun h => by cases h⟩)) (fun h2 => ?_)
    refine wp_lt rfl ?_
    simp only [lv_cons, lv_nil, app_cons, app_nil]
    refine wp_ite rfl (fun _ => wp_cont rfl rfl (hQ _ ⟨_, rfl, fun h => by cases h⟩)) (fun h3 => ?_)
    refine wp_call rfl isVa_con rfl ?_
    simp only [lv_cons, lv_nil, app_cons, app_nil]
    refine wp_lt rfl ?_
    simp only [lv_cons, lv_nil, app_cons, app_nil]
    refine wp_ite rfl (fun _ => wp_cont rfl rfl (hQ _ ⟨_, rfl, fun h => by cases h⟩)) (fun h4 => ?_)
    refine wp_lt (len_is rfl (List.length_map ..)) ?_
    simp only [lv_cons, lv_nil, app_cons, app_nil]
    refine wp_lt rfl ?_
    simp only [lv_cons, lv_nil, app_cons, app_nil]
    refine wp_cont rfl rfl (hQ _ ⟨_, rfl, fun h => ⟨by simpa using h1, by simpa using h2, by simpa using h3, ?_⟩⟩)
    have : ¬ ts.length = 0 := by simpa using h
    omega
  rintro es ⟨b, rfl, hb⟩
  simp only [lv_cons, lv_nil, app_cons, app_nil]
  refine wp_ite rfl (fun h => ?_) (fun h => ?_)
  · refine wp_call rfl awake14_con rfl ?_
    exact wp_return rfl rfl
  obtain ⟨hr, hmay, hev, hn⟩ := hb h
  subst h
  clear hb
  have hTR : TR ts := ⟨hr, hO⟩
  have hl16 := hTR.len
  have hX := hTR.put (v := v) he hmay
  have hXl := putT_len (ts := ts) (e := e) (v := v)
  have hfd := putT_found (a := a) (v := v) hTR hn he hmay
  have hnw := putT_new (e := e) (v := v) (n := n) (a := a) hTR hn
  refine wp_call rfl (tlbPut_con (e := e) (v := v) hTR he hmay) rfl ?_
  generalize putT ts e v = xs at hX hXl hfd hnw ⊢
  simp only [lv_cons, lv_nil, app_cons, app_nil]
  refine wp_jn (fun es => es = [.b false]) ?_ ?_
  rotate_left
  · intro Q hQ
    refine wp_call rfl (tlbRight_con hX.ok (by omega)) rfl ?_
    rw [hX.right]
    simp only [lv_cons, lv_nil, app_cons, app_nil]
    refine wp_lt (d := (.b false)) rfl ?_
    simp only [lv_cons, lv_nil, app_cons, app_nil]
    refine wp_ite (t := false) rfl (fun h => by cases h) (fun _ => ?_)
    refine wp_lt (len_is rfl (List.length_map ..)) ?_
    simp only [lv_cons, lv_nil, app_cons, app_nil]
    refine wp_lt (len_is rfl (List.length_map ..)) ?_
    simp only [lv_cons, lv_nil, app_cons, app_nil]
    rw [hXl]
    refine wp_lt (d := .b false) (cmp_e rfl (bne_self_eq_false _)) ?_
    simp only [lv_cons, lv_nil, app_cons, app_nil]
    exact wp_cont rfl rfl (hQ _ rfl)
  rintro es rfl
  simp only [lv_cons, lv_nil, app_cons, app_nil]
  refine wp_ite (t := false) rfl (fun h => by cases h) (fun _ => ?_)
  have hht := findT_hit (ts := xs) (n := e.asid) (a := a)
  have huse := findT_use (ts := xs) (n := e.asid) (a := a)
  refine wp_call rfl (tlbFind_con (n := e.asid) hX ha) rfl ?_
  simp only [findV]
  obtain ⟨⟨f, j, k, ok⟩, hF⟩ : ∃ r, findT xs e.asid a = r := ⟨_, rfl⟩
  rw [hF] at hht huse hfd ⊢
  simp only at hht huse hfd
  simp only [lv_cons, lv_nil, SetD.ds, En.ds, app_cons, app_nil]
  refine wp_jn (fun es => es = [.b false]) ?_ ?_
  rotate_left
  · intro Q hQ
    have hmt : ok = true → matchF f e.asid a = true := fun h => by
      obtain ⟨h1, h2, _⟩ := hht h
      simp only [matchF, h1, Bool.true_and, Bool.or_eq_true, beq_iff_eq]
      exact h2
    have hfm : ok = true → f.May := fun h => allT_may hX (hht h).2.2
    refine wp_call rfl (refCovers_con (e := e) ha (.inl (En.may_May hmay))) rfl ?_
    simp only [lv_cons, lv_nil, app_cons, app_nil]
    refine wp_ite rfl (fun hc => ?_) (fun hc => ?_)
    · obtain ⟨hok, hlv⟩ := hfd hc
      subst hok
      refine wp_lt (d := (.b false)) rfl ?_
      simp only [lv_cons, lv_nil, app_cons, app_nil]
      refine wp_ite (t := false) rfl (fun h => by cases h) (fun _ => ?_)
      refine wp_lt (d := .b false) (cmp_e rfl (decide_eq_false (by omega))) ?_
      simp only [lv_cons, lv_nil, app_cons, app_nil]
      refine wp_ite (t := false) rfl (fun h => by cases h) (fun _ => ?_)
      refine wp_ite (t := true) rfl (fun _ => ?_) (fun h => by cases h)
      have hcm := refMatches_con (e := f) (n := e.asid) ha (.inl (hfm rfl))
      rw [hmt rfl] at hcm
      refine wp_call rfl hcm rfl ?_
      simp only [lv_cons, lv_nil, app_cons, app_nil]
      refine wp_lt (d := (.b false)) rfl ?_
      simp only [lv_cons, lv_nil, app_cons, app_nil]
      exact wp_cont rfl rfl (hQ _ rfl)
    · refine wp_ite rfl (fun hok => ?_) (fun _ => wp_cont rfl rfl (hQ _ rfl))
      have hcm := refMatches_con (e := f) (n := e.asid) ha (.inl (hfm hok))
      rw [hmt hok] at hcm
      refine wp_call rfl hcm rfl ?_
      simp only [lv_cons, lv_nil, app_cons, app_nil]
      refine wp_lt (d := (.b false)) rfl ?_
      simp only [lv_cons, lv_nil, app_cons, app_nil]
      exact wp_cont rfl rfl (hQ _ rfl)
  rintro es rfl
  simp only [lv_cons, lv_nil, app_cons, app_nil]
  refine wp_ite (t := false) rfl (fun h => by cases h) (fun _ => ?_)
  refine wp_jn (fun es => es = [.b false]) ?_ ?_
  rotate_left
  · intro Q hQ
    refine wp_ite rfl (fun hok => ?_) (fun _ => wp_cont rfl rfl (hQ _ rfl))
    obtain ⟨l', j', k', s', _, hs', _, hk', _, _, hE⟩ := huse hok
    obtain ⟨rfl, rfl, rfl, rfl⟩ : f = s'.at k' ∧ j = j' ∧ k = (k' : Int) ∧ ok = true := by
      simpa using hE
    have hjl := (List.getElem?_eq_some_iff.1 hs').1
    have hrow := row_of hs'
    clear hht hfd huse hnw hr
    refine wp_lt (d := .b false) (cmp_e rfl (decide_eq_false (by omega))) ?_
    simp only [lv_cons, lv_nil, app_cons, app_nil]
    refine wp_ite (t := false) rfl (fun h => by cases h) (fun _ => ?_)
    refine wp_lt (len_is rfl (List.length_map ..)) ?_
    simp only [lv_cons, lv_nil, app_cons, app_nil]
    refine wp_lt (d := .b false) (cmp_e rfl (decide_eq_false (by omega))) ?_
    simp only [lv_cons, lv_nil, app_cons, app_nil]
    refine wp_ite (t := false) rfl (fun h => by cases h) (fun _ => ?_)
    refine wp_lt (d := .b false) (cmp_e rfl (decide_eq_false (by omega))) ?_
    simp only [lv_cons, lv_nil, app_cons, app_nil]
    refine wp_ite (t := false) rfl (fun h => by cases h) (fun _ => ?_)
    refine wp_lt (d := .b false) (cmp_e rfl (decide_eq_false (by omega))) ?_
    simp only [lv_cons, lv_nil, app_cons, app_nil]
    refine wp_ite (t := false) rfl (fun h => by cases h) (fun _ => ?_)
    refine wp_chk (inb_t rfl rfl (by rw [List.length_map]; exact hjl)) ?_
    have hcase : k' = 0 ∨ k' = 1 ∨ k' = 2 ∨ k' = 3 := by omega
    rcases hcase with rfl | rfl | rfl | rfl
    · skip
      refine wp_ite (t := true) rfl (fun _ => ?_) (fun h => by cases h)
      refine wp_lt (not_e (t := true) ?_) ?_
      focus
        refine ite_t (eqs_b (idx_e rfl rfl hrow rfl) rfl) ?_
        repeat' first
          | refine ite_t (eqs_b (idx_e rfl rfl hrow rfl) rfl) ?_
          | refine ite_t (eqs_i (idx_e rfl rfl hrow rfl) rfl) ?_
          | exact rfl
      simp only [lv_cons, lv_nil, app_cons, app_nil]
      exact wp_cont rfl rfl (hQ _ rfl)
    · refine wp_ite (t := false) rfl (fun h => by cases h) (fun _ => ?_)
      refine wp_ite (t := true) rfl (fun _ => ?_) (fun h => by cases h)
      refine wp_lt (not_e (t := true) ?_) ?_
      focus
        refine ite_t (eqs_b (idx_e rfl rfl hrow rfl) rfl) ?_
        repeat' first
          | refine ite_t (eqs_b (idx_e rfl rfl hrow rfl) rfl) ?_
          | refine ite_t (eqs_i (idx_e rfl rfl hrow rfl) rfl) ?_
          | exact rfl
      simp only [lv_cons, lv_nil, app_cons, app_nil]
      exact wp_cont rfl rfl (hQ _ rfl)
    · refine wp_ite (t := false) rfl (fun h => by cases h) (fun _ => ?_)
      refine wp_ite (t := false) rfl (fun h => by cases h) (fun _ => ?_)
      refine wp_ite (t := true) rfl (fun _ => ?_) (fun h => by cases h)
      refine wp_lt (not_e (t := true) ?_) ?_
      focus
        refine ite_t (eqs_b (idx_e rfl rfl hrow rfl) rfl) ?_
        repeat' first
          | refine ite_t (eqs_b (idx_e rfl rfl hrow rfl) rfl) ?_
          | refine ite_t (eqs_i (idx_e rfl rfl hrow rfl) rfl) ?_
          | exact rfl
      simp only [lv_cons, lv_nil, app_cons, app_nil]
      exact wp_cont rfl rfl (hQ _ rfl)
    · refine wp_ite (t := false) rfl (fun h => by cases h) (fun _ => ?_)
      refine wp_ite (t := false) rfl (fun h => by cases h) (fun _ => ?_)
      refine wp_ite (t := false) rfl (fun h => by cases h) (fun _ => ?_)
      refine wp_ite (t := true) rfl (fun _ => ?_) (fun h => by cases h)
      refine wp_lt (not_e (t := true) ?_) ?_
      focus
        refine ite_t (eqs_b (idx_e rfl rfl hrow rfl) rfl) ?_
        repeat' first
          | refine ite_t (eqs_b (idx_e rfl rfl hrow rfl) rfl) ?_
          | refine ite_t (eqs_i (idx_e rfl rfl hrow rfl) rfl) ?_
          | exact rfl
      simp only [lv_cons, lv_nil, app_cons, app_nil]
      exact wp_cont rfl rfl (hQ _ rfl)
  rintro es rfl
  simp only [lv_cons, lv_nil, app_cons, app_nil]
  refine wp_ite (t := false) rfl (fun h => by cases h) (fun _ => ?_)
  refine wp_call rfl (tlbFind_con (n := n) hTR ha) rfl ?_
  obtain ⟨⟨f2, j2, k2, was⟩, hW⟩ : ∃ r, findT ts n a = r := ⟨_, rfl⟩
  rw [hW] at hnw ⊢
  simp only [findV]
  simp only [lv_cons, lv_nil, SetD.ds, En.ds, app_cons, app_nil]
  refine wp_call rfl (tlbFind_con (n := n) hX ha) rfl ?_
  obtain ⟨⟨f3, j3, k3, is⟩, hI⟩ : ∃ r, findT xs n a = r := ⟨_, rfl⟩
  rw [hI] at hnw ⊢
  simp only [findV]
  simp only at hnw
  simp only [lv_cons, lv_nil, SetD.ds, En.ds, app_cons, app_nil]
  refine wp_jn (fun es => es = [.b true]) ?_ ?_
  · rintro es rfl
    simp only [lv_cons, lv_nil, app_cons, app_nil]
    exact wp_return rfl rfl
  · intro Q hQ
    refine wp_ite rfl (fun _ => wp_cont rfl rfl (hQ _ rfl)) (fun hwas => ?_)
    refine wp_lt rfl ?_
    simp only [lv_cons, lv_nil, app_cons, app_nil]
    refine wp_ite rfl (fun _ => wp_cont rfl rfl (hQ _ rfl)) (fun his => ?_)
    obtain rfl : f3 = e := hnw hwas (by simpa using his)
    refine wp_lt (d := .b true) ?_ ?_
    focus
      refine ite_t (eqs_b rfl rfl) ?_
      repeat' first
        | refine ite_t (eqs_b rfl rfl) ?_
        | refine ite_t (eqs_i rfl rfl) ?_
        | exact rfl
    simp only [lv_cons, lv_nil, app_cons, app_nil]
    exact wp_cont rfl rfl (hQ _ rfl)
end Go.Proofs.YtmjhghclgockjaaDoor.Sx
