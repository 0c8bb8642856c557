/-
  Layer 14: TlbDoes.
-/
import Derived.Test.YtmjhghclgockjaaDoorTlbd
namespace Go.Proofs.YtmjhghclgockjaaDoor.Sx
open Go
set_option linter.unusedVariables false
set_option linter.unusedSimpArgs false
set_option maxRecDepth 100000

theorem cmp_e {ρ : List D} {x : Ex} {t t' : Bool} (h : x.eval ρ = some (.b t)) (h' : t = t') : x.eval ρ = some (.b t') := by rw [h, h']
theorem min_e {ρ : List D} {y : Ex} {m : Nat} (h : y.eval ρ = some (I m)) (hm : m ≤ 16) : (Ex.ite (.bin .lss (.c (.i .i64 16)) y) (.c (.i .i64 16)) y).eval ρ = some (I m) := by
  simp only [Ex.eval, h, binD]
  rw [decide_eq_false (by omega)]
  rfl
theorem max_e {ρ : List D} {y : Ex} {m : Nat} (h : y.eval ρ = some (I m)) : (Ex.ite (.bin .gtr y (.c (.i .i64 0))) y (.c (.i .i64 0))).eval ρ = some (I m) := by
  simp only [Ex.eval, h, binD]
  by_cases hm : m = 0
  · subst hm; rfl
  · rw [decide_eq_true (by omega)]
    rfl
theorem not_id {t : Bool} : (!(t == t)) = false := by cases t <;> rfl
theorem findT_use {ts : List SetD} {n a : Nat} (h : (findT ts n a).2.2.2 = true) : ∃ (l : Nat) (j k : Nat) (s : SetD), l < 3 ∧ ts[j]? = some s ∧ j = lvI ts a l ∧ k < 4 ∧ findF s n a l = ((k : Int), true) ∧ (∀ q : Nat, q < l → (lvF ts n a (q : Int)).2 = false) ∧ findT ts n a = (s.at k, j, (k : Int), true) := by
  have hn : 0 < ts.length := by
    apply Nat.pos_of_ne_zero
    intro h0
    unfold findT at h
    rw [if_pos h0] at h
    cases h
  have key : ∀ l : Nat, l < 3 → (∀ q : Nat, q < l → (lvF ts n a (q : Int)).2 = false) → (lvF ts n a (l : Int)).2 = true → ∃ (l : Nat) (j k : Nat) (s : SetD), l < 3 ∧ ts[j]? = some s ∧ j = lvI ts a l ∧ k < 4 ∧ findF s n a l = ((k : Int), true) ∧ (∀ q : Nat, q < l → (lvF ts n a (q : Int)).2 = false) ∧ findT ts n a = (s.at k, j, (k : Int), true) := by
    intro l hl hb ht
    have hj : lvI ts a l < ts.length := idxF_lt hn
    have hs : ts[lvI ts a l]? = some ts[lvI ts a l] := List.getElem?_eq_getElem hj
    have hsa := setAt_of hs
    have hfc : lvF ts n a l = findF ts[lvI ts a l] n a l := by rw [lvF, hsa]
    rcases findF_cases ts[lvI ts a l] n a l with ⟨k, hk4, hk⟩ | hk
    · refine ⟨l, _, k, _, hl, hs, rfl, hk4, hk, hb, ?_⟩
      rw [findT_at hn hl hb ht]
      unfold foundT
      rw [hfc, hk, hsa, Int.toNat_natCast]
    · rw [hfc, hk] at ht
      cases ht
  by_cases h0 : (lvF ts n a 0).2 = true
  · exact key 0 (by omega) (fun q hq => by omega) h0
  have h0 : (lvF ts n a 0).2 = false := by simpa using h0
  by_cases h1 : (lvF ts n a 1).2 = true
  · refine key 1 (by omega) (fun q hq => ?_) h1
    obtain rfl : q = 0 := by omega
    exact h0
  have h1 : (lvF ts n a 1).2 = false := by simpa using h1
  by_cases h2 : (lvF ts n a 2).2 = true
  · refine key 2 (by omega) (fun q hq => ?_) h2
    have : q = 0 ∨ q = 1 := by omega
    rcases this with rfl | rfl
    · exact h0
    · exact h1
  have h2 : (lvF ts n a 2).2 = false := by simpa using h2
  exfalso
  unfold findT at h
  rw [if_neg (by omega), if_neg (by rw [h0]; decide), if_neg (by rw [h1]; decide), if_neg (by rw [h2]; decide)] at h
  cases h
theorem dropT_len {ts : List SetD} {j w : Int} : (dropT ts j w).1.length = ts.length := by
  unfold dropT
  split
  · split
    · rw [List.length_set]
    · rfl
  · rfl

theorem TlbDoes_con {ts : List SetD} {e : En} {v st wy m : Int} {n a : Nat} (hO : TOk ts) (hl : ts.length < 9223372036854775808) (he : e.Ok) (ha : a < 18446744073709551616) : Cn gAll 6 [tv ts, e.dv, i v, i st, i wy, u n, u a, i m] [bb true] := by
  refine con rfl rfl atlaslaw14_TlbDoes_c atlaslaw14_TlbDoes_p rfl ?_
  unfold atlaslaw14_TlbDoes_ir
  simp only [lv_cons, lv_nil, SetD.ds, En.ds, app_cons, app_nil]
  refine wp_jn (fun es => ∃ b, es = [.b b] ∧ (b = false → ts.length ≤ 20)) ?_ ?_
  rotate_left
  · intro Q hQ
    refine wp_call rfl awake14_con rfl ?_
    simp only [lv_cons, lv_nil, app_cons, app_nil]
    refine wp_lt (d := (.b false)) rfl ?_
    simp only [lv_cons, lv_nil, app_cons, app_nil]
    refine wp_ite (t := false) rfl (fun h => by cases h) (fun _ => ?_)
    refine wp_lt (len_is rfl (List.length_map ..)) ?_
    simp only [lv_cons, lv_nil, app_cons, app_nil]
    refine wp_lt rfl ?_
    simp only [lv_cons, lv_nil, app_cons, app_nil]
    exact wp_cont rfl rfl (hQ _ ⟨_, rfl, fun h => by have := of_decide_eq_false h; omega⟩)
  rintro es ⟨b, rfl, hb⟩
  simp only [lv_cons, lv_nil, app_cons, app_nil]
  refine wp_ite rfl (fun h => ?_) (fun h => ?_)
  · refine wp_call rfl awake14_con rfl ?_
    exact wp_return rfl rfl
  have hl20 := hb h
  subst h
  clear hb
  by_cases hm : 0 ≤ m ∧ m ≤ 16
  · obtain ⟨m, rfl⟩ := Int.eq_ofNat_of_zero_le hm.1
    have hm16 : m ≤ 16 := by omega
    refine wp_call rfl (tlbNew_ok hm16) rfl ?_
    simp only [lv_cons, lv_nil, app_cons, app_nil]
    refine wp_jn (fun es => es = [.b false]) ?_ ?_
    rotate_left
    · intro Q hQ
      refine wp_lt (d := .b true) (cmp_e rfl (decide_eq_true (by omega))) ?_
      simp only [lv_cons, lv_nil, app_cons, app_nil]
      refine wp_ite (t := true) rfl (fun _ => ?_) (fun h => by cases h)
      refine wp_lt (d := .b true) (cmp_e rfl (decide_eq_true (by omega))) ?_
      simp only [lv_cons, lv_nil, app_cons, app_nil]
      refine wp_lt (d := (.b true)) rfl ?_
      simp only [lv_cons, lv_nil, app_cons, app_nil]
      refine wp_lt (d := (.b false)) rfl ?_
      simp only [lv_cons, lv_nil, app_cons, app_nil]
      refine wp_ite (t := false) rfl (fun h => by cases h) (fun _ => ?_)
      refine wp_lt (d := (.b false)) rfl ?_
      simp only [lv_cons, lv_nil, app_cons, app_nil]
      refine wp_ite (t := false) rfl (fun h => by cases h) (fun _ => ?_)
      refine wp_lt (d := (.b true)) rfl ?_
      simp only [lv_cons, lv_nil, app_cons, app_nil]
      refine wp_ite (t := true) rfl (fun _ => ?_) (fun h => by cases h)
      refine wp_lt (d := I m) (min_e rfl (by omega)) ?_
      simp only [lv_cons, lv_nil, app_cons, app_nil]
      refine wp_lt (d := I m) (max_e rfl) ?_
      simp only [lv_cons, lv_nil, app_cons, app_nil]
      refine wp_chk (room_i rfl (by omega)) ?_
      refine wp_lt (mk_e (m := m) (n := 45) rfl rfl rfl) ?_
      simp only [lv_cons, lv_nil, app_cons, app_nil]
      refine wp_call (az := [tv (newT m), tv (newT m)]) (evs_cons rfl (evs_cons ?_ rfl)) (sameT_con (by rw [newT_len]; omega)) rfl ?_
      · show some [_] = some [tlb (newT m)]
        rw [tlb, newT, List.map_replicate]
        rfl
      simp only [lv_cons, lv_nil, app_cons, app_nil]
      refine wp_lt (d := (.b false)) rfl ?_
      simp only [lv_cons, lv_nil, app_cons, app_nil]
      exact wp_cont rfl rfl (hQ _ rfl)
    rintro es rfl
    simp only [lv_cons, lv_nil, app_cons, app_nil]
    refine wp_ite (t := false) rfl (fun h => by cases h) (fun _ => ?_)
    refine wp_jn (fun es => ∃ b, es = [.b b] ∧ (b = false → rightT ts = true ∧ e.may = true)) ?_ ?_
    rotate_left
    · intro Q hQ
      refine wp_call rfl (tlbRight_con hO hl) rfl ?_
      simp only [lv_cons, lv_nil, app_cons, app_nil]
      refine wp_call rfl (refRightT_con hO hl) rfl ?_
      simp only [lv_cons, lv_nil, app_cons, app_nil]
      refine wp_lt (d := .b false) (cmp_e rfl not_id) ?_
      simp only [lv_cons, lv_nil, app_cons, app_nil]
      refine wp_ite (t := false) rfl (fun h => by cases h) (fun _ => ?_)
      refine wp_call rfl (refRightT_con hO hl) rfl ?_
      simp only [lv_cons, lv_nil, app_cons, app_nil]
      refine wp_lt rfl ?_
      simp only [lv_cons, lv_nil, app_cons, app_nil]
      refine wp_ite rfl (fun _ => wp_cont rfl rfl (hQ _ ⟨_, rfl, fun h => by cases h⟩)) (fun h1 => ?_)
      refine wp_call rfl (refMay_con (e := e)) rfl ?_
      simp only [lv_cons, lv_nil, app_cons, app_nil]
      refine wp_lt rfl ?_
      simp only [lv_cons, lv_nil, app_cons, app_nil]
      refine wp_ite rfl (fun _ => wp_cont rfl rfl (hQ _ ⟨_, rfl, fun h => by cases h⟩)) (fun h2 => ?_)
      refine wp_call rfl isVa_con rfl ?_
      simp only [lv_cons, lv_nil, app_cons, app_nil]
      refine wp_lt rfl ?_
      simp only [lv_cons, lv_nil, app_cons, app_nil]
      exact wp_cont rfl rfl (hQ _ ⟨_, rfl, fun _ => ⟨by simpa using h1, by simpa using h2⟩⟩)
    rintro es ⟨b, rfl, hb⟩
    simp only [lv_cons, lv_nil, app_cons, app_nil]
    refine wp_ite rfl (fun h => ?_) (fun h => ?_)
    · refine wp_call rfl (tlbRight_con hO hl) rfl ?_
      simp only [lv_cons, lv_nil, app_cons, app_nil]
      refine wp_call rfl (refRightT_con hO hl) rfl ?_
      simp only [lv_cons, lv_nil, app_cons, app_nil]
      refine wp_lt (d := .b true) (cmp_e rfl (by simp)) ?_
      simp only [lv_cons, lv_nil, app_cons, app_nil]
      exact wp_return rfl rfl
    obtain ⟨hr, hmay⟩ := hb h
    subst h
    clear hb
    have hTR : TR ts := ⟨hr, hO⟩
    refine wp_call rfl (tlbFind_con (n := n) hTR ha) rfl ?_
    simp only [findV]
    have huse := findT_use (ts := ts) (n := n) (a := a)
    obtain ⟨⟨f, j, k, ok⟩, hF⟩ : ∃ r, findT ts n a = r := ⟨_, rfl⟩
    have hrf := refTFind_con (n := n) hTR ha
    rw [hF] at huse hrf ⊢
    simp only [lv_cons, lv_nil, SetD.ds, En.ds, app_cons, app_nil]
    refine wp_call rfl hrf rfl ?_
    simp only [findV]
    simp only [lv_cons, lv_nil, SetD.ds, En.ds, app_cons, app_nil]
    refine wp_call rfl (tlbDrop_con (j := st) (way := wy) hTR) rfl ?_
    simp only [lv_cons, lv_nil, app_cons, app_nil]
    refine wp_call rfl (refTDrop_con (j := st) (way := wy) hTR) rfl ?_
    simp only [lv_cons, lv_nil, app_cons, app_nil]
    have hdl := dropT_len (ts := ts) (j := st) (w := wy)
    generalize dropT ts st wy = dr at hdl
    refine wp_jn (fun es => es = [.b false]) ?_ ?_
    rotate_left
    · intro Q hQ
      refine wp_lt (not_e (t := true) ?_) ?_
      focus
        refine ite_t (eqs_b rfl rfl) ?_
        repeat' first
          | refine ite_t (eqs_b rfl rfl) ?_
          | refine ite_t (eqs_i rfl rfl) ?_
          | exact rfl
      simp only [lv_cons, lv_nil, app_cons, app_nil]
      refine wp_ite (t := false) rfl (fun h => by cases h) (fun _ => ?_)
      refine wp_lt (d := .b false) (cmp_e rfl (bne_self_eq_false _)) ?_
      simp only [lv_cons, lv_nil, app_cons, app_nil]
      refine wp_ite (t := false) rfl (fun h => by cases h) (fun _ => ?_)
      refine wp_lt (d := .b false) (cmp_e rfl (bne_self_eq_false _)) ?_
      simp only [lv_cons, lv_nil, app_cons, app_nil]
      refine wp_ite (t := false) rfl (fun h => by cases h) (fun _ => ?_)
      refine wp_lt (d := .b false) (cmp_e rfl not_id) ?_
      simp only [lv_cons, lv_nil, app_cons, app_nil]
      refine wp_ite (t := false) rfl (fun h => by cases h) (fun _ => ?_)
      refine wp_call rfl (sameT_con (by omega)) rfl ?_
      simp only [lv_cons, lv_nil, app_cons, app_nil]
      refine wp_lt (d := (.b false)) rfl ?_
      simp only [lv_cons, lv_nil, app_cons, app_nil]
      refine wp_ite (t := false) rfl (fun h => by cases h) (fun _ => ?_)
      refine wp_lt (d := .b false) (cmp_e rfl (bne_self_eq_false _)) ?_
      simp only [lv_cons, lv_nil, app_cons, app_nil]
      refine wp_ite (t := false) rfl (fun h => by cases h) (fun _ => ?_)
      refine wp_ite rfl (fun hok => ?_) (fun _ => wp_cont rfl rfl (hQ _ rfl))
      obtain ⟨l', j', k', s', _, hs', _, hk', _, _, hE⟩ := huse hok
      obtain ⟨rfl, rfl, rfl, rfl⟩ : f = s'.at k' ∧ j = j' ∧ k = (k' : Int) ∧ ok = true := by
        simpa using hE
      refine wp_call rfl (tlbUse_con hTR hs' hk') rfl ?_
      simp only [lv_cons, lv_nil, app_cons, app_nil]
      refine wp_call rfl (refUse_con hTR hs' hk') rfl ?_
      simp only [lv_cons, lv_nil, app_cons, app_nil]
      refine wp_call rfl (sameT_con (by rw [List.length_set]; omega)) rfl ?_
      simp only [lv_cons, lv_nil, app_cons, app_nil]
      refine wp_lt (d := (.b false)) rfl ?_
      simp only [lv_cons, lv_nil, app_cons, app_nil]
      exact wp_cont rfl rfl (hQ _ rfl)
    rintro es rfl
    simp only [lv_cons, lv_nil, app_cons, app_nil]
    refine wp_ite (t := false) rfl (fun h => by cases h) (fun _ => ?_)
    refine wp_call rfl (tlbAll_con (by omega)) rfl ?_
    simp only [lv_cons, lv_nil, app_cons, app_nil]
    refine wp_call rfl (refAll_con (by omega)) rfl ?_
    simp only [lv_cons, lv_nil, app_cons, app_nil]
    have hM : 0 < (allT ts).length → mT ts.length = 11 ∧ mT (allT ts).length = 11 := fun h => ⟨mT_pos (by have := allT_le (ts := ts); omega), mT_pos h⟩
    have hAl := allT_le (ts := ts)
    generalize mT ts.length = M1 at hM ⊢
    generalize mT (allT ts).length = M2 at hM ⊢
    generalize allT ts = ws at hM hAl ⊢
    have hL : (rws ws).length = ws.length := List.length_map ..
    refine wp_lt (len_is rfl hL) ?_
    simp only [lv_cons, lv_nil, app_cons, app_nil]
    refine wp_lt (len_is rfl hL) ?_
    simp only [lv_cons, lv_nil, app_cons, app_nil]
    refine wp_lt (d := .b false) (cmp_e rfl (bne_self_eq_false _)) ?_
    simp only [lv_cons, lv_nil, app_cons, app_nil]
    refine wp_ite (t := false) rfl (fun h => by cases h) (fun _ => ?_)
    refine wp_rounds (fun m ds => ∃ (b : Bool) (q : Nat), ds = [.b b, I q] ∧ q + m = ws.length + 1 ∧ q ≤ ws.length) (ws.length + 1) rfl ⟨_, 0, rfl, by omega, by omega⟩ ?_
      (fun es hes => by obtain ⟨_, q, _, h1, h2⟩ := hes; omega)
    rintro m1 es1 Q1 ⟨b, q, rfl, hq1, hq2⟩ hQ1
    simp only [lv_cons, lv_nil, app_cons, app_nil]
    refine wp_lt (len_is rfl hL) ?_
    simp only [lv_cons, lv_nil, app_cons, app_nil]
    refine wp_lt rfl ?_
    simp only [lv_cons, lv_nil, app_cons, app_nil]
    refine wp_ite rfl (fun hc1 => ?_) (fun hc1 => ?_)
    · have hc1 := of_decide_eq_true hc1
      have hq : q < ws.length := by omega
      obtain ⟨rfl, rfl⟩ := hM (by omega)
      obtain ⟨w, hw⟩ : ∃ w, ws[q]? = some w := ⟨_, List.getElem?_eq_getElem hq⟩
      have hrow := rws_row hw
      refine wp_chk (inb_t rfl rfl (by rw [hL]; exact hq)) ?_
      refine wp_chk (inb_t rfl rfl (by rw [hL]; exact hq)) ?_
      refine wp_lt (not_e (t := true) ?_) ?_
      focus
        refine ite_t (eqs_b (idx_e rfl rfl hrow rfl) (idx_e rfl rfl hrow rfl)) ?_
        repeat' first
          | refine ite_t (eqs_b (idx_e rfl rfl hrow rfl) (idx_e rfl rfl hrow rfl)) ?_
          | refine ite_t (eqs_i (idx_e rfl rfl hrow rfl) (idx_e rfl rfl hrow rfl)) ?_
          | exact rfl
      simp only [lv_cons, lv_nil, app_cons, app_nil]
      refine wp_ite (t := false) rfl (fun h => by cases h) (fun _ => ?_)
      refine wp_lt (i_add (a := (q : Int)) (b := 1) rfl rfl (by omega) (by omega)) ?_
      simp only [lv_cons, lv_nil, app_cons, app_nil]
      exact wp_cont rfl rfl (hQ1 _ ⟨_, q + 1, rfl, by omega, by omega⟩)
    · refine wp_jn (fun es => es = [.b true]) ?_ ?_
      · rintro es rfl
        simp only [lv_cons, lv_nil, app_cons, app_nil]
        exact wp_return rfl rfl
      · intro Q2 hQ2
        refine wp_lt rfl ?_
        simp only [lv_cons, lv_nil, app_cons, app_nil]
        refine wp_ite rfl (fun _ => wp_cont rfl rfl (hQ2 _ rfl)) (fun hv => ?_)
        refine wp_call rfl (tlbPut_con (e := e) (v := v) hTR he hmay) rfl ?_
        simp only [lv_cons, lv_nil, app_cons, app_nil]
        refine wp_call rfl (refTPut_con (e := e) (v := v) hTR he hmay) rfl ?_
        simp only [lv_cons, lv_nil, app_cons, app_nil]
        refine wp_call rfl (sameT_con (by rw [putT_len]; omega)) rfl ?_
        simp only [lv_cons, lv_nil, app_cons, app_nil]
        exact wp_cont rfl rfl (hQ2 _ rfl)
  · refine wp_call rfl (tlbNew_bad hm) rfl ?_
    simp only [lv_cons, lv_nil, app_cons, app_nil]
    refine wp_jn (fun es => es = [.b false]) ?_ ?_
    rotate_left
    · intro Q hQ
      by_cases hm0 : 0 ≤ m
      · refine wp_lt (d := .b true) (cmp_e rfl (decide_eq_true (by omega))) ?_
        simp only [lv_cons, lv_nil, app_cons, app_nil]
        refine wp_ite (t := true) rfl (fun _ => ?_) (fun h => by cases h)
        refine wp_lt (d := .b false) (cmp_e rfl (decide_eq_false (by omega))) ?_
        simp only [lv_cons, lv_nil, app_cons, app_nil]
        refine wp_lt (d := (.b false)) rfl ?_
        simp only [lv_cons, lv_nil, app_cons, app_nil]
        refine wp_lt (d := (.b false)) rfl ?_
        simp only [lv_cons, lv_nil, app_cons, app_nil]
        refine wp_ite (t := false) rfl (fun h => by cases h) (fun _ => ?_)
        refine wp_lt (d := (.b true)) rfl ?_
        simp only [lv_cons, lv_nil, app_cons, app_nil]
        refine wp_ite (t := true) rfl (fun _ => ?_) (fun h => by cases h)
        refine wp_lt (d := (.b false)) rfl ?_
        simp only [lv_cons, lv_nil, app_cons, app_nil]
        refine wp_ite (t := false) rfl (fun h => by cases h) (fun _ => ?_)
        refine wp_lt (d := (.b false)) rfl ?_
        simp only [lv_cons, lv_nil, app_cons, app_nil]
        refine wp_ite (t := false) rfl (fun h => by cases h) (fun _ => ?_)
        exact wp_cont rfl rfl (hQ _ rfl)
      · refine wp_lt (d := .b false) (cmp_e rfl (decide_eq_false (by omega))) ?_
        simp only [lv_cons, lv_nil, app_cons, app_nil]
        refine wp_ite (t := false) rfl (fun h => by cases h) (fun _ => ?_)
        refine wp_lt (d := (.b false)) rfl ?_
        simp only [lv_cons, lv_nil, app_cons, app_nil]
        refine wp_lt (d := (.b false)) rfl ?_
        simp only [lv_cons, lv_nil, app_cons, app_nil]
        refine wp_ite (t := false) rfl (fun h => by cases h) (fun _ => ?_)
        refine wp_lt (d := (.b true)) rfl ?_
        simp only [lv_cons, lv_nil, app_cons, app_nil]
        refine wp_ite (t := true) rfl (fun _ => ?_) (fun h => by cases h)
        refine wp_lt (d := (.b false)) rfl ?_
        simp only [lv_cons, lv_nil, app_cons, app_nil]
        refine wp_ite (t := false) rfl (fun h => by cases h) (fun _ => ?_)
        refine wp_lt (d := (.b false)) rfl ?_
        simp only [lv_cons, lv_nil, app_cons, app_nil]
        refine wp_ite (t := false) rfl (fun h => by cases h) (fun _ => ?_)
        exact wp_cont rfl rfl (hQ _ rfl)
    rintro es rfl
    simp only [lv_cons, lv_nil, app_cons, app_nil]
    refine wp_ite (t := false) rfl (fun h => by cases h) (fun _ => ?_)
    refine wp_jn (fun es => ∃ b, es = [.b b] ∧ (b = false → rightT ts = true ∧ e.may = true)) ?_ ?_
    rotate_left
    · intro Q hQ
      refine wp_call rfl (tlbRight_con hO hl) rfl ?_
      simp only [lv_cons, lv_nil, app_cons, app_nil]
      refine wp_call rfl (refRightT_con hO hl) rfl ?_
      simp only [lv_cons, lv_nil, app_cons, app_nil]
      refine wp_lt (d := .b false) (cmp_e rfl not_id) ?_
      simp only [lv_cons, lv_nil, app_cons, app_nil]
      refine wp_ite (t := false) rfl (fun h => by cases h) (fun _ => ?_)
      refine wp_call rfl (refRightT_con hO hl) rfl ?_
      simp only [lv_cons, lv_nil, app_cons, app_nil]
      refine wp_lt rfl ?_
      simp only [lv_cons, lv_nil, app_cons, app_nil]
      refine wp_ite rfl (fun _ => wp_cont rfl rfl (hQ _ ⟨_, rfl, fun h => by cases h⟩)) (fun h1 => ?_)
      refine wp_call rfl (refMay_con (e := e)) rfl ?_
      simp only [lv_cons, lv_nil, app_cons, app_nil]
      refine wp_lt rfl ?_
      simp only [lv_cons, lv_nil, app_cons, app_nil]
      refine wp_ite rfl (fun _ => wp_cont rfl rfl (hQ _ ⟨_, rfl, fun h => by cases h⟩)) (fun h2 => ?_)
      refine wp_call rfl isVa_con rfl ?_
      simp only [lv_cons, lv_nil, app_cons, app_nil]
      refine wp_lt rfl ?_
      simp only [lv_cons, lv_nil, app_cons, app_nil]
      exact wp_cont rfl rfl (hQ _ ⟨_, rfl, fun _ => ⟨by simpa using h1, by simpa using h2⟩⟩)
    rintro es ⟨b, rfl, hb⟩
    simp only [lv_cons, lv_nil, app_cons, app_nil]
    refine wp_ite rfl (fun h => ?_) (fun h => ?_)
    · refine wp_call rfl (tlbRight_con hO hl) rfl ?_
      simp only [lv_cons, lv_nil, app_cons, app_nil]
      refine wp_call rfl (refRightT_con hO hl) rfl ?_
      simp only [lv_cons, lv_nil, app_cons, app_nil]
      refine wp_lt (d := .b true) (cmp_e rfl (by simp)) ?_
      simp only [lv_cons, lv_nil, app_cons, app_nil]
      exact wp_return rfl rfl
    obtain ⟨hr, hmay⟩ := hb h
    subst h
    clear hb
    have hTR : TR ts := ⟨hr, hO⟩
    refine wp_call rfl (tlbFind_con (n := n) hTR ha) rfl ?_
    simp only [findV]
    have huse := findT_use (ts := ts) (n := n) (a := a)
    obtain ⟨⟨f, j, k, ok⟩, hF⟩ : ∃ r, findT ts n a = r := ⟨_, rfl⟩
    have hrf := refTFind_con (n := n) hTR ha
    rw [hF] at huse hrf ⊢
    simp only [lv_cons, lv_nil, SetD.ds, En.ds, app_cons, app_nil]
    refine wp_call rfl hrf rfl ?_
    simp only [findV]
    simp only [lv_cons, lv_nil, SetD.ds, En.ds, app_cons, app_nil]
    refine wp_call rfl (tlbDrop_con (j := st) (way := wy) hTR) rfl ?_
    simp only [lv_cons, lv_nil, app_cons, app_nil]
    refine wp_call rfl (refTDrop_con (j := st) (way := wy) hTR) rfl ?_
    simp only [lv_cons, lv_nil, app_cons, app_nil]
    have hdl := dropT_len (ts := ts) (j := st) (w := wy)
    generalize dropT ts st wy = dr at hdl
    refine wp_jn (fun es => es = [.b false]) ?_ ?_
    rotate_left
    · intro Q hQ
      refine wp_lt (not_e (t := true) ?_) ?_
      focus
        refine ite_t (eqs_b rfl rfl) ?_
        repeat' first
          | refine ite_t (eqs_b rfl rfl) ?_
          | refine ite_t (eqs_i rfl rfl) ?_
          | exact rfl
      simp only [lv_cons, lv_nil, app_cons, app_nil]
      refine wp_ite (t := false) rfl (fun h => by cases h) (fun _ => ?_)
      refine wp_lt (d := .b false) (cmp_e rfl (bne_self_eq_false _)) ?_
      simp only [lv_cons, lv_nil, app_cons, app_nil]
      refine wp_ite (t := false) rfl (fun h => by cases h) (fun _ => ?_)
      refine wp_lt (d := .b false) (cmp_e rfl (bne_self_eq_false _)) ?_
      simp only [lv_cons, lv_nil, app_cons, app_nil]
      refine wp_ite (t := false) rfl (fun h => by cases h) (fun _ => ?_)
      refine wp_lt (d := .b false) (cmp_e rfl not_id) ?_
      simp only [lv_cons, lv_nil, app_cons, app_nil]
      refine wp_ite (t := false) rfl (fun h => by cases h) (fun _ => ?_)
      refine wp_call rfl (sameT_con (by omega)) rfl ?_
      simp only [lv_cons, lv_nil, app_cons, app_nil]
      refine wp_lt (d := (.b false)) rfl ?_
      simp only [lv_cons, lv_nil, app_cons, app_nil]
      refine wp_ite (t := false) rfl (fun h => by cases h) (fun _ => ?_)
      refine wp_lt (d := .b false) (cmp_e rfl (bne_self_eq_false _)) ?_
      simp only [lv_cons, lv_nil, app_cons, app_nil]
      refine wp_ite (t := false) rfl (fun h => by cases h) (fun _ => ?_)
      refine wp_ite rfl (fun hok => ?_) (fun _ => wp_cont rfl rfl (hQ _ rfl))
      obtain ⟨l', j', k', s', _, hs', _, hk', _, _, hE⟩ := huse hok
      obtain ⟨rfl, rfl, rfl, rfl⟩ : f = s'.at k' ∧ j = j' ∧ k = (k' : Int) ∧ ok = true := by
        simpa using hE
      refine wp_call rfl (tlbUse_con hTR hs' hk') rfl ?_
      simp only [lv_cons, lv_nil, app_cons, app_nil]
      refine wp_call rfl (refUse_con hTR hs' hk') rfl ?_
      simp only [lv_cons, lv_nil, app_cons, app_nil]
      refine wp_call rfl (sameT_con (by rw [List.length_set]; omega)) rfl ?_
      simp only [lv_cons, lv_nil, app_cons, app_nil]
      refine wp_lt (d := (.b false)) rfl ?_
      simp only [lv_cons, lv_nil, app_cons, app_nil]
      exact wp_cont rfl rfl (hQ _ rfl)
    rintro es rfl
    simp only [lv_cons, lv_nil, app_cons, app_nil]
    refine wp_ite (t := false) rfl (fun h => by cases h) (fun _ => ?_)
    refine wp_call rfl (tlbAll_con (by omega)) rfl ?_
    simp only [lv_cons, lv_nil, app_cons, app_nil]
    refine wp_call rfl (refAll_con (by omega)) rfl ?_
    simp only [lv_cons, lv_nil, app_cons, app_nil]
    have hM : 0 < (allT ts).length → mT ts.length = 11 ∧ mT (allT ts).length = 11 := fun h => ⟨mT_pos (by have := allT_le (ts := ts); omega), mT_pos h⟩
    have hAl := allT_le (ts := ts)
    generalize mT ts.length = M1 at hM ⊢
    generalize mT (allT ts).length = M2 at hM ⊢
    generalize allT ts = ws at hM hAl ⊢
    have hL : (rws ws).length = ws.length := List.length_map ..
    refine wp_lt (len_is rfl hL) ?_
    simp only [lv_cons, lv_nil, app_cons, app_nil]
    refine wp_lt (len_is rfl hL) ?_
    simp only [lv_cons, lv_nil, app_cons, app_nil]
    refine wp_lt (d := .b false) (cmp_e rfl (bne_self_eq_false _)) ?_
    simp only [lv_cons, lv_nil, app_cons, app_nil]
    refine wp_ite (t := false) rfl (fun h => by cases h) (fun _ => ?_)
    refine wp_rounds (fun m ds => ∃ (b : Bool) (q : Nat), ds = [.b b, I q] ∧ q + m = ws.length + 1 ∧ q ≤ ws.length) (ws.length + 1) rfl ⟨_, 0, rfl, by omega, by omega⟩ ?_
      (fun es hes => by obtain ⟨_, q, _, h1, h2⟩ := hes; omega)
    rintro m1 es1 Q1 ⟨b, q, rfl, hq1, hq2⟩ hQ1
    simp only [lv_cons, lv_nil, app_cons, app_nil]
    refine wp_lt (len_is rfl hL) ?_
    simp only [lv_cons, lv_nil, app_cons, app_nil]
    refine wp_lt rfl ?_
    simp only [lv_cons, lv_nil, app_cons, app_nil]
    refine wp_ite rfl (fun hc1 => ?_) (fun hc1 => ?_)
    · have hc1 := of_decide_eq_true hc1
      have hq : q < ws.length := by omega
      obtain ⟨rfl, rfl⟩ := hM (by omega)
      obtain ⟨w, hw⟩ : ∃ w, ws[q]? = some w := ⟨_, List.getElem?_eq_getElem hq⟩
      have hrow := rws_row hw
      refine wp_chk (inb_t rfl rfl (by rw [hL]; exact hq)) ?_
      refine wp_chk (inb_t rfl rfl (by rw [hL]; exact hq)) ?_
      refine wp_lt (not_e (t := true) ?_) ?_
      focus
        refine ite_t (eqs_b (idx_e rfl rfl hrow rfl) (idx_e rfl rfl hrow rfl)) ?_
        repeat' first
          | refine ite_t (eqs_b (idx_e rfl rfl hrow rfl) (idx_e rfl rfl hrow rfl)) ?_
          | refine ite_t (eqs_i (idx_e rfl rfl hrow rfl) (idx_e rfl rfl hrow rfl)) ?_
          | exact rfl
      simp only [lv_cons, lv_nil, app_cons, app_nil]
      refine wp_ite (t := false) rfl (fun h => by cases h) (fun _ => ?_)
      refine wp_lt (i_add (a := (q : Int)) (b := 1) rfl rfl (by omega) (by omega)) ?_
      simp only [lv_cons, lv_nil, app_cons, app_nil]
      exact wp_cont rfl rfl (hQ1 _ ⟨_, q + 1, rfl, by omega, by omega⟩)
    · refine wp_jn (fun es => es = [.b true]) ?_ ?_
      · rintro es rfl
        simp only [lv_cons, lv_nil, app_cons, app_nil]
        exact wp_return rfl rfl
      · intro Q2 hQ2
        refine wp_lt rfl ?_
        simp only [lv_cons, lv_nil, app_cons, app_nil]
        refine wp_ite rfl (fun _ => wp_cont rfl rfl (hQ2 _ rfl)) (fun hv => ?_)
        refine wp_call rfl (tlbPut_con (e := e) (v := v) hTR he hmay) rfl ?_
        simp only [lv_cons, lv_nil, app_cons, app_nil]
        refine wp_call rfl (refTPut_con (e := e) (v := v) hTR he hmay) rfl ?_
        simp only [lv_cons, lv_nil, app_cons, app_nil]
        refine wp_call rfl (sameT_con (by rw [putT_len]; omega)) rfl ?_
        simp only [lv_cons, lv_nil, app_cons, app_nil]
        exact wp_cont rfl rfl (hQ2 _ rfl)
end Go.Proofs.YtmjhghclgockjaaDoor.Sx
