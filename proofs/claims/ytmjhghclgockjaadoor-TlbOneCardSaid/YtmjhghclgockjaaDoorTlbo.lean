/-
  Layer 14: TlbOne.
-/
import Derived.Test.YtmjhghclgockjaaDoorTlba
namespace Go.Proofs.YtmjhghclgockjaaDoor.Sx
open Go
set_option linter.unusedVariables false
set_option linter.unusedSimpArgs false
set_option maxRecDepth 100000

/-! ### how many there are -/
def cnt (s : SetD) : Nat := (s.en.filter (·.v)).length
theorem cnt_eq {s : SetD} : cnt s = s.w0.v.toNat + s.w1.v.toNat + s.w2.v.toNat + s.w3.v.toNat := by
  unfold cnt SetD.en
  simp only [List.filter_cons, List.filter_nil]
  cases s.w0.v <;> cases s.w1.v <;> cases s.w2.v <;> cases s.w3.v <;> rfl
theorem allT_cons {s : SetD} {ts : List SetD} : (allT (s :: ts)).length = cnt s + (allT ts).length := by
  have : allT (s :: ts) = s.en.filter (·.v) ++ allT ts := by
    unfold allT
    rw [← List.filter_append]
    rfl
  rw [this, List.length_append]
  rfl
theorem allT_set {s' : SetD} : ∀ {ts : List SetD} {j : Nat} {s : SetD}, ts[j]? = some s → (allT (ts.set j s')).length + cnt s = (allT ts).length + cnt s'
  | [], j, s, h => by simp at h
  | t :: ts, 0, s, h => by
    obtain rfl : t = s := by simpa using h
    rw [List.set_cons_zero, allT_cons, allT_cons]
    omega
  | t :: ts, j + 1, s, h => by
    have ih := allT_set (s' := s') (ts := ts) (j := j) (s := s) (by simpa using h)
    rw [List.set_cons_succ, allT_cons, allT_cons]
    omega
theorem and_le {a b : Bool} : (a && b).toNat ≤ a.toNat := by cases a <;> cases b <;> decide
theorem bool_le {a : Bool} : a.toNat ≤ 1 := by cases a <;> decide
theorem cnt_put {e : En} {s : SetD} {k : Nat} (hk : k < 4) : cnt (putW e s k) ≤ cnt s + 1 := by
  have h0 : (dW e s.w0).v.toNat ≤ s.w0.v.toNat := by rw [dW_v]; exact and_le
  have h1 : (dW e s.w1).v.toNat ≤ s.w1.v.toNat := by rw [dW_v]; exact and_le
  have h2 : (dW e s.w2).v.toNat ≤ s.w2.v.toNat := by rw [dW_v]; exact and_le
  have h3 : (dW e s.w3).v.toNat ≤ s.w3.v.toNat := by rw [dW_v]; exact and_le
  have h4 := bool_le (a := e.v)
  have hcase : k = 0 ∨ k = 1 ∨ k = 2 ∨ k = 3 := by omega
  rw [cnt_eq, cnt_eq]
  rcases hcase with rfl | rfl | rfl | rfl
  · rw [putW_0]; simp only; omega
  · rw [putW_1]; simp only; omega
  · rw [putW_2]; simp only; omega
  · rw [putW_3]; simp only; omega
theorem cnt_drop {s : SetD} {k : Nat} (hk : k < 4) : cnt (s.put k En.zero) + (s.at k).v.toNat = cnt s := by
  have hcase : k = 0 ∨ k = 1 ∨ k = 2 ∨ k = 3 := by omega
  have hz : En.zero.v.toNat = 0 := rfl
  rw [cnt_eq, cnt_eq]
  rcases hcase with rfl | rfl | rfl | rfl <;> simp only [SetD.put, SetD.at, hz] <;> omega
theorem cnt_use {s : SetD} {k : Nat} : cnt (s.use k) = cnt s := rfl

/-- a buffer of which one set is another -/
structure One (ts x : List SetD) : Prop where
  len : x.length = ts.length
  right : TR x
  diff : ∃ j0 : Nat, ∀ j : Nat, j ≠ j0 → x[j]? = ts[j]?
  all : (allT x).length ≤ (allT ts).length + 1
theorem one_set {ts : List SetD} {j : Nat} {s s' : SetD} (hs : ts[j]? = some s) (hr : TR (ts.set j s')) (hc : cnt s' ≤ cnt s + 1) : One ts (ts.set j s') := by
  refine ⟨List.length_set .., hr, ⟨j, fun q hq => ?_⟩, ?_⟩
  · rw [List.getElem?_set_ne (Ne.symm hq)]
  · have := allT_set (s' := s') hs
    omega
theorem dropT_eq {ts : List SetD} {j k : Nat} {s : SetD} (hs : ts[j]? = some s) (hk : k < 4) : dropT ts j k = (ts.set j (s.put k En.zero), 0) := by
  have hj := (List.getElem?_eq_some_iff.1 hs).1
  unfold dropT
  rw [if_pos (by omega), Int.toNat_natCast, Int.toNat_natCast, hs]

section
variable {ρ : List D} {C : Con} {R : List DV → Prop} {L : List Lp}
theorem ite_any {c x y : Ex} {b : Bool} (hc : c.eval ρ = some (.b b)) (hx : ∃ t, x.eval ρ = some (.b t)) (hy : y.eval ρ = some (.b false)) : ∃ t, (Ex.ite c x y).eval ρ = some (.b t) := by
  obtain ⟨t, hx⟩ := hx
  cases b
  · exact ⟨false, by simp [Ex.eval, hc, hy]⟩
  · exact ⟨t, by simp [Ex.eval, hc, hx]⟩
theorem eqt_b {x y : Ex} {a b : Bool} (hx : x.eval ρ = some (.b a)) (hy : y.eval ρ = some (.b b)) : (Ex.eqt true x y).eval ρ = some (.b (a == b)) := by
  simp [Ex.eval, hx, hy, eqtD]
theorem eqt_i {x y : Ex} {k : IntKind} {a b : Int} (hx : x.eval ρ = some (.i k a)) (hy : y.eval ρ = some (.i k b)) : (Ex.eqt false x y).eval ρ = some (.b (a == b)) := by
  simp [Ex.eval, hx, hy, eqtD]
theorem not_any {x : Ex} (h : ∃ t, x.eval ρ = some (.b t)) : ∃ t, (Ex.un .not x).eval ρ = some (.b t) := by
  obtain ⟨t, h⟩ := h
  exact ⟨!t, not_e h⟩
theorem wp_lt_any {e : Ex} {x : IR} (h : ∃ t, e.eval ρ = some (.b t)) (hx : ∀ t, IR.wp C R x L (ρ ++ [.b t])) : IR.wp C R (.lt e x) L ρ := by
  obtain ⟨t, h⟩ := h
  exact wp_lt h (hx t)
end

set_option maxHeartbeats 8000000 in
theorem TlbOne_con {ts : List SetD} {e : En} {v : Int} {sn wn : Nat} (hO : TOk ts) (hl : ts.length < 9223372036854775808) (he : e.Ok) (hsn : sn < 256) (hwn : wn < 256) : Cn gAll 7 [tv ts, e.dv, i v, (false, [.i .u8 (sn : Int)]), (false, [.i .u8 (wn : Int)])] [bb true] := by
  refine con rfl rfl atlaslaw14_TlbOne_c atlaslaw14_TlbOne_p rfl ?_
  unfold atlaslaw14_TlbOne_ir
  simp only [lv_cons, lv_nil, SetD.ds, En.ds, app_cons, app_nil]
  refine wp_call rfl awake14_con rfl ?_
  simp only [lv_cons, lv_nil, app_cons, app_nil]
  refine wp_lt (d := (.b false)) rfl ?_
  simp only [lv_cons, lv_nil, app_cons, app_nil]
  refine wp_ite (t := false) rfl (fun h => by cases h) (fun _ => ?_)
  refine wp_call rfl (refRightT_con hO hl) rfl ?_
  simp only [lv_cons, lv_nil, app_cons, app_nil]
  refine wp_lt rfl ?_
  simp only [lv_cons, lv_nil, app_cons, app_nil]
  refine wp_ite rfl (fun _ => wp_call rfl awake14_con rfl (wp_return rfl rfl)) (fun hr => ?_)
  have hr : rightT ts = true := by simpa using hr
  refine wp_call rfl (refMay_con (e := e)) rfl ?_
  simp only [lv_cons, lv_nil, app_cons, app_nil]
  refine wp_lt rfl ?_
  simp only [lv_cons, lv_nil, app_cons, app_nil]
  refine wp_ite rfl (fun _ => wp_call rfl awake14_con rfl (wp_return rfl rfl)) (fun hmay => ?_)
  have hmay : e.may = true := by simpa using hmay
  refine wp_lt rfl ?_
  simp only [lv_cons, lv_nil, app_cons, app_nil]
  refine wp_ite rfl (fun _ => wp_call rfl awake14_con rfl (wp_return rfl rfl)) (fun hev => ?_)
  refine wp_lt (len_is rfl (List.length_map ..)) ?_
  simp only [lv_cons, lv_nil, app_cons, app_nil]
  refine wp_lt rfl ?_
  simp only [lv_cons, lv_nil, app_cons, app_nil]
  refine wp_ite rfl (fun _ => wp_call rfl awake14_con rfl (wp_return rfl rfl)) (fun hn => ?_)
  have hn : 0 < ts.length := by
    have : ¬ ts.length = 0 := by simpa using hn
    omega
  have hTR : TR ts := ⟨hr, hO⟩
  have hl16 := hTR.len
  refine wp_lt (cv_i rfl (by omega) (by omega)) ?_
  simp only [lv_cons, lv_nil, app_cons, app_nil]
  refine wp_lt (len_is rfl (List.length_map ..)) ?_
  simp only [lv_cons, lv_nil, app_cons, app_nil]
  refine wp_lt (i_rem rfl rfl (by omega)) ?_
  simp only [lv_cons, lv_nil, app_cons, app_nil]
  refine wp_lt (rem8 (m := 4) rfl (by omega)) ?_
  simp only [lv_cons, lv_nil, app_cons, app_nil]
  refine wp_lt (cv_i rfl (by omega) (by omega)) ?_
  simp only [lv_cons, lv_nil, app_cons, app_nil]
  have hj : sn % ts.length < ts.length := Nat.mod_lt _ hn
  have hk : wn % 4 < 4 := Nat.mod_lt _ (by omega)
  generalize sn % ts.length = j at hj ⊢
  generalize wn % 4 = k at hk ⊢
  obtain ⟨s, hs⟩ : ∃ s, ts[j]? = some s := ⟨_, List.getElem?_eq_getElem hj⟩
  have htrow := row_of hs
  have ho1 : One ts (putT ts e v) := by
    obtain ⟨j', k', s', hj', hs', hk', hp⟩ := putT_at (e := e) (v := v) hTR hn
    have := hTR.put (v := v) he hmay
    rw [hp] at this ⊢
    exact one_set hs' this (cnt_put hk')
  have ho2 : One ts (ts.set j (s.use k)) := one_set hs (hTR.use hs hk) (by rw [cnt_use]; omega)
  have ho3 : One ts (ts.set j (s.put k En.zero)) := one_set hs (hTR.drop hs hk) (by have := cnt_drop (s := s) hk; omega)
  refine wp_call rfl (tlbPut_con (e := e) (v := v) hTR he hmay) rfl ?_
  simp only [lv_cons, lv_nil, app_cons, app_nil]
  refine wp_call rfl (tlbUse_con hTR hs hk) rfl ?_
  simp only [lv_cons, lv_nil, app_cons, app_nil]
  have hdc := tlbDrop_con (j := j) (way := k) hTR
  rw [dropT_eq hs hk] at hdc
  refine wp_call rfl hdc rfl ?_
  simp only [lv_cons, lv_nil, app_cons, app_nil]
  have hone : ∀ q, q < 3 → ∃ x, ([[tlb (putT ts e v)], [tlb (ts.set j (s.use k))], [tlb (ts.set j (s.put k En.zero))]] : List (List D))[q]? = some [tlb x] ∧ One ts x := by
    intro q hq
    have hcase : q = 0 ∨ q = 1 ∨ q = 2 := by omega
    rcases hcase with rfl | rfl | rfl
    · exact ⟨_, rfl, ho1⟩
    · exact ⟨_, rfl, ho2⟩
    · exact ⟨_, rfl, ho3⟩
  generalize putT ts e v = x0 at hone ⊢
  generalize ts.set j (s.use k) = x1 at hone ⊢
  obtain ⟨x2, hx2⟩ : ∃ x2, ts.set j (s.put k En.zero) = x2 := ⟨_, rfl⟩
  rw [hx2] at hone ⊢
  refine wp_chk (room_t (rows := [[tlb x0], [tlb x1], [tlb x2]]) rfl (show 3 * 25 ≤ 2 ^ 40 by decide)) ?_
  refine wp_rounds (fun m ds => ∃ (b : Bool) (q : Nat), ds = [.b b, I q] ∧ q + m = 4 ∧ q ≤ 3) 4 rfl ⟨_, 0, rfl, by omega, by omega⟩ ?_
    (fun es hes => by obtain ⟨_, q, _, h1, h2⟩ := hes; omega)
  rintro m es Q ⟨b, q, rfl, hq1, hq2⟩ hQ
  simp only [lv_cons, lv_nil, app_cons, app_nil]
  refine wp_lt (d := .b (decide ((q : Int) < 3))) rfl ?_
  simp only [lv_cons, lv_nil, app_cons, app_nil]
  refine wp_ite rfl (fun hc => ?_) (fun hc => ?_)
  · have hc := of_decide_eq_true hc
    have hq3 : q < 3 := by omega
    obtain ⟨x, hrow, hx⟩ := hone q hq3
    refine wp_chk (inb_t (rows := [[tlb x0], [tlb x1], [tlb x2]]) rfl rfl hq3) ?_
    refine wp_chk (inb_t (rows := [[tlb x0], [tlb x1], [tlb x2]]) rfl rfl hq3) ?_
    refine wp_lt (len_is (idx_e (rows := [[tlb x0], [tlb x1], [tlb x2]]) rfl rfl hrow rfl) (List.length_map ..)) ?_
    simp only [lv_cons, lv_nil, app_cons, app_nil]
    rw [hx.len]
    refine wp_lt (len_is rfl (List.length_map ..)) ?_
    simp only [lv_cons, lv_nil, app_cons, app_nil]
    refine wp_lt (d := .b false) (cmp_e rfl (bne_self_eq_false _)) ?_
    simp only [lv_cons, lv_nil, app_cons, app_nil]
    refine wp_ite (t := false) rfl (fun h => by cases h) (fun _ => ?_)
    obtain ⟨j0, hdf⟩ := hx.diff
    refine wp_rounds (fun m ds => ∃ (c p : Nat), ds = [I c, I p] ∧ p + m = ts.length + 1 ∧ p ≤ ts.length ∧ c ≤ (if j0 < p then 1 else 0)) (ts.length + 1) rfl ⟨0, 0, rfl, by omega, by omega, by omega⟩ ?_
      (fun es hes => by obtain ⟨_, q, _, h1, h2, _⟩ := hes; omega)
    rintro m2 es2 Q2 ⟨c, p, rfl, hp1, hp2, hcp⟩ hQ2
    simp only [lv_cons, lv_nil, app_cons, app_nil]
    refine wp_lt (len_is rfl (List.length_map ..)) ?_
    simp only [lv_cons, lv_nil, app_cons, app_nil]
    refine wp_lt rfl ?_
    simp only [lv_cons, lv_nil, app_cons, app_nil]
    refine wp_ite rfl (fun hc2 => ?_) (fun hc2 => ?_)
    · have hc2 := of_decide_eq_true hc2
      have hp : p < ts.length := by omega
      have hpx : p < x.length := by rw [hx.len]; exact hp
      obtain ⟨sx, hsx⟩ : ∃ s, x[p]? = some s := ⟨_, List.getElem?_eq_getElem hpx⟩
      obtain ⟨st, hst⟩ : ∃ s, ts[p]? = some s := ⟨_, List.getElem?_eq_getElem hp⟩
      have hrx := row_of hsx
      have hrt := row_of hst
      refine wp_chk (inb_t (idx_e (rows := [[tlb x0], [tlb x1], [tlb x2]]) rfl rfl hrow rfl) rfl (by rw [List.length_map]; exact hpx)) ?_
      refine wp_chk (inb_t rfl rfl (by rw [List.length_map]; exact hp)) ?_
      by_cases hpj : p = j0
      · refine wp_lt_any (not_any ?_) ?_
        focus
          repeat' first
            | refine ite_any (eqt_b (idx_e (idx_e (rows := [[tlb x0], [tlb x1], [tlb x2]]) rfl rfl hrow rfl) rfl hrx rfl) (idx_e rfl rfl hrt rfl)) ?_ rfl
            | refine ite_any (eqt_i (idx_e (idx_e (rows := [[tlb x0], [tlb x1], [tlb x2]]) rfl rfl hrow rfl) rfl hrx rfl) (idx_e rfl rfl hrt rfl)) ?_ rfl
            | exact ⟨true, rfl⟩
        intro t
        simp only [lv_cons, lv_nil, app_cons, app_nil]
        have hc0 : c = 0 := by rw [if_neg (by omega)] at hcp; omega
        refine wp_ite rfl (fun _ => ?_) (fun _ => ?_)
        · refine wp_lt (i_add (a := (c : Int)) (b := 1) rfl rfl (by omega) (by omega)) ?_
          simp only [lv_cons, lv_nil, app_cons, app_nil]
          refine wp_lt (i_add (a := (p : Int)) (b := 1) rfl rfl (by omega) (by omega)) ?_
          simp only [lv_cons, lv_nil, app_cons, app_nil]
          exact wp_cont rfl rfl (hQ2 _ ⟨c + 1, p + 1, rfl, by omega, by omega, by rw [if_pos (by omega)]; omega⟩)
        · refine wp_lt (i_add (a := (p : Int)) (b := 1) rfl rfl (by omega) (by omega)) ?_
          simp only [lv_cons, lv_nil, app_cons, app_nil]
          exact wp_cont rfl rfl (hQ2 _ ⟨c, p + 1, rfl, by omega, by omega, by rw [if_pos (by omega)]; omega⟩)
      · have hss := hdf p hpj
        rw [hsx, hst] at hss
        obtain rfl : sx = st := by simpa using hss
        refine wp_lt (not_e (t := true) ?_) ?_
        focus
          refine ite_t (eqs_b (idx_e (idx_e (rows := [[tlb x0], [tlb x1], [tlb x2]]) rfl rfl hrow rfl) rfl hrx rfl) (idx_e rfl rfl hrt rfl)) ?_
          repeat' first
            | refine ite_t (eqs_b (idx_e (idx_e (rows := [[tlb x0], [tlb x1], [tlb x2]]) rfl rfl hrow rfl) rfl hrx rfl) (idx_e rfl rfl hrt rfl)) ?_
            | refine ite_t (eqs_i (idx_e (idx_e (rows := [[tlb x0], [tlb x1], [tlb x2]]) rfl rfl hrow rfl) rfl hrx rfl) (idx_e rfl rfl hrt rfl)) ?_
            | exact rfl
        simp only [lv_cons, lv_nil, app_cons, app_nil]
        refine wp_ite (t := false) rfl (fun h => by cases h) (fun _ => ?_)
        refine wp_lt (i_add (a := (p : Int)) (b := 1) rfl rfl (by omega) (by omega)) ?_
        simp only [lv_cons, lv_nil, app_cons, app_nil]
        refine wp_cont rfl rfl (hQ2 _ ⟨c, p + 1, rfl, by omega, by omega, ?_⟩)
        by_cases h : j0 < p
        · rw [if_pos h] at hcp
          rw [if_pos (by omega)]
          exact hcp
        · rw [if_neg h] at hcp
          omega
    · have hc1 : c ≤ 1 := by split at hcp <;> omega
      have hal := hx.all
      have hla := allT_le (ts := ts)
      refine wp_lt (d := .b false) (cmp_e rfl (decide_eq_false (by omega))) ?_
      simp only [lv_cons, lv_nil, app_cons, app_nil]
      refine wp_ite (t := false) rfl (fun h => by cases h) (fun _ => ?_)
      refine wp_call (evs_cons (evs_one (idx_e (rows := [[tlb x0], [tlb x1], [tlb x2]]) rfl rfl hrow rfl)) rfl) (refAll_con (by rw [hx.len]; omega)) rfl ?_
      simp only [lv_cons, lv_nil, app_cons, app_nil]
      refine wp_lt (len_is rfl (List.length_map ..)) ?_
      simp only [lv_cons, lv_nil, app_cons, app_nil]
      refine wp_call rfl (refAll_con (by omega)) rfl ?_
      simp only [lv_cons, lv_nil, app_cons, app_nil]
      refine wp_lt (len_is rfl (List.length_map ..)) ?_
      simp only [lv_cons, lv_nil, app_cons, app_nil]
      refine wp_lt (i_add (b := 1) rfl rfl (by omega) (by omega)) ?_
      simp only [lv_cons, lv_nil, app_cons, app_nil]
      refine wp_lt (d := .b false) (cmp_e rfl (decide_eq_false (by omega))) ?_
      simp only [lv_cons, lv_nil, app_cons, app_nil]
      refine wp_ite (t := false) rfl (fun h => by cases h) (fun _ => ?_)
      refine wp_call (evs_cons (evs_one (idx_e (rows := [[tlb x0], [tlb x1], [tlb x2]]) rfl rfl hrow rfl)) rfl) (refRightT_con hx.right.ok (by rw [hx.len]; omega)) rfl ?_
      rw [hx.right.right]
      simp only [lv_cons, lv_nil, app_cons, app_nil]
      refine wp_lt (d := (.b false)) rfl ?_
      simp only [lv_cons, lv_nil, app_cons, app_nil]
      refine wp_ite (t := false) rfl (fun h => by cases h) (fun _ => ?_)
      refine wp_lt (i_add (a := (q : Int)) (b := 1) rfl rfl (by omega) (by omega)) ?_
      simp only [lv_cons, lv_nil, app_cons, app_nil]
      exact wp_cont rfl rfl (hQ _ ⟨_, q + 1, rfl, by omega, by omega⟩)
  · have hla := allT_le (ts := ts)
    subst hx2
    refine wp_call rfl (tlbAll_con (by rw [List.length_set]; omega)) rfl ?_
    simp only [lv_cons, lv_nil, app_cons, app_nil]
    refine wp_chk (inb_t rfl rfl (by rw [List.length_map]; exact hj)) ?_
    clear hone ho1 ho2 ho3 hdc
    have hcase : k = 0 ∨ k = 1 ∨ k = 2 ∨ k = 3 := by omega
    rcases hcase with rfl | rfl | rfl | rfl
    · skip
      refine wp_ite (t := true) rfl (fun _ => ?_) (fun h => by cases h)
      refine wp_ite (idx_e rfl rfl htrow rfl) (fun hv => ?_) (fun hv => ?_)
      · have hdn : (allT (ts.set j (s.put 0 En.zero))).length + 1 = (allT ts).length := by
          have h1 := allT_set (s' := s.put 0 En.zero) hs
          have h2 := cnt_drop (s := s) (k := 0) (by omega)
          have h3 : (s.at 0).v.toNat = 1 := by
            simp only [SetD.at]
            rw [hv]
            rfl
          omega
        refine wp_lt (d := (.b true)) rfl ?_
        simp only [lv_cons, lv_nil, app_cons, app_nil]
        refine wp_ite (t := true) rfl (fun _ => ?_) (fun h => by cases h)
        refine wp_lt (len_is rfl (List.length_map ..)) ?_
        simp only [lv_cons, lv_nil, app_cons, app_nil]
        refine wp_call rfl (refAll_con (by omega)) rfl ?_
        simp only [lv_cons, lv_nil, app_cons, app_nil]
        refine wp_lt (len_is rfl (List.length_map ..)) ?_
        simp only [lv_cons, lv_nil, app_cons, app_nil]
        refine wp_lt (i_sub (b := 1) rfl rfl (by omega) (by omega)) ?_
        simp only [lv_cons, lv_nil, app_cons, app_nil]
        refine wp_lt (d := .b true) (cmp_e rfl (beq_iff_eq.2 (by omega))) ?_
        simp only [lv_cons, lv_nil, app_cons, app_nil]
        refine wp_ite (t := true) rfl (fun _ => ?_) (fun h => by cases h)
        refine wp_chk (inb_t rfl rfl (by rw [List.length_map, List.length_set]; exact hj)) ?_
        refine wp_lt (not_e (t := false) (idx_e rfl rfl (row_of (List.getElem?_set_self hj)) rfl)) ?_
        simp only [lv_cons, lv_nil, app_cons, app_nil]
        exact wp_return rfl rfl
      · have hdn : (allT (ts.set j (s.put 0 En.zero))).length + 0 = (allT ts).length := by
          have h1 := allT_set (s' := s.put 0 En.zero) hs
          have h2 := cnt_drop (s := s) (k := 0) (by omega)
          have h3 : (s.at 0).v.toNat = 0 := by
            simp only [SetD.at]
            rw [hv]
            rfl
          omega
        refine wp_lt (d := (.b true)) rfl ?_
        simp only [lv_cons, lv_nil, app_cons, app_nil]
        refine wp_ite (t := true) rfl (fun _ => ?_) (fun h => by cases h)
        refine wp_lt (len_is rfl (List.length_map ..)) ?_
        simp only [lv_cons, lv_nil, app_cons, app_nil]
        refine wp_call rfl (refAll_con (by omega)) rfl ?_
        simp only [lv_cons, lv_nil, app_cons, app_nil]
        refine wp_lt (len_is rfl (List.length_map ..)) ?_
        simp only [lv_cons, lv_nil, app_cons, app_nil]
        refine wp_lt (i_sub (b := 0) rfl rfl (by omega) (by omega)) ?_
        simp only [lv_cons, lv_nil, app_cons, app_nil]
        refine wp_lt (d := .b true) (cmp_e rfl (beq_iff_eq.2 (by omega))) ?_
        simp only [lv_cons, lv_nil, app_cons, app_nil]
        refine wp_ite (t := true) rfl (fun _ => ?_) (fun h => by cases h)
        refine wp_chk (inb_t rfl rfl (by rw [List.length_map, List.length_set]; exact hj)) ?_
        refine wp_lt (not_e (t := false) (idx_e rfl rfl (row_of (List.getElem?_set_self hj)) rfl)) ?_
        simp only [lv_cons, lv_nil, app_cons, app_nil]
        exact wp_return rfl rfl
    · refine wp_ite (t := false) rfl (fun h => by cases h) (fun _ => ?_)
      refine wp_ite (t := true) rfl (fun _ => ?_) (fun h => by cases h)
      refine wp_ite (idx_e rfl rfl htrow rfl) (fun hv => ?_) (fun hv => ?_)
      · have hdn : (allT (ts.set j (s.put 1 En.zero))).length + 1 = (allT ts).length := by
          have h1 := allT_set (s' := s.put 1 En.zero) hs
          have h2 := cnt_drop (s := s) (k := 1) (by omega)
          have h3 : (s.at 1).v.toNat = 1 := by
            simp only [SetD.at]
            rw [hv]
            rfl
          omega
        refine wp_lt (d := (.b true)) rfl ?_
        simp only [lv_cons, lv_nil, app_cons, app_nil]
        refine wp_ite (t := true) rfl (fun _ => ?_) (fun h => by cases h)
        refine wp_lt (len_is rfl (List.length_map ..)) ?_
        simp only [lv_cons, lv_nil, app_cons, app_nil]
        refine wp_call rfl (refAll_con (by omega)) rfl ?_
        simp only [lv_cons, lv_nil, app_cons, app_nil]
        refine wp_lt (len_is rfl (List.length_map ..)) ?_
        simp only [lv_cons, lv_nil, app_cons, app_nil]
        refine wp_lt (i_sub (b := 1) rfl rfl (by omega) (by omega)) ?_
        simp only [lv_cons, lv_nil, app_cons, app_nil]
        refine wp_lt (d := .b true) (cmp_e rfl (beq_iff_eq.2 (by omega))) ?_
        simp only [lv_cons, lv_nil, app_cons, app_nil]
        refine wp_ite (t := true) rfl (fun _ => ?_) (fun h => by cases h)
        refine wp_chk (inb_t rfl rfl (by rw [List.length_map, List.length_set]; exact hj)) ?_
        refine wp_lt (not_e (t := false) (idx_e rfl rfl (row_of (List.getElem?_set_self hj)) rfl)) ?_
        simp only [lv_cons, lv_nil, app_cons, app_nil]
        exact wp_return rfl rfl
      · have hdn : (allT (ts.set j (s.put 1 En.zero))).length + 0 = (allT ts).length := by
          have h1 := allT_set (s' := s.put 1 En.zero) hs
          have h2 := cnt_drop (s := s) (k := 1) (by omega)
          have h3 : (s.at 1).v.toNat = 0 := by
            simp only [SetD.at]
            rw [hv]
            rfl
          omega
        refine wp_lt (d := (.b true)) rfl ?_
        simp only [lv_cons, lv_nil, app_cons, app_nil]
        refine wp_ite (t := true) rfl (fun _ => ?_) (fun h => by cases h)
        refine wp_lt (len_is rfl (List.length_map ..)) ?_
        simp only [lv_cons, lv_nil, app_cons, app_nil]
        refine wp_call rfl (refAll_con (by omega)) rfl ?_
        simp only [lv_cons, lv_nil, app_cons, app_nil]
        refine wp_lt (len_is rfl (List.length_map ..)) ?_
        simp only [lv_cons, lv_nil, app_cons, app_nil]
        refine wp_lt (i_sub (b := 0) rfl rfl (by omega) (by omega)) ?_
        simp only [lv_cons, lv_nil, app_cons, app_nil]
        refine wp_lt (d := .b true) (cmp_e rfl (beq_iff_eq.2 (by omega))) ?_
        simp only [lv_cons, lv_nil, app_cons, app_nil]
        refine wp_ite (t := true) rfl (fun _ => ?_) (fun h => by cases h)
        refine wp_chk (inb_t rfl rfl (by rw [List.length_map, List.length_set]; exact hj)) ?_
        refine wp_lt (not_e (t := false) (idx_e rfl rfl (row_of (List.getElem?_set_self hj)) rfl)) ?_
        simp only [lv_cons, lv_nil, app_cons, app_nil]
        exact wp_return rfl rfl
    · refine wp_ite (t := false) rfl (fun h => by cases h) (fun _ => ?_)
      refine wp_ite (t := false) rfl (fun h => by cases h) (fun _ => ?_)
      refine wp_ite (t := true) rfl (fun _ => ?_) (fun h => by cases h)
      refine wp_ite (idx_e rfl rfl htrow rfl) (fun hv => ?_) (fun hv => ?_)
      · have hdn : (allT (ts.set j (s.put 2 En.zero))).length + 1 = (allT ts).length := by
          have h1 := allT_set (s' := s.put 2 En.zero) hs
          have h2 := cnt_drop (s := s) (k := 2) (by omega)
          have h3 : (s.at 2).v.toNat = 1 := by
            simp only [SetD.at]
            rw [hv]
            rfl
          omega
        refine wp_lt (d := (.b true)) rfl ?_
        simp only [lv_cons, lv_nil, app_cons, app_nil]
        refine wp_ite (t := true) rfl (fun _ => ?_) (fun h => by cases h)
        refine wp_lt (len_is rfl (List.length_map ..)) ?_
        simp only [lv_cons, lv_nil, app_cons, app_nil]
        refine wp_call rfl (refAll_con (by omega)) rfl ?_
        simp only [lv_cons, lv_nil, app_cons, app_nil]
        refine wp_lt (len_is rfl (List.length_map ..)) ?_
        simp only [lv_cons, lv_nil, app_cons, app_nil]
        refine wp_lt (i_sub (b := 1) rfl rfl (by omega) (by omega)) ?_
        simp only [lv_cons, lv_nil, app_cons, app_nil]
        refine wp_lt (d := .b true) (cmp_e rfl (beq_iff_eq.2 (by omega))) ?_
        simp only [lv_cons, lv_nil, app_cons, app_nil]
        refine wp_ite (t := true) rfl (fun _ => ?_) (fun h => by cases h)
        refine wp_chk (inb_t rfl rfl (by rw [List.length_map, List.length_set]; exact hj)) ?_
        refine wp_lt (not_e (t := false) (idx_e rfl rfl (row_of (List.getElem?_set_self hj)) rfl)) ?_
        simp only [lv_cons, lv_nil, app_cons, app_nil]
        exact wp_return rfl rfl
      · have hdn : (allT (ts.set j (s.put 2 En.zero))).length + 0 = (allT ts).length := by
          have h1 := allT_set (s' := s.put 2 En.zero) hs
          have h2 := cnt_drop (s := s) (k := 2) (by omega)
          have h3 : (s.at 2).v.toNat = 0 := by
            simp only [SetD.at]
            rw [hv]
            rfl
          omega
        refine wp_lt (d := (.b true)) rfl ?_
        simp only [lv_cons, lv_nil, app_cons, app_nil]
        refine wp_ite (t := true) rfl (fun _ => ?_) (fun h => by cases h)
        refine wp_lt (len_is rfl (List.length_map ..)) ?_
        simp only [lv_cons, lv_nil, app_cons, app_nil]
        refine wp_call rfl (refAll_con (by omega)) rfl ?_
        simp only [lv_cons, lv_nil, app_cons, app_nil]
        refine wp_lt (len_is rfl (List.length_map ..)) ?_
        simp only [lv_cons, lv_nil, app_cons, app_nil]
        refine wp_lt (i_sub (b := 0) rfl rfl (by omega) (by omega)) ?_
        simp only [lv_cons, lv_nil, app_cons, app_nil]
        refine wp_lt (d := .b true) (cmp_e rfl (beq_iff_eq.2 (by omega))) ?_
        simp only [lv_cons, lv_nil, app_cons, app_nil]
        refine wp_ite (t := true) rfl (fun _ => ?_) (fun h => by cases h)
        refine wp_chk (inb_t rfl rfl (by rw [List.length_map, List.length_set]; exact hj)) ?_
        refine wp_lt (not_e (t := false) (idx_e rfl rfl (row_of (List.getElem?_set_self hj)) rfl)) ?_
        simp only [lv_cons, lv_nil, app_cons, app_nil]
        exact wp_return rfl rfl
    · refine wp_ite (t := false) rfl (fun h => by cases h) (fun _ => ?_)
      refine wp_ite (t := false) rfl (fun h => by cases h) (fun _ => ?_)
      refine wp_ite (t := false) rfl (fun h => by cases h) (fun _ => ?_)
      refine wp_ite (t := true) rfl (fun _ => ?_) (fun h => by cases h)
      refine wp_ite (idx_e rfl rfl htrow rfl) (fun hv => ?_) (fun hv => ?_)
      · have hdn : (allT (ts.set j (s.put 3 En.zero))).length + 1 = (allT ts).length := by
          have h1 := allT_set (s' := s.put 3 En.zero) hs
          have h2 := cnt_drop (s := s) (k := 3) (by omega)
          have h3 : (s.at 3).v.toNat = 1 := by
            simp only [SetD.at]
            rw [hv]
            rfl
          omega
        refine wp_lt (d := (.b true)) rfl ?_
        simp only [lv_cons, lv_nil, app_cons, app_nil]
        refine wp_ite (t := true) rfl (fun _ => ?_) (fun h => by cases h)
        refine wp_lt (len_is rfl (List.length_map ..)) ?_
        simp only [lv_cons, lv_nil, app_cons, app_nil]
        refine wp_call rfl (refAll_con (by omega)) rfl ?_
        simp only [lv_cons, lv_nil, app_cons, app_nil]
        refine wp_lt (len_is rfl (List.length_map ..)) ?_
        simp only [lv_cons, lv_nil, app_cons, app_nil]
        refine wp_lt (i_sub (b := 1) rfl rfl (by omega) (by omega)) ?_
        simp only [lv_cons, lv_nil, app_cons, app_nil]
        refine wp_lt (d := .b true) (cmp_e rfl (beq_iff_eq.2 (by omega))) ?_
        simp only [lv_cons, lv_nil, app_cons, app_nil]
        refine wp_ite (t := true) rfl (fun _ => ?_) (fun h => by cases h)
        refine wp_chk (inb_t rfl rfl (by rw [List.length_map, List.length_set]; exact hj)) ?_
        refine wp_lt (not_e (t := false) (idx_e rfl rfl (row_of (List.getElem?_set_self hj)) rfl)) ?_
        simp only [lv_cons, lv_nil, app_cons, app_nil]
        exact wp_return rfl rfl
      · have hdn : (allT (ts.set j (s.put 3 En.zero))).length + 0 = (allT ts).length := by
          have h1 := allT_set (s' := s.put 3 En.zero) hs
          have h2 := cnt_drop (s := s) (k := 3) (by omega)
          have h3 : (s.at 3).v.toNat = 0 := by
            simp only [SetD.at]
            rw [hv]
            rfl
          omega
        refine wp_lt (d := (.b true)) rfl ?_
        simp only [lv_cons, lv_nil, app_cons, app_nil]
        refine wp_ite (t := true) rfl (fun _ => ?_) (fun h => by cases h)
        refine wp_lt (len_is rfl (List.length_map ..)) ?_
        simp only [lv_cons, lv_nil, app_cons, app_nil]
        refine wp_call rfl (refAll_con (by omega)) rfl ?_
        simp only [lv_cons, lv_nil, app_cons, app_nil]
        refine wp_lt (len_is rfl (List.length_map ..)) ?_
        simp only [lv_cons, lv_nil, app_cons, app_nil]
        refine wp_lt (i_sub (b := 0) rfl rfl (by omega) (by omega)) ?_
        simp only [lv_cons, lv_nil, app_cons, app_nil]
        refine wp_lt (d := .b true) (cmp_e rfl (beq_iff_eq.2 (by omega))) ?_
        simp only [lv_cons, lv_nil, app_cons, app_nil]
        refine wp_ite (t := true) rfl (fun _ => ?_) (fun h => by cases h)
        refine wp_chk (inb_t rfl rfl (by rw [List.length_map, List.length_set]; exact hj)) ?_
        refine wp_lt (not_e (t := false) (idx_e rfl rfl (row_of (List.getElem?_set_self hj)) rfl)) ?_
        simp only [lv_cons, lv_nil, app_cons, app_nil]
        exact wp_return rfl rfl
end Go.Proofs.YtmjhghclgockjaaDoor.Sx
