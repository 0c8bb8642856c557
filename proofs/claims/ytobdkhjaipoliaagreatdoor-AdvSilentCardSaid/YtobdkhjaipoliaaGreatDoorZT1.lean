/-
  Layer 14: the buffer: where sets are, what is right: the contracts of the functions and of their references.
  Layer 14: a buffer's set replaced; what is found, used, put, dropped; the same buffers: contracts.
  Layer 14: what stays right; all entries; the same buffers; a new one: contracts.
  Layer 14: all entries by the reference; the same buffers; a new one; what the document fixes: contracts.
  Layer 14: how many entries there are: plain.
  Layer 14: what is found: plain.
-/
import Derived.Test.YtobdkhjaipoliaaGreatDoorZS1
import Derived.Test.YtobdkhjaipoliaaGreatDoorZStep
import Derived.Test.YtobdkhjaipoliaaGreatDoorZIrT
import Derived.Test.YtobdkhjaipoliaaGreatDoorZIrTl
namespace Go.Proofs.YtobdkhjaipoliaaGreatDoor.Sx
open Go
set_option linter.unusedVariables false
set_option linter.unusedSimpArgs false
set_option maxRecDepth 100000
abbrev tlb (ts : List SetD) : D := .sl 45 (ts.map SetD.ds)
abbrev tv (ts : List SetD) : DV := (true, [tlb ts])
def TOk (ts : List SetD) : Prop := ∀ s ∈ ts, s.Ok
theorem row_of {ts : List SetD} {j : Nat} {s : SetD} (h : ts[j]? = some s) : (ts.map SetD.ds)[j]? = some s.ds := by
  rw [List.getElem?_map, h]; rfl
theorem SetD.ds_len (s : SetD) : s.ds.length = 45 := rfl
def idxF (n vpn : Nat) (l : Int) : Nat := vpn / pgN l % n
theorem idxF_lt {n vpn : Nat} {l : Int} (h : 0 < n) : idxF n vpn l < n := Nat.mod_lt _ h
def wayOk (n j : Nat) (e : En) : Bool := !e.v || idxF n e.vpn e.lv == j
def setOk (n j : Nat) (s : SetD) : Bool := s.right && wayOk n j s.w0 && wayOk n j s.w1 && wayOk n j s.w2 && wayOk n j s.w3
def rightT (ts : List SetD) : Bool := decide (ts.length ≤ 16) && (List.range ts.length).all fun j => match ts[j]? with | some s => setOk ts.length j s | none => true
theorem rightT_iff {ts : List SetD} : rightT ts = true ↔ ts.length ≤ 16 ∧ ∀ j s, ts[j]? = some s → setOk ts.length j s = true := by
  simp only [rightT, Bool.and_eq_true, decide_eq_true_eq, List.all_eq_true, List.mem_range]
  refine and_congr_right fun _ => ⟨fun h j s hj => ?_, fun h j hj => ?_⟩
  · have := h j (List.getElem?_eq_some_iff.1 hj).1
    rwa [hj] at this
  · rw [List.getElem?_eq_getElem hj]
    exact h j _ (List.getElem?_eq_getElem hj)
theorem setOk_iff {n j : Nat} {s : SetD} : setOk n j s = true ↔ s.right = true ∧ ∀ k, k < 4 → wayOk n j (s.at k) = true := by
  simp only [setOk, Bool.and_eq_true]
  constructor
  · rintro ⟨⟨⟨⟨h, h0⟩, h1⟩, h2⟩, h3⟩
    refine ⟨h, fun k hk => ?_⟩
    have hcase : k = 0 ∨ k = 1 ∨ k = 2 ∨ k = 3 := by omega
    rcases hcase with rfl | rfl | rfl | rfl <;> assumption
  · rintro ⟨h, hk⟩
    exact ⟨⟨⟨⟨h, hk 0 (by omega)⟩, hk 1 (by omega)⟩, hk 2 (by omega)⟩, hk 3 (by omega)⟩
theorem right_at {s : SetD} (h : s.right = true) (k : Nat) : (s.at k).may = true := by
  obtain ⟨_, m0, m1, m2, m3⟩ := SetD.right_may h
  unfold SetD.at
  split <;> assumption
theorem may_lv {e : En} (h : e.may = true) : Lv e.lv := (En.may_May h).lv
theorem tlbIndex_con {n vpn : Nat} {l : Int} (hl : Lv l) (hn : 0 < n) (hn' : n < 9223372036854775808) (hv : vpn < 18446744073709551616) : Cn gAll 51 [i n, u vpn, i l] [i (idxF n vpn l)] := by
  refine con rfl rfl tlb_index_c tlb_index_p rfl ?_
  have h1 := pgN_pos (l := l)
  have h2 := szN_eq (l := l)
  have h3 := pgN_le (l := l)
  have h4 : szN l / 4096 = pgN l := by omega
  have h5 := idxF_lt (vpn := vpn) (l := l) hn
  refine wp_call rfl (vaSize_con hl) rfl ?_
  simp only [lv_cons, lv_nil, app_cons, app_nil]
  refine wp_lt (u_quo (b := 4096) rfl rfl (by omega) (by omega)) ?_
  simp only [lv_cons, lv_nil, app_cons, app_nil]
  rw [h4]
  refine wp_lt (u_quo rfl rfl (by omega) hv) ?_
  simp only [lv_cons, lv_nil, app_cons, app_nil]
  refine wp_lt (cv_u rfl (by omega)) ?_
  simp only [lv_cons, lv_nil, app_cons, app_nil]
  refine wp_lt (u_rem rfl rfl (by omega)) ?_
  simp only [lv_cons, lv_nil, app_cons, app_nil]
  unfold idxF at h5 ⊢
  refine wp_lt (cv_i rfl (by omega) (by omega)) ?_
  simp only [lv_cons, lv_nil, app_cons, app_nil]
  exact wp_return rfl rfl
theorem refIndex_con {n vpn : Nat} {l : Int} (hl : Lv l) (hn : 0 < n) (hn' : n < 9223372036854775808) (hv : vpn < 18446744073709551616) : Cn gAll 67 [i n, u vpn, i l] [i (idxF n vpn l)] := by
  refine con rfl rfl atlasref14_Index_c atlasref14_Index_p rfl ?_
  have h1 := pgN_pos (l := l)
  have h5 := idxF_lt (vpn := vpn) (l := l) hn
  refine wp_call rfl (refPages_con hl) rfl ?_
  simp only [lv_cons, lv_nil, app_cons, app_nil]
  refine wp_lt (u_quo rfl rfl (by omega) hv) ?_
  simp only [lv_cons, lv_nil, app_cons, app_nil]
  refine wp_lt (cv_u rfl (by omega)) ?_
  simp only [lv_cons, lv_nil, app_cons, app_nil]
  refine wp_lt (u_rem rfl rfl (by omega)) ?_
  simp only [lv_cons, lv_nil, app_cons, app_nil]
  unfold idxF at h5 ⊢
  refine wp_lt (cv_i rfl (by omega) (by omega)) ?_
  simp only [lv_cons, lv_nil, app_cons, app_nil]
  exact wp_return rfl rfl
theorem refRightT_con {ts : List SetD} (hO : TOk ts) (hn : ts.length < 9223372036854775808) : Cn gAll 33 [tv ts] [bb (rightT ts)] := by
  refine con rfl rfl atlasref14_Right_c atlasref14_Right_p rfl ?_
  unfold atlasref14_Right_ir
  simp only [lv_cons, lv_nil, app_cons, app_nil]
  refine wp_rounds (fun m ds => ∃ (b : Bool) (n : Nat), ds = [.b b, I n] ∧ n + m = 18 ∧ n ≤ 17 ∧ n ≤ ts.length ∧ ∀ j, j < n → ∀ s, ts[j]? = some s → setOk ts.length j s = true) 18 rfl ⟨false, 0, rfl, by omega, by omega, by omega, fun j hj => by omega⟩ ?_
    (fun es hes => by obtain ⟨_, n, _, h1, h2, _⟩ := hes; omega)
  rintro m es Q ⟨b, n, rfl, hm, hle, hnl', hh⟩ hQ
  simp only [lv_cons, lv_nil, app_cons, app_nil]
  refine wp_lt (len_e rfl) ?_
  simp only [lv_cons, lv_nil, app_cons, app_nil]
  rw [List.length_map]
  refine wp_lt rfl ?_
  simp only [lv_cons, lv_nil, app_cons, app_nil]
  refine wp_ite rfl (fun hc => ?_) (fun hc => ?_)
  · have hc := of_decide_eq_true hc
    have hnl : n < ts.length := by omega
    obtain ⟨s, hs⟩ : ∃ s, ts[n]? = some s := ⟨_, List.getElem?_eq_getElem hnl⟩
    have hok : s.Ok := hO s (List.mem_of_getElem? hs)
    refine wp_lt rfl ?_
    simp only [lv_cons, lv_nil, app_cons, app_nil]
    refine wp_ite rfl (fun hc2 => ?_) (fun hc2 => ?_)
    · have hc2 := of_decide_eq_true hc2
      refine wp_chk (inb_t rfl rfl (by rw [List.length_map]; exact hnl)) ?_
      refine wp_call (evs_cons (evals_row rfl rfl (row_of hs) s.ds_len) rfl) (refRight_con (s := s)) rfl ?_
      simp only [lv_cons, lv_nil, app_cons, app_nil]
      refine wp_lt rfl ?_
      simp only [lv_cons, lv_nil, app_cons, app_nil]
      refine wp_ite rfl (fun hr => ?_) (fun hr => ?_)
      · refine wp_return rfl (bb_eq ?_)
        symm
        rw [Bool.eq_false_iff]
        intro hrt
        have := (setOk_iff.1 ((rightT_iff.1 hrt).2 n s hs)).1
        rw [this] at hr
        cases hr
      · have hr : s.right = true := by simpa using hr
        obtain ⟨_, m0, m1, m2, m3⟩ := SetD.right_may hr
        refine wp_rounds (fun m ds => ∃ (b : Bool) (k : Nat), ds = [.b b, I k] ∧ k + m = 5 ∧ k ≤ 4 ∧ ∀ q, q < k → wayOk ts.length n (s.at q) = true) 5 rfl ⟨b, 0, rfl, by omega, by omega, fun q hq => by omega⟩ ?_
          (fun es hes => by obtain ⟨_, n, _, h1, h2, _⟩ := hes; omega)
        rintro mm es2 Q2 ⟨b2, k, rfl, hm2, hk4, hw⟩ hQ2
        simp only [lv_cons, lv_nil, app_cons, app_nil]
        have hcase : k = 0 ∨ k = 1 ∨ k = 2 ∨ k = 3 ∨ k = 4 := by omega
        rcases hcase with rfl | rfl | rfl | rfl | rfl
        · have hrow := row_of hs
          refine wp_lt (d := .b true) rfl ?_
          simp only [lv_cons, lv_nil, app_cons, app_nil]
          refine wp_ite (t := true) rfl (fun _ => ?_) (fun h => by cases h)
          refine wp_chk (inb_t rfl rfl (by rw [List.length_map]; exact hnl)) ?_
          skip
          refine wp_ite (t := true) rfl (fun _ => ?_) (fun h => by cases h)
          refine wp_ite (idx_e rfl rfl hrow rfl) (fun hv => ?_) (fun hv => ?_)
          · refine wp_lt (len_e rfl) ?_
            simp only [lv_cons, lv_nil, app_cons, app_nil]
            rw [List.length_map]
            refine wp_call (evs_cons rfl (evs_cons (evs_one (idx_e rfl rfl hrow rfl)) (evs_cons (evs_one (idx_e rfl rfl hrow rfl)) rfl))) (refIndex_con (may_lv m0) (by omega) (by omega) hok.w0.vpn) rfl ?_
            simp only [lv_cons, lv_nil, app_cons, app_nil]
            refine wp_lt rfl ?_
            simp only [lv_cons, lv_nil, app_cons, app_nil]
            refine wp_ite rfl (fun hne => ?_) (fun hne => ?_)
            · refine wp_return rfl (bb_eq ?_)
              symm
              rw [Bool.eq_false_iff]
              intro hr
              have := (setOk_iff.1 ((rightT_iff.1 hr).2 n s hs)).2 0 (by omega)
              simp only [SetD.at, wayOk, hv, Bool.not_true, Bool.false_or, beq_iff_eq] at this
              rw [i_bne, this] at hne
              simp at hne
            · refine wp_cont rfl rfl (hQ2 _ ⟨_, 0 + 1, rfl, by omega, by omega, fun q hq => ?_⟩)
              by_cases hq' : q = 0
              · subst hq'
                rw [i_bne] at hne
                simp only [SetD.at, wayOk, hv, Bool.not_true, Bool.false_or, beq_iff_eq]
                simpa using hne
              · exact hw q (by omega)
          · refine wp_cont rfl rfl (hQ2 _ ⟨_, 0 + 1, rfl, by omega, by omega, fun q hq => ?_⟩)
            by_cases hq' : q = 0
            · subst hq'
              simp [SetD.at, wayOk, hv]
            · exact hw q (by omega)
        · have hrow := row_of hs
          refine wp_lt (d := .b true) rfl ?_
          simp only [lv_cons, lv_nil, app_cons, app_nil]
          refine wp_ite (t := true) rfl (fun _ => ?_) (fun h => by cases h)
          refine wp_chk (inb_t rfl rfl (by rw [List.length_map]; exact hnl)) ?_
          refine wp_ite (t := false) rfl (fun h => by cases h) (fun _ => ?_)
          refine wp_ite (t := true) rfl (fun _ => ?_) (fun h => by cases h)
          refine wp_ite (idx_e rfl rfl hrow rfl) (fun hv => ?_) (fun hv => ?_)
          · refine wp_lt (len_e rfl) ?_
            simp only [lv_cons, lv_nil, app_cons, app_nil]
            rw [List.length_map]
            refine wp_call (evs_cons rfl (evs_cons (evs_one (idx_e rfl rfl hrow rfl)) (evs_cons (evs_one (idx_e rfl rfl hrow rfl)) rfl))) (refIndex_con (may_lv m1) (by omega) (by omega) hok.w1.vpn) rfl ?_
            simp only [lv_cons, lv_nil, app_cons, app_nil]
            refine wp_lt rfl ?_
            simp only [lv_cons, lv_nil, app_cons, app_nil]
            refine wp_ite rfl (fun hne => ?_) (fun hne => ?_)
            · refine wp_return rfl (bb_eq ?_)
              symm
              rw [Bool.eq_false_iff]
              intro hr
              have := (setOk_iff.1 ((rightT_iff.1 hr).2 n s hs)).2 1 (by omega)
              simp only [SetD.at, wayOk, hv, Bool.not_true, Bool.false_or, beq_iff_eq] at this
              rw [i_bne, this] at hne
              simp at hne
            · refine wp_cont rfl rfl (hQ2 _ ⟨_, 1 + 1, rfl, by omega, by omega, fun q hq => ?_⟩)
              by_cases hq' : q = 1
              · subst hq'
                rw [i_bne] at hne
                simp only [SetD.at, wayOk, hv, Bool.not_true, Bool.false_or, beq_iff_eq]
                simpa using hne
              · exact hw q (by omega)
          · refine wp_cont rfl rfl (hQ2 _ ⟨_, 1 + 1, rfl, by omega, by omega, fun q hq => ?_⟩)
            by_cases hq' : q = 1
            · subst hq'
              simp [SetD.at, wayOk, hv]
            · exact hw q (by omega)
        · have hrow := row_of hs
          refine wp_lt (d := .b true) rfl ?_
          simp only [lv_cons, lv_nil, app_cons, app_nil]
          refine wp_ite (t := true) rfl (fun _ => ?_) (fun h => by cases h)
          refine wp_chk (inb_t rfl rfl (by rw [List.length_map]; exact hnl)) ?_
          refine wp_ite (t := false) rfl (fun h => by cases h) (fun _ => ?_)
          refine wp_ite (t := false) rfl (fun h => by cases h) (fun _ => ?_)
          refine wp_ite (t := true) rfl (fun _ => ?_) (fun h => by cases h)
          refine wp_ite (idx_e rfl rfl hrow rfl) (fun hv => ?_) (fun hv => ?_)
          · refine wp_lt (len_e rfl) ?_
            simp only [lv_cons, lv_nil, app_cons, app_nil]
            rw [List.length_map]
            refine wp_call (evs_cons rfl (evs_cons (evs_one (idx_e rfl rfl hrow rfl)) (evs_cons (evs_one (idx_e rfl rfl hrow rfl)) rfl))) (refIndex_con (may_lv m2) (by omega) (by omega) hok.w2.vpn) rfl ?_
            simp only [lv_cons, lv_nil, app_cons, app_nil]
            refine wp_lt rfl ?_
            simp only [lv_cons, lv_nil, app_cons, app_nil]
            refine wp_ite rfl (fun hne => ?_) (fun hne => ?_)
            · refine wp_return rfl (bb_eq ?_)
              symm
              rw [Bool.eq_false_iff]
              intro hr
              have := (setOk_iff.1 ((rightT_iff.1 hr).2 n s hs)).2 2 (by omega)
              simp only [SetD.at, wayOk, hv, Bool.not_true, Bool.false_or, beq_iff_eq] at this
              rw [i_bne, this] at hne
              simp at hne
            · refine wp_cont rfl rfl (hQ2 _ ⟨_, 2 + 1, rfl, by omega, by omega, fun q hq => ?_⟩)
              by_cases hq' : q = 2
              · subst hq'
                rw [i_bne] at hne
                simp only [SetD.at, wayOk, hv, Bool.not_true, Bool.false_or, beq_iff_eq]
                simpa using hne
              · exact hw q (by omega)
          · refine wp_cont rfl rfl (hQ2 _ ⟨_, 2 + 1, rfl, by omega, by omega, fun q hq => ?_⟩)
            by_cases hq' : q = 2
            · subst hq'
              simp [SetD.at, wayOk, hv]
            · exact hw q (by omega)
        · have hrow := row_of hs
          refine wp_lt (d := .b true) rfl ?_
          simp only [lv_cons, lv_nil, app_cons, app_nil]
          refine wp_ite (t := true) rfl (fun _ => ?_) (fun h => by cases h)
          refine wp_chk (inb_t rfl rfl (by rw [List.length_map]; exact hnl)) ?_
          refine wp_ite (t := false) rfl (fun h => by cases h) (fun _ => ?_)
          refine wp_ite (t := false) rfl (fun h => by cases h) (fun _ => ?_)
          refine wp_ite (t := false) rfl (fun h => by cases h) (fun _ => ?_)
          refine wp_ite (t := true) rfl (fun _ => ?_) (fun h => by cases h)
          refine wp_ite (idx_e rfl rfl hrow rfl) (fun hv => ?_) (fun hv => ?_)
          · refine wp_lt (len_e rfl) ?_
            simp only [lv_cons, lv_nil, app_cons, app_nil]
            rw [List.length_map]
            refine wp_call (evs_cons rfl (evs_cons (evs_one (idx_e rfl rfl hrow rfl)) (evs_cons (evs_one (idx_e rfl rfl hrow rfl)) rfl))) (refIndex_con (may_lv m3) (by omega) (by omega) hok.w3.vpn) rfl ?_
            simp only [lv_cons, lv_nil, app_cons, app_nil]
            refine wp_lt rfl ?_
            simp only [lv_cons, lv_nil, app_cons, app_nil]
            refine wp_ite rfl (fun hne => ?_) (fun hne => ?_)
            · refine wp_return rfl (bb_eq ?_)
              symm
              rw [Bool.eq_false_iff]
              intro hr
              have := (setOk_iff.1 ((rightT_iff.1 hr).2 n s hs)).2 3 (by omega)
              simp only [SetD.at, wayOk, hv, Bool.not_true, Bool.false_or, beq_iff_eq] at this
              rw [i_bne, this] at hne
              simp at hne
            · refine wp_cont rfl rfl (hQ2 _ ⟨_, 3 + 1, rfl, by omega, by omega, fun q hq => ?_⟩)
              by_cases hq' : q = 3
              · subst hq'
                rw [i_bne] at hne
                simp only [SetD.at, wayOk, hv, Bool.not_true, Bool.false_or, beq_iff_eq]
                simpa using hne
              · exact hw q (by omega)
          · refine wp_cont rfl rfl (hQ2 _ ⟨_, 3 + 1, rfl, by omega, by omega, fun q hq => ?_⟩)
            by_cases hq' : q = 3
            · subst hq'
              simp [SetD.at, wayOk, hv]
            · exact hw q (by omega)
        · refine wp_lt (d := .b false) rfl ?_
          simp only [lv_cons, lv_nil, app_cons, app_nil]
          refine wp_ite (t := false) rfl (fun h => by cases h) (fun _ => ?_)
          refine wp_lt (i_add (a := (n : Int)) (b := 1) rfl rfl (by omega) (by omega)) ?_
          simp only [lv_cons, lv_nil, app_cons, app_nil]
          refine wp_cont rfl rfl (hQ _ ⟨_, n + 1, rfl, by omega, by omega, by omega, fun j hj s' hs' => ?_⟩)
          by_cases hjn : j = n
          · subst hjn
            rw [hs] at hs'
            cases hs'
            exact setOk_iff.2 ⟨hr, hw⟩
          · exact hh j (by omega) s' hs'
    · have hc2 := of_decide_eq_false hc2
      refine wp_lt (len_e rfl) ?_
      simp only [lv_cons, lv_nil, app_cons, app_nil]
      rw [List.length_map]
      refine wp_lt rfl ?_
      simp only [lv_cons, lv_nil, app_cons, app_nil]
      refine wp_return rfl (bb_iff ?_)
      rw [rightT_iff]
      simp only [decide_eq_true_eq]
      exact ⟨fun h => by omega, fun h => by have := h.1; omega⟩
  · have hc := of_decide_eq_false hc
    refine wp_lt (len_e rfl) ?_
    simp only [lv_cons, lv_nil, app_cons, app_nil]
    rw [List.length_map]
    refine wp_lt rfl ?_
    simp only [lv_cons, lv_nil, app_cons, app_nil]
    refine wp_return rfl (bb_iff ?_)
    rw [rightT_iff]
    simp only [decide_eq_true_eq]
    refine ⟨fun h => ⟨by omega, fun j s hj => hh j ?_ s hj⟩, fun h => by have := h.1; omega⟩
    have := (List.getElem?_eq_some_iff.1 hj).1
    omega
end Go.Proofs.YtobdkhjaipoliaaGreatDoor.Sx
namespace Go.Proofs.YtobdkhjaipoliaaGreatDoor.Sx
open Go
set_option linter.unusedVariables false
set_option linter.unusedSimpArgs false
set_option maxRecDepth 100000
theorem map_set {ts : List SetD} {j : Nat} {s : SetD} : (ts.map SetD.ds).set j s.ds = (ts.set j s).map SetD.ds := by rw [List.map_set]
theorem with_con {ts : List SetD} {j : Nat} {s : SetD} (hj : j < ts.length) (hl : ts.length ≤ 1000000) : Cn gAll 53 [tv ts, i j, s.dv] [tv (ts.set j s)] := by
  refine con rfl rfl tlb_with_c tlb_with_p rfl ?_
  unfold tlb_with_ir
  have hrow : (ts.map SetD.ds)[j]? = some (ts[j]).ds := row_of (List.getElem?_eq_getElem hj)
  have hjl : j < (ts.map SetD.ds).length := by rw [List.length_map]; exact hj
  simp only [lv_cons, lv_nil, SetD.ds, En.ds, app_cons, app_nil]
  refine wp_may rfl (fun h => ?_) ?_
  · exfalso
    simp at h
    subst h
    simp at hj
  refine wp_chk (room_t (app0_e rfl) (by rw [List.length_map]; omega)) ?_
  refine wp_chk (inb_t (app0_e rfl) rfl hjl) ?_
  refine wp_chk (inb_t (app0_e rfl) rfl hjl) ?_
  refine wp_return (evs_cons (evs_one (put_e (ds := s.ds) (app0_e rfl) rfl hrow rfl rfl)) rfl) ?_
  rw [map_set]
structure TR (ts : List SetD) : Prop where
  right : rightT ts = true
  ok : TOk ts
theorem TR.len {ts : List SetD} (h : TR ts) : ts.length ≤ 16 := (rightT_iff.1 h.right).1
theorem TR.set {ts : List SetD} (h : TR ts) {j : Nat} {s : SetD} (hs : ts[j]? = some s) : s.right = true := (setOk_iff.1 ((rightT_iff.1 h.right).2 j s hs)).1
theorem TR.tree {ts : List SetD} (h : TR ts) {j : Nat} {s : SetD} (hs : ts[j]? = some s) : s.t < 8 := (SetD.right_may (h.set hs)).1
theorem tlbUse_con {ts : List SetD} {j k : Nat} {s : SetD} (h : TR ts) (hs : ts[j]? = some s) (hk : k < 4) : Cn gAll 61 [tv ts, i j, i k] [tv (ts.set j (s.use k))] := by
  have hj := (List.getElem?_eq_some_iff.1 hs).1
  have hl := h.len
  refine con rfl rfl tlb_Use_c tlb_Use_p rfl ?_
  unfold tlb_Use_ir
  simp only [lv_cons, lv_nil, SetD.ds, En.ds, app_cons, app_nil]
  refine wp_chk (inb_t rfl rfl (by rw [List.length_map]; exact hj)) ?_
  refine wp_call (evs_cons (evals_row rfl rfl (row_of hs) s.ds_len) rfl) (use_con (s := s) (h.tree hs) hk) rfl ?_
  simp only [lv_cons, lv_nil, SetD.ds, SetD.use, En.ds, app_cons, app_nil]
  refine wp_call rfl (with_con (s := s.use k) hj (by omega)) rfl ?_
  simp only [lv_cons, lv_nil, app_cons, app_nil]
  exact wp_return rfl rfl
def putT (ts : List SetD) (e : En) (v : Int) : List SetD := match ts[idxF ts.length e.vpn e.lv]? with
  | some s => ts.set (idxF ts.length e.vpn e.lv) (setPut s e v)
  | none => ts
theorem tlbPut_con {ts : List SetD} {e : En} {v : Int} (h : TR ts) (he : e.Ok) (hm : e.may = true) : Cn gAll 25 [tv ts, e.dv, i v] [tv (putT ts e v)] := by
  have hl := h.len
  refine con rfl rfl tlb_Put_c tlb_Put_p rfl ?_
  unfold tlb_Put_ir
  simp only [lv_cons, lv_nil, SetD.ds, En.ds, app_cons, app_nil]
  refine wp_lt (len_e rfl) ?_
  simp only [lv_cons, lv_nil, app_cons, app_nil]
  rw [List.length_map]
  refine wp_lt rfl ?_
  simp only [lv_cons, lv_nil, app_cons, app_nil]
  refine wp_ite rfl (fun h0 => ?_) (fun h0 => ?_)
  · have : ts = [] := by
      have : ts.length = 0 := by simpa using h0
      exact List.length_eq_zero_iff.1 this
    subst this
    exact wp_return rfl rfl
  · have hn : 0 < ts.length := by
      have : ¬ ts.length = 0 := by simpa using h0
      omega
    refine wp_call rfl (may_con (e := e) he) rfl ?_
    simp only [lv_cons, lv_nil, app_cons, app_nil]
    rw [hm]
    refine wp_lt (d := .b false) rfl ?_
    simp only [lv_cons, lv_nil, app_cons, app_nil]
    refine wp_ite (t := false) rfl (fun h => by cases h) (fun _ => ?_)
    refine wp_lt (len_e rfl) ?_
    simp only [lv_cons, lv_nil, app_cons, app_nil]
    rw [List.length_map]
    refine wp_call rfl (tlbIndex_con (may_lv hm) hn (by omega) he.vpn) rfl ?_
    simp only [lv_cons, lv_nil, app_cons, app_nil]
    have hj := idxF_lt (vpn := e.vpn) (l := e.lv) hn
    obtain ⟨s, hs⟩ : ∃ s, ts[idxF ts.length e.vpn e.lv]? = some s := ⟨_, List.getElem?_eq_getElem hj⟩
    have hput : putT ts e v = ts.set (idxF ts.length e.vpn e.lv) (setPut s e v) := by rw [putT, hs]
    rw [hput]
    generalize idxF ts.length e.vpn e.lv = j at hj hs ⊢
    refine wp_chk (inb_t rfl rfl (by rw [List.length_map]; exact hj)) ?_
    refine wp_call (evs_cons (evals_row rfl rfl (row_of hs) s.ds_len) rfl) (put_con (s := s) (e := e) (v := v) (h.tree hs)) rfl ?_
    simp only [lv_cons, lv_nil, SetD.ds, En.ds, app_cons, app_nil]
    refine wp_call rfl (with_con (s := setPut s e v) hj (by omega)) rfl ?_
    simp only [lv_cons, lv_nil, app_cons, app_nil]
    exact wp_return rfl rfl
def dropT (ts : List SetD) (j way : Int) : List SetD × Int := if 0 ≤ j ∧ j < ts.length ∧ 0 ≤ way ∧ way < 4 then (match ts[j.toNat]? with | some s => ts.set j.toNat (s.put way.toNat En.zero) | none => ts, 0) else (ts, 1)
theorem tlbDrop_con {ts : List SetD} {j way : Int} (h : TR ts) : Cn gAll 27 [tv ts, i j, i way] [tv (dropT ts j way).1, i (dropT ts j way).2] := by
  have hl := h.len
  refine con rfl rfl tlb_Drop_c tlb_Drop_p rfl ?_
  unfold tlb_Drop_ir
  simp only [lv_cons, lv_nil, app_cons, app_nil]
  refine wp_lt rfl ?_
  simp only [lv_cons, lv_nil, app_cons, app_nil]
  refine wp_ite rfl (fun h1 => ?_) (fun h1 => ?_)
  · have h1 := of_decide_eq_true h1
    have hd : dropT ts j way = (ts, 1) := by unfold dropT; rw [if_neg (by omega)]
    rw [hd]
    exact wp_return rfl rfl
  have h1 := of_decide_eq_false h1
  refine wp_lt (len_e rfl) ?_
  simp only [lv_cons, lv_nil, app_cons, app_nil]
  rw [List.length_map]
  refine wp_lt rfl ?_
  simp only [lv_cons, lv_nil, app_cons, app_nil]
  refine wp_ite rfl (fun h2 => ?_) (fun h2 => ?_)
  · have h2 := of_decide_eq_true h2
    have hd : dropT ts j way = (ts, 1) := by unfold dropT; rw [if_neg (by omega)]
    rw [hd]
    exact wp_return rfl rfl
  have h2 := of_decide_eq_false h2
  refine wp_lt rfl ?_
  simp only [lv_cons, lv_nil, app_cons, app_nil]
  refine wp_ite rfl (fun h3 => ?_) (fun h3 => ?_)
  · have h3 := of_decide_eq_true h3
    have hd : dropT ts j way = (ts, 1) := by unfold dropT; rw [if_neg (by omega)]
    rw [hd]
    exact wp_return rfl rfl
  have h3 := of_decide_eq_false h3
  refine wp_lt rfl ?_
  simp only [lv_cons, lv_nil, app_cons, app_nil]
  refine wp_ite rfl (fun h4 => ?_) (fun h4 => ?_)
  · have h4 := of_decide_eq_true h4
    have hd : dropT ts j way = (ts, 1) := by unfold dropT; rw [if_neg (by omega)]
    rw [hd]
    exact wp_return rfl rfl
  have h4 := of_decide_eq_false h4
  obtain ⟨j, rfl⟩ := Int.eq_ofNat_of_zero_le (show 0 ≤ j by omega)
  obtain ⟨k, rfl⟩ := Int.eq_ofNat_of_zero_le (show 0 ≤ way by omega)
  have hj : j < ts.length := by omega
  obtain ⟨s, hs⟩ : ∃ s, ts[j]? = some s := ⟨_, List.getElem?_eq_getElem hj⟩
  have hd : dropT ts j k = (ts.set j (s.put k En.zero), 0) := by unfold dropT; rw [if_pos (by omega), Int.toNat_natCast, Int.toNat_natCast, hs]
  rw [hd]
  refine wp_chk (inb_t rfl rfl (by rw [List.length_map]; exact hj)) ?_
  refine wp_call (evs_cons (evals_row rfl rfl (row_of hs) s.ds_len) rfl) (drop_con (s := s) (k := k) (by omega)) rfl ?_
  obtain ⟨s', hs'⟩ : ∃ s', s' = s.put k En.zero := ⟨_, rfl⟩
  rw [← hs']
  simp only [lv_cons, lv_nil, SetD.ds, En.ds, app_cons, app_nil]
  refine wp_call rfl (with_con (s := s') hj (by omega)) rfl ?_
  simp only [lv_cons, lv_nil, app_cons, app_nil]
  exact wp_return rfl rfl
def zeroSet : SetD := ⟨En.zero, En.zero, En.zero, En.zero, 0⟩
def setAt (ts : List SetD) (j : Nat) : SetD := ts.getD j zeroSet
theorem setAt_of {ts : List SetD} {j : Nat} {s : SetD} (h : ts[j]? = some s) : setAt ts j = s := by simp [setAt, h]
def numF (a : Nat) : Nat := a / 4096 % 134217728
theorem numF_lt (a : Nat) : numF a < 134217728 := Nat.mod_lt _ (by omega)
def lvI (ts : List SetD) (a : Nat) (l : Int) : Nat := idxF ts.length (numF a) l
def lvF (ts : List SetD) (n a : Nat) (l : Int) : Int × Bool := findF (setAt ts (lvI ts a l)) n a l
def foundT (ts : List SetD) (n a : Nat) (l : Int) : En × Nat × Int × Bool := ((setAt ts (lvI ts a l)).at (lvF ts n a l).1.toNat, lvI ts a l, (lvF ts n a l).1, true)
def noneT : En × Nat × Int × Bool := (En.zero, 0, 0, false)
def findT (ts : List SetD) (n a : Nat) : En × Nat × Int × Bool := if ts.length = 0 then noneT else if (lvF ts n a 0).2 then foundT ts n a 0 else if (lvF ts n a 1).2 then foundT ts n a 1 else if (lvF ts n a 2).2 then foundT ts n a 2 else noneT
def findV (r : En × Nat × Int × Bool) : List DV := [r.1.dv, i r.2.1, i r.2.2.1, bb r.2.2.2]
theorem findF_cases (s : SetD) (n a : Nat) (l : Int) : (∃ k : Nat, k < 4 ∧ findF s n a l = ((k : Int), true)) ∨ findF s n a l = (0, false) := by
  unfold findF
  split
  · exact .inl ⟨0, by omega, rfl⟩
  · split
    · exact .inl ⟨1, by omega, rfl⟩
    · split
      · exact .inl ⟨2, by omega, rfl⟩
      · split
        · exact .inl ⟨3, by omega, rfl⟩
        · exact .inr rfl
theorem findT_at {ts : List SetD} {n a l : Nat} (hn : 0 < ts.length) (hl : l < 3) (hb : ∀ q : Nat, q < l → (lvF ts n a (q : Int)).2 = false) (h : (lvF ts n a (l : Int)).2 = true) : findT ts n a = foundT ts n a l := by
  unfold findT
  rw [if_neg (by omega)]
  have hcase : l = 0 ∨ l = 1 ∨ l = 2 := by omega
  rcases hcase with rfl | rfl | rfl
  · have h' : (lvF ts n a 0).2 = true := h
    rw [if_pos h']; rfl
  · have h0 : (lvF ts n a 0).2 = false := hb 0 (by omega)
    have h' : (lvF ts n a 1).2 = true := h
    rw [if_neg (by rw [h0]; decide), if_pos h']; rfl
  · have h0 : (lvF ts n a 0).2 = false := hb 0 (by omega)
    have h1 : (lvF ts n a 1).2 = false := hb 1 (by omega)
    have h' : (lvF ts n a 2).2 = true := h
    rw [if_neg (by rw [h0]; decide), if_neg (by rw [h1]; decide), if_pos h']; rfl
theorem findT_none {ts : List SetD} {n a : Nat} (hb : ∀ q : Nat, q < 3 → (lvF ts n a (q : Int)).2 = false) : findT ts n a = noneT := by
  unfold findT
  have h0 : (lvF ts n a 0).2 = false := hb 0 (by omega)
  have h1 : (lvF ts n a 1).2 = false := hb 1 (by omega)
  have h2 : (lvF ts n a 2).2 = false := hb 2 (by omega)
  split
  · rfl
  · rw [if_neg (by rw [h0]; decide), if_neg (by rw [h1]; decide), if_neg (by rw [h2]; decide)]
theorem lv_nat {l : Nat} (h : l < 3) : Lv (l : Int) := by unfold Lv; omega
theorem tlbFind_con {ts : List SetD} {n a : Nat} (h : TR ts) (ha : a < 18446744073709551616) : Cn gAll 59 [tv ts, u n, u a] (findV (findT ts n a)) := by
  have hlen := h.len
  refine con rfl rfl tlb_Find_c tlb_Find_p rfl ?_
  unfold tlb_Find_ir
  simp only [lv_cons, lv_nil, app_cons, app_nil]
  refine wp_lt (len_e rfl) ?_
  simp only [lv_cons, lv_nil, app_cons, app_nil]
  rw [List.length_map]
  refine wp_lt rfl ?_
  simp only [lv_cons, lv_nil, app_cons, app_nil]
  refine wp_ite rfl (fun h0 => ?_) (fun h0 => ?_)
  · refine wp_return rfl ?_
    have : ts.length = 0 := by simpa using h0
    unfold findT
    rw [if_pos this]
    rfl
  have hn : 0 < ts.length := by
    have : ¬ ts.length = 0 := by simpa using h0
    omega
  refine wp_rounds (fun m ds => ∃ (d1 d2 d3 : D) (l : Nat), ds = [d1, d2, d3, I l] ∧ l + m = 4 ∧ l ≤ 3 ∧ ∀ q, q < l → (lvF ts n a (q : Int)).2 = false) 4 rfl ⟨_, _, _, 0, rfl, by omega, by omega, fun q hq => by omega⟩ ?_
    (fun es hes => by obtain ⟨_, _, _, l, _, h1, h2, _⟩ := hes; omega)
  rintro m es Q ⟨d1, d2, d3, l, rfl, hm, hl3', hb⟩ hQ
  simp only [lv_cons, lv_nil, app_cons, app_nil]
  refine wp_lt rfl ?_
  simp only [lv_cons, lv_nil, app_cons, app_nil]
  refine wp_ite rfl (fun hc => ?_) (fun hc => ?_)
  · have hc := of_decide_eq_true hc
    have hl3 : l < 3 := by omega
    refine wp_lt (len_e rfl) ?_
    simp only [lv_cons, lv_nil, app_cons, app_nil]
    rw [List.length_map]
    refine wp_call rfl (number_con ha) rfl ?_
    simp only [lv_cons, lv_nil, app_cons, app_nil]
    have hj : lvI ts a l < ts.length := idxF_lt hn
    obtain ⟨s, hs⟩ : ∃ s, ts[lvI ts a l]? = some s := ⟨_, List.getElem?_eq_getElem hj⟩
    have hsa := setAt_of hs
    refine wp_call rfl (tlbIndex_con (l := (l : Int)) (lv_nat (by omega)) hn (by omega) (by have := numF_lt a; omega)) rfl ?_
    simp only [lv_cons, lv_nil, app_cons, app_nil]
    rw [show idxF ts.length (a / 4096 % 134217728) (l : Int) = lvI ts a l from rfl]
    refine wp_chk (inb_t rfl rfl (by rw [List.length_map]; exact hj)) ?_
    have hfc : lvF ts n a l = findF s n a l := by rw [lvF, hsa]
    refine wp_call (evs_cons (evals_row rfl rfl (row_of hs) s.ds_len) rfl) (find_con (s := s) (n := n) ha (lv_nat hl3) (h.set hs)) rfl ?_
    simp only [lv_cons, lv_nil, app_cons, app_nil]
    rw [← hfc]
    rcases findF_cases s n a l with ⟨k, hk4, hk⟩ | hk
    · rw [hfc, hk]
      refine wp_ite (t := true) rfl (fun _ => ?_) (fun h => by cases h)
      refine wp_chk (inb_t rfl rfl (by rw [List.length_map]; exact hj)) ?_
      have hfound : findT ts n a = (s.at k, lvI ts a l, (k : Int), true) := by
        rw [findT_at hn hl3 hb (by rw [hfc, hk])]
        unfold foundT
        rw [hfc, hk, hsa, Int.toNat_natCast]
      have hcase : k = 0 ∨ k = 1 ∨ k = 2 ∨ k = 3 := by omega
      rcases hcase with rfl | rfl | rfl | rfl
      · skip
        refine wp_ite (t := true) rfl (fun _ => ?_) (fun h => by cases h)
        refine wp_return (evs_cons (evals_idr rfl rfl (row_of hs) 11 (11 * 0) (by rw [SetD.ds_len]; decide)) rfl) ?_
        rw [hfound]
        rfl
      · refine wp_ite (t := false) rfl (fun h => by cases h) (fun _ => ?_)
        refine wp_ite (t := true) rfl (fun _ => ?_) (fun h => by cases h)
        refine wp_return (evs_cons (evals_idr rfl rfl (row_of hs) 11 (11 * 1) (by rw [SetD.ds_len]; decide)) rfl) ?_
        rw [hfound]
        rfl
      · refine wp_ite (t := false) rfl (fun h => by cases h) (fun _ => ?_)
        refine wp_ite (t := false) rfl (fun h => by cases h) (fun _ => ?_)
        refine wp_ite (t := true) rfl (fun _ => ?_) (fun h => by cases h)
        refine wp_return (evs_cons (evals_idr rfl rfl (row_of hs) 11 (11 * 2) (by rw [SetD.ds_len]; decide)) rfl) ?_
        rw [hfound]
        rfl
      · refine wp_ite (t := false) rfl (fun h => by cases h) (fun _ => ?_)
        refine wp_ite (t := false) rfl (fun h => by cases h) (fun _ => ?_)
        refine wp_ite (t := false) rfl (fun h => by cases h) (fun _ => ?_)
        refine wp_ite (t := true) rfl (fun _ => ?_) (fun h => by cases h)
        refine wp_return (evs_cons (evals_idr rfl rfl (row_of hs) 11 (11 * 3) (by rw [SetD.ds_len]; decide)) rfl) ?_
        rw [hfound]
        rfl
    · rw [hfc, hk]
      refine wp_ite (t := false) rfl (fun h => by cases h) (fun _ => ?_)
      refine wp_lt (i_add (a := (l : Int)) (b := 1) rfl rfl (by omega) (by omega)) ?_
      simp only [lv_cons, lv_nil, app_cons, app_nil]
      refine wp_cont rfl rfl (hQ _ ⟨_, _, _, l + 1, rfl, by omega, by omega, fun q hq => ?_⟩)
      by_cases hq' : q = l
      · subst hq'
        rw [hfc, hk]
      · exact hb q (by omega)
  · have hc := of_decide_eq_false hc
    obtain rfl : l = 3 := by omega
    refine wp_return rfl ?_
    rw [findT_none hb]
    rfl
end Go.Proofs.YtobdkhjaipoliaaGreatDoor.Sx
namespace Go.Proofs.YtobdkhjaipoliaaGreatDoor.Sx
open Go
set_option linter.unusedVariables false
set_option linter.unusedSimpArgs false
set_option maxRecDepth 100000
theorem TR.way {ts : List SetD} (h : TR ts) {j : Nat} {s : SetD} (hs : ts[j]? = some s) {k : Nat} (hk : k < 4) : wayOk ts.length j (s.at k) = true := (setOk_iff.1 ((rightT_iff.1 h.right).2 j s hs)).2 k hk
theorem TR.set_ok {ts : List SetD} (h : TR ts) {j : Nat} {s : SetD} (hs : ts[j]? = some s) : s.Ok := h.ok s (List.mem_of_getElem? hs)
theorem TR.setTo {ts : List SetD} (h : TR ts) {j : Nat} {s : SetD} (hr : s.right = true) (ho : s.Ok) (hw : ∀ k, k < 4 → wayOk ts.length j (s.at k) = true) : TR (ts.set j s) := by
  refine ⟨rightT_iff.2 ⟨by rw [List.length_set]; exact h.len, fun q x hx => ?_⟩, fun x hx => ?_⟩
  · rw [List.length_set]
    rw [List.getElem?_set] at hx
    split at hx
    · split at hx
      · obtain rfl : s = x := by simpa using hx
        rename_i hq _
        subst hq
        exact setOk_iff.2 ⟨hr, hw⟩
      · cases hx
    · exact (rightT_iff.1 h.right).2 q x hx
  · rcases List.mem_or_eq_of_mem_set hx with h1 | h1
    · exact h.ok x h1
    · rw [h1]; exact ho
theorem use_at {s : SetD} {k q : Nat} : (s.use k).at q = s.at q := by
  unfold SetD.at SetD.use
  split <;> rfl
theorem use_right {s : SetD} {k : Nat} (h : s.right = true) (hk : k < 4) : (s.use k).right = true := by
  obtain ⟨ht, m0, m1, m2, m3⟩ := SetD.right_may h
  simp only [SetD.right, SetD.use, Bool.and_eq_true]
  exact ⟨⟨⟨⟨decide_eq_true (touN_lt ht hk), m0⟩, m1⟩, m2⟩, m3⟩
theorem TR.use {ts : List SetD} (h : TR ts) {j k : Nat} {s : SetD} (hs : ts[j]? = some s) (hk : k < 4) : TR (ts.set j (s.use k)) := by
  have ho := h.set_ok hs
  exact h.setTo (use_right (h.set hs) hk) ⟨ho.w0, ho.w1, ho.w2, ho.w3⟩ (fun q hq => by rw [use_at]; exact h.way hs hq)
theorem sput_at {s : SetD} {k q : Nat} {e : En} (hk : k < 4) (hq : q < 4) : (s.put k e).at q = if q = k then e else s.at q := by
  have hcase : k = 0 ∨ k = 1 ∨ k = 2 ∨ k = 3 := by omega
  have hcase' : q = 0 ∨ q = 1 ∨ q = 2 ∨ q = 3 := by omega
  rcases hcase with rfl | rfl | rfl | rfl <;> rcases hcase' with rfl | rfl | rfl | rfl <;> rfl
theorem put_right {s : SetD} {k : Nat} {e : En} (h : s.right = true) (he : e.may = true) (hk : k < 4) : (s.put k e).right = true := by
  obtain ⟨ht, m0, m1, m2, m3⟩ := SetD.right_may h
  have hcase : k = 0 ∨ k = 1 ∨ k = 2 ∨ k = 3 := by omega
  rcases hcase with rfl | rfl | rfl | rfl <;> simp [SetD.right, SetD.put, *]
theorem put_ok {s : SetD} {k : Nat} {e : En} (h : s.Ok) (he : e.Ok) : (s.put k e).Ok := by
  unfold SetD.put
  split
  · exact ⟨he, h.w1, h.w2, h.w3⟩
  · exact ⟨h.w0, he, h.w2, h.w3⟩
  · exact ⟨h.w0, h.w1, he, h.w3⟩
  · exact ⟨h.w0, h.w1, h.w2, he⟩
theorem zero_ok : En.zero.Ok := ⟨by decide, by decide, by decide⟩
theorem TR.drop {ts : List SetD} (h : TR ts) {j k : Nat} {s : SetD} (hs : ts[j]? = some s) (hk : k < 4) : TR (ts.set j (s.put k En.zero)) := by
  refine h.setTo (put_right (h.set hs) (by decide) hk) (put_ok (h.set_ok hs) zero_ok) (fun q hq => ?_)
  rw [sput_at hk hq]
  split
  · rfl
  · exact h.way hs hq
theorem putW_at {e : En} {s : SetD} {k q : Nat} (hq : q < 4) : (putW e s k).at q = if k = q then e else dW e (s.at q) := by
  have hcase' : q = 0 ∨ q = 1 ∨ q = 2 ∨ q = 3 := by omega
  rcases hcase' with rfl | rfl | rfl | rfl <;> rfl
theorem setPutK_lt {s : SetD} {e : En} {v : Int} (h : s.t < 8) : setPutK s e v < 4 := goesF_lt (s := dropTo e s 4) (v := v) h
theorem setPut_W {s : SetD} {e : En} {v : Int} (h : s.t < 8) : setPut s e v = putW e s (setPutK s e v) := setPut_eq rfl (setPutK_lt h)
theorem TR.put1 {ts : List SetD} (h : TR ts) {j : Nat} {s : SetD} {e : En} {v : Int} (hs : ts[j]? = some s) (he : e.Ok) (hm : e.may = true) (hj : wayOk ts.length j e = true) : TR (ts.set j (setPut s e v)) := by
  have ht := h.tree hs
  have hk := setPutK_lt (e := e) (v := v) ht
  rw [setPut_W ht]
  refine h.setTo (putW_right (h.set hs) hm hk) (putW_ok (h.set_ok hs) he) (fun q hq => ?_)
  rw [putW_at hq]
  split
  · exact hj
  · unfold dW
    split
    · rfl
    · exact h.way hs hq
theorem putT_cases {ts : List SetD} {e : En} {v : Int} : ts = [] ∧ putT ts e v = [] ∨ ∃ s, ts[idxF ts.length e.vpn e.lv]? = some s ∧ putT ts e v = ts.set (idxF ts.length e.vpn e.lv) (setPut s e v) := by
  by_cases h : ts = []
  · subst h; exact .inl ⟨rfl, rfl⟩
  · right
    have hn : 0 < ts.length := List.length_pos_iff.2 h
    have hj := idxF_lt (vpn := e.vpn) (l := e.lv) hn
    refine ⟨_, List.getElem?_eq_getElem hj, ?_⟩
    rw [putT, List.getElem?_eq_getElem hj]
theorem putT_len {ts : List SetD} {e : En} {v : Int} : (putT ts e v).length = ts.length := by
  rcases putT_cases (ts := ts) (e := e) (v := v) with ⟨rfl, h⟩ | ⟨s, _, h⟩ <;> rw [h]
  rw [List.length_set]
theorem TR.put {ts : List SetD} (h : TR ts) {e : En} {v : Int} (he : e.Ok) (hm : e.may = true) : TR (putT ts e v) := by
  rcases putT_cases (ts := ts) (e := e) (v := v) with ⟨h0, h1⟩ | ⟨s, hs, h1⟩ <;> rw [h1]
  · rw [h0] at h; exact h
  · exact h.put1 hs he hm (by simp [wayOk])
def SetD.en (s : SetD) : List En := [s.w0, s.w1, s.w2, s.w3]
def enT (ts : List SetD) : List En := ts.flatMap SetD.en
def allT (ts : List SetD) : List En := (enT ts).filter (·.v)
abbrev rws (ws : List En) : List (List D) := ws.map En.ds
theorem enT_len {ts : List SetD} : (enT ts).length = 4 * ts.length := by
  induction ts with
  | nil => rfl
  | cons s ts ih =>
    have : enT (s :: ts) = s.en ++ enT ts := rfl
    rw [this, List.length_append, ih, List.length_cons, show s.en.length = 4 from rfl]
    omega
theorem enT_take {ts : List SetD} {n : Nat} {s : SetD} (h : ts[n]? = some s) : enT (ts.take (n + 1)) = enT (ts.take n) ++ s.en := by
  rw [List.take_add_one, h, enT, List.flatMap_append]
  simp [enT]
theorem rws_row {ws : List En} {j : Nat} {e : En} (h : ws[j]? = some e) : (rws ws)[j]? = some e.ds := by
  rw [List.getElem?_map, h]; rfl
def mT (n : Nat) : Nat := if n = 0 then 0 else 11
theorem mT_pos {n : Nat} (h : 0 < n) : mT n = 11 := by unfold mT; rw [if_neg (by omega)]
end Go.Proofs.YtobdkhjaipoliaaGreatDoor.Sx
namespace Go.Proofs.YtobdkhjaipoliaaGreatDoor.Sx
open Go
set_option linter.unusedVariables false
set_option linter.unusedSimpArgs false
set_option maxRecDepth 100000
theorem mT_or {ws : List En} : mT ws.length = 11 ∨ (mT ws.length = 0 ∧ rws ws = []) := by
  cases ws
  · exact .inr ⟨rfl, rfl⟩
  · exact .inl (mT_pos (by simp))
theorem allT_take {ts : List SetD} {n : Nat} {s : SetD} (h : ts[n]? = some s) : allT (ts.take (n + 1)) = allT (ts.take n) ++ s.en.filter (·.v) := by
  rw [allT, enT_take h, List.filter_append]; rfl
theorem allT_le {ts : List SetD} : (allT ts).length ≤ 4 * ts.length := by
  rw [← enT_len]
  exact List.length_filter_le _ _
theorem refAll_con {ts : List SetD} (hl : ts.length ≤ 1000000) : Cn gAll 13 [tv ts] [(false, [.sl (mT (allT ts).length) (rws (allT ts))])] := by
  refine con rfl rfl atlasref14_All_c atlasref14_All_p rfl ?_
  unfold atlasref14_All_ir
  simp only [lv_cons, lv_nil, app_cons, app_nil]
  refine wp_rounds (fun m ds => ∃ n : Nat, ds = [I n, .sl (mT (allT (ts.take n)).length) (rws (allT (ts.take n)))] ∧ n + m = ts.length + 1 ∧ n ≤ ts.length) (ts.length + 1) rfl ⟨0, rfl, by omega, by omega⟩ ?_
    (fun es hes => by obtain ⟨n, _, h1, h2⟩ := hes; omega)
  rintro m es Q ⟨n, rfl, hm, hle⟩ hQ
  simp only [lv_cons, lv_nil, app_cons, app_nil]
  refine wp_lt (len_e rfl) ?_
  simp only [lv_cons, lv_nil, app_cons, app_nil]
  rw [List.length_map]
  refine wp_lt rfl ?_
  simp only [lv_cons, lv_nil, app_cons, app_nil]
  refine wp_ite rfl (fun hc => ?_) (fun hc => ?_)
  · have hc := of_decide_eq_true hc
    have hnl : n < ts.length := by omega
    obtain ⟨s, hs⟩ : ∃ s, ts[n]? = some s := ⟨_, List.getElem?_eq_getElem hnl⟩
    have hrow := row_of hs
    refine wp_rounds (fun m ds => ∃ k : Nat, ds = [I k, .sl (mT (allT (ts.take n) ++ (s.en.take k).filter (·.v)).length) (rws (allT (ts.take n) ++ (s.en.take k).filter (·.v)))] ∧ k + m = 5 ∧ k ≤ 4) 5 rfl ⟨0, by rw [List.take_zero, List.filter_nil, List.append_nil]; rfl, by omega, by omega⟩ ?_
      (fun es hes => by obtain ⟨n, _, h1, h2⟩ := hes; omega)
    rintro mm es2 Q2 ⟨k, rfl, hm2, hk4⟩ hQ2
    simp only [lv_cons, lv_nil, app_cons, app_nil]
    have hcase : k = 0 ∨ k = 1 ∨ k = 2 ∨ k = 3 ∨ k = 4 := by omega
    rcases hcase with rfl | rfl | rfl | rfl | rfl
    · refine wp_lt (d := .b true) rfl ?_
      simp only [lv_cons, lv_nil, app_cons, app_nil]
      refine wp_ite (t := true) rfl (fun _ => ?_) (fun h => by cases h)
      refine wp_chk (inb_t rfl rfl (by rw [List.length_map]; exact hnl)) ?_
      skip
      refine wp_ite (t := true) rfl (fun _ => ?_) (fun h => by cases h)
      refine wp_ite (idx_e rfl rfl hrow rfl) (fun hv => ?_) (fun hv => ?_)
      · refine wp_chk (inb_t rfl rfl (by rw [List.length_map]; exact hnl)) ?_
        have hne : ([(s.at 0).ds] : List (List D)) ≠ [] := by simp
        refine wp_chk (room_t (app_e rfl (one_e (evals_idr rfl rfl hrow 11 (11 * 0) (by rw [SetD.ds_len]; decide)) rfl) mT_or (by simp)) (by rw [List.length_append, List.length_map, List.length_append, List.length_singleton]; have := @allT_le (ts.take n); have := List.length_take_le n ts; have := List.length_filter_le (fun e : En => e.v) (s.en.take 0); have := List.length_take_le 0 s.en; omega)) ?_
        refine wp_cont rfl (es_cons rfl (es_cons (app_e rfl (one_e (evals_idr rfl rfl hrow 11 (11 * 0) (by rw [SetD.ds_len]; decide)) rfl) mT_or (by simp)) rfl)) (hQ2 _ ⟨0 + 1, ?_, by omega, by omega⟩)
        have hf : (s.en.take (0 + 1)).filter (·.v) = (s.en.take 0).filter (·.v) ++ [s.at 0] := by
          have : s.en.take (0 + 1) = s.en.take 0 ++ [s.at 0] := rfl
          rw [this, List.filter_append]
          simp [SetD.at, hv]
        rw [hf, ← List.append_assoc, mT_pos (n := (_ ++ [s.at 0]).length) (by rw [List.length_append, List.length_singleton]; omega)]
        simp only [rws, List.map_append]
        rfl
      · refine wp_cont rfl rfl (hQ2 _ ⟨0 + 1, ?_, by omega, by omega⟩)
        have hf : (s.en.take (0 + 1)).filter (·.v) = (s.en.take 0).filter (·.v) := by
          have : s.en.take (0 + 1) = s.en.take 0 ++ [s.at 0] := rfl
          rw [this, List.filter_append]
          simp [SetD.at, hv]
        rw [hf]
        rfl
    · refine wp_lt (d := .b true) rfl ?_
      simp only [lv_cons, lv_nil, app_cons, app_nil]
      refine wp_ite (t := true) rfl (fun _ => ?_) (fun h => by cases h)
      refine wp_chk (inb_t rfl rfl (by rw [List.length_map]; exact hnl)) ?_
      refine wp_ite (t := false) rfl (fun h => by cases h) (fun _ => ?_)
      refine wp_ite (t := true) rfl (fun _ => ?_) (fun h => by cases h)
      refine wp_ite (idx_e rfl rfl hrow rfl) (fun hv => ?_) (fun hv => ?_)
      · refine wp_chk (inb_t rfl rfl (by rw [List.length_map]; exact hnl)) ?_
        have hne : ([(s.at 1).ds] : List (List D)) ≠ [] := by simp
        refine wp_chk (room_t (app_e rfl (one_e (evals_idr rfl rfl hrow 11 (11 * 1) (by rw [SetD.ds_len]; decide)) rfl) mT_or (by simp)) (by rw [List.length_append, List.length_map, List.length_append, List.length_singleton]; have := @allT_le (ts.take n); have := List.length_take_le n ts; have := List.length_filter_le (fun e : En => e.v) (s.en.take 1); have := List.length_take_le 1 s.en; omega)) ?_
        refine wp_cont rfl (es_cons rfl (es_cons (app_e rfl (one_e (evals_idr rfl rfl hrow 11 (11 * 1) (by rw [SetD.ds_len]; decide)) rfl) mT_or (by simp)) rfl)) (hQ2 _ ⟨1 + 1, ?_, by omega, by omega⟩)
        have hf : (s.en.take (1 + 1)).filter (·.v) = (s.en.take 1).filter (·.v) ++ [s.at 1] := by
          have : s.en.take (1 + 1) = s.en.take 1 ++ [s.at 1] := rfl
          rw [this, List.filter_append]
          simp [SetD.at, hv]
        rw [hf, ← List.append_assoc, mT_pos (n := (_ ++ [s.at 1]).length) (by rw [List.length_append, List.length_singleton]; omega)]
        simp only [rws, List.map_append]
        rfl
      · refine wp_cont rfl rfl (hQ2 _ ⟨1 + 1, ?_, by omega, by omega⟩)
        have hf : (s.en.take (1 + 1)).filter (·.v) = (s.en.take 1).filter (·.v) := by
          have : s.en.take (1 + 1) = s.en.take 1 ++ [s.at 1] := rfl
          rw [this, List.filter_append]
          simp [SetD.at, hv]
        rw [hf]
        rfl
    · refine wp_lt (d := .b true) rfl ?_
      simp only [lv_cons, lv_nil, app_cons, app_nil]
      refine wp_ite (t := true) rfl (fun _ => ?_) (fun h => by cases h)
      refine wp_chk (inb_t rfl rfl (by rw [List.length_map]; exact hnl)) ?_
      refine wp_ite (t := false) rfl (fun h => by cases h) (fun _ => ?_)
      refine wp_ite (t := false) rfl (fun h => by cases h) (fun _ => ?_)
      refine wp_ite (t := true) rfl (fun _ => ?_) (fun h => by cases h)
      refine wp_ite (idx_e rfl rfl hrow rfl) (fun hv => ?_) (fun hv => ?_)
      · refine wp_chk (inb_t rfl rfl (by rw [List.length_map]; exact hnl)) ?_
        have hne : ([(s.at 2).ds] : List (List D)) ≠ [] := by simp
        refine wp_chk (room_t (app_e rfl (one_e (evals_idr rfl rfl hrow 11 (11 * 2) (by rw [SetD.ds_len]; decide)) rfl) mT_or (by simp)) (by rw [List.length_append, List.length_map, List.length_append, List.length_singleton]; have := @allT_le (ts.take n); have := List.length_take_le n ts; have := List.length_filter_le (fun e : En => e.v) (s.en.take 2); have := List.length_take_le 2 s.en; omega)) ?_
        refine wp_cont rfl (es_cons rfl (es_cons (app_e rfl (one_e (evals_idr rfl rfl hrow 11 (11 * 2) (by rw [SetD.ds_len]; decide)) rfl) mT_or (by simp)) rfl)) (hQ2 _ ⟨2 + 1, ?_, by omega, by omega⟩)
        have hf : (s.en.take (2 + 1)).filter (·.v) = (s.en.take 2).filter (·.v) ++ [s.at 2] := by
          have : s.en.take (2 + 1) = s.en.take 2 ++ [s.at 2] := rfl
          rw [this, List.filter_append]
          simp [SetD.at, hv]
        rw [hf, ← List.append_assoc, mT_pos (n := (_ ++ [s.at 2]).length) (by rw [List.length_append, List.length_singleton]; omega)]
        simp only [rws, List.map_append]
        rfl
      · refine wp_cont rfl rfl (hQ2 _ ⟨2 + 1, ?_, by omega, by omega⟩)
        have hf : (s.en.take (2 + 1)).filter (·.v) = (s.en.take 2).filter (·.v) := by
          have : s.en.take (2 + 1) = s.en.take 2 ++ [s.at 2] := rfl
          rw [this, List.filter_append]
          simp [SetD.at, hv]
        rw [hf]
        rfl
    · refine wp_lt (d := .b true) rfl ?_
      simp only [lv_cons, lv_nil, app_cons, app_nil]
      refine wp_ite (t := true) rfl (fun _ => ?_) (fun h => by cases h)
      refine wp_chk (inb_t rfl rfl (by rw [List.length_map]; exact hnl)) ?_
      refine wp_ite (t := false) rfl (fun h => by cases h) (fun _ => ?_)
      refine wp_ite (t := false) rfl (fun h => by cases h) (fun _ => ?_)
      refine wp_ite (t := false) rfl (fun h => by cases h) (fun _ => ?_)
      refine wp_ite (t := true) rfl (fun _ => ?_) (fun h => by cases h)
      refine wp_ite (idx_e rfl rfl hrow rfl) (fun hv => ?_) (fun hv => ?_)
      · refine wp_chk (inb_t rfl rfl (by rw [List.length_map]; exact hnl)) ?_
        have hne : ([(s.at 3).ds] : List (List D)) ≠ [] := by simp
        refine wp_chk (room_t (app_e rfl (one_e (evals_idr rfl rfl hrow 11 (11 * 3) (by rw [SetD.ds_len]; decide)) rfl) mT_or (by simp)) (by rw [List.length_append, List.length_map, List.length_append, List.length_singleton]; have := @allT_le (ts.take n); have := List.length_take_le n ts; have := List.length_filter_le (fun e : En => e.v) (s.en.take 3); have := List.length_take_le 3 s.en; omega)) ?_
        refine wp_cont rfl (es_cons rfl (es_cons (app_e rfl (one_e (evals_idr rfl rfl hrow 11 (11 * 3) (by rw [SetD.ds_len]; decide)) rfl) mT_or (by simp)) rfl)) (hQ2 _ ⟨3 + 1, ?_, by omega, by omega⟩)
        have hf : (s.en.take (3 + 1)).filter (·.v) = (s.en.take 3).filter (·.v) ++ [s.at 3] := by
          have : s.en.take (3 + 1) = s.en.take 3 ++ [s.at 3] := rfl
          rw [this, List.filter_append]
          simp [SetD.at, hv]
        rw [hf, ← List.append_assoc, mT_pos (n := (_ ++ [s.at 3]).length) (by rw [List.length_append, List.length_singleton]; omega)]
        simp only [rws, List.map_append]
        rfl
      · refine wp_cont rfl rfl (hQ2 _ ⟨3 + 1, ?_, by omega, by omega⟩)
        have hf : (s.en.take (3 + 1)).filter (·.v) = (s.en.take 3).filter (·.v) := by
          have : s.en.take (3 + 1) = s.en.take 3 ++ [s.at 3] := rfl
          rw [this, List.filter_append]
          simp [SetD.at, hv]
        rw [hf]
        rfl
    · refine wp_lt (d := .b false) rfl ?_
      simp only [lv_cons, lv_nil, app_cons, app_nil]
      refine wp_ite (t := false) rfl (fun h => by cases h) (fun _ => ?_)
      refine wp_lt (i_add (a := (n : Int)) (b := 1) rfl rfl (by omega) (by omega)) ?_
      simp only [lv_cons, lv_nil, app_cons, app_nil]
      refine wp_cont rfl rfl (hQ _ ⟨n + 1, ?_, by omega, by omega⟩)
      rw [allT_take hs, show s.en.take 4 = s.en from rfl]
      rfl
  · have hc := of_decide_eq_false hc
    obtain rfl : n = ts.length := by omega
    refine wp_return rfl ?_
    rw [List.take_length]
theorem sameT_con {ts : List SetD} (hl : ts.length ≤ 1000000) : Cn gAll 32 [tv ts, tv ts] [bb true] := by
  refine con rfl rfl atlasref14_Same_c atlasref14_Same_p rfl ?_
  unfold atlasref14_Same_ir
  simp only [lv_cons, lv_nil, app_cons, app_nil]
  refine wp_lt (len_e rfl) ?_
  simp only [lv_cons, lv_nil, app_cons, app_nil]
  refine wp_lt (len_e rfl) ?_
  simp only [lv_cons, lv_nil, app_cons, app_nil]
  refine wp_lt (d := .b false) ?_ ?_
  · show some (D.b (((ts.map SetD.ds).length : Int) != ((ts.map SetD.ds).length : Int))) = _
    rw [bne_self_eq_false]
  simp only [lv_cons, lv_nil, app_cons, app_nil]
  refine wp_ite (t := false) rfl (fun h => by cases h) (fun _ => ?_)
  refine wp_rounds (fun m ds => ∃ (b : Bool) (n : Nat), ds = [.b b, I n] ∧ n + m = ts.length + 1 ∧ n ≤ ts.length) (ts.length + 1) rfl ⟨_, 0, rfl, by omega, by omega⟩ ?_
    (fun es hes => by obtain ⟨_, n, _, h1, h2⟩ := hes; omega)
  rintro m es Q ⟨b, n, rfl, hm, hle⟩ hQ
  simp only [lv_cons, lv_nil, app_cons, app_nil]
  refine wp_lt (len_e rfl) ?_
  simp only [lv_cons, lv_nil, app_cons, app_nil]
  rw [List.length_map]
  refine wp_lt rfl ?_
  simp only [lv_cons, lv_nil, app_cons, app_nil]
  refine wp_ite rfl (fun hc => ?_) (fun hc => ?_)
  · have hc := of_decide_eq_true hc
    have hnl : n < ts.length := by omega
    obtain ⟨s, hs⟩ : ∃ s, ts[n]? = some s := ⟨_, List.getElem?_eq_getElem hnl⟩
    have hrow := row_of hs
    refine wp_chk (inb_t rfl rfl (by rw [List.length_map]; exact hnl)) ?_
    refine wp_chk (inb_t rfl rfl (by rw [List.length_map]; exact hnl)) ?_
    refine wp_lt (not_e (t := true) ?_) ?_
    focus
      refine ite_t (eqs_b (idx_e rfl rfl hrow rfl) (idx_e rfl rfl hrow rfl)) ?_
      repeat' first
        | refine ite_t (eqs_b (idx_e rfl rfl hrow rfl) (idx_e rfl rfl hrow rfl)) ?_
        | refine ite_t (eqs_i (idx_e rfl rfl hrow rfl) (idx_e rfl rfl hrow rfl)) ?_
        | exact rfl
    simp only [lv_cons, lv_nil, app_cons, app_nil]
    refine wp_ite (t := false) rfl (fun h => by cases h) (fun _ => ?_)
    refine wp_lt (i_add (a := (n : Int)) (b := 1) rfl rfl (by omega) (by omega)) ?_
    simp only [lv_cons, lv_nil, app_cons, app_nil]
    exact wp_cont rfl rfl (hQ _ ⟨_, n + 1, rfl, by omega, by omega⟩)
  · exact wp_return rfl rfl
def newT (n : Nat) : List SetD := List.replicate n zeroSet
theorem newT_len {n : Nat} : (newT n).length = n := List.length_replicate ..
theorem newT_ok {n : Nat} (h : n ≤ 16) : TR (newT n) := by
  have h0 : ∀ (j : Nat) (s : SetD), (newT n)[j]? = some s → s = zeroSet := fun j s hs => by
    have := List.mem_of_getElem? hs
    exact (List.mem_replicate.1 this).2
  refine ⟨rightT_iff.2 ⟨by rw [newT_len]; exact h, fun j s hs => ?_⟩, fun s hs => ?_⟩
  · rw [h0 j s hs, newT_len]
    rfl
  · rw [(List.mem_replicate.1 hs).2]
    exact ⟨zero_ok, zero_ok, zero_ok, zero_ok⟩
end Go.Proofs.YtobdkhjaipoliaaGreatDoor.Sx
namespace Go.Proofs.YtobdkhjaipoliaaGreatDoor.Sx
open Go
set_option linter.unusedVariables false
set_option linter.unusedSimpArgs false
set_option maxRecDepth 100000
theorem mem_allT {ts : List SetD} {j k : Nat} {s : SetD} (hs : ts[j]? = some s) (hk : k < 4) (hv : (s.at k).v = true) : s.at k ∈ allT ts := by
  refine List.mem_filter.2 ⟨List.mem_flatMap.2 ⟨s, List.mem_of_getElem? hs, ?_⟩, hv⟩
  have hcase : k = 0 ∨ k = 1 ∨ k = 2 ∨ k = 3 := by omega
  rcases hcase with rfl | rfl | rfl | rfl <;> simp [SetD.at, SetD.en]
theorem allT_may {ts : List SetD} (hT : TR ts) {e : En} (h : e ∈ allT ts) : e.May := by
  obtain ⟨h1, h2⟩ := List.mem_filter.1 h
  obtain ⟨s, hs, he⟩ := List.mem_flatMap.1 h1
  obtain ⟨j, hj⟩ := List.getElem?_of_mem hs
  obtain ⟨_, m0, m1, m2, m3⟩ := SetD.right_may (hT.set hj)
  simp only [SetD.en, List.mem_cons, List.not_mem_nil, or_false] at he
  rcases he with rfl | rfl | rfl | rfl <;> (apply En.may_May; assumption)
theorem findT_use {ts : List SetD} {n a : Nat} (h : (findT ts n a).2.2.2 = true) : ∃ (l : Nat) (j k : Nat) (s : SetD), l < 3 ∧ ts[j]? = some s ∧ j = lvI ts a l ∧ k < 4 ∧ findF s n a l = ((k : Int), true) ∧ (∀ q : Nat, q < l → (lvF ts n a (q : Int)).2 = false) ∧ findT ts n a = (s.at k, j, (k : Int), true) := by
  have hn : 0 < ts.length := by
    apply Nat.pos_of_ne_zero
    intro h0
    unfold findT at h
    rw [if_pos h0] at h
    cases h
  have key : ∀ l : Nat, l < 3 → (∀ q : Nat, q < l → (lvF ts n a (q : Int)).2 = false) → (lvF ts n a (l : Int)).2 = true → ∃ (l : Nat) (j k : Nat) (s : SetD), l < 3 ∧ ts[j]? = some s ∧ j = lvI ts a l ∧ k < 4 ∧ findF s n a l = ((k : Int), true) ∧ (∀ q : Nat, q < l → (lvF ts n a (q : Int)).2 = false) ∧ findT ts n a = (s.at k, j, (k : Int), true) := by
    intro l hl hb ht
    have hj : lvI ts a l < ts.length := idxF_lt hn
    have hs : ts[lvI ts a l]? = some ts[lvI ts a l] := List.getElem?_eq_getElem hj
    have hsa := setAt_of hs
    have hfc : lvF ts n a l = findF ts[lvI ts a l] n a l := by rw [lvF, hsa]
    rcases findF_cases ts[lvI ts a l] n a l with ⟨k, hk4, hk⟩ | hk
    · refine ⟨l, _, k, _, hl, hs, rfl, hk4, hk, hb, ?_⟩
      rw [findT_at hn hl hb ht]
      unfold foundT
      rw [hfc, hk, hsa, Int.toNat_natCast]
    · rw [hfc, hk] at ht
      cases ht
  by_cases h0 : (lvF ts n a 0).2 = true
  · exact key 0 (by omega) (fun q hq => by omega) h0
  have h0 : (lvF ts n a 0).2 = false := by simpa using h0
  by_cases h1 : (lvF ts n a 1).2 = true
  · refine key 1 (by omega) (fun q hq => ?_) h1
    obtain rfl : q = 0 := by omega
    exact h0
  have h1 : (lvF ts n a 1).2 = false := by simpa using h1
  by_cases h2 : (lvF ts n a 2).2 = true
  · refine key 2 (by omega) (fun q hq => ?_) h2
    have : q = 0 ∨ q = 1 := by omega
    rcases this with rfl | rfl
    · exact h0
    · exact h1
  have h2 : (lvF ts n a 2).2 = false := by simpa using h2
  exfalso
  unfold findT at h
  rw [if_neg (by omega), if_neg (by rw [h0]; decide), if_neg (by rw [h1]; decide), if_neg (by rw [h2]; decide)] at h
  cases h
end Go.Proofs.YtobdkhjaipoliaaGreatDoor.Sx
namespace Go.Proofs.YtobdkhjaipoliaaGreatDoor.Sx
open Go
set_option linter.unusedVariables false
set_option linter.unusedSimpArgs false
set_option maxRecDepth 100000
theorem findF_hit {s : SetD} {n a k : Nat} {l : Int} (h : findF s n a l = ((k : Int), true)) : hitF (s.at k) n a l = true := by
  unfold findF at h
  split at h
  · rename_i h0
    obtain rfl : k = 0 := by have := congrArg Prod.fst h; simp only at this; omega
    exact h0
  split at h
  · rename_i h0
    obtain rfl : k = 1 := by have := congrArg Prod.fst h; simp only at this; omega
    exact h0
  split at h
  · rename_i h0
    obtain rfl : k = 2 := by have := congrArg Prod.fst h; simp only at this; omega
    exact h0
  split at h
  · rename_i h0
    obtain rfl : k = 3 := by have := congrArg Prod.fst h; simp only at this; omega
    exact h0
  · cases congrArg Prod.snd h
theorem hit_match {e : En} {n a : Nat} {l : Int} (h : hitF e n a l = true) : e.lv = l ∧ matchF e n a = true := by
  simp only [hitF, Bool.and_eq_true, beq_iff_eq] at h
  exact h
theorem match_cov {e : En} {n a : Nat} (h : matchF e n a = true) : coversF e a = true ∧ (e.g = true ∨ e.asid = n) := by
  simp only [matchF, Bool.and_eq_true, Bool.or_eq_true, beq_iff_eq] at h
  exact h
theorem cov_v {e : En} {a : Nat} (h : coversF e a = true) : e.v = true := by
  simp only [coversF, Bool.and_eq_true] at h
  exact h.1.1
theorem findT_hit {ts : List SetD} {n a : Nat} (h : (findT ts n a).2.2.2 = true) : coversF (findT ts n a).1 a = true ∧ ((findT ts n a).1.g = true ∨ (findT ts n a).1.asid = n) ∧ (findT ts n a).1 ∈ allT ts := by
  obtain ⟨l, j, k, s, hl, hs, hj, hk, hf, hb, hE⟩ := findT_use h
  rw [hE]
  have h1 := match_cov (hit_match (findF_hit hf)).2
  exact ⟨h1.1, h1.2, mem_allT hs hk (cov_v h1.1)⟩
end Go.Proofs.YtobdkhjaipoliaaGreatDoor.Sx
