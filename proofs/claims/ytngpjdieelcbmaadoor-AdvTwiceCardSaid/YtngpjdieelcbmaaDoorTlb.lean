/-
  Layer 14: the buffer: where sets are, what is right: the contracts of the functions and of their references.
-/
import Derived.Test.YtngpjdieelcbmaaDoorSetp
import Derived.Test.YtngpjdieelcbmaaDoorStep
import Derived.Test.YtngpjdieelcbmaaDoorIrT
namespace Go.Proofs.YtngpjdieelcbmaaDoor.Sx
open Go
set_option linter.unusedVariables false
set_option linter.unusedSimpArgs false
set_option maxRecDepth 100000

def TT : Tbl := TIrT ++ TS
theorem TT_ok : ∀ x ∈ TT, Known gAll x.1 x.2 := kappend TIrT_ok TS_ok

/-- a buffer -/
abbrev tlb (ts : List SetD) : D := .sl 45 (ts.map SetD.ds)
abbrev tv (ts : List SetD) : DV := (true, [tlb ts])
def TOk (ts : List SetD) : Prop := ∀ s ∈ ts, s.Ok
theorem row_of {ts : List SetD} {j : Nat} {s : SetD} (h : ts[j]? = some s) : (ts.map SetD.ds)[j]? = some s.ds := by
  rw [List.getElem?_map, h]; rfl
theorem SetD.ds_len (s : SetD) : s.ds.length = 45 := rfl

def idxF (n vpn : Nat) (l : Int) : Nat := vpn / pgN l % n
theorem idxF_lt {n vpn : Nat} {l : Int} (h : 0 < n) : idxF n vpn l < n := Nat.mod_lt _ h
def wayOk (n j : Nat) (e : En) : Bool := !e.v || idxF n e.vpn e.lv == j
def setOk (n j : Nat) (s : SetD) : Bool := s.right && wayOk n j s.w0 && wayOk n j s.w1 && wayOk n j s.w2 && wayOk n j s.w3
def rightT (ts : List SetD) : Bool := decide (ts.length ≤ 16) && (List.range ts.length).all fun j => match ts[j]? with | some s => setOk ts.length j s | none => true
theorem rightT_iff {ts : List SetD} : rightT ts = true ↔ ts.length ≤ 16 ∧ ∀ j s, ts[j]? = some s → setOk ts.length j s = true := by
  simp only [rightT, Bool.and_eq_true, decide_eq_true_eq, List.all_eq_true, List.mem_range]
  refine and_congr_right fun _ => ⟨fun h j s hj => ?_, fun h j hj => ?_⟩
  · have := h j (List.getElem?_eq_some_iff.1 hj).1
    rwa [hj] at this
  · rw [List.getElem?_eq_getElem hj]
    exact h j _ (List.getElem?_eq_getElem hj)
theorem setOk_iff {n j : Nat} {s : SetD} : setOk n j s = true ↔ s.right = true ∧ ∀ k, k < 4 → wayOk n j (s.at k) = true := by
  simp only [setOk, Bool.and_eq_true]
  constructor
  · rintro ⟨⟨⟨⟨h, h0⟩, h1⟩, h2⟩, h3⟩
    refine ⟨h, fun k hk => ?_⟩
    have hcase : k = 0 ∨ k = 1 ∨ k = 2 ∨ k = 3 := by omega
    rcases hcase with rfl | rfl | rfl | rfl <;> assumption
  · rintro ⟨h, hk⟩
    exact ⟨⟨⟨⟨h, hk 0 (by omega)⟩, hk 1 (by omega)⟩, hk 2 (by omega)⟩, hk 3 (by omega)⟩
theorem right_at {s : SetD} (h : s.right = true) (k : Nat) : (s.at k).may = true := by
  obtain ⟨_, m0, m1, m2, m3⟩ := SetD.right_may h
  unfold SetD.at
  split <;> assumption
theorem may_lv {e : En} (h : e.may = true) : Lv e.lv := (En.may_May h).lv

theorem tlbIndex_con {n vpn : Nat} {l : Int} (hl : Lv l) (hn : 0 < n) (hn' : n < 9223372036854775808) (hv : vpn < 18446744073709551616) : Cn gAll 37 [i n, u vpn, i l] [i (idxF n vpn l)] := by
  refine con rfl rfl tlb_index_c tlb_index_p rfl ?_
  have h1 := pgN_pos (l := l)
  have h2 := szN_eq (l := l)
  have h3 := pgN_le (l := l)
  have h4 : szN l / 4096 = pgN l := by omega
  have h5 := idxF_lt (vpn := vpn) (l := l) hn
  refine wp_call rfl (vaSize_con hl) rfl ?_
  simp only [lv_cons, lv_nil, app_cons, app_nil]
  refine wp_lt (u_quo (b := 4096) rfl rfl (by omega) (by omega)) ?_
  simp only [lv_cons, lv_nil, app_cons, app_nil]
  rw [h4]
  refine wp_lt (u_quo rfl rfl (by omega) hv) ?_
  simp only [lv_cons, lv_nil, app_cons, app_nil]
  refine wp_lt (cv_u rfl (by omega)) ?_
  simp only [lv_cons, lv_nil, app_cons, app_nil]
  refine wp_lt (u_rem rfl rfl (by omega)) ?_
  simp only [lv_cons, lv_nil, app_cons, app_nil]
  unfold idxF at h5 ⊢
  refine wp_lt (cv_i rfl (by omega) (by omega)) ?_
  simp only [lv_cons, lv_nil, app_cons, app_nil]
  exact wp_return rfl rfl
theorem refIndex_con {n vpn : Nat} {l : Int} (hl : Lv l) (hn : 0 < n) (hn' : n < 9223372036854775808) (hv : vpn < 18446744073709551616) : Cn gAll 45 [i n, u vpn, i l] [i (idxF n vpn l)] := by
  refine con rfl rfl atlasref14_Index_c atlasref14_Index_p rfl ?_
  have h1 := pgN_pos (l := l)
  have h5 := idxF_lt (vpn := vpn) (l := l) hn
  refine wp_call rfl (refPages_con hl) rfl ?_
  simp only [lv_cons, lv_nil, app_cons, app_nil]
  refine wp_lt (u_quo rfl rfl (by omega) hv) ?_
  simp only [lv_cons, lv_nil, app_cons, app_nil]
  refine wp_lt (cv_u rfl (by omega)) ?_
  simp only [lv_cons, lv_nil, app_cons, app_nil]
  refine wp_lt (u_rem rfl rfl (by omega)) ?_
  simp only [lv_cons, lv_nil, app_cons, app_nil]
  unfold idxF at h5 ⊢
  refine wp_lt (cv_i rfl (by omega) (by omega)) ?_
  simp only [lv_cons, lv_nil, app_cons, app_nil]
  exact wp_return rfl rfl


theorem refRightT_con {ts : List SetD} (hO : TOk ts) (hn : ts.length < 9223372036854775808) : Cn gAll 23 [tv ts] [bb (rightT ts)] := by
  refine con rfl rfl atlasref14_Right_c atlasref14_Right_p rfl ?_
  unfold atlasref14_Right_ir
  simp only [lv_cons, lv_nil, app_cons, app_nil]
  refine wp_rounds (fun m ds => ∃ (b : Bool) (n : Nat), ds = [.b b, I n] ∧ n + m = 18 ∧ n ≤ 17 ∧ n ≤ ts.length ∧ ∀ j, j < n → ∀ s, ts[j]? = some s → setOk ts.length j s = true) 18 rfl ⟨false, 0, rfl, by omega, by omega, by omega, fun j hj => by omega⟩ ?_
    (fun es hes => by obtain ⟨_, n, _, h1, h2, _⟩ := hes; omega)
  rintro m es Q ⟨b, n, rfl, hm, hle, hnl', hh⟩ hQ
  simp only [lv_cons, lv_nil, app_cons, app_nil]
  refine wp_lt (len_e rfl) ?_
  simp only [lv_cons, lv_nil, app_cons, app_nil]
  rw [List.length_map]
  refine wp_lt rfl ?_
  simp only [lv_cons, lv_nil, app_cons, app_nil]
  refine wp_ite rfl (fun hc => ?_) (fun hc => ?_)
  · have hc := of_decide_eq_true hc
    have hnl : n < ts.length := by omega
    obtain ⟨s, hs⟩ : ∃ s, ts[n]? = some s := ⟨_, List.getElem?_eq_getElem hnl⟩
    have hok : s.Ok := hO s (List.mem_of_getElem? hs)
    refine wp_lt rfl ?_
    simp only [lv_cons, lv_nil, app_cons, app_nil]
    refine wp_ite rfl (fun hc2 => ?_) (fun hc2 => ?_)
    · have hc2 := of_decide_eq_true hc2
      refine wp_chk (inb_t rfl rfl (by rw [List.length_map]; exact hnl)) ?_
      refine wp_call (evs_cons (evals_row rfl rfl (row_of hs) s.ds_len) rfl) (refRight_con (s := s)) rfl ?_
      simp only [lv_cons, lv_nil, app_cons, app_nil]
      refine wp_lt rfl ?_
      simp only [lv_cons, lv_nil, app_cons, app_nil]
      refine wp_ite rfl (fun hr => ?_) (fun hr => ?_)
      · refine wp_return rfl (bb_eq ?_)
        symm
        rw [Bool.eq_false_iff]
        intro hrt
        have := (setOk_iff.1 ((rightT_iff.1 hrt).2 n s hs)).1
        rw [this] at hr
        cases hr
      · have hr : s.right = true := by simpa using hr
        obtain ⟨_, m0, m1, m2, m3⟩ := SetD.right_may hr
        refine wp_rounds (fun m ds => ∃ (b : Bool) (k : Nat), ds = [.b b, I k] ∧ k + m = 5 ∧ k ≤ 4 ∧ ∀ q, q < k → wayOk ts.length n (s.at q) = true) 5 rfl ⟨b, 0, rfl, by omega, by omega, fun q hq => by omega⟩ ?_
          (fun es hes => by obtain ⟨_, n, _, h1, h2, _⟩ := hes; omega)
        rintro mm es2 Q2 ⟨b2, k, rfl, hm2, hk4, hw⟩ hQ2
        simp only [lv_cons, lv_nil, app_cons, app_nil]
        have hcase : k = 0 ∨ k = 1 ∨ k = 2 ∨ k = 3 ∨ k = 4 := by omega
        rcases hcase with rfl | rfl | rfl | rfl | rfl
        · have hrow := row_of hs
          refine wp_lt (d := .b true) rfl ?_
          simp only [lv_cons, lv_nil, app_cons, app_nil]
          refine wp_ite (t := true) rfl (fun _ => ?_) (fun h => by cases h)
          refine wp_chk (inb_t rfl rfl (by rw [List.length_map]; exact hnl)) ?_
          skip
          refine wp_ite (t := true) rfl (fun _ => ?_) (fun h => by cases h)
          refine wp_ite (idx_e rfl rfl hrow rfl) (fun hv => ?_) (fun hv => ?_)
          · refine wp_lt (len_e rfl) ?_
            simp only [lv_cons, lv_nil, app_cons, app_nil]
            rw [List.length_map]
            refine wp_call (evs_cons rfl (evs_cons (evs_one (idx_e rfl rfl hrow rfl)) (evs_cons (evs_one (idx_e rfl rfl hrow rfl)) rfl))) (refIndex_con (may_lv m0) (by omega) (by omega) hok.w0.vpn) rfl ?_
            simp only [lv_cons, lv_nil, app_cons, app_nil]
            refine wp_lt rfl ?_
            simp only [lv_cons, lv_nil, app_cons, app_nil]
            refine wp_ite rfl (fun hne => ?_) (fun hne => ?_)
            · refine wp_return rfl (bb_eq ?_)
              symm
              rw [Bool.eq_false_iff]
              intro hr
              have := (setOk_iff.1 ((rightT_iff.1 hr).2 n s hs)).2 0 (by omega)
              simp only [SetD.at, wayOk, hv, Bool.not_true, Bool.false_or, beq_iff_eq] at this
              rw [i_bne, this] at hne
              simp at hne
            · refine wp_cont rfl rfl (hQ2 _ ⟨_, 0 + 1, rfl, by omega, by omega, fun q hq => ?_⟩)
              by_cases hq' : q = 0
              · subst hq'
                rw [i_bne] at hne
                simp only [SetD.at, wayOk, hv, Bool.not_true, Bool.false_or, beq_iff_eq]
                simpa using hne
              · exact hw q (by omega)
          · refine wp_cont rfl rfl (hQ2 _ ⟨_, 0 + 1, rfl, by omega, by omega, fun q hq => ?_⟩)
            by_cases hq' : q = 0
            · subst hq'
              simp [SetD.at, wayOk, hv]
            · exact hw q (by omega)
        · have hrow := row_of hs
          refine wp_lt (d := .b true) rfl ?_
          simp only [lv_cons, lv_nil, app_cons, app_nil]
          refine wp_ite (t := true) rfl (fun _ => ?_) (fun h => by cases h)
          refine wp_chk (inb_t rfl rfl (by rw [List.length_map]; exact hnl)) ?_
          refine wp_ite (t := false) rfl (fun h => by cases h) (fun _ => ?_)
          refine wp_ite (t := true) rfl (fun _ => ?_) (fun h => by cases h)
          refine wp_ite (idx_e rfl rfl hrow rfl) (fun hv => ?_) (fun hv => ?_)
          · refine wp_lt (len_e rfl) ?_
            simp only [lv_cons, lv_nil, app_cons, app_nil]
            rw [List.length_map]
            refine wp_call (evs_cons rfl (evs_cons (evs_one (idx_e rfl rfl hrow rfl)) (evs_cons (evs_one (idx_e rfl rfl hrow rfl)) rfl))) (refIndex_con (may_lv m1) (by omega) (by omega) hok.w1.vpn) rfl ?_
            simp only [lv_cons, lv_nil, app_cons, app_nil]
            refine wp_lt rfl ?_
            simp only [lv_cons, lv_nil, app_cons, app_nil]
            refine wp_ite rfl (fun hne => ?_) (fun hne => ?_)
            · refine wp_return rfl (bb_eq ?_)
              symm
              rw [Bool.eq_false_iff]
              intro hr
              have := (setOk_iff.1 ((rightT_iff.1 hr).2 n s hs)).2 1 (by omega)
              simp only [SetD.at, wayOk, hv, Bool.not_true, Bool.false_or, beq_iff_eq] at this
              rw [i_bne, this] at hne
              simp at hne
            · refine wp_cont rfl rfl (hQ2 _ ⟨_, 1 + 1, rfl, by omega, by omega, fun q hq => ?_⟩)
              by_cases hq' : q = 1
              · subst hq'
                rw [i_bne] at hne
                simp only [SetD.at, wayOk, hv, Bool.not_true, Bool.false_or, beq_iff_eq]
                simpa using hne
              · exact hw q (by omega)
          · refine wp_cont rfl rfl (hQ2 _ ⟨_, 1 + 1, rfl, by omega, by omega, fun q hq => ?_⟩)
            by_cases hq' : q = 1
            · subst hq'
              simp [SetD.at, wayOk, hv]
            · exact hw q (by omega)
        · have hrow := row_of hs
          refine wp_lt (d := .b true) rfl ?_
          simp only [lv_cons, lv_nil, app_cons, app_nil]
          refine wp_ite (t := true) rfl (fun _ => ?_) (fun h => by cases h)
          refine wp_chk (inb_t rfl rfl (by rw [List.length_map]; exact hnl)) ?_
          refine wp_ite (t := false) rfl (fun h => by cases h) (fun _ => ?_)
          refine wp_ite (t := false) rfl (fun h => by cases h) (fun _ => ?_)
          refine wp_ite (t := true) rfl (fun _ => ?_) (fun h => by cases h)
          refine wp_ite (idx_e rfl rfl hrow rfl) (fun hv => ?_) (fun hv => ?_)
          · refine wp_lt (len_e rfl) ?_
            simp only [lv_cons, lv_nil, app_cons, app_nil]
            rw [List.length_map]
            refine wp_call (evs_cons rfl (evs_cons (evs_one (idx_e rfl rfl hrow rfl)) (evs_cons (evs_one (idx_e rfl rfl hrow rfl)) rfl))) (refIndex_con (may_lv m2) (by omega) (by omega) hok.w2.vpn) rfl ?_
            simp only [lv_cons, lv_nil, app_cons, app_nil]
            refine wp_lt rfl ?_
            simp only [lv_cons, lv_nil, app_cons, app_nil]
            refine wp_ite rfl (fun hne => ?_) (fun hne => ?_)
            · refine wp_return rfl (bb_eq ?_)
              symm
              rw [Bool.eq_false_iff]
              intro hr
              have := (setOk_iff.1 ((rightT_iff.1 hr).2 n s hs)).2 2 (by omega)
              simp only [SetD.at, wayOk, hv, Bool.not_true, Bool.false_or, beq_iff_eq] at this
              rw [i_bne, this] at hne
              simp at hne
            · refine wp_cont rfl rfl (hQ2 _ ⟨_, 2 + 1, rfl, by omega, by omega, fun q hq => ?_⟩)
              by_cases hq' : q = 2
              · subst hq'
                rw [i_bne] at hne
                simp only [SetD.at, wayOk, hv, Bool.not_true, Bool.false_or, beq_iff_eq]
                simpa using hne
              · exact hw q (by omega)
          · refine wp_cont rfl rfl (hQ2 _ ⟨_, 2 + 1, rfl, by omega, by omega, fun q hq => ?_⟩)
            by_cases hq' : q = 2
            · subst hq'
              simp [SetD.at, wayOk, hv]
            · exact hw q (by omega)
        · have hrow := row_of hs
          refine wp_lt (d := .b true) rfl ?_
          simp only [lv_cons, lv_nil, app_cons, app_nil]
          refine wp_ite (t := true) rfl (fun _ => ?_) (fun h => by cases h)
          refine wp_chk (inb_t rfl rfl (by rw [List.length_map]; exact hnl)) ?_
          refine wp_ite (t := false) rfl (fun h => by cases h) (fun _ => ?_)
          refine wp_ite (t := false) rfl (fun h => by cases h) (fun _ => ?_)
          refine wp_ite (t := false) rfl (fun h => by cases h) (fun _ => ?_)
          refine wp_ite (t := true) rfl (fun _ => ?_) (fun h => by cases h)
          refine wp_ite (idx_e rfl rfl hrow rfl) (fun hv => ?_) (fun hv => ?_)
          · refine wp_lt (len_e rfl) ?_
            simp only [lv_cons, lv_nil, app_cons, app_nil]
            rw [List.length_map]
            refine wp_call (evs_cons rfl (evs_cons (evs_one (idx_e rfl rfl hrow rfl)) (evs_cons (evs_one (idx_e rfl rfl hrow rfl)) rfl))) (refIndex_con (may_lv m3) (by omega) (by omega) hok.w3.vpn) rfl ?_
            simp only [lv_cons, lv_nil, app_cons, app_nil]
            refine wp_lt rfl ?_
            simp only [lv_cons, lv_nil, app_cons, app_nil]
            refine wp_ite rfl (fun hne => ?_) (fun hne => ?_)
            · refine wp_return rfl (bb_eq ?_)
              symm
              rw [Bool.eq_false_iff]
              intro hr
              have := (setOk_iff.1 ((rightT_iff.1 hr).2 n s hs)).2 3 (by omega)
              simp only [SetD.at, wayOk, hv, Bool.not_true, Bool.false_or, beq_iff_eq] at this
              rw [i_bne, this] at hne
              simp at hne
            · refine wp_cont rfl rfl (hQ2 _ ⟨_, 3 + 1, rfl, by omega, by omega, fun q hq => ?_⟩)
              by_cases hq' : q = 3
              · subst hq'
                rw [i_bne] at hne
                simp only [SetD.at, wayOk, hv, Bool.not_true, Bool.false_or, beq_iff_eq]
                simpa using hne
              · exact hw q (by omega)
          · refine wp_cont rfl rfl (hQ2 _ ⟨_, 3 + 1, rfl, by omega, by omega, fun q hq => ?_⟩)
            by_cases hq' : q = 3
            · subst hq'
              simp [SetD.at, wayOk, hv]
            · exact hw q (by omega)
        · refine wp_lt (d := .b false) rfl ?_
          simp only [lv_cons, lv_nil, app_cons, app_nil]
          refine wp_ite (t := false) rfl (fun h => by cases h) (fun _ => ?_)
          refine wp_lt (i_add (a := (n : Int)) (b := 1) rfl rfl (by omega) (by omega)) ?_
          simp only [lv_cons, lv_nil, app_cons, app_nil]
          refine wp_cont rfl rfl (hQ _ ⟨_, n + 1, rfl, by omega, by omega, by omega, fun j hj s' hs' => ?_⟩)
          by_cases hjn : j = n
          · subst hjn
            rw [hs] at hs'
            cases hs'
            exact setOk_iff.2 ⟨hr, hw⟩
          · exact hh j (by omega) s' hs'
    · have hc2 := of_decide_eq_false hc2
      refine wp_lt (len_e rfl) ?_
      simp only [lv_cons, lv_nil, app_cons, app_nil]
      rw [List.length_map]
      refine wp_lt rfl ?_
      simp only [lv_cons, lv_nil, app_cons, app_nil]
      refine wp_return rfl (bb_iff ?_)
      rw [rightT_iff]
      simp only [decide_eq_true_eq]
      exact ⟨fun h => by omega, fun h => by have := h.1; omega⟩
  · have hc := of_decide_eq_false hc
    refine wp_lt (len_e rfl) ?_
    simp only [lv_cons, lv_nil, app_cons, app_nil]
    rw [List.length_map]
    refine wp_lt rfl ?_
    simp only [lv_cons, lv_nil, app_cons, app_nil]
    refine wp_return rfl (bb_iff ?_)
    rw [rightT_iff]
    simp only [decide_eq_true_eq]
    refine ⟨fun h => ⟨by omega, fun j s hj => hh j ?_ s hj⟩, fun h => by have := h.1; omega⟩
    have := (List.getElem?_eq_some_iff.1 hj).1
    omega
end Go.Proofs.YtngpjdieelcbmaaDoor.Sx
