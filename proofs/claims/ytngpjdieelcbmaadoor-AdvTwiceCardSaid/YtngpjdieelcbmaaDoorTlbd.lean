/-
  Layer 14: all entries by the reference; the same buffers; a new one; what the document fixes: contracts.
-/
import Derived.Test.YtngpjdieelcbmaaDoorTlbc
import Derived.Test.YtngpjdieelcbmaaDoorIrTl
namespace Go.Proofs.YtngpjdieelcbmaaDoor.Sx
open Go
set_option linter.unusedVariables false
set_option linter.unusedSimpArgs false
set_option maxRecDepth 100000

def TTl : Tbl := TIrTl ++ TT
theorem TTl_ok : ∀ x ∈ TTl, Known gAll x.1 x.2 := kappend TIrTl_ok TT_ok

theorem mT_or {ws : List En} : mT ws.length = 11 ∨ (mT ws.length = 0 ∧ rws ws = []) := by
  cases ws
  · exact .inr ⟨rfl, rfl⟩
  · exact .inl (mT_pos (by simp))
theorem allT_take {ts : List SetD} {n : Nat} {s : SetD} (h : ts[n]? = some s) : allT (ts.take (n + 1)) = allT (ts.take n) ++ s.en.filter (·.v) := by
  rw [allT, enT_take h, List.filter_append]; rfl
theorem allT_le {ts : List SetD} : (allT ts).length ≤ 4 * ts.length := by
  rw [← enT_len]
  exact List.length_filter_le _ _

theorem refAll_con {ts : List SetD} (hl : ts.length ≤ 1000000) : Cn gAll 12 [tv ts] [(false, [.sl (mT (allT ts).length) (rws (allT ts))])] := by
  refine con rfl rfl atlasref14_All_c atlasref14_All_p rfl ?_
  unfold atlasref14_All_ir
  simp only [lv_cons, lv_nil, app_cons, app_nil]
  refine wp_rounds (fun m ds => ∃ n : Nat, ds = [I n, .sl (mT (allT (ts.take n)).length) (rws (allT (ts.take n)))] ∧ n + m = ts.length + 1 ∧ n ≤ ts.length) (ts.length + 1) rfl ⟨0, rfl, by omega, by omega⟩ ?_
    (fun es hes => by obtain ⟨n, _, h1, h2⟩ := hes; omega)
  rintro m es Q ⟨n, rfl, hm, hle⟩ hQ
  simp only [lv_cons, lv_nil, app_cons, app_nil]
  refine wp_lt (len_e rfl) ?_
  simp only [lv_cons, lv_nil, app_cons, app_nil]
  rw [List.length_map]
  refine wp_lt rfl ?_
  simp only [lv_cons, lv_nil, app_cons, app_nil]
  refine wp_ite rfl (fun hc => ?_) (fun hc => ?_)
  · have hc := of_decide_eq_true hc
    have hnl : n < ts.length := by omega
    obtain ⟨s, hs⟩ : ∃ s, ts[n]? = some s := ⟨_, List.getElem?_eq_getElem hnl⟩
    have hrow := row_of hs
    refine wp_rounds (fun m ds => ∃ k : Nat, ds = [I k, .sl (mT (allT (ts.take n) ++ (s.en.take k).filter (·.v)).length) (rws (allT (ts.take n) ++ (s.en.take k).filter (·.v)))] ∧ k + m = 5 ∧ k ≤ 4) 5 rfl ⟨0, by rw [List.take_zero, List.filter_nil, List.append_nil]; rfl, by omega, by omega⟩ ?_
      (fun es hes => by obtain ⟨n, _, h1, h2⟩ := hes; omega)
    rintro mm es2 Q2 ⟨k, rfl, hm2, hk4⟩ hQ2
    simp only [lv_cons, lv_nil, app_cons, app_nil]
    have hcase : k = 0 ∨ k = 1 ∨ k = 2 ∨ k = 3 ∨ k = 4 := by omega
    rcases hcase with rfl | rfl | rfl | rfl | rfl
    · refine wp_lt (d := .b true) rfl ?_
      simp only [lv_cons, lv_nil, app_cons, app_nil]
      refine wp_ite (t := true) rfl (fun _ => ?_) (fun h => by cases h)
      refine wp_chk (inb_t rfl rfl (by rw [List.length_map]; exact hnl)) ?_
      skip
      refine wp_ite (t := true) rfl (fun _ => ?_) (fun h => by cases h)
      refine wp_ite (idx_e rfl rfl hrow rfl) (fun hv => ?_) (fun hv => ?_)
      · refine wp_chk (inb_t rfl rfl (by rw [List.length_map]; exact hnl)) ?_
        have hne : ([(s.at 0).ds] : List (List D)) ≠ [] := by simp
        refine wp_chk (room_t (app_e rfl (one_e (evals_idr rfl rfl hrow 11 (11 * 0) (by rw [SetD.ds_len]; decide)) rfl) mT_or (by simp)) (by rw [List.length_append, List.length_map, List.length_append, List.length_singleton]; have := @allT_le (ts.take n); have := List.length_take_le n ts; have := List.length_filter_le (fun e : En => e.v) (s.en.take 0); have := List.length_take_le 0 s.en; omega)) ?_
        refine wp_cont rfl (es_cons rfl (es_cons (app_e rfl (one_e (evals_idr rfl rfl hrow 11 (11 * 0) (by rw [SetD.ds_len]; decide)) rfl) mT_or (by simp)) rfl)) (hQ2 _ ⟨0 + 1, ?_, by omega, by omega⟩)
        have hf : (s.en.take (0 + 1)).filter (·.v) = (s.en.take 0).filter (·.v) ++ [s.at 0] := by
          have : s.en.take (0 + 1) = s.en.take 0 ++ [s.at 0] := rfl
          rw [this, List.filter_append]
          simp [SetD.at, hv]
        rw [hf, ← List.append_assoc, mT_pos (n := (_ ++ [s.at 0]).length) (by rw [List.length_append, List.length_singleton]; omega)]
        simp only [rws, List.map_append]
        rfl
      · refine wp_cont rfl rfl (hQ2 _ ⟨0 + 1, ?_, by omega, by omega⟩)
        have hf : (s.en.take (0 + 1)).filter (·.v) = (s.en.take 0).filter (·.v) := by
          have : s.en.take (0 + 1) = s.en.take 0 ++ [s.at 0] := rfl
          rw [this, List.filter_append]
          simp [SetD.at, hv]
        rw [hf]
        rfl
    · refine wp_lt (d := .b true) rfl ?_
      simp only [lv_cons, lv_nil, app_cons, app_nil]
      refine wp_ite (t := true) rfl (fun _ => ?_) (fun h => by cases h)
      refine wp_chk (inb_t rfl rfl (by rw [List.length_map]; exact hnl)) ?_
      refine wp_ite (t := false) rfl (fun h => by cases h) (fun _ => ?_)
      refine wp_ite (t := true) rfl (fun _ => ?_) (fun h => by cases h)
      refine wp_ite (idx_e rfl rfl hrow rfl) (fun hv => ?_) (fun hv => ?_)
      · refine wp_chk (inb_t rfl rfl (by rw [List.length_map]; exact hnl)) ?_
        have hne : ([(s.at 1).ds] : List (List D)) ≠ [] := by simp
        refine wp_chk (room_t (app_e rfl (one_e (evals_idr rfl rfl hrow 11 (11 * 1) (by rw [SetD.ds_len]; decide)) rfl) mT_or (by simp)) (by rw [List.length_append, List.length_map, List.length_append, List.length_singleton]; have := @allT_le (ts.take n); have := List.length_take_le n ts; have := List.length_filter_le (fun e : En => e.v) (s.en.take 1); have := List.length_take_le 1 s.en; omega)) ?_
        refine wp_cont rfl (es_cons rfl (es_cons (app_e rfl (one_e (evals_idr rfl rfl hrow 11 (11 * 1) (by rw [SetD.ds_len]; decide)) rfl) mT_or (by simp)) rfl)) (hQ2 _ ⟨1 + 1, ?_, by omega, by omega⟩)
        have hf : (s.en.take (1 + 1)).filter (·.v) = (s.en.take 1).filter (·.v) ++ [s.at 1] := by
          have : s.en.take (1 + 1) = s.en.take 1 ++ [s.at 1] := rfl
          rw [this, List.filter_append]
          simp [SetD.at, hv]
        rw [hf, ← List.append_assoc, mT_pos (n := (_ ++ [s.at 1]).length) (by rw [List.length_append, List.length_singleton]; omega)]
        simp only [rws, List.map_append]
        rfl
      · refine wp_cont rfl rfl (hQ2 _ ⟨1 + 1, ?_, by omega, by omega⟩)
        have hf : (s.en.take (1 + 1)).filter (·.v) = (s.en.take 1).filter (·.v) := by
          have : s.en.take (1 + 1) = s.en.take 1 ++ [s.at 1] := rfl
          rw [this, List.filter_append]
          simp [SetD.at, hv]
        rw [hf]
        rfl
    · refine wp_lt (d := .b true) rfl ?_
      simp only [lv_cons, lv_nil, app_cons, app_nil]
      refine wp_ite (t := true) rfl (fun _ => ?_) (fun h => by cases h)
      refine wp_chk (inb_t rfl rfl (by rw [List.length_map]; exact hnl)) ?_
      refine wp_ite (t := false) rfl (fun h => by cases h) (fun _ => ?_)
      refine wp_ite (t := false) rfl (fun h => by cases h) (fun _ => ?_)
      refine wp_ite (t := true) rfl (fun _ => ?_) (fun h => by cases h)
      refine wp_ite (idx_e rfl rfl hrow rfl) (fun hv => ?_) (fun hv => ?_)
      · refine wp_chk (inb_t rfl rfl (by rw [List.length_map]; exact hnl)) ?_
        have hne : ([(s.at 2).ds] : List (List D)) ≠ [] := by simp
        refine wp_chk (room_t (app_e rfl (one_e (evals_idr rfl rfl hrow 11 (11 * 2) (by rw [SetD.ds_len]; decide)) rfl) mT_or (by simp)) (by rw [List.length_append, List.length_map, List.length_append, List.length_singleton]; have := @allT_le (ts.take n); have := List.length_take_le n ts; have := List.length_filter_le (fun e : En => e.v) (s.en.take 2); have := List.length_take_le 2 s.en; omega)) ?_
        refine wp_cont rfl (es_cons rfl (es_cons (app_e rfl (one_e (evals_idr rfl rfl hrow 11 (11 * 2) (by rw [SetD.ds_len]; decide)) rfl) mT_or (by simp)) rfl)) (hQ2 _ ⟨2 + 1, ?_, by omega, by omega⟩)
        have hf : (s.en.take (2 + 1)).filter (·.v) = (s.en.take 2).filter (·.v) ++ [s.at 2] := by
          have : s.en.take (2 + 1) = s.en.take 2 ++ [s.at 2] := rfl
          rw [this, List.filter_append]
          simp [SetD.at, hv]
        rw [hf, ← List.append_assoc, mT_pos (n := (_ ++ [s.at 2]).length) (by rw [List.length_append, List.length_singleton]; omega)]
        simp only [rws, List.map_append]
        rfl
      · refine wp_cont rfl rfl (hQ2 _ ⟨2 + 1, ?_, by omega, by omega⟩)
        have hf : (s.en.take (2 + 1)).filter (·.v) = (s.en.take 2).filter (·.v) := by
          have : s.en.take (2 + 1) = s.en.take 2 ++ [s.at 2] := rfl
          rw [this, List.filter_append]
          simp [SetD.at, hv]
        rw [hf]
        rfl
    · refine wp_lt (d := .b true) rfl ?_
      simp only [lv_cons, lv_nil, app_cons, app_nil]
      refine wp_ite (t := true) rfl (fun _ => ?_) (fun h => by cases h)
      refine wp_chk (inb_t rfl rfl (by rw [List.length_map]; exact hnl)) ?_
      refine wp_ite (t := false) rfl (fun h => by cases h) (fun _ => ?_)
      refine wp_ite (t := false) rfl (fun h => by cases h) (fun _ => ?_)
      refine wp_ite (t := false) rfl (fun h => by cases h) (fun _ => ?_)
      refine wp_ite (t := true) rfl (fun _ => ?_) (fun h => by cases h)
      refine wp_ite (idx_e rfl rfl hrow rfl) (fun hv => ?_) (fun hv => ?_)
      · refine wp_chk (inb_t rfl rfl (by rw [List.length_map]; exact hnl)) ?_
        have hne : ([(s.at 3).ds] : List (List D)) ≠ [] := by simp
        refine wp_chk (room_t (app_e rfl (one_e (evals_idr rfl rfl hrow 11 (11 * 3) (by rw [SetD.ds_len]; decide)) rfl) mT_or (by simp)) (by rw [List.length_append, List.length_map, List.length_append, List.length_singleton]; have := @allT_le (ts.take n); have := List.length_take_le n ts; have := List.length_filter_le (fun e : En => e.v) (s.en.take 3); have := List.length_take_le 3 s.en; omega)) ?_
        refine wp_cont rfl (es_cons rfl (es_cons (app_e rfl (one_e (evals_idr rfl rfl hrow 11 (11 * 3) (by rw [SetD.ds_len]; decide)) rfl) mT_or (by simp)) rfl)) (hQ2 _ ⟨3 + 1, ?_, by omega, by omega⟩)
        have hf : (s.en.take (3 + 1)).filter (·.v) = (s.en.take 3).filter (·.v) ++ [s.at 3] := by
          have : s.en.take (3 + 1) = s.en.take 3 ++ [s.at 3] := rfl
          rw [this, List.filter_append]
          simp [SetD.at, hv]
        rw [hf, ← List.append_assoc, mT_pos (n := (_ ++ [s.at 3]).length) (by rw [List.length_append, List.length_singleton]; omega)]
        simp only [rws, List.map_append]
        rfl
      · refine wp_cont rfl rfl (hQ2 _ ⟨3 + 1, ?_, by omega, by omega⟩)
        have hf : (s.en.take (3 + 1)).filter (·.v) = (s.en.take 3).filter (·.v) := by
          have : s.en.take (3 + 1) = s.en.take 3 ++ [s.at 3] := rfl
          rw [this, List.filter_append]
          simp [SetD.at, hv]
        rw [hf]
        rfl
    · refine wp_lt (d := .b false) rfl ?_
      simp only [lv_cons, lv_nil, app_cons, app_nil]
      refine wp_ite (t := false) rfl (fun h => by cases h) (fun _ => ?_)
      refine wp_lt (i_add (a := (n : Int)) (b := 1) rfl rfl (by omega) (by omega)) ?_
      simp only [lv_cons, lv_nil, app_cons, app_nil]
      refine wp_cont rfl rfl (hQ _ ⟨n + 1, ?_, by omega, by omega⟩)
      rw [allT_take hs, show s.en.take 4 = s.en from rfl]
      rfl
  · have hc := of_decide_eq_false hc
    obtain rfl : n = ts.length := by omega
    refine wp_return rfl ?_
    rw [List.take_length]

theorem sameT_con {ts : List SetD} (hl : ts.length ≤ 1000000) : Cn gAll 22 [tv ts, tv ts] [bb true] := by
  refine con rfl rfl atlasref14_Same_c atlasref14_Same_p rfl ?_
  unfold atlasref14_Same_ir
  simp only [lv_cons, lv_nil, app_cons, app_nil]
  refine wp_lt (len_e rfl) ?_
  simp only [lv_cons, lv_nil, app_cons, app_nil]
  refine wp_lt (len_e rfl) ?_
  simp only [lv_cons, lv_nil, app_cons, app_nil]
  refine wp_lt (d := .b false) ?_ ?_
  · show some (D.b (((ts.map SetD.ds).length : Int) != ((ts.map SetD.ds).length : Int))) = _
    rw [bne_self_eq_false]
  simp only [lv_cons, lv_nil, app_cons, app_nil]
  refine wp_ite (t := false) rfl (fun h => by cases h) (fun _ => ?_)
  refine wp_rounds (fun m ds => ∃ (b : Bool) (n : Nat), ds = [.b b, I n] ∧ n + m = ts.length + 1 ∧ n ≤ ts.length) (ts.length + 1) rfl ⟨_, 0, rfl, by omega, by omega⟩ ?_
    (fun es hes => by obtain ⟨_, n, _, h1, h2⟩ := hes; omega)
  rintro m es Q ⟨b, n, rfl, hm, hle⟩ hQ
  simp only [lv_cons, lv_nil, app_cons, app_nil]
  refine wp_lt (len_e rfl) ?_
  simp only [lv_cons, lv_nil, app_cons, app_nil]
  rw [List.length_map]
  refine wp_lt rfl ?_
  simp only [lv_cons, lv_nil, app_cons, app_nil]
  refine wp_ite rfl (fun hc => ?_) (fun hc => ?_)
  · have hc := of_decide_eq_true hc
    have hnl : n < ts.length := by omega
    obtain ⟨s, hs⟩ : ∃ s, ts[n]? = some s := ⟨_, List.getElem?_eq_getElem hnl⟩
    have hrow := row_of hs
    refine wp_chk (inb_t rfl rfl (by rw [List.length_map]; exact hnl)) ?_
    refine wp_chk (inb_t rfl rfl (by rw [List.length_map]; exact hnl)) ?_
    refine wp_lt (not_e (t := true) ?_) ?_
    focus
      refine ite_t (eqs_b (idx_e rfl rfl hrow rfl) (idx_e rfl rfl hrow rfl)) ?_
      repeat' first
        | refine ite_t (eqs_b (idx_e rfl rfl hrow rfl) (idx_e rfl rfl hrow rfl)) ?_
        | refine ite_t (eqs_i (idx_e rfl rfl hrow rfl) (idx_e rfl rfl hrow rfl)) ?_
        | exact rfl
    simp only [lv_cons, lv_nil, app_cons, app_nil]
    refine wp_ite (t := false) rfl (fun h => by cases h) (fun _ => ?_)
    refine wp_lt (i_add (a := (n : Int)) (b := 1) rfl rfl (by omega) (by omega)) ?_
    simp only [lv_cons, lv_nil, app_cons, app_nil]
    exact wp_cont rfl rfl (hQ _ ⟨_, n + 1, rfl, by omega, by omega⟩)
  · exact wp_return rfl rfl

/-! ### a new one -/
def newT (n : Nat) : List SetD := List.replicate n zeroSet
theorem newT_len {n : Nat} : (newT n).length = n := List.length_replicate ..
theorem newT_ok {n : Nat} (h : n ≤ 16) : TR (newT n) := by
  have h0 : ∀ (j : Nat) (s : SetD), (newT n)[j]? = some s → s = zeroSet := fun j s hs => by
    have := List.mem_of_getElem? hs
    exact (List.mem_replicate.1 this).2
  refine ⟨rightT_iff.2 ⟨by rw [newT_len]; exact h, fun j s hs => ?_⟩, fun s hs => ?_⟩
  · rw [h0 j s hs, newT_len]
    rfl
  · rw [(List.mem_replicate.1 hs).2]
    exact ⟨zero_ok, zero_ok, zero_ok, zero_ok⟩
end Go.Proofs.YtngpjdieelcbmaaDoor.Sx
