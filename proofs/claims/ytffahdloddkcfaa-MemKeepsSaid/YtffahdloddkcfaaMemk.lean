/-
  The law: what is handed in stays; what is answered is new memory.
-/
import Derived.Test.YtffahdloddkcfaaMeml
import Derived.Test.YtffahdloddkcfaaIrMk
namespace Go.Proofs.Ytffahdloddkcfaa.Sx
open Go
set_option linter.unusedVariables false
set_option linter.unusedSimpArgs false
set_option maxRecDepth 100000

/-- two cells over a row's two -/
theorem put2_e {ρ : List D} {x ix y z : Ex} {k : IntKind} {m : Nat} {rows : List (List D)} {a b : D} (hx : x.eval ρ = some (.sl 2 rows)) (hi : ix.eval ρ = some (.i k (m : Int))) (hm : m < rows.length) (hr : ∀ r ∈ rows, r.length = 2) (hy : y.eval ρ = some a) (hz : z.eval ρ = some b) :
    (Ex.put x ix 0 [y, z]).eval ρ = some (.sl 2 (rows.set m [a, b])) := by
  have hg : rows[m]? = some rows[m] := List.getElem?_eq_getElem hm
  have hl := hr _ (List.getElem_mem hm)
  simp only [Ex.eval, Ex.evals, hx, hi, hy, hz, putD, Int.toNat_natCast, hg]
  rw [if_pos (by omega), if_pos (by simp [hl])]
  simp [over, List.drop_eq_nil_of_le (by omega : rows[m].length ≤ 2)]

theorem MemKeeps_con {k s a v : Nat} {z : Int} {cs : List Cl} (hk : Kd k cs) (hs : s < 18446744073709551616) (hC : COk cs) (ha : a < 18446744073709551616) (hv : v < 18446744073709551616) : Cn gAll 7 [md k s cs, u a, i z, u v] [bb true] := by
  refine con rfl rfl atlaslaw03_MemKeeps_c atlaslaw03_MemKeeps_p rfl ?_
  unfold atlaslaw03_MemKeeps_ir
  simp only [lv_cons, lv_nil, app_cons, app_nil]
  refine wp_call rfl awake_con rfl ?_
  simp only [lv_cons, lv_nil, app_cons, app_nil]
  refine wp_lt (d := (.b false)) rfl ?_
  simp only [lv_cons, lv_nil, app_cons, app_nil]
  refine wp_ite (t := false) rfl (fun h => by cases h) (fun _ => ?_)
  refine wp_call rfl (fits_con (k := k) (s := s) (cs := cs) hk hs) rfl ?_
  simp only [lv_cons, lv_nil, app_cons, app_nil]
  refine wp_lt rfl ?_
  simp only [lv_cons, lv_nil, app_cons, app_nil]
  refine wp_ite rfl (fun hf => ?_) (fun hf => ?_)
  · refine wp_call rfl awake_con rfl ?_
    simp only [lv_cons, lv_nil, app_cons, app_nil]
    exact wp_return rfl rfl
  have hf : cs.length ≤ 300 ∧ rightM s cs = true := by simpa using hf
  obtain ⟨hl, hr⟩ := hf
  have hR : RM s cs := right_rm.1 hr
  have hlc := len_clr (a := 0 / 8) (b := (0 + s / 16 * 8) / 8) hR.asc (by omega)
  have hflt : cs.filter (keptB 0 (s / 16 * 8)) = clrM cs (0 / 8) ((0 + s / 16 * 8) / 8) := by
    rw [clr_filter hR.asc (by omega)]
    refine List.filter_congr fun c _ => ?_
    rw [Bool.eq_iff_iff]
    simp only [keptB, Bool.or_eq_true, decide_eq_true_eq]
    omega
  refine wp_chk (row_room (own_cells hk rfl) (by omega)) ?_
  refine wp_call (evs_cons (es_cons rfl (es_cons (own_cells hk rfl) rfl)) rfl) (wrong_con (k := 2) (s := s) (z := z) (cs := cs) ha) rfl ?_
  simp only [lv_cons, lv_nil, app_cons, app_nil]
  refine wp_chk (eqs_i rfl rfl) ?_
  by_cases hw : wrongN s a z = 0
  · obtain ⟨q, rfl, hq, hq', haq, has⟩ := wrong_0 hw
    rw [hw]
    refine wp_lt (d := (.b false)) rfl ?_
    simp only [lv_cons, lv_nil, app_cons, app_nil]
    refine wp_ite (t := false) rfl (fun h => by cases h) (fun _ => ?_)
    refine wp_lt (u_quo (b := 8) rfl rfl (by omega) ha) ?_
    simp only [lv_cons, lv_nil, app_cons, app_nil]
    refine wp_call (evs_cons (es_cons rfl (es_cons (own_cells hk rfl) rfl)) rfl) (memWord_con (k := 2) (s := s) (a := a) (cs := cs) (.inl rfl) hR.asc (by omega) ha) rfl ?_
    simp only [lv_cons, lv_nil, app_cons, app_nil]
    refine wp_chk (eqs_i rfl rfl) ?_
    refine wp_lt (u_rem (b := 8) rfl rfl (by omega)) ?_
    simp only [lv_cons, lv_nil, app_cons, app_nil]
    refine wp_lt (cv_i rfl (by omega) (by omega)) ?_
    simp only [lv_cons, lv_nil, app_cons, app_nil]
    refine wp_lt (d := I (a % 8 * 8 : Nat)) ((i_mul (b := 8) rfl rfl (by omega) (by omega)).trans (by rw [Int.natCast_mul]; rfl)) ?_
    simp only [lv_cons, lv_nil, app_cons, app_nil]
    have hz := sizeOk_iff.1 hq
    refine wp_lt (d := I (q * 8 : Nat)) ((i_mul (b := 8) rfl rfl (by omega) (by omega)).trans (by rw [Int.natCast_mul]; rfl)) ?_
    simp only [lv_cons, lv_nil, app_cons, app_nil]
    refine wp_call rfl (bitsSet_con (wordN_lt hC) hv (by omega) (by omega)) rfl ?_
    simp only [lv_cons, lv_nil, app_cons, app_nil]
    refine wp_call (evs_cons (es_cons rfl (es_cons (own_cells hk rfl) rfl)) rfl) (memPut_conN (k := 2) (s := s) (p := a / 8) (v := setN (wordN s cs a) (a % 8 * 8) (q * 8) v) (cs := cs) (.inl rfl) hR.asc (by omega)) rfl ?_
    have hst := len_store (s := s) (a := a) (n := q) (v := v) (cs := cs)
    rw [show putM cs (a / 8) (setN (wordN s cs a) (a % 8 * 8) (q * 8) v) = storeM s cs a q v from rfl]
    simp only [lv_cons, lv_nil, app_cons, app_nil]
    refine wp_chk (room_t (rows := crs (storeM s cs a q v)) rfl (by rw [crs_len]; omega)) ?_
    refine wp_lt (u_quo (b := 16) rfl rfl (by omega) hs) ?_
    simp only [lv_cons, lv_nil, app_cons, app_nil]
    refine wp_lt (u_mul (b := 8) rfl rfl (by omega)) ?_
    simp only [lv_cons, lv_nil, app_cons, app_nil]
    refine wp_call (evs_cons (es_cons rfl (es_cons (own_cells hk rfl) rfl)) rfl) (memClear_conN (k := 2) (s := s) (a := 0) (b := s / 16 * 8) (cs := cs) (.inl rfl) hR.asc (by omega) (by omega)) rfl ?_
    simp only [lv_cons, lv_nil, app_cons, app_nil]
    refine wp_chk (room_t (rows := crs (clrM cs (0 / 8) ((0 + s / 16 * 8) / 8))) rfl (by rw [crs_len]; omega)) ?_
    refine wp_call (evs_cons (es_cons rfl (es_cons (own_cells hk rfl) rfl)) rfl) (sameM_con (k := 2) (k' := k) (s := s) (cs := cs) (.inl rfl) hk (by omega)) rfl ?_
    simp only [lv_cons, lv_nil, app_cons, app_nil]
    refine wp_chk (eqs_b rfl rfl) ?_
    refine wp_lt (d := (.b false)) rfl ?_
    simp only [lv_cons, lv_nil, app_cons, app_nil]
    refine wp_ite (t := false) rfl (fun h => by cases h) (fun _ => ?_)
    refine wp_rounds (fun m ds => ∃ (j : Nat) (rows : List (List D)), ds = [I j, .sl 2 rows] ∧ rows.length = cs.length ∧ (∀ r ∈ rows, r.length = 2) ∧ j ≤ cs.length ∧ cs.length + 1 ≤ m + j) (cs.length + 1) (es_cons rfl (es_cons (own_cells hk rfl) rfl)) ⟨0, crs cs, rfl, crs_len, fun r hr => by obtain ⟨c, _, rfl⟩ := List.mem_map.1 hr; rfl, by omega, by omega⟩ ?_
      (fun es hes => by obtain ⟨_, _, _, _, _, h1, h2⟩ := hes; omega)
    rintro m es Q ⟨j, rows, rfl, hrl, hrw, hj, hm⟩ hQ
    simp only [lv_cons, lv_nil, app_cons, app_nil]
    refine wp_lt (d := .b (decide (j < rows.length))) (cmp_e (e_lss rfl (len_is rfl rfl)) (by simp)) ?_
    simp only [lv_cons, lv_nil, app_cons, app_nil]
    refine wp_ite rfl (fun hc => ?_) (fun hc => ?_)
    · have hc := of_decide_eq_true hc
      have hjl : j < rows.length := by omega
      refine wp_chk (inb_t rfl rfl hjl) ?_
      refine wp_chk (inb_t rfl rfl hjl) ?_
      refine wp_lt (d := I (j + 1 : Nat)) ((i_add (a := (j : Int)) (b := 1) rfl rfl (by omega) (by omega)).trans (by rw [Int.natCast_add]; rfl)) ?_
      simp only [lv_cons, lv_nil, app_cons, app_nil]
      refine wp_cont rfl (es_cons rfl (es_cons (put2_e rfl rfl hjl hrw rfl rfl) rfl)) (hQ _ ⟨j + 1, _, rfl, by rw [List.length_set]; exact hrl, fun r hr => ?_, by omega, by omega⟩)
      rcases List.mem_or_eq_of_mem_set hr with h | rfl
      · exact hrw r h
      · rfl
    clear hQ hc hm hj hrw hrl
    refine wp_call rfl (refStore_ok (s := s) (v := v) hk hR hC (by omega) hv hq' haq has hw) rfl ?_
    simp only [lv_cons, lv_nil, app_cons, app_nil]
    refine wp_call rfl (sameM_con (s := s) (.inl rfl) (.inl rfl) (by omega)) rfl ?_
    simp only [lv_cons, lv_nil, app_cons, app_nil]
    refine wp_ite (t := true) rfl (fun _ => ?_) (fun h => by cases h)
    refine wp_lt (u_quo (b := 16) rfl rfl (by omega) hs) ?_
    simp only [lv_cons, lv_nil, app_cons, app_nil]
    refine wp_lt (u_mul (b := 8) rfl rfl (by omega)) ?_
    simp only [lv_cons, lv_nil, app_cons, app_nil]
    have hrc := refClear_con (k := k) (s := s) (a := 0) (b := s / 16 * 8) (cs := cs) hk (fun c hc => by have := hR.low c hc; have := hR.most; omega) (by omega) (by omega)
    rw [hflt] at hrc
    refine wp_call rfl hrc rfl ?_
    simp only [lv_cons, lv_nil, app_cons, app_nil]
    refine wp_call rfl (sameM_con (s := s) (.inl rfl) (.inl rfl) (by omega)) rfl ?_
    simp only [lv_cons, lv_nil, app_cons, app_nil]
    exact wp_return rfl rfl
  · refine wp_lt (d := .b true) (cmp_e (e_neq rfl rfl) (bne_iff_ne.2 hw)) ?_
    simp only [lv_cons, lv_nil, app_cons, app_nil]
    refine wp_ite (t := true) rfl (fun _ => ?_) (fun h => by cases h)
    refine wp_lt (u_quo (b := 16) rfl rfl (by omega) hs) ?_
    simp only [lv_cons, lv_nil, app_cons, app_nil]
    refine wp_lt (u_mul (b := 8) rfl rfl (by omega)) ?_
    simp only [lv_cons, lv_nil, app_cons, app_nil]
    refine wp_call (evs_cons (es_cons rfl (es_cons (own_cells hk rfl) rfl)) rfl) (memClear_conN (k := 2) (s := s) (a := 0) (b := s / 16 * 8) (cs := cs) (.inl rfl) hR.asc (by omega) (by omega)) rfl ?_
    simp only [lv_cons, lv_nil, app_cons, app_nil]
    refine wp_chk (room_t (rows := crs (clrM cs (0 / 8) ((0 + s / 16 * 8) / 8))) rfl (by rw [crs_len]; omega)) ?_
    refine wp_call (evs_cons (es_cons rfl (es_cons (own_cells hk rfl) rfl)) rfl) (sameM_con (k := 2) (k' := k) (s := s) (cs := cs) (.inl rfl) hk (by omega)) rfl ?_
    simp only [lv_cons, lv_nil, app_cons, app_nil]
    refine wp_chk (eqs_b rfl rfl) ?_
    refine wp_lt (d := (.b false)) rfl ?_
    simp only [lv_cons, lv_nil, app_cons, app_nil]
    refine wp_ite (t := false) rfl (fun h => by cases h) (fun _ => ?_)
    refine wp_rounds (fun m ds => ∃ (j : Nat) (rows : List (List D)), ds = [I j, .sl 2 rows] ∧ rows.length = cs.length ∧ (∀ r ∈ rows, r.length = 2) ∧ j ≤ cs.length ∧ cs.length + 1 ≤ m + j) (cs.length + 1) (es_cons rfl (es_cons (own_cells hk rfl) rfl)) ⟨0, crs cs, rfl, crs_len, fun r hr => by obtain ⟨c, _, rfl⟩ := List.mem_map.1 hr; rfl, by omega, by omega⟩ ?_
      (fun es hes => by obtain ⟨_, _, _, _, _, h1, h2⟩ := hes; omega)
    rintro m es Q ⟨j, rows, rfl, hrl, hrw, hj, hm⟩ hQ
    simp only [lv_cons, lv_nil, app_cons, app_nil]
    refine wp_lt (d := .b (decide (j < rows.length))) (cmp_e (e_lss rfl (len_is rfl rfl)) (by simp)) ?_
    simp only [lv_cons, lv_nil, app_cons, app_nil]
    refine wp_ite rfl (fun hc => ?_) (fun hc => ?_)
    · have hc := of_decide_eq_true hc
      have hjl : j < rows.length := by omega
      refine wp_chk (inb_t rfl rfl hjl) ?_
      refine wp_chk (inb_t rfl rfl hjl) ?_
      refine wp_lt (d := I (j + 1 : Nat)) ((i_add (a := (j : Int)) (b := 1) rfl rfl (by omega) (by omega)).trans (by rw [Int.natCast_add]; rfl)) ?_
      simp only [lv_cons, lv_nil, app_cons, app_nil]
      refine wp_cont rfl (es_cons rfl (es_cons (put2_e rfl rfl hjl hrw rfl rfl) rfl)) (hQ _ ⟨j + 1, _, rfl, by rw [List.length_set]; exact hrl, fun r hr => ?_, by omega, by omega⟩)
      rcases List.mem_or_eq_of_mem_set hr with h | rfl
      · exact hrw r h
      · rfl
    clear hQ hc hm hj hrw hrl
    refine wp_call rfl (refStore_bad (s := s) (v := v) (cs := cs) (k := k) ha hw) rfl ?_
    simp only [lv_cons, lv_nil, app_cons, app_nil]
    refine wp_lt (d := .b true) (cmp_e (e_neq rfl rfl) (bne_iff_ne.2 hw)) ?_
    simp only [lv_cons, lv_nil, app_cons, app_nil]
    refine wp_ite (t := true) rfl (fun _ => ?_) (fun h => by cases h)
    refine wp_lt (u_quo (b := 16) rfl rfl (by omega) hs) ?_
    simp only [lv_cons, lv_nil, app_cons, app_nil]
    refine wp_lt (u_mul (b := 8) rfl rfl (by omega)) ?_
    simp only [lv_cons, lv_nil, app_cons, app_nil]
    have hrc := refClear_con (k := k) (s := s) (a := 0) (b := s / 16 * 8) (cs := cs) hk (fun c hc => by have := hR.low c hc; have := hR.most; omega) (by omega) (by omega)
    rw [hflt] at hrc
    refine wp_call rfl hrc rfl ?_
    simp only [lv_cons, lv_nil, app_cons, app_nil]
    refine wp_call rfl (sameM_con (s := s) (.inl rfl) (.inl rfl) (by omega)) rfl ?_
    simp only [lv_cons, lv_nil, app_cons, app_nil]
    exact wp_return rfl rfl
end Go.Proofs.Ytffahdloddkcfaa.Sx
