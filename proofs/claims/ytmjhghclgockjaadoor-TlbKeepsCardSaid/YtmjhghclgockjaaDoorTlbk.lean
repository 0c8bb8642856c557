/-
  Layer 14: TlbKeeps.
-/
import Derived.Test.YtmjhghclgockjaaDoorTlbl
import Derived.Test.YtmjhghclgockjaaDoorIrTk
namespace Go.Proofs.YtmjhghclgockjaaDoor.Sx
open Go
set_option linter.unusedVariables false
set_option linter.unusedSimpArgs false
set_option maxRecDepth 100000

theorem i_rem' {ρ : List D} {x y : Ex} {a b : Nat} (hx : x.eval ρ = some (I a)) (hy : y.eval ρ = some (I b)) (h : b ≠ 0) : (Ex.bin .rem x y).eval ρ = some (I (a % b : Nat)) := by
  have h1 : (a : Int).tmod b = ((a % b : Nat) : Int) := by rw [Int.tmod_eq_emod_of_nonneg (by omega)]; push_cast; rfl
  have h3 : ¬ (b : Int) = 0 := by omega
  simp only [Ex.eval, hx, hy, binD, if_true]
  rw [if_neg h3, h1]
set_option maxHeartbeats 8000000 in
theorem TlbKeeps_con {ts : List SetD} {e : En} {v : Int} {sn : Nat} (hO : TOk ts) (hl : ts.length < 9223372036854775808) (he : e.Ok) (hsn : sn < 256) : Cn gAll 8 [tv ts, e.dv, i v, (false, [.i .u8 (sn : Int)])] [bb true] := by
  refine con rfl rfl atlaslaw14_TlbKeeps_c atlaslaw14_TlbKeeps_p rfl ?_
  unfold atlaslaw14_TlbKeeps_ir
  simp only [lv_cons, lv_nil, SetD.ds, En.ds, app_cons, app_nil]
  refine wp_call rfl awake14_con rfl ?_
  simp only [lv_cons, lv_nil, app_cons, app_nil]
  refine wp_lt (d := (.b false)) rfl ?_
  simp only [lv_cons, lv_nil, app_cons, app_nil]
  refine wp_ite (t := false) rfl (fun h => by cases h) (fun _ => ?_)
  refine wp_call rfl (refRightT_con hO hl) rfl ?_
  simp only [lv_cons, lv_nil, app_cons, app_nil]
  refine wp_lt rfl ?_
  simp only [lv_cons, lv_nil, app_cons, app_nil]
  refine wp_ite rfl (fun _ => wp_call rfl awake14_con rfl (wp_return rfl rfl)) (fun hr => ?_)
  have hr : rightT ts = true := by simpa using hr
  refine wp_call rfl (refMay_con (e := e)) rfl ?_
  simp only [lv_cons, lv_nil, app_cons, app_nil]
  refine wp_lt rfl ?_
  simp only [lv_cons, lv_nil, app_cons, app_nil]
  refine wp_ite rfl (fun _ => wp_call rfl awake14_con rfl (wp_return rfl rfl)) (fun hmay => ?_)
  have hmay : e.may = true := by simpa using hmay
  refine wp_lt rfl ?_
  simp only [lv_cons, lv_nil, app_cons, app_nil]
  refine wp_ite rfl (fun _ => wp_call rfl awake14_con rfl (wp_return rfl rfl)) (fun hev => ?_)
  have hTR : TR ts := ⟨hr, hO⟩
  have hl16 := hTR.len
  refine wp_chk (room_t (app0_e rfl) (by rw [List.length_map]; omega)) ?_
  refine wp_call (evs_cons (evs_one (app0_e rfl)) rfl) (tlbPut_con (e := e) (v := v) hTR he hmay) rfl ?_
  simp only [lv_cons, lv_nil, app_cons, app_nil]
  refine wp_lt (cv_i rfl (by omega) (by omega)) ?_
  simp only [lv_cons, lv_nil, app_cons, app_nil]
  refine wp_call (evs_cons (evs_one (app0_e rfl)) rfl) (tlbDrop_con (j := (sn : Int)) (way := 1) hTR) rfl ?_
  simp only [lv_cons, lv_nil, app_cons, app_nil]
  refine wp_lt (len_is (app0_e rfl) (List.length_map ..)) ?_
  simp only [lv_cons, lv_nil, app_cons, app_nil]
  refine wp_lt rfl ?_
  simp only [lv_cons, lv_nil, app_cons, app_nil]
  refine wp_ite rfl (fun hn => ?_) (fun hn => ?_)
  · have hn := of_decide_eq_true hn
    have hn : 0 < ts.length := by omega
    refine wp_lt (cv_i rfl (by omega) (by omega)) ?_
    simp only [lv_cons, lv_nil, app_cons, app_nil]
    refine wp_lt (len_is (app0_e rfl) (List.length_map ..)) ?_
    simp only [lv_cons, lv_nil, app_cons, app_nil]
    refine wp_lt (i_rem' rfl rfl (by omega)) ?_
    simp only [lv_cons, lv_nil, app_cons, app_nil]
    have hj : sn % ts.length < ts.length := Nat.mod_lt _ hn
    obtain ⟨s, hs⟩ : ∃ s, ts[sn % ts.length]? = some s := ⟨_, List.getElem?_eq_getElem hj⟩
    refine wp_call (evs_cons (evs_one (app0_e rfl)) rfl) (tlbUse_con (k := 2) hTR hs (by omega)) rfl ?_
    simp only [lv_cons, lv_nil, app_cons, app_nil]
    refine wp_lt (len_is (app0_e rfl) (List.length_map ..)) ?_
    simp only [lv_cons, lv_nil, app_cons, app_nil]
    refine wp_rounds (fun m ds => ∃ n : Nat, ds = [I n, .sl (mT n) (rws (enT (ts.take n)))] ∧ n + m = ts.length + 1 ∧ n ≤ ts.length) (ts.length + 1) rfl ⟨0, rfl, by omega, by omega⟩ ?_
      (fun es hes => by obtain ⟨n, _, h1, h2⟩ := hes; omega)
    rintro m es Q ⟨n, rfl, hm, hle⟩ hQ
    simp only [lv_cons, lv_nil, app_cons, app_nil]
    refine wp_lt rfl ?_
    simp only [lv_cons, lv_nil, app_cons, app_nil]
    refine wp_ite rfl (fun hc => ?_) (fun hc => ?_)
    · have hc := of_decide_eq_true hc
      have hnl : n < ts.length := by omega
      obtain ⟨s, hs⟩ : ∃ s, ts[n]? = some s := ⟨_, List.getElem?_eq_getElem hnl⟩
      have hrow := row_of hs
      refine wp_chk (inb_t (app0_e rfl) rfl (by rw [List.length_map]; exact hnl)) ?_
      have hlen : (enT (ts.take n)).length = 4 * n := by rw [enT_len, List.length_take, Nat.min_eq_left hle]
      have hn0 : mT n = 11 ∨ (mT n = 0 ∧ rws (enT (ts.take n)) = []) := by
        by_cases hn0 : n = 0
        · subst hn0; exact .inr ⟨rfl, rfl⟩
        · exact .inl (mT_pos (by omega))
      refine wp_chk (room_t (app_e (m := mT n) (b := rws s.en) rfl (cat_e (one_e (evals_idr (app0_e rfl) rfl hrow 11 0 (by rw [SetD.ds_len]; decide)) rfl) (cat_e (one_e (evals_idr (app0_e rfl) rfl hrow 11 11 (by rw [SetD.ds_len]; decide)) rfl) (cat_e (one_e (evals_idr (app0_e rfl) rfl hrow 11 22 (by rw [SetD.ds_len]; decide)) rfl) (one_e (evals_idr (app0_e rfl) rfl hrow 11 33 (by rw [SetD.ds_len]; decide)) rfl)))) hn0 (by simp [SetD.en])) (by rw [List.length_append, List.length_map, List.length_map, hlen, show s.en.length = 4 from rfl]; omega)) ?_
      refine wp_lt (i_add (a := (n : Int)) (b := 1) rfl rfl (by omega) (by omega)) ?_
      simp only [lv_cons, lv_nil, app_cons, app_nil]
      refine wp_cont (ds := [I (n + 1 : Nat), .sl 11 (rws (enT (ts.take n)) ++ rws s.en)]) rfl (es_cons rfl (es_cons (app_e (m := mT n) (b := rws s.en) rfl (cat_e (one_e (evals_idr (app0_e rfl) rfl hrow 11 0 (by rw [SetD.ds_len]; decide)) rfl) (cat_e (one_e (evals_idr (app0_e rfl) rfl hrow 11 11 (by rw [SetD.ds_len]; decide)) rfl) (cat_e (one_e (evals_idr (app0_e rfl) rfl hrow 11 22 (by rw [SetD.ds_len]; decide)) rfl) (one_e (evals_idr (app0_e rfl) rfl hrow 11 33 (by rw [SetD.ds_len]; decide)) rfl)))) hn0 (by simp [SetD.en])) rfl)) (hQ _ ⟨n + 1, ?_, by omega, by omega⟩)
      · rw [mT_pos (by omega), enT_take hs]
        simp only [rws, List.map_append]
    have hc := of_decide_eq_false hc
    obtain rfl : n = ts.length := by omega
    rw [List.take_length]
    have hL := enT_len (ts := ts)
    have hmT : 0 < (enT ts).length → mT ts.length = 11 := fun h => mT_pos (by omega)
    generalize enT ts = ws at hL hmT ⊢
    generalize mT ts.length = M at hmT ⊢
    have hLn : (rws ws).length = ws.length := List.length_map ..
    refine wp_rounds (fun m ds => ∃ (d : D) (q : Nat), ds = [d, I q] ∧ q + m = ws.length + 1 ∧ q ≤ ws.length ∧ ∀ x, x < q → ∀ e, ws[x]? = some e → e.v = true) (ws.length + 1) rfl ⟨_, 0, rfl, by omega, by omega, fun x hx => by omega⟩ ?_
      (fun es hes => by obtain ⟨_, q, _, h1, h2, _⟩ := hes; omega)
    rintro m1 es1 Q1 ⟨d, q, rfl, hq1, hq2, hv⟩ hQ1
    simp only [lv_cons, lv_nil, app_cons, app_nil]
    refine wp_lt rfl ?_
    simp only [lv_cons, lv_nil, app_cons, app_nil]
    rw [hLn]
    refine wp_ite rfl (fun hc1 => ?_) (fun hc1 => ?_)
    · have hc1 := of_decide_eq_true hc1
      have hq : q < ws.length := by omega
      obtain rfl := hmT (by omega)
      obtain ⟨e, he⟩ : ∃ e, ws[q]? = some e := ⟨_, List.getElem?_eq_getElem hq⟩
      have hrow := rws_row he
      refine wp_chk (inb_t rfl rfl (by rw [hLn]; exact hq)) ?_
      refine wp_chk (inb_t rfl rfl (by rw [hLn]; exact hq)) ?_
      refine wp_lt (not_e (t := e.v) (idx_e rfl rfl hrow rfl)) ?_
      simp only [lv_cons, lv_nil, app_cons, app_nil]
      refine wp_ite rfl (fun hnv => ?_) (fun hnv => ?_)
      · refine wp_lt (d := .b false) ?_ ?_
        · show some (D.b ((q : Int) == (-1 : Int))) = _
          rw [beq_eq_false_iff_ne.2 (by omega)]
        simp only [lv_cons, lv_nil, app_cons, app_nil]
        refine wp_ite (t := false) rfl (fun h => by cases h) (fun _ => ?_)
        refine wp_lt (i_add (a := (q : Int)) (b := 1) rfl rfl (by omega) (by omega)) ?_
        simp only [lv_cons, lv_nil, app_cons, app_nil]
        have hpre : (ws.take (q + 1)).filter (·.v) = ws.take q := by
          have h1 : ws.take (q + 1) = ws.take q ++ [e] := by rw [List.take_add_one, he]; rfl
          have h2 : (ws.take q).filter (·.v) = ws.take q := by
            rw [List.filter_eq_self]
            intro x hx
            obtain ⟨i, hi, rfl⟩ := List.getElem_of_mem hx
            rw [List.length_take] at hi
            exact hv i (by omega) _ (by rw [List.getElem_take]; exact List.getElem?_eq_getElem (by omega))
          have h3 : e.v = false := by simpa using hnv
          rw [h1, List.filter_append, h2]
          simp [h3]
        refine wp_rounds (fun m ds => ∃ (p j : Nat) (rows : List (List D)), ds = [I p, I j, .sl 11 rows] ∧ j + m = ws.length + 1 ∧ j ≤ ws.length ∧ p < j ∧ rows.length = ws.length ∧ rows.take p = rws ((ws.take j).filter (·.v)) ∧ rows.drop j = (rws ws).drop j ∧ ∀ (i : Nat) (r : List D), rows[i]? = some r → r.length = 11) (ws.length - q) rfl
          ⟨q, q + 1, rws ws, rfl, by omega, by omega, by omega, hLn, by rw [hpre]; exact List.map_take.symm, rfl, fun i r h => by
            rw [List.getElem?_map] at h
            obtain ⟨x, _, rfl⟩ := Option.map_eq_some_iff.1 h
            rfl⟩ ?_
          (fun es hes => by obtain ⟨p, j, _, _, h1, h2, _⟩ := hes; omega)
        rintro m2 es2 Q2 ⟨p, j, rows, rfl, hj1, hj2, hpj, hrl, htk, hdr, h11⟩ hQ2
        simp only [lv_cons, lv_nil, app_cons, app_nil]
        refine wp_lt rfl ?_
        simp only [lv_cons, lv_nil, app_cons, app_nil]
        rw [hrl]
        refine wp_ite rfl (fun hc2 => ?_) (fun hc2 => ?_)
        · have hc2 := of_decide_eq_true hc2
          have hj : j < ws.length := by omega
          obtain ⟨f, hf⟩ : ∃ f, ws[j]? = some f := ⟨_, List.getElem?_eq_getElem hj⟩
          have hrj : rows[j]? = some f.ds := by
            have h1 : (rows.drop j)[0]? = ((rws ws).drop j)[0]? := by rw [hdr]
            rw [List.getElem?_drop, List.getElem?_drop] at h1
            simpa [rws_row hf] using h1
          have htj : ws.take (j + 1) = ws.take j ++ [f] := by rw [List.take_add_one, hf]; rfl
          have hdr1 : rows.drop (j + 1) = (rws ws).drop (j + 1) := by
            rw [Nat.add_comm j 1, ← List.drop_drop, ← List.drop_drop, List.drop_drop, List.drop_drop, Nat.add_comm 1 j, ← List.drop_drop, ← List.drop_drop, hdr]
          refine wp_chk (inb_t rfl rfl (by omega)) ?_
          refine wp_chk (inb_t rfl rfl (by omega)) ?_
          refine wp_lt (not_e (t := f.v) (idx_e rfl rfl hrj rfl)) ?_
          simp only [lv_cons, lv_nil, app_cons, app_nil]
          refine wp_lt (not_e (t := !f.v) rfl) ?_
          simp only [lv_cons, lv_nil, app_cons, app_nil]
          refine wp_ite rfl (fun hfv => ?_) (fun hfv => ?_)
          · have hfv : f.v = true := by simpa using hfv
            refine wp_chk (inb_t rfl rfl (by omega)) ?_
            refine wp_chk (inb_t rfl rfl (by omega)) ?_
            refine wp_lt (i_add (a := (p : Int)) (b := 1) rfl rfl (by omega) (by omega)) ?_
            simp only [lv_cons, lv_nil, app_cons, app_nil]
            refine wp_lt (i_add (a := (j : Int)) (b := 1) rfl rfl (by omega) (by omega)) ?_
            simp only [lv_cons, lv_nil, app_cons, app_nil]
            obtain ⟨r, hr⟩ : ∃ r, rows[p]? = some r := ⟨_, List.getElem?_eq_getElem (by omega)⟩
            have hrr : r.length = 11 := h11 _ _ hr
            refine wp_cont (ds := [I (p + 1 : Nat), I (j + 1 : Nat), .sl 11 (rows.set p f.ds)]) rfl ?_ (hQ2 _ ⟨p + 1, j + 1, _, rfl, by omega, by omega, by omega, by rw [List.length_set]; exact hrl, ?_, ?_, ?_⟩)
            · exact es_cons rfl (es_cons rfl (es_cons (put_e rfl rfl hr (evals_row rfl rfl hrj rfl) (by rw [hrr]; rfl)) rfl))
            · rw [htj, List.filter_append, List.take_add_one, List.getElem?_set_self (by omega), List.take_set_of_le (Nat.le_refl _), htk]
              simp [hfv]
            · rw [List.drop_set_of_lt (by omega), hdr1]
            · intro i r' h
              rw [List.getElem?_set] at h
              split at h
              · split at h
                · obtain rfl : f.ds = r' := by simpa using h
                  rfl
                · cases h
              · exact h11 _ _ h
          · have hfv : f.v = false := by simpa using hfv
            refine wp_lt (i_add (a := (j : Int)) (b := 1) rfl rfl (by omega) (by omega)) ?_
            simp only [lv_cons, lv_nil, app_cons, app_nil]
            refine wp_cont rfl rfl (hQ2 _ ⟨p, j + 1, rows, rfl, by omega, by omega, by omega, hrl, ?_, hdr1, h11⟩)
            rw [htj, List.filter_append, htk]
            simp [hfv]
        · have hc2 := of_decide_eq_false hc2
          obtain rfl : j = ws.length := by omega
          rw [List.take_length] at htk
          refine wp_chk (bnd_t (a := p) (b := ws.length) (c := ws.length) rfl (len_is rfl hrl) (len_is rfl hrl) (by omega) (by omega)) ?_
          refine wp_chk (bnd_t (a := 0) (b := ws.length - p) (c := ws.length) rfl (len_sub_e rfl hrl rfl (by omega) (by omega)) (len_is rfl hrl) (by omega) (by omega)) ?_
          refine wp_chk (room_t (app_any (sub_e (a := 0) (b := p) rfl rfl rfl (by omega) (by omega)) (mk_e (len_sub_e rfl hrl rfl (by omega) (by omega)) rfl rfl)) (by omega)) ?_
          refine wp_chk (bnd_t (a := 0) (b := p) rfl rfl (len_e (app_any (sub_e (a := 0) (b := p) rfl rfl rfl (by omega) (by omega)) (mk_e (len_sub_e rfl hrl rfl (by omega) (by omega)) rfl rfl))) (by omega) (by rw [List.length_append, List.length_drop, List.length_take]; omega)) ?_
          refine wp_rounds (fun m ds => ∃ (q : Nat) (rows : List (List D)), ds = [I q, .sl 11 rows] ∧ q + m = p + 1 ∧ q ≤ p ∧ rows.length = p ∧ ∀ (i : Nat) (r : List D), rows[i]? = some r → r.length = 11) (p + 1) (es_cons rfl (es_cons (sub_e (a := 0) (b := p) (app_any (sub_e (a := 0) (b := p) rfl rfl rfl (by omega) (by omega)) (mk_e (len_sub_e rfl hrl rfl (by omega) (by omega)) rfl rfl)) rfl rfl (by omega) (by rw [List.length_append, List.length_drop, List.length_take]; omega)) rfl)) ⟨0, _, rfl, by omega, by omega, (by rw [List.drop_zero, List.drop_zero, List.take_append_of_le_length (by rw [List.length_take]; omega), List.take_take, Nat.min_self, List.length_take]; omega), (fun i r h => by rw [List.drop_zero, List.drop_zero, List.take_append_of_le_length (by rw [List.length_take]; omega), List.take_take, Nat.min_self, List.getElem?_take] at h; split at h; exact h11 _ _ h; cases h)⟩ ?_
            (fun es hes => by obtain ⟨q, _, _, h1, h2, _⟩ := hes; omega)
          rintro m9 es9 Q9 ⟨q9, rows9, rfl, hq91, hq92, hl9, h119⟩ hQ9
          simp only [lv_cons, lv_nil, app_cons, app_nil]
          refine wp_lt rfl ?_
          simp only [lv_cons, lv_nil, app_cons, app_nil]
          rw [hl9]
          refine wp_ite rfl (fun hc9 => ?_) (fun hc9 => ?_)
          · have hc9 := of_decide_eq_true hc9
            have hq9 : q9 < p := by omega
            skip
            refine wp_chk (inb_t rfl rfl (by omega)) ?_
            refine wp_chk (inb_t rfl rfl (by omega)) ?_
            refine wp_lt (i_add (a := (q9 : Int)) (b := 1) rfl rfl (by omega) (by omega)) ?_
            simp only [lv_cons, lv_nil, app_cons, app_nil]
            obtain ⟨r9, hr9⟩ : ∃ r, rows9[q9]? = some r := ⟨_, List.getElem?_eq_getElem (by omega)⟩
            refine wp_cont (ds := [I (q9 + 1 : Nat), .sl 11 (rows9.set q9 En.zero.ds)]) rfl (es_cons rfl (es_cons (put_e rfl rfl hr9 rfl (by rw [h119 _ _ hr9]; rfl)) rfl)) (hQ9 _ ⟨q9 + 1, _, rfl, by omega, by omega, by rw [List.length_set]; exact hl9, ?_⟩)
            intro i9 r' h9
            rw [List.getElem?_set] at h9
            split at h9
            · split at h9
              · obtain rfl : En.zero.ds = r' := by simpa using h9
                rfl
              · cases h9
            · exact h119 _ _ h9
          · refine wp_call (evs_cons (evs_one (app0_e rfl)) rfl) (sameT_con (by omega)) rfl ?_
            simp only [lv_cons, lv_nil, app_cons, app_nil]
            exact wp_return rfl rfl
      · have hev : e.v = true := by simpa using hnv
        refine wp_lt (i_add (a := (q : Int)) (b := 1) rfl rfl (by omega) (by omega)) ?_
        simp only [lv_cons, lv_nil, app_cons, app_nil]
        refine wp_cont rfl rfl (hQ1 _ ⟨d, q + 1, rfl, by omega, by omega, fun x hx e' he' => ?_⟩)
        by_cases hxq : x = q
        · subst hxq
          rw [he] at he'
          cases he'
          exact hev
        · exact hv x (by omega) e' he'
    · have hc1 := of_decide_eq_false hc1
      obtain rfl : q = ws.length := by omega
      refine wp_rounds (fun m ds => ∃ (q : Nat) (rows : List (List D)), ds = [I q, .sl M rows] ∧ q + m = ws.length + 1 ∧ q ≤ ws.length ∧ rows.length = ws.length ∧ ∀ (i : Nat) (r : List D), rows[i]? = some r → r.length = 11) (ws.length + 1) rfl ⟨0, _, rfl, by omega, by omega, hLn, (fun i r h => by rw [List.getElem?_map] at h; obtain ⟨x, _, rfl⟩ := Option.map_eq_some_iff.1 h; rfl)⟩ ?_
        (fun es hes => by obtain ⟨q, _, _, h1, h2, _⟩ := hes; omega)
      rintro m9 es9 Q9 ⟨q9, rows9, rfl, hq91, hq92, hl9, h119⟩ hQ9
      simp only [lv_cons, lv_nil, app_cons, app_nil]
      refine wp_lt rfl ?_
      simp only [lv_cons, lv_nil, app_cons, app_nil]
      rw [hl9]
      refine wp_ite rfl (fun hc9 => ?_) (fun hc9 => ?_)
      · have hc9 := of_decide_eq_true hc9
        have hq9 : q9 < ws.length := by omega
        obtain rfl := hmT (by omega)
        refine wp_chk (inb_t rfl rfl (by omega)) ?_
        refine wp_chk (inb_t rfl rfl (by omega)) ?_
        refine wp_lt (i_add (a := (q9 : Int)) (b := 1) rfl rfl (by omega) (by omega)) ?_
        simp only [lv_cons, lv_nil, app_cons, app_nil]
        obtain ⟨r9, hr9⟩ : ∃ r, rows9[q9]? = some r := ⟨_, List.getElem?_eq_getElem (by omega)⟩
        refine wp_cont (ds := [I (q9 + 1 : Nat), .sl 11 (rows9.set q9 En.zero.ds)]) rfl (es_cons rfl (es_cons (put_e rfl rfl hr9 rfl (by rw [h119 _ _ hr9]; rfl)) rfl)) (hQ9 _ ⟨q9 + 1, _, rfl, by omega, by omega, by rw [List.length_set]; exact hl9, ?_⟩)
        intro i9 r' h9
        rw [List.getElem?_set] at h9
        split at h9
        · split at h9
          · obtain rfl : En.zero.ds = r' := by simpa using h9
            rfl
          · cases h9
        · exact h119 _ _ h9
      · refine wp_call (evs_cons (evs_one (app0_e rfl)) rfl) (sameT_con (by omega)) rfl ?_
        simp only [lv_cons, lv_nil, app_cons, app_nil]
        exact wp_return rfl rfl
    
  · refine wp_lt (len_is (app0_e rfl) (List.length_map ..)) ?_
    simp only [lv_cons, lv_nil, app_cons, app_nil]
    refine wp_rounds (fun m ds => ∃ n : Nat, ds = [I n, .sl (mT n) (rws (enT (ts.take n)))] ∧ n + m = ts.length + 1 ∧ n ≤ ts.length) (ts.length + 1) rfl ⟨0, rfl, by omega, by omega⟩ ?_
      (fun es hes => by obtain ⟨n, _, h1, h2⟩ := hes; omega)
    rintro m es Q ⟨n, rfl, hm, hle⟩ hQ
    simp only [lv_cons, lv_nil, app_cons, app_nil]
    refine wp_lt rfl ?_
    simp only [lv_cons, lv_nil, app_cons, app_nil]
    refine wp_ite rfl (fun hc => ?_) (fun hc => ?_)
    · have hc := of_decide_eq_true hc
      have hnl : n < ts.length := by omega
      obtain ⟨s, hs⟩ : ∃ s, ts[n]? = some s := ⟨_, List.getElem?_eq_getElem hnl⟩
      have hrow := row_of hs
      refine wp_chk (inb_t (app0_e rfl) rfl (by rw [List.length_map]; exact hnl)) ?_
      have hlen : (enT (ts.take n)).length = 4 * n := by rw [enT_len, List.length_take, Nat.min_eq_left hle]
      have hn0 : mT n = 11 ∨ (mT n = 0 ∧ rws (enT (ts.take n)) = []) := by
        by_cases hn0 : n = 0
        · subst hn0; exact .inr ⟨rfl, rfl⟩
        · exact .inl (mT_pos (by omega))
      refine wp_chk (room_t (app_e (m := mT n) (b := rws s.en) rfl (cat_e (one_e (evals_idr (app0_e rfl) rfl hrow 11 0 (by rw [SetD.ds_len]; decide)) rfl) (cat_e (one_e (evals_idr (app0_e rfl) rfl hrow 11 11 (by rw [SetD.ds_len]; decide)) rfl) (cat_e (one_e (evals_idr (app0_e rfl) rfl hrow 11 22 (by rw [SetD.ds_len]; decide)) rfl) (one_e (evals_idr (app0_e rfl) rfl hrow 11 33 (by rw [SetD.ds_len]; decide)) rfl)))) hn0 (by simp [SetD.en])) (by rw [List.length_append, List.length_map, List.length_map, hlen, show s.en.length = 4 from rfl]; omega)) ?_
      refine wp_lt (i_add (a := (n : Int)) (b := 1) rfl rfl (by omega) (by omega)) ?_
      simp only [lv_cons, lv_nil, app_cons, app_nil]
      refine wp_cont (ds := [I (n + 1 : Nat), .sl 11 (rws (enT (ts.take n)) ++ rws s.en)]) rfl (es_cons rfl (es_cons (app_e (m := mT n) (b := rws s.en) rfl (cat_e (one_e (evals_idr (app0_e rfl) rfl hrow 11 0 (by rw [SetD.ds_len]; decide)) rfl) (cat_e (one_e (evals_idr (app0_e rfl) rfl hrow 11 11 (by rw [SetD.ds_len]; decide)) rfl) (cat_e (one_e (evals_idr (app0_e rfl) rfl hrow 11 22 (by rw [SetD.ds_len]; decide)) rfl) (one_e (evals_idr (app0_e rfl) rfl hrow 11 33 (by rw [SetD.ds_len]; decide)) rfl)))) hn0 (by simp [SetD.en])) rfl)) (hQ _ ⟨n + 1, ?_, by omega, by omega⟩)
      · rw [mT_pos (by omega), enT_take hs]
        simp only [rws, List.map_append]
    have hc := of_decide_eq_false hc
    obtain rfl : n = ts.length := by omega
    rw [List.take_length]
    have hL := enT_len (ts := ts)
    have hmT : 0 < (enT ts).length → mT ts.length = 11 := fun h => mT_pos (by omega)
    generalize enT ts = ws at hL hmT ⊢
    generalize mT ts.length = M at hmT ⊢
    have hLn : (rws ws).length = ws.length := List.length_map ..
    refine wp_rounds (fun m ds => ∃ (d : D) (q : Nat), ds = [d, I q] ∧ q + m = ws.length + 1 ∧ q ≤ ws.length ∧ ∀ x, x < q → ∀ e, ws[x]? = some e → e.v = true) (ws.length + 1) rfl ⟨_, 0, rfl, by omega, by omega, fun x hx => by omega⟩ ?_
      (fun es hes => by obtain ⟨_, q, _, h1, h2, _⟩ := hes; omega)
    rintro m1 es1 Q1 ⟨d, q, rfl, hq1, hq2, hv⟩ hQ1
    simp only [lv_cons, lv_nil, app_cons, app_nil]
    refine wp_lt rfl ?_
    simp only [lv_cons, lv_nil, app_cons, app_nil]
    rw [hLn]
    refine wp_ite rfl (fun hc1 => ?_) (fun hc1 => ?_)
    · have hc1 := of_decide_eq_true hc1
      have hq : q < ws.length := by omega
      obtain rfl := hmT (by omega)
      obtain ⟨e, he⟩ : ∃ e, ws[q]? = some e := ⟨_, List.getElem?_eq_getElem hq⟩
      have hrow := rws_row he
      refine wp_chk (inb_t rfl rfl (by rw [hLn]; exact hq)) ?_
      refine wp_chk (inb_t rfl rfl (by rw [hLn]; exact hq)) ?_
      refine wp_lt (not_e (t := e.v) (idx_e rfl rfl hrow rfl)) ?_
      simp only [lv_cons, lv_nil, app_cons, app_nil]
      refine wp_ite rfl (fun hnv => ?_) (fun hnv => ?_)
      · refine wp_lt (d := .b false) ?_ ?_
        · show some (D.b ((q : Int) == (-1 : Int))) = _
          rw [beq_eq_false_iff_ne.2 (by omega)]
        simp only [lv_cons, lv_nil, app_cons, app_nil]
        refine wp_ite (t := false) rfl (fun h => by cases h) (fun _ => ?_)
        refine wp_lt (i_add (a := (q : Int)) (b := 1) rfl rfl (by omega) (by omega)) ?_
        simp only [lv_cons, lv_nil, app_cons, app_nil]
        have hpre : (ws.take (q + 1)).filter (·.v) = ws.take q := by
          have h1 : ws.take (q + 1) = ws.take q ++ [e] := by rw [List.take_add_one, he]; rfl
          have h2 : (ws.take q).filter (·.v) = ws.take q := by
            rw [List.filter_eq_self]
            intro x hx
            obtain ⟨i, hi, rfl⟩ := List.getElem_of_mem hx
            rw [List.length_take] at hi
            exact hv i (by omega) _ (by rw [List.getElem_take]; exact List.getElem?_eq_getElem (by omega))
          have h3 : e.v = false := by simpa using hnv
          rw [h1, List.filter_append, h2]
          simp [h3]
        refine wp_rounds (fun m ds => ∃ (p j : Nat) (rows : List (List D)), ds = [I p, I j, .sl 11 rows] ∧ j + m = ws.length + 1 ∧ j ≤ ws.length ∧ p < j ∧ rows.length = ws.length ∧ rows.take p = rws ((ws.take j).filter (·.v)) ∧ rows.drop j = (rws ws).drop j ∧ ∀ (i : Nat) (r : List D), rows[i]? = some r → r.length = 11) (ws.length - q) rfl
          ⟨q, q + 1, rws ws, rfl, by omega, by omega, by omega, hLn, by rw [hpre]; exact List.map_take.symm, rfl, fun i r h => by
            rw [List.getElem?_map] at h
            obtain ⟨x, _, rfl⟩ := Option.map_eq_some_iff.1 h
            rfl⟩ ?_
          (fun es hes => by obtain ⟨p, j, _, _, h1, h2, _⟩ := hes; omega)
        rintro m2 es2 Q2 ⟨p, j, rows, rfl, hj1, hj2, hpj, hrl, htk, hdr, h11⟩ hQ2
        simp only [lv_cons, lv_nil, app_cons, app_nil]
        refine wp_lt rfl ?_
        simp only [lv_cons, lv_nil, app_cons, app_nil]
        rw [hrl]
        refine wp_ite rfl (fun hc2 => ?_) (fun hc2 => ?_)
        · have hc2 := of_decide_eq_true hc2
          have hj : j < ws.length := by omega
          obtain ⟨f, hf⟩ : ∃ f, ws[j]? = some f := ⟨_, List.getElem?_eq_getElem hj⟩
          have hrj : rows[j]? = some f.ds := by
            have h1 : (rows.drop j)[0]? = ((rws ws).drop j)[0]? := by rw [hdr]
            rw [List.getElem?_drop, List.getElem?_drop] at h1
            simpa [rws_row hf] using h1
          have htj : ws.take (j + 1) = ws.take j ++ [f] := by rw [List.take_add_one, hf]; rfl
          have hdr1 : rows.drop (j + 1) = (rws ws).drop (j + 1) := by
            rw [Nat.add_comm j 1, ← List.drop_drop, ← List.drop_drop, List.drop_drop, List.drop_drop, Nat.add_comm 1 j, ← List.drop_drop, ← List.drop_drop, hdr]
          refine wp_chk (inb_t rfl rfl (by omega)) ?_
          refine wp_chk (inb_t rfl rfl (by omega)) ?_
          refine wp_lt (not_e (t := f.v) (idx_e rfl rfl hrj rfl)) ?_
          simp only [lv_cons, lv_nil, app_cons, app_nil]
          refine wp_lt (not_e (t := !f.v) rfl) ?_
          simp only [lv_cons, lv_nil, app_cons, app_nil]
          refine wp_ite rfl (fun hfv => ?_) (fun hfv => ?_)
          · have hfv : f.v = true := by simpa using hfv
            refine wp_chk (inb_t rfl rfl (by omega)) ?_
            refine wp_chk (inb_t rfl rfl (by omega)) ?_
            refine wp_lt (i_add (a := (p : Int)) (b := 1) rfl rfl (by omega) (by omega)) ?_
            simp only [lv_cons, lv_nil, app_cons, app_nil]
            refine wp_lt (i_add (a := (j : Int)) (b := 1) rfl rfl (by omega) (by omega)) ?_
            simp only [lv_cons, lv_nil, app_cons, app_nil]
            obtain ⟨r, hr⟩ : ∃ r, rows[p]? = some r := ⟨_, List.getElem?_eq_getElem (by omega)⟩
            have hrr : r.length = 11 := h11 _ _ hr
            refine wp_cont (ds := [I (p + 1 : Nat), I (j + 1 : Nat), .sl 11 (rows.set p f.ds)]) rfl ?_ (hQ2 _ ⟨p + 1, j + 1, _, rfl, by omega, by omega, by omega, by rw [List.length_set]; exact hrl, ?_, ?_, ?_⟩)
            · exact es_cons rfl (es_cons rfl (es_cons (put_e rfl rfl hr (evals_row rfl rfl hrj rfl) (by rw [hrr]; rfl)) rfl))
            · rw [htj, List.filter_append, List.take_add_one, List.getElem?_set_self (by omega), List.take_set_of_le (Nat.le_refl _), htk]
              simp [hfv]
            · rw [List.drop_set_of_lt (by omega), hdr1]
            · intro i r' h
              rw [List.getElem?_set] at h
              split at h
              · split at h
                · obtain rfl : f.ds = r' := by simpa using h
                  rfl
                · cases h
              · exact h11 _ _ h
          · have hfv : f.v = false := by simpa using hfv
            refine wp_lt (i_add (a := (j : Int)) (b := 1) rfl rfl (by omega) (by omega)) ?_
            simp only [lv_cons, lv_nil, app_cons, app_nil]
            refine wp_cont rfl rfl (hQ2 _ ⟨p, j + 1, rows, rfl, by omega, by omega, by omega, hrl, ?_, hdr1, h11⟩)
            rw [htj, List.filter_append, htk]
            simp [hfv]
        · have hc2 := of_decide_eq_false hc2
          obtain rfl : j = ws.length := by omega
          rw [List.take_length] at htk
          refine wp_chk (bnd_t (a := p) (b := ws.length) (c := ws.length) rfl (len_is rfl hrl) (len_is rfl hrl) (by omega) (by omega)) ?_
          refine wp_chk (bnd_t (a := 0) (b := ws.length - p) (c := ws.length) rfl (len_sub_e rfl hrl rfl (by omega) (by omega)) (len_is rfl hrl) (by omega) (by omega)) ?_
          refine wp_chk (room_t (app_any (sub_e (a := 0) (b := p) rfl rfl rfl (by omega) (by omega)) (mk_e (len_sub_e rfl hrl rfl (by omega) (by omega)) rfl rfl)) (by omega)) ?_
          refine wp_chk (bnd_t (a := 0) (b := p) rfl rfl (len_e (app_any (sub_e (a := 0) (b := p) rfl rfl rfl (by omega) (by omega)) (mk_e (len_sub_e rfl hrl rfl (by omega) (by omega)) rfl rfl))) (by omega) (by rw [List.length_append, List.length_drop, List.length_take]; omega)) ?_
          refine wp_rounds (fun m ds => ∃ (q : Nat) (rows : List (List D)), ds = [I q, .sl 11 rows] ∧ q + m = p + 1 ∧ q ≤ p ∧ rows.length = p ∧ ∀ (i : Nat) (r : List D), rows[i]? = some r → r.length = 11) (p + 1) (es_cons rfl (es_cons (sub_e (a := 0) (b := p) (app_any (sub_e (a := 0) (b := p) rfl rfl rfl (by omega) (by omega)) (mk_e (len_sub_e rfl hrl rfl (by omega) (by omega)) rfl rfl)) rfl rfl (by omega) (by rw [List.length_append, List.length_drop, List.length_take]; omega)) rfl)) ⟨0, _, rfl, by omega, by omega, (by rw [List.drop_zero, List.drop_zero, List.take_append_of_le_length (by rw [List.length_take]; omega), List.take_take, Nat.min_self, List.length_take]; omega), (fun i r h => by rw [List.drop_zero, List.drop_zero, List.take_append_of_le_length (by rw [List.length_take]; omega), List.take_take, Nat.min_self, List.getElem?_take] at h; split at h; exact h11 _ _ h; cases h)⟩ ?_
            (fun es hes => by obtain ⟨q, _, _, h1, h2, _⟩ := hes; omega)
          rintro m9 es9 Q9 ⟨q9, rows9, rfl, hq91, hq92, hl9, h119⟩ hQ9
          simp only [lv_cons, lv_nil, app_cons, app_nil]
          refine wp_lt rfl ?_
          simp only [lv_cons, lv_nil, app_cons, app_nil]
          rw [hl9]
          refine wp_ite rfl (fun hc9 => ?_) (fun hc9 => ?_)
          · have hc9 := of_decide_eq_true hc9
            have hq9 : q9 < p := by omega
            skip
            refine wp_chk (inb_t rfl rfl (by omega)) ?_
            refine wp_chk (inb_t rfl rfl (by omega)) ?_
            refine wp_lt (i_add (a := (q9 : Int)) (b := 1) rfl rfl (by omega) (by omega)) ?_
            simp only [lv_cons, lv_nil, app_cons, app_nil]
            obtain ⟨r9, hr9⟩ : ∃ r, rows9[q9]? = some r := ⟨_, List.getElem?_eq_getElem (by omega)⟩
            refine wp_cont (ds := [I (q9 + 1 : Nat), .sl 11 (rows9.set q9 En.zero.ds)]) rfl (es_cons rfl (es_cons (put_e rfl rfl hr9 rfl (by rw [h119 _ _ hr9]; rfl)) rfl)) (hQ9 _ ⟨q9 + 1, _, rfl, by omega, by omega, by rw [List.length_set]; exact hl9, ?_⟩)
            intro i9 r' h9
            rw [List.getElem?_set] at h9
            split at h9
            · split at h9
              · obtain rfl : En.zero.ds = r' := by simpa using h9
                rfl
              · cases h9
            · exact h119 _ _ h9
          · refine wp_call (evs_cons (evs_one (app0_e rfl)) rfl) (sameT_con (by omega)) rfl ?_
            simp only [lv_cons, lv_nil, app_cons, app_nil]
            exact wp_return rfl rfl
      · have hev : e.v = true := by simpa using hnv
        refine wp_lt (i_add (a := (q : Int)) (b := 1) rfl rfl (by omega) (by omega)) ?_
        simp only [lv_cons, lv_nil, app_cons, app_nil]
        refine wp_cont rfl rfl (hQ1 _ ⟨d, q + 1, rfl, by omega, by omega, fun x hx e' he' => ?_⟩)
        by_cases hxq : x = q
        · subst hxq
          rw [he] at he'
          cases he'
          exact hev
        · exact hv x (by omega) e' he'
    · have hc1 := of_decide_eq_false hc1
      obtain rfl : q = ws.length := by omega
      refine wp_rounds (fun m ds => ∃ (q : Nat) (rows : List (List D)), ds = [I q, .sl M rows] ∧ q + m = ws.length + 1 ∧ q ≤ ws.length ∧ rows.length = ws.length ∧ ∀ (i : Nat) (r : List D), rows[i]? = some r → r.length = 11) (ws.length + 1) rfl ⟨0, _, rfl, by omega, by omega, hLn, (fun i r h => by rw [List.getElem?_map] at h; obtain ⟨x, _, rfl⟩ := Option.map_eq_some_iff.1 h; rfl)⟩ ?_
        (fun es hes => by obtain ⟨q, _, _, h1, h2, _⟩ := hes; omega)
      rintro m9 es9 Q9 ⟨q9, rows9, rfl, hq91, hq92, hl9, h119⟩ hQ9
      simp only [lv_cons, lv_nil, app_cons, app_nil]
      refine wp_lt rfl ?_
      simp only [lv_cons, lv_nil, app_cons, app_nil]
      rw [hl9]
      refine wp_ite rfl (fun hc9 => ?_) (fun hc9 => ?_)
      · have hc9 := of_decide_eq_true hc9
        have hq9 : q9 < ws.length := by omega
        obtain rfl := hmT (by omega)
        refine wp_chk (inb_t rfl rfl (by omega)) ?_
        refine wp_chk (inb_t rfl rfl (by omega)) ?_
        refine wp_lt (i_add (a := (q9 : Int)) (b := 1) rfl rfl (by omega) (by omega)) ?_
        simp only [lv_cons, lv_nil, app_cons, app_nil]
        obtain ⟨r9, hr9⟩ : ∃ r, rows9[q9]? = some r := ⟨_, List.getElem?_eq_getElem (by omega)⟩
        refine wp_cont (ds := [I (q9 + 1 : Nat), .sl 11 (rows9.set q9 En.zero.ds)]) rfl (es_cons rfl (es_cons (put_e rfl rfl hr9 rfl (by rw [h119 _ _ hr9]; rfl)) rfl)) (hQ9 _ ⟨q9 + 1, _, rfl, by omega, by omega, by rw [List.length_set]; exact hl9, ?_⟩)
        intro i9 r' h9
        rw [List.getElem?_set] at h9
        split at h9
        · split at h9
          · obtain rfl : En.zero.ds = r' := by simpa using h9
            rfl
          · cases h9
        · exact h119 _ _ h9
      · refine wp_call (evs_cons (evs_one (app0_e rfl)) rfl) (sameT_con (by omega)) rfl ?_
        simp only [lv_cons, lv_nil, app_cons, app_nil]
        exact wp_return rfl rfl
    
end Go.Proofs.YtmjhghclgockjaaDoor.Sx
