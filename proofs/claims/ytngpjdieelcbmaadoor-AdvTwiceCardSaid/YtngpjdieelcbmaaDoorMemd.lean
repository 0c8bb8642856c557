/-
  Layer 3: a word put: contract.
-/
import Derived.Test.YtngpjdieelcbmaaDoorMemc
import Derived.Test.YtngpjdieelcbmaaDoorSli
namespace Go.Proofs.YtngpjdieelcbmaaDoor.Sx
open Go
set_option linter.unusedVariables false
set_option linter.unusedSimpArgs false
set_option maxRecDepth 100000

theorem wk_md {s : Nat} : WkR [md 0 s []] [md 2 s []] := by
  intro I w v h
  obtain ⟨vs, rfl, h⟩ := h
  refine ⟨vs, rfl, ?_⟩
  cases h with
  | cons h1 h =>
    cases h with
    | cons h2 h =>
      cases h
      refine .cons h1 (.cons ?_ .nil)
      generalize hxs : ([] : List (List D)) = xs at h2
      cases h2 with
      | nil _ p cap hz => exact .nil 2 p cap fun h => by cases h
      | sl _ _ _ _ _ _ h0 => omega
/-- the memory behind putting -/
def putM (cs : List Cl) (p v : Nat) : List Cl := cs.take (lowN cs p) ++ ((if v = 0 then [] else [(p, v)]) ++ cs.drop (lowN cs p + (hasN cs p).toNat))
theorem put_del {cs : List Cl} {p : Nat} (h : hasN cs p = true) : crs (putM cs p 0) = (crs cs).take (lowN cs p) ++ (crs cs).drop (lowN cs p + 1) := by
  simp [putM, h, crs, List.map_take, List.map_drop]
theorem put_ins {cs : List Cl} {p v : Nat} (h : hasN cs p = false) (hv : v ≠ 0) : crs (putM cs p v) = insR (crs cs) (lowN cs p) (crow (p, v)) := by
  simp [putM, h, crs, insR, hv, List.map_take, List.map_drop]
theorem put_non {cs : List Cl} {p : Nat} (h : hasN cs p = false) : putM cs p 0 = cs := by
  simp [putM, h]
theorem put_set {cs : List Cl} {p v : Nat} {c : Cl} (hc : cs[lowN cs p]? = some c) (h : c.1 = p) (hv : v ≠ 0) : crs (putM cs p v) = (crs cs).set (lowN cs p) (crow (p, v)) := by
  have hj := (List.getElem?_eq_some_iff.1 hc).1
  have hh : hasN cs p = true := by unfold hasN; rw [hc]; simpa using h
  have : (crs cs).set (lowN cs p) (crow (p, v)) = crs (cs.set (lowN cs p) (p, v)) := by rw [crs, crs, List.map_set]
  rw [this]
  congr 1
  unfold putM
  rw [hh, if_neg hv, List.set_eq_take_append_cons_drop, if_pos hj]
  rfl
theorem has_at {cs : List Cl} {p : Nat} (h : hasN cs p = true) : ∃ c, cs[lowN cs p]? = some c ∧ c.1 = p := by
  unfold hasN at h
  split at h
  · rename_i c hc
    exact ⟨c, hc, by simpa using h⟩
  · cases h
theorem own_cells {ρ : List D} {k : Nat} {cs : List Cl} {x : Ex} (hk : Kd k cs) (hx : x.eval ρ = some (.sl k (crs cs))) : (Ex.app 2 (.c (.sl 2 [])) x).eval ρ = some (.sl 2 (crs cs)) := by
  rcases hk with rfl | ⟨rfl, rfl⟩
  · exact app0_e hx
  · simp only [Ex.eval, hx, appD]
    rfl
theorem put1_e {ρ : List D} {x ix y : Ex} {k : IntKind} {m : Nat} {rows : List (List D)} {a b d : D} (hx : x.eval ρ = some (.sl 2 rows)) (hi : ix.eval ρ = some (.i k (m : Int))) (hr : rows[m]? = some [a, b]) (hv : y.eval ρ = some d) : (Ex.put x ix 1 [y]).eval ρ = some (.sl 2 (rows.set m [a, d])) := by
  simp only [Ex.eval, Ex.evals, hx, hi, hv, putD]
  rw [if_pos (by omega)]
  simp only [Int.toNat_natCast, hr]
  rfl
theorem memPut_con {k s p v : Nat} {cs : List Cl} (hk : Kd k cs) (hs : Asc cs) (hl : cs.length ≤ 1000000) : Cn gAll 59 [md k s cs, u p, u v] [md 2 s (putM cs p v)] := by
  refine con' rfl rfl mem_put_c mem_put_p (fun r => r = [md 2 s (putM cs p v)] ∨ (putM cs p v = [] ∧ r = [md 0 s []])) (fun r hr => ?_) rfl ?_
  · rcases hr with rfl | ⟨h, rfl⟩
    · exact fun _ _ _ h => h
    · rw [h]; exact wk_md
  unfold mem_put_ir
  simp only [lv_cons, lv_nil, app_cons, app_nil]
  have hlow := lowN_le (cs := cs) (a := p)
  have hcl := crs_len (cs := cs)
  refine wp_call rfl (memFind_con (s := s) (a := p) hk hs (by omega)) rfl ?_
  simp only [lv_cons, lv_nil, app_cons, app_nil]
  refine wp_may (e_eql (len_is rfl crs_len) rfl) (fun h => ?_) ?_
  · obtain rfl : cs = [] := by
      have : ((cs.length : Nat) : Int) = 0 := by simpa using h
      exact List.length_eq_zero_iff.1 (by omega)
    refine wp_ite (t := false) rfl (fun h => by cases h) (fun _ => ?_)
    refine wp_ite (t := false) rfl (fun h => by cases h) (fun _ => ?_)
    refine wp_lt (e_neq rfl rfl) ?_
    simp only [lv_cons, lv_nil, app_cons, app_nil]
    refine wp_ite rfl (fun hv => ?_) (fun hv => ?_)
    · have hv : v ≠ 0 := by simpa using hv
      refine wp_chk (eqs_i rfl rfl) ?_
      refine wp_call rfl (con_eat (by decide) (insert_con (s0 := 0) (rows := []) (i := 0) (d0 := U p) (d1 := U v) (.inr ⟨rfl, rfl⟩) (by simp) (by decide))) rfl ?_
      simp only [lv_cons, lv_nil, app_cons, app_nil]
      refine wp_return rfl (.inl ?_)
      have := put_ins (cs := []) (p := p) (v := v) rfl hv
      rw [md, this]
      rfl
    · obtain rfl : v = 0 := by simpa using hv
      exact wp_return rfl (.inr ⟨rfl, rfl⟩)
  · refine wp_chk (room_t (own_cells hk rfl) (by omega)) ?_
    refine wp_ite rfl (fun hh => ?_) (fun hh => ?_)
    · obtain ⟨c, hc, hcp⟩ := has_at hh
      have hj := (List.getElem?_eq_some_iff.1 hc).1
      refine wp_lt (e_eql rfl rfl) ?_
      simp only [lv_cons, lv_nil, app_cons, app_nil]
      refine wp_ite rfl (fun hv => ?_) (fun hv => ?_)
      · obtain rfl : v = 0 := by simpa using hv
        refine wp_lt (d := I (lowN cs p + 1 : Nat)) (i_add (a := (lowN cs p : Int)) (b := 1) rfl rfl (by omega) (by omega)) ?_
        simp only [lv_cons, lv_nil, app_cons, app_nil]
        refine wp_chk (eqs_i rfl rfl) ?_
        refine wp_chk (eqs_i rfl rfl) ?_
        refine wp_call (evs_cons (evs_one (own_cells hk rfl)) rfl) (con_eat (by decide) (delete_con (i := lowN cs p) (j := lowN cs p + 1) (by omega) (by omega))) rfl ?_
        simp only [lv_cons, lv_nil, app_cons, app_nil]
        refine wp_return rfl (.inl ?_)
        rw [md, put_del hh]
      · have hv : v ≠ 0 := by simpa using hv
        refine wp_ite rfl (fun _ => ?_) (fun h => absurd (hh.symm.trans h) (by decide))
        refine wp_chk (inb_t (own_cells hk rfl) rfl (by omega)) ?_
        refine wp_chk (inb_t (own_cells hk rfl) rfl (by omega)) ?_
        refine wp_return (evs_cons (es_cons rfl (es_cons (put1_e (own_cells hk rfl) rfl (crow_of hc) rfl) rfl)) rfl) (.inl ?_)
        rw [md, put_set hc hcp hv, hcp]
    · refine wp_ite rfl (fun h => absurd (hh.symm.trans h) (by decide)) (fun _ => ?_)
      refine wp_lt (e_neq rfl rfl) ?_
      simp only [lv_cons, lv_nil, app_cons, app_nil]
      refine wp_ite rfl (fun hv => ?_) (fun hv => ?_)
      · have hv : v ≠ 0 := by simpa using hv
        refine wp_chk (eqs_i rfl rfl) ?_
        refine wp_call (evs_cons (evs_one (own_cells hk rfl)) rfl) (con_eat (by decide) (insert_con (s0 := 2) (rows := crs cs) (i := lowN cs p) (d0 := U p) (d1 := U v) (.inl rfl) (by omega) (by omega))) rfl ?_
        simp only [lv_cons, lv_nil, app_cons, app_nil]
        refine wp_return rfl (.inl ?_)
        rw [md, put_ins hh hv]
      · obtain rfl : v = 0 := by simpa using hv
        refine wp_return (evs_cons (es_cons rfl (es_cons (own_cells hk rfl) rfl)) rfl) (.inl ?_)
        rw [md, put_non hh]
end Go.Proofs.YtngpjdieelcbmaaDoor.Sx
