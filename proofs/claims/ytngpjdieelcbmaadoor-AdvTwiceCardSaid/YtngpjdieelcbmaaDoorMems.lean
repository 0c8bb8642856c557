/-
  Layer 3: are memories the same: contract.
-/
import Derived.Test.YtngpjdieelcbmaaDoorMemf
namespace Go.Proofs.YtngpjdieelcbmaaDoor.Sx
open Go
set_option linter.unusedVariables false
set_option linter.unusedSimpArgs false
set_option maxRecDepth 100000

theorem ite_bb {ρ : List D} {c x : Ex} {t t' : Bool} (hc : c.eval ρ = some (.b t)) (hx : x.eval ρ = some (.b t')) : (Ex.ite c x (.c (.b false))).eval ρ = some (.b (t && t')) := by
  cases t <;> simp [Ex.eval, hc, hx]
theorem sameM_dec {k k' s : Nat} {cs ds : List Cl} (hk : Kd k cs) (hk' : Kd k' ds) (hl : cs.length < 9223372036854775808) (hl' : ds.length < 9223372036854775808) : Cn gAll 11 [md k s cs, md k' s ds] [bb (decide (cs = ds))] := by
  refine con rfl rfl atlasref03_Same_c atlasref03_Same_p rfl ?_
  unfold atlasref03_Same_ir
  simp only [lv_cons, lv_nil, app_cons, app_nil]
  refine wp_lt (d := .b false) (cmp_e rfl (bne_self_eq_false _)) ?_
  simp only [lv_cons, lv_nil, app_cons, app_nil]
  refine wp_ite (t := false) rfl (fun h => by cases h) (fun _ => ?_)
  refine wp_lt (len_is rfl crs_len) ?_
  simp only [lv_cons, lv_nil, app_cons, app_nil]
  refine wp_lt (len_is rfl crs_len) ?_
  simp only [lv_cons, lv_nil, app_cons, app_nil]
  refine wp_lt (e_neq rfl rfl) ?_
  simp only [lv_cons, lv_nil, app_cons, app_nil]
  refine wp_ite rfl (fun h => ?_) (fun h => ?_)
  · have h := bne_iff_ne.1 h
    have : cs ≠ ds := fun e => h (by rw [e])
    exact wp_return rfl (bb_eq (decide_eq_false this).symm)
  have h : cs.length = ds.length := by have := (bne_eq_false_iff_eq (a := ((cs.length : Nat) : Int)) (b := ((ds.length : Nat) : Int))).1 h; omega
  refine wp_rounds (fun m es => ∃ (b : Bool) (n : Nat), es = [.b b, I n] ∧ n + m = cs.length + 1 ∧ n ≤ cs.length ∧ ∀ j, j < n → cs[j]? = ds[j]?) (cs.length + 1) rfl ⟨_, 0, rfl, by omega, by omega, fun j hj => by omega⟩ ?_
    (fun es hes => by obtain ⟨_, n, _, h1, h2, _⟩ := hes; omega)
  rintro m es Q ⟨b, n, rfl, hm, hle, hh⟩ hQ
  simp only [lv_cons, lv_nil, app_cons, app_nil]
  refine wp_lt (len_is rfl crs_len) ?_
  simp only [lv_cons, lv_nil, app_cons, app_nil]
  refine wp_lt rfl ?_
  simp only [lv_cons, lv_nil, app_cons, app_nil]
  refine wp_ite rfl (fun hc => ?_) (fun hc => ?_)
  · have hc := of_decide_eq_true hc
    have hnl : n < cs.length := by omega
    obtain rfl := hk.two (by omega)
    obtain rfl := hk'.two (by omega)
    obtain ⟨c, hcs⟩ : ∃ c, cs[n]? = some c := ⟨_, List.getElem?_eq_getElem hnl⟩
    obtain ⟨d, hds⟩ : ∃ d, ds[n]? = some d := ⟨_, List.getElem?_eq_getElem (by omega)⟩
    have hrow := crow_of hcs
    have hrow' := crow_of hds
    refine wp_chk (inb_t rfl rfl (by rw [crs_len]; exact hnl)) ?_
    refine wp_chk (inb_t rfl rfl (by rw [crs_len]; omega)) ?_
    refine wp_lt (not_e (ite_bb (eqt_i (idx_e rfl rfl hrow rfl) (idx_e rfl rfl hrow' rfl)) (ite_bb (eqt_i (idx_e rfl rfl hrow rfl) (idx_e rfl rfl hrow' rfl)) rfl))) ?_
    simp only [lv_cons, lv_nil, app_cons, app_nil]
    have hcd : (((c.1 : Int) == (d.1 : Int)) && (((c.2 : Int) == (d.2 : Int)) && true)) = decide (c = d) := by
      rw [Bool.eq_iff_iff]
      obtain ⟨c1, c2⟩ := c
      obtain ⟨d1, d2⟩ := d
      simp only [Bool.and_eq_true, beq_iff_eq, decide_eq_true_eq, Prod.mk.injEq, and_true]
      omega
    rw [hcd]
    refine wp_ite rfl (fun h1 => ?_) (fun h1 => ?_)
    · have h1 : c ≠ d := by simpa using h1
      have : cs ≠ ds := fun e => h1 (by rw [e, hds] at hcs; exact (Option.some.inj hcs).symm)
      exact wp_return rfl (bb_eq (decide_eq_false this).symm)
    have h1 : c = d := by simpa using h1
    refine wp_lt (i_add (a := (n : Int)) (b := 1) rfl rfl (by omega) (by omega)) ?_
    simp only [lv_cons, lv_nil, app_cons, app_nil]
    refine wp_cont rfl rfl (hQ _ ⟨_, n + 1, rfl, by omega, by omega, fun j hj => ?_⟩)
    by_cases e : j = n
    · subst e
      rw [hcs, hds, h1]
    · exact hh j (by omega)
  · have hc := of_decide_eq_false hc
    have : cs = ds := List.ext_getElem? fun j => by
      by_cases hj : j < cs.length
      · exact hh j (by omega)
      · rw [List.getElem?_eq_none (by omega), List.getElem?_eq_none (by omega)]
    exact wp_return rfl (bb_eq (decide_eq_true this).symm)
end Go.Proofs.YtngpjdieelcbmaaDoor.Sx
