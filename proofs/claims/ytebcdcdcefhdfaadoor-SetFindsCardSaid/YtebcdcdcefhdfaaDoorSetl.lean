/-
  Layer 13: SetDoes.
-/
import Derived.Test.YtebcdcdcefhdfaaDoorSetc
namespace Go.Proofs.YtebcdcdcefhdfaaDoor.Sx
open Go
set_option linter.unusedVariables false
set_option linter.unusedSimpArgs false
set_option maxRecDepth 100000

section
variable {ρ : List D} {x y z c : Ex}
theorem ite_t {t : Bool} (hc : c.eval ρ = some (.b true)) (hx : x.eval ρ = some (.b t)) : (Ex.ite c x y).eval ρ = some (.b t) := by
  simp [Ex.eval, hc, hx]
theorem eqs_b {t : Bool} (hx : x.eval ρ = some (.b t)) (hy : y.eval ρ = some (.b t)) : (Ex.eqt true x y).eval ρ = some (.b true) := by
  simp [Ex.eval, hx, hy, eqtD]
theorem eqs_i {k : IntKind} {n : Int} (hx : x.eval ρ = some (.i k n)) (hy : y.eval ρ = some (.i k n)) : (Ex.eqt false x y).eval ρ = some (.b true) := by
  simp [Ex.eval, hx, hy, eqtD]
theorem not_e {t : Bool} (hx : x.eval ρ = some (.b t)) : (Ex.un .not x).eval ρ = some (.b (!t)) := by
  simp [Ex.eval, hx, unD]
theorem rem8 {a m : Nat} (hx : x.eval ρ = some (.i .u8 (a : Int))) (hm : m ≠ 0) : (Ex.bin .rem x (.c (.i .u8 (m : Int)))).eval ρ = some (.i .u8 ((a % m : Nat) : Int)) := by
  have h1 : (a : Int).tmod m = ((a % m : Nat) : Int) := by rw [Int.tmod_eq_emod_of_nonneg (by omega)]; push_cast; rfl
  have h3 : ¬ (m : Int) = 0 := by omega
  simp only [Ex.eval, hx, binD, if_true]
  rw [if_neg h3, h1]
end

set_option maxHeartbeats 8000000 in
theorem SetDoes_con {s : SetD} {e : En} {v : Int} {way n a level : Nat} (hs : s.Ok) (he : e.Ok) (ha : a < 18446744073709551616) :
    Cn gAll 3 [s.dv, e.dv, i v, t8 way, u n, u a, t8 level] [bb true] := by
  refine con rfl rfl atlaslaw13_SetDoes_c atlaslaw13_SetDoes_p rfl ?_
  unfold atlaslaw13_SetDoes_ir
  simp only [lv_cons, lv_nil, SetD.ds, En.ds, app_cons, app_nil]
  refine wp_call rfl awake13_con rfl ?_
  simp only [lv_cons, lv_nil, SetD.ds, En.ds, app_cons, app_nil]
  refine wp_lt rfl ?_
  refine wp_ite (t := false) rfl (fun h => by cases h) (fun _ => ?_)
  refine wp_call rfl (right_con hs) rfl ?_
  simp only [lv_cons, lv_nil, SetD.ds, En.ds, app_cons, app_nil]
  refine wp_call rfl refRight_con rfl ?_
  simp only [lv_cons, lv_nil, SetD.ds, En.ds, app_cons, app_nil]
  refine wp_lt rfl ?_
  refine wp_ite rfl (fun h => by simp at h) (fun _ => ?_)
  refine wp_call rfl refRight_con rfl ?_
  simp only [lv_cons, lv_nil, SetD.ds, En.ds, app_cons, app_nil]
  refine wp_lt rfl ?_
  refine wp_ite rfl (fun _ => ?_) (fun hr => ?_)
  · refine wp_call rfl (right_con hs) rfl ?_
    simp only [lv_cons, lv_nil, SetD.ds, En.ds, app_cons, app_nil]
    refine wp_call rfl refRight_con rfl ?_
    simp only [lv_cons, lv_nil, SetD.ds, En.ds, app_cons, app_nil]
    refine wp_lt rfl ?_
    exact wp_return rfl (by simp)
  have hr : s.right = true := by simpa using hr
  obtain ⟨ht, m0, m1, m2, m3⟩ := SetD.right_may hr
  refine wp_call rfl (refMay_con (e := e)) rfl ?_
  simp only [lv_cons, lv_nil, SetD.ds, En.ds, app_cons, app_nil]
  refine wp_lt rfl ?_
  refine wp_ite rfl (fun _ => ?_) (fun hm => ?_)
  · refine wp_call rfl (right_con hs) rfl ?_
    simp only [lv_cons, lv_nil, SetD.ds, En.ds, app_cons, app_nil]
    refine wp_call rfl refRight_con rfl ?_
    simp only [lv_cons, lv_nil, SetD.ds, En.ds, app_cons, app_nil]
    refine wp_lt rfl ?_
    exact wp_return rfl (by simp)
  refine wp_call rfl (isVa_con (a := a)) rfl ?_
  simp only [lv_cons, lv_nil, SetD.ds, En.ds, app_cons, app_nil]
  refine wp_lt rfl ?_
  refine wp_ite rfl (fun _ => ?_) (fun hv => ?_)
  · refine wp_call rfl (right_con hs) rfl ?_
    simp only [lv_cons, lv_nil, SetD.ds, En.ds, app_cons, app_nil]
    refine wp_call rfl refRight_con rfl ?_
    simp only [lv_cons, lv_nil, SetD.ds, En.ds, app_cons, app_nil]
    refine wp_lt rfl ?_
    exact wp_return rfl (by simp)
  have hl : Lv ((level % 3 : Nat) : Int) := by unfold Lv; omega
  have hk : way % 4 < 4 := Nat.mod_lt _ (by omega)
  refine wp_lt (rem8 (m := 4) rfl (by omega)) ?_
  refine wp_lt (cv_i rfl (by omega) (by omega)) ?_
  refine wp_lt (rem8 (m := 3) rfl (by omega)) ?_
  refine wp_lt (cv_i rfl (by omega) (by omega)) ?_
  refine wp_call rfl (find_con (n := n) ha hl hr) rfl ?_
  simp only [lv_cons, lv_nil, SetD.ds, En.ds, app_cons, app_nil]
  refine wp_lt (rem8 (m := 3) rfl (by omega)) ?_
  refine wp_lt (cv_i rfl (by omega) (by omega)) ?_
  refine wp_call rfl (refFind_con (n := n) ha hr) rfl ?_
  simp only [lv_cons, lv_nil, SetD.ds, En.ds, app_cons, app_nil]
  refine wp_lt rfl ?_
  refine wp_ite rfl (fun h => by simp at h) (fun _ => ?_)
  refine wp_lt rfl ?_
  refine wp_ite rfl (fun h => by simp at h) (fun _ => ?_)
  generalize way % 4 = k at *
  refine wp_call rfl (use_con (s := s) ht hk).1 rfl ?_
  simp only [lv_cons, lv_nil, SetD.ds, En.ds, app_cons, app_nil]
  refine wp_call rfl (use_con (s := s) ht hk).2 rfl ?_
  simp only [lv_cons, lv_nil, SetD.ds, En.ds, app_cons, app_nil]
  refine wp_lt (not_e (t := true) ?_) ?_
  · repeat' first
      | refine ite_t (eqs_b rfl rfl) ?_
      | refine ite_t (eqs_i rfl rfl) ?_
      | exact rfl
  refine wp_ite (t := false) rfl (fun h => by cases h) (fun _ => ?_)
  refine wp_call rfl (drop_con (s := s) hk).1 rfl ?_
  simp only [lv_cons, lv_nil, SetD.ds, En.ds, app_cons, app_nil]
  refine wp_call rfl (drop_con (s := s) hk).2 rfl ?_
  simp only [lv_cons, lv_nil, SetD.ds, En.ds, app_cons, app_nil]
  refine wp_lt (not_e (t := true) ?_) ?_
  · repeat' first
      | refine ite_t (eqs_b rfl rfl) ?_
      | refine ite_t (eqs_i rfl rfl) ?_
      | exact rfl
  refine wp_ite (t := false) rfl (fun h => by cases h) (fun _ => ?_)
  have hcase : k = 0 ∨ k = 1 ∨ k = 2 ∨ k = 3 := by omega
  rcases hcase with rfl | rfl | rfl | rfl
  · refine wp_chk rfl ?_
    refine wp_call rfl (same_con (e := e) (f := s.w0)) rfl ?_
    simp only [lv_cons, lv_nil, app_cons, app_nil]
    refine wp_chk rfl ?_
    refine wp_call rfl (refSame_con (e := e) (f := s.w0)) rfl ?_
    simp only [lv_cons, lv_nil, app_cons, app_nil]
    refine wp_lt rfl ?_
    refine wp_ite rfl (fun h => by simp at h) (fun _ => ?_)
    refine wp_lt rfl ?_
    refine wp_ite rfl (fun _ => wp_return rfl rfl) (fun _ => ?_)
    refine wp_call rfl (put_con (s := s) (e := e) (v := v) ht) rfl ?_
    simp only [lv_cons, lv_nil, SetD.ds, En.ds, app_cons, app_nil]
    refine wp_call rfl (refPut_con (s := s) (e := e) (v := v) ht) rfl ?_
    simp only [lv_cons, lv_nil, SetD.ds, En.ds, app_cons, app_nil]
    refine wp_lt (d := .b true) ?_ ?_
    · repeat' first
        | refine ite_t (eqs_b rfl rfl) ?_
        | refine ite_t (eqs_i rfl rfl) ?_
        | exact rfl
    refine wp_ite (t := true) rfl (fun _ => ?_) (fun h => by cases h)
    refine wp_lt rfl ?_
    exact wp_return rfl (by simp)
  · refine wp_chk rfl ?_
    refine wp_call rfl (same_con (e := e) (f := s.w1)) rfl ?_
    simp only [lv_cons, lv_nil, app_cons, app_nil]
    refine wp_chk rfl ?_
    refine wp_call rfl (refSame_con (e := e) (f := s.w1)) rfl ?_
    simp only [lv_cons, lv_nil, app_cons, app_nil]
    refine wp_lt rfl ?_
    refine wp_ite rfl (fun h => by simp at h) (fun _ => ?_)
    refine wp_lt rfl ?_
    refine wp_ite rfl (fun _ => wp_return rfl rfl) (fun _ => ?_)
    refine wp_call rfl (put_con (s := s) (e := e) (v := v) ht) rfl ?_
    simp only [lv_cons, lv_nil, SetD.ds, En.ds, app_cons, app_nil]
    refine wp_call rfl (refPut_con (s := s) (e := e) (v := v) ht) rfl ?_
    simp only [lv_cons, lv_nil, SetD.ds, En.ds, app_cons, app_nil]
    refine wp_lt (d := .b true) ?_ ?_
    · repeat' first
        | refine ite_t (eqs_b rfl rfl) ?_
        | refine ite_t (eqs_i rfl rfl) ?_
        | exact rfl
    refine wp_ite (t := true) rfl (fun _ => ?_) (fun h => by cases h)
    refine wp_lt rfl ?_
    exact wp_return rfl (by simp)
  · refine wp_chk rfl ?_
    refine wp_call rfl (same_con (e := e) (f := s.w2)) rfl ?_
    simp only [lv_cons, lv_nil, app_cons, app_nil]
    refine wp_chk rfl ?_
    refine wp_call rfl (refSame_con (e := e) (f := s.w2)) rfl ?_
    simp only [lv_cons, lv_nil, app_cons, app_nil]
    refine wp_lt rfl ?_
    refine wp_ite rfl (fun h => by simp at h) (fun _ => ?_)
    refine wp_lt rfl ?_
    refine wp_ite rfl (fun _ => wp_return rfl rfl) (fun _ => ?_)
    refine wp_call rfl (put_con (s := s) (e := e) (v := v) ht) rfl ?_
    simp only [lv_cons, lv_nil, SetD.ds, En.ds, app_cons, app_nil]
    refine wp_call rfl (refPut_con (s := s) (e := e) (v := v) ht) rfl ?_
    simp only [lv_cons, lv_nil, SetD.ds, En.ds, app_cons, app_nil]
    refine wp_lt (d := .b true) ?_ ?_
    · repeat' first
        | refine ite_t (eqs_b rfl rfl) ?_
        | refine ite_t (eqs_i rfl rfl) ?_
        | exact rfl
    refine wp_ite (t := true) rfl (fun _ => ?_) (fun h => by cases h)
    refine wp_lt rfl ?_
    exact wp_return rfl (by simp)
  · refine wp_chk rfl ?_
    refine wp_call rfl (same_con (e := e) (f := s.w3)) rfl ?_
    simp only [lv_cons, lv_nil, app_cons, app_nil]
    refine wp_chk rfl ?_
    refine wp_call rfl (refSame_con (e := e) (f := s.w3)) rfl ?_
    simp only [lv_cons, lv_nil, app_cons, app_nil]
    refine wp_lt rfl ?_
    refine wp_ite rfl (fun h => by simp at h) (fun _ => ?_)
    refine wp_lt rfl ?_
    refine wp_ite rfl (fun _ => wp_return rfl rfl) (fun _ => ?_)
    refine wp_call rfl (put_con (s := s) (e := e) (v := v) ht) rfl ?_
    simp only [lv_cons, lv_nil, SetD.ds, En.ds, app_cons, app_nil]
    refine wp_call rfl (refPut_con (s := s) (e := e) (v := v) ht) rfl ?_
    simp only [lv_cons, lv_nil, SetD.ds, En.ds, app_cons, app_nil]
    refine wp_lt (d := .b true) ?_ ?_
    · repeat' first
        | refine ite_t (eqs_b rfl rfl) ?_
        | refine ite_t (eqs_i rfl rfl) ?_
        | exact rfl
    refine wp_ite (t := true) rfl (fun _ => ?_) (fun h => by cases h)
    refine wp_lt rfl ?_
    exact wp_return rfl (by simp)
end Go.Proofs.YtebcdcdcefhdfaaDoor.Sx
