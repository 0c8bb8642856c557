/-
  Layer 13: SetFills.
-/
import Derived.Test.YtebcdcdcefhdfaaDoorSetl
import Derived.Test.YtebcdcdcefhdfaaDoorRow
import Derived.OpenShut
namespace Go.Proofs.YtebcdcdcefhdfaaDoor.Sx
open Go
set_option linter.unusedVariables false
set_option linter.unusedSimpArgs false
set_option maxRecDepth 100000

section
variable {ρ : List D} {x y : Ex} {es : List En} {k : IntKind} {n : Nat} {e : En}
theorem idx_row (hx : x.eval ρ = some (.sl 11 (es.map En.ds))) (hi : y.eval ρ = some (.i k (n : Int))) (he : es[n]? = some e) :
    Ex.evals ρ [.idx x y 0, .idx x y 1, .idx x y 2, .idx x y 3, .idx x y 4, .idx x y 5, .idx x y 6, .idx x y 7, .idx x y 8, .idx x y 9, .idx x y 10] = some e.ds := by
  simp [Ex.evals, Ex.eval, hx, hi, idxD, he, En.ds]
theorem idx_v (hx : x.eval ρ = some (.sl 11 (es.map En.ds))) (hi : y.eval ρ = some (.i k (n : Int))) (he : es[n]? = some e) : (Ex.idx x y 0).eval ρ = some (.b e.v) := by
  simp [Ex.eval, hx, hi, idxD, he, En.ds]
theorem inb_row (hx : x.eval ρ = some (.sl 11 (es.map En.ds))) (hi : y.eval ρ = some (.i k (n : Int))) (hn : n < es.length) : (Ex.inb x y 11).eval ρ = some (.b true) := by
  simp [Ex.eval, hx, hi, inbD, hn]
theorem evalVs_nil : evalVs ρ [] = some [] := rfl
theorem evalVs_cons {g : Bool} {xs : List Ex} {r : List XV} {ds : List D} {vs : List DV} (h : Ex.evals ρ xs = some ds) (hr : evalVs ρ r = some vs) : evalVs ρ ((g, xs) :: r) = some ((g, ds) :: vs) := by
  simp [evalVs, h, hr]
theorem len_row (hx : x.eval ρ = some (.sl 11 (es.map En.ds))) : (Ex.len x).eval ρ = some (I es.length) := by
  simp [Ex.eval, hx]
end

/-- an entry's leaves -/
def ENT : List LT := [.b, .i .u64, .b, .i .i64, .i .u64, .i .u64, .b, .b, .b, .b, .b]
theorem en_of {r : List D} (hl : r.length = 11) (h : ∀ (j : Nat) (t : LT) (d : D), ENT[j]? = some t → r[j]? = some d → HasTy t d) : ∃ e : En, e.Ok ∧ r = e.ds := by
  match r, hl with
  | [d0, d1, d2, d3, d4, d5, d6, d7, d8, d9, d10], _ =>
    obtain ⟨x0, rfl⟩ := ty_b (h 0 .b d0 rfl rfl)
    obtain ⟨x1, h1, rfl⟩ := ty_i (h 1 (.i .u64) d1 rfl rfl)
    obtain ⟨x2, rfl⟩ := ty_b (h 2 .b d2 rfl rfl)
    obtain ⟨x3, h3, rfl⟩ := ty_i (h 3 (.i .i64) d3 rfl rfl)
    obtain ⟨x4, h4, rfl⟩ := ty_i (h 4 (.i .u64) d4 rfl rfl)
    obtain ⟨x5, h5, rfl⟩ := ty_i (h 5 (.i .u64) d5 rfl rfl)
    obtain ⟨x6, rfl⟩ := ty_b (h 6 .b d6 rfl rfl)
    obtain ⟨x7, rfl⟩ := ty_b (h 7 .b d7 rfl rfl)
    obtain ⟨x8, rfl⟩ := ty_b (h 8 .b d8 rfl rfl)
    obtain ⟨x9, rfl⟩ := ty_b (h 9 .b d9 rfl rfl)
    obtain ⟨x10, rfl⟩ := ty_b (h 10 .b d10 rfl rfl)
    have b1 := bounds_u64 h1
    have b4 := bounds_u64 h4
    have b5 := bounds_u64 h5
    clear h h1 h4 h5
    obtain ⟨n1, rfl⟩ := Int.eq_ofNat_of_zero_le b1.1
    obtain ⟨n4, rfl⟩ := Int.eq_ofNat_of_zero_le b4.1
    obtain ⟨n5, rfl⟩ := Int.eq_ofNat_of_zero_le b5.1
    exact ⟨⟨x0, n1, x2, x3, n4, n5, x6, x7, x8, x9, x10⟩, ⟨by simp only; omega, by simp only; omega, by simp only; omega⟩, rfl⟩
theorem ty_ents {d : D} (h : HasTy (.sl ENT) d) : ∃ es : List En, es.length ≤ maxLen ∧ (∀ e ∈ es, e.Ok) ∧ d = .sl 11 (es.map En.ds) := by
  cases h with
  | sl _ xs hm hl h =>
    suffices hs : ∃ es : List En, (∀ e ∈ es, e.Ok) ∧ xs = es.map En.ds by
      obtain ⟨es, h1, rfl⟩ := hs
      exact ⟨es, by simpa using hm, h1, rfl⟩
    clear hm
    induction xs with
    | nil => exact ⟨[], by simp, rfl⟩
    | cons r xs ih =>
      obtain ⟨es, h1, h2⟩ := ih (fun r hr => hl r (List.mem_cons_of_mem _ hr)) (fun i j r t d hi => h (i + 1) j r t d (by simpa using hi))
      obtain ⟨e, he, rfl⟩ := en_of (hl r (List.mem_cons_self ..)) (fun j t d ht hd => h 0 j r t d (by simp) ht hd)
      exact ⟨e :: es, fun x hx => by rcases List.mem_cons.1 hx with rfl | hx; exact he; exact h1 x hx, by simp [h2]⟩
theorem arg_ents {v : DV} (h : IsArg (false, [.sl ENT]) v) : ∃ es : List En, es.length ≤ maxLen ∧ (∀ e ∈ es, e.Ok) ∧ v = (false, [.sl 11 (es.map En.ds)]) := by
  obtain ⟨g, ds⟩ := v
  obtain ⟨rfl, h⟩ := h
  obtain ⟨d, r, rfl, h0, h⟩ := cons_inv h
  obtain rfl := nil_inv h
  obtain ⟨es, h1, h2, rfl⟩ := ty_ents h0
  exact ⟨es, h1, h2, rfl⟩

def zeroSet : SetD := ⟨En.zero, En.zero, En.zero, En.zero, 0⟩
def fillF (e0 e1 e2 e3 : En) (n : Nat) : SetD :=
  match n with
  | 0 => zeroSet
  | 1 => ⟨e0, En.zero, En.zero, En.zero, 3⟩
  | 2 => ⟨e0, e1, En.zero, En.zero, 1⟩
  | 3 => ⟨e0, e1, e2, En.zero, 4⟩
  | _ => ⟨e0, e1, e2, e3, 0⟩
theorem zero_v : En.zero.v = false := rfl
theorem same_zero {e : En} : sameF e En.zero = false := by simp [sameF, En.zero]

section
variable {e0 e1 e2 e3 e4 : En}
theorem fill0 (v0 : e0.v = true) : setPutK zeroSet e0 (-1) = 0 ∧ setPut zeroSet e0 (-1) = fillF e0 e1 e2 e3 1 := by
  simp [setPut, setPutK, dropTo, dW, goesF, SetD.put, SetD.use, touN, zeroSet, fillF, same_zero, zero_v]
theorem fill1 (v0 : e0.v = true) (h : sameF e1 e0 = false) : setPutK (fillF e0 e1 e2 e3 1) e1 (-1) = 1 ∧ setPut (fillF e0 e1 e2 e3 1) e1 (-1) = fillF e0 e1 e2 e3 2 := by
  simp [setPut, setPutK, dropTo, dW, goesF, SetD.put, SetD.use, touN, fillF, same_zero, zero_v, h, v0]
theorem fill2 (v0 : e0.v = true) (v1 : e1.v = true) (h : sameF e2 e0 = false) (h1 : sameF e2 e1 = false) : setPutK (fillF e0 e1 e2 e3 2) e2 (-1) = 2 ∧ setPut (fillF e0 e1 e2 e3 2) e2 (-1) = fillF e0 e1 e2 e3 3 := by
  simp [setPut, setPutK, dropTo, dW, goesF, SetD.put, SetD.use, touN, fillF, same_zero, zero_v, h, h1, v0, v1]
theorem fill3 (v0 : e0.v = true) (v1 : e1.v = true) (v2 : e2.v = true) (h : sameF e3 e0 = false) (h1 : sameF e3 e1 = false) (h2 : sameF e3 e2 = false) : setPutK (fillF e0 e1 e2 e3 3) e3 (-1) = 3 ∧ setPut (fillF e0 e1 e2 e3 3) e3 (-1) = fillF e0 e1 e2 e3 4 := by
  simp [setPut, setPutK, dropTo, dW, goesF, SetD.put, SetD.use, touN, fillF, same_zero, zero_v, h, h1, h2, v0, v1, v2]
theorem fill4 (v0 : e0.v = true) (v1 : e1.v = true) (v2 : e2.v = true) (v3 : e3.v = true) (h : sameF e4 e0 = false) (h1 : sameF e4 e1 = false) (h2 : sameF e4 e2 = false) (h3 : sameF e4 e3 = false) :
    setPutK (fillF e0 e1 e2 e3 4) e4 (-1) = 0 ∧ setPut (fillF e0 e1 e2 e3 4) e4 (-1) = ⟨e4, e1, e2, e3, 3⟩ := by
  simp [setPut, setPutK, dropTo, dW, goesF, SetD.put, SetD.use, touN, vicN, fillF, same_zero, zero_v, h, h1, h2, h3, v0, v1, v2, v3]
end

set_option maxHeartbeats 4000000 in
theorem SetFills_con {es : List En} : Cn gAll 6 [(false, [.sl 11 (es.map En.ds)])] [bb true] := by
  refine con rfl rfl atlaslaw13_SetFills_c atlaslaw13_SetFills_p rfl ?_
  unfold atlaslaw13_SetFills_ir
  simp only [lv_cons, lv_nil, app_cons, app_nil]
  refine wp_call rfl awake13_con rfl ?_
  simp only [lv_cons, lv_nil, app_cons, app_nil]
  refine wp_lt rfl ?_
  refine wp_ite (t := false) rfl (fun h => by cases h) (fun _ => ?_)
  refine wp_lt (len_row rfl) ?_
  refine wp_lt (d := .b ((es.length : Int) != 5)) rfl ?_
  refine wp_ite (t := (es.length : Int) != 5) rfl (fun _ => ?_) (fun hlen => ?_)
  · refine wp_call rfl awake13_con rfl ?_
    exact wp_return rfl rfl
  have hlen : es.length = 5 := by simp at hlen; omega
  match es, hlen with
  | [e0, e1, e2, e3, e4], _ =>
  generalize hes : [e0, e1, e2, e3, e4] = es at *
  have hel : es.length = 5 := by rw [← hes]; rfl
  have hget : ∀ n, n < 5 → ∃ e, es[n]? = some e := fun n hn => ⟨es[n], List.getElem?_eq_getElem (by omega)⟩
  refine wp_rounds (fun m ds => ∃ (b : Bool) (n : Nat), ds = [.b b, I n] ∧ n + m = 6 ∧ n ≤ 5 ∧ ∀ p e, p < n → es[p]? = some e → e.v = true ∧ ∀ q f, q < p → es[q]? = some f → sameF e f = false) 6 rfl ⟨_, 0, rfl, by omega, by omega, fun p e hp => by omega⟩ ?_
    (fun es hes => by obtain ⟨_, n, _, h1, h2, _⟩ := hes; omega)
  rintro m ds Q ⟨b, n, rfl, hn, hn', hinv⟩ hQ
  simp only [lv_cons, lv_nil, app_cons, app_nil]
  refine wp_lt (d := .b (decide ((n : Int) < 5))) rfl ?_
  refine wp_ite (t := decide ((n : Int) < 5)) rfl (fun hlt => ?_) (fun hlt => ?_)
  · have hlt : n < 5 := by have := of_decide_eq_true hlt; omega
    obtain ⟨e, he⟩ := hget n hlt
    refine wp_chk (inb_row (n := n) rfl rfl (by omega)) ?_
    refine wp_call (evalVs_cons (idx_row (n := n) rfl rfl he) evalVs_nil) (refMay_con (e := e)) rfl ?_
    simp only [lv_cons, lv_nil, app_cons, app_nil]
    refine wp_lt rfl ?_
    refine wp_ite rfl (fun _ => wp_return rfl rfl) (fun hmay => ?_)
    refine wp_chk (inb_row (n := n) rfl rfl (by omega)) ?_
    refine wp_lt (not_e (idx_v (n := n) rfl rfl he)) ?_
    refine wp_ite rfl (fun _ => wp_return rfl rfl) (fun hv => ?_)
    have hv : e.v = true := by simpa using hv
    refine wp_rounds (fun m ds => ∃ (b : Bool) (q : Nat), ds = [.b b, I q] ∧ q + m = n + 1 ∧ q ≤ n ∧ ∀ r f, r < q → es[r]? = some f → sameF e f = false) (n + 1) rfl ⟨_, 0, rfl, by omega, by omega, fun r f hr => by omega⟩ ?_
      (fun es hes => by obtain ⟨_, q, _, h1, h2, _⟩ := hes; omega)
    rintro m1 ds1 Q1 ⟨b1, q, rfl, hq, hq', hinv1⟩ hQ1
    simp only [lv_cons, lv_nil, app_cons, app_nil]
    refine wp_lt (d := .b (decide ((q : Int) < n))) rfl ?_
    refine wp_ite (t := decide ((q : Int) < n)) rfl (fun hql => ?_) (fun hql => ?_)
    · have hql : q < n := by have := of_decide_eq_true hql; omega
      obtain ⟨f, hf⟩ := hget q (by omega)
      refine wp_chk (inb_row (n := n) rfl rfl (by omega)) ?_
      refine wp_chk (inb_row (n := q) rfl rfl (by omega)) ?_
      refine wp_call (evalVs_cons (idx_row (n := n) rfl rfl he) (evalVs_cons (idx_row (n := q) rfl rfl hf) evalVs_nil)) (same_con (e := e) (f := f)) rfl ?_
      simp only [lv_cons, lv_nil, app_cons, app_nil]
      refine wp_ite rfl (fun _ => wp_return rfl rfl) (fun hsm => ?_)
      refine wp_lt (i_add (a := q) (b := 1) rfl rfl (by omega) (by omega)) ?_
      simp only [lv_cons, lv_nil, app_cons, app_nil]
      refine wp_cont rfl rfl (hQ1 _ ⟨_, q + 1, rfl, by omega, by omega, fun r f' hr hf' => ?_⟩)
      by_cases hrq : r = q
      · subst hrq
        rw [hf] at hf'
        cases hf'
        exact hsm
      · exact hinv1 r f' (by omega) hf'
    · have hql : q = n := by have := of_decide_eq_false hql; omega
      subst hql
      refine wp_lt (i_add (a := q) (b := 1) rfl rfl (by omega) (by omega)) ?_
      simp only [lv_cons, lv_nil, app_cons, app_nil]
      refine wp_cont rfl rfl (hQ _ ⟨_, q + 1, rfl, by omega, by omega, fun p e' hp he' => ?_⟩)
      by_cases hpq : p = q
      · subst hpq
        rw [he] at he'
        cases he'
        exact ⟨hv, fun r f hr hf => hinv1 r f hr hf⟩
      · exact hinv p e' (by omega) he'
  · have hn5 : n = 5 := by have := of_decide_eq_false hlt; omega
    subst hn5
    clear hQ hget
    subst hes
    obtain ⟨v0, -⟩ := hinv 0 e0 (by omega) rfl
    obtain ⟨v1, s1⟩ := hinv 1 e1 (by omega) rfl
    obtain ⟨v2, s2⟩ := hinv 2 e2 (by omega) rfl
    obtain ⟨v3, s3⟩ := hinv 3 e3 (by omega) rfl
    obtain ⟨v4, s4⟩ := hinv 4 e4 (by omega) rfl
    have s10 := s1 0 e0 (by omega) rfl
    have s20 := s2 0 e0 (by omega) rfl
    have s21 := s2 1 e1 (by omega) rfl
    have s30 := s3 0 e0 (by omega) rfl
    have s31 := s3 1 e1 (by omega) rfl
    have s32 := s3 2 e2 (by omega) rfl
    have s40 := s4 0 e0 (by omega) rfl
    have s41 := s4 1 e1 (by omega) rfl
    have s42 := s4 2 e2 (by omega) rfl
    have s43 := s4 3 e3 (by omega) rfl
    clear s1 s2 s3 s4 hinv
    refine wp_rounds (fun m ds => ∃ (b : Bool) (n : Nat), ds = .b b :: I n :: (fillF e0 e1 e2 e3 n).ds ∧ n + m = 5 ∧ n ≤ 4) 5 rfl ⟨b, 0, rfl, by omega, by omega⟩ ?_
      (fun es hes => by obtain ⟨_, n, _, h1, h2⟩ := hes; omega)
    rintro m1 ds1 Q1 ⟨b1, n, rfl, hq, hq'⟩ hQ1
    have hcase : n = 0 ∨ n = 1 ∨ n = 2 ∨ n = 3 ∨ n = 4 := by omega
    rcases hcase with rfl | rfl | rfl | rfl | rfl
    · have hp := put_con (s := fillF e0 e1 e2 e3 0) (e := e0) (v := -1) (by simp [fillF, zeroSet])
      obtain ⟨hk, hs⟩ := fill0 (e0 := e0) (e1 := e1) (e2 := e2) (e3 := e3) v0
      rw [show fillF e0 e1 e2 e3 0 = zeroSet from rfl, hk, hs] at hp
      simp only [SetD.ds, En.ds, En.zero, zeroSet, fillF, app_cons, app_nil]
      refine wp_lt (d := .b true) rfl ?_
      refine wp_ite (t := true) rfl (fun _ => ?_) (fun h => by cases h)
      refine wp_chk rfl ?_
      refine wp_call rfl hp rfl ?_
      simp only [lv_cons, lv_nil, SetD.ds, En.ds, En.zero, fillF, app_cons, app_nil]
      refine wp_lt (d := .b false) rfl ?_
      refine wp_ite (t := false) rfl (fun h => by cases h) (fun _ => ?_)
      refine wp_lt (d := I (0 + 1 : Nat)) rfl ?_
      exact wp_cont rfl rfl (hQ1 _ ⟨_, 0 + 1, rfl, by omega, by omega⟩)
    · have hp := put_con (s := fillF e0 e1 e2 e3 1) (e := e1) (v := -1) (by simp [fillF, zeroSet])
      obtain ⟨hk, hs⟩ := fill1 (e0 := e0) (e1 := e1) (e2 := e2) (e3 := e3) v0 s10
      rw [hk, hs] at hp
      simp only [SetD.ds, En.ds, En.zero, zeroSet, fillF, app_cons, app_nil]
      refine wp_lt (d := .b true) rfl ?_
      refine wp_ite (t := true) rfl (fun _ => ?_) (fun h => by cases h)
      refine wp_chk rfl ?_
      refine wp_call rfl hp rfl ?_
      simp only [lv_cons, lv_nil, SetD.ds, En.ds, En.zero, fillF, app_cons, app_nil]
      refine wp_lt (d := .b false) rfl ?_
      refine wp_ite (t := false) rfl (fun h => by cases h) (fun _ => ?_)
      refine wp_lt (d := I (1 + 1 : Nat)) rfl ?_
      exact wp_cont rfl rfl (hQ1 _ ⟨_, 1 + 1, rfl, by omega, by omega⟩)
    · have hp := put_con (s := fillF e0 e1 e2 e3 2) (e := e2) (v := -1) (by simp [fillF, zeroSet])
      obtain ⟨hk, hs⟩ := fill2 (e0 := e0) (e1 := e1) (e2 := e2) (e3 := e3) v0 v1 s20 s21
      rw [hk, hs] at hp
      simp only [SetD.ds, En.ds, En.zero, zeroSet, fillF, app_cons, app_nil]
      refine wp_lt (d := .b true) rfl ?_
      refine wp_ite (t := true) rfl (fun _ => ?_) (fun h => by cases h)
      refine wp_chk rfl ?_
      refine wp_call rfl hp rfl ?_
      simp only [lv_cons, lv_nil, SetD.ds, En.ds, En.zero, fillF, app_cons, app_nil]
      refine wp_lt (d := .b false) rfl ?_
      refine wp_ite (t := false) rfl (fun h => by cases h) (fun _ => ?_)
      refine wp_lt (d := I (2 + 1 : Nat)) rfl ?_
      exact wp_cont rfl rfl (hQ1 _ ⟨_, 2 + 1, rfl, by omega, by omega⟩)
    · have hp := put_con (s := fillF e0 e1 e2 e3 3) (e := e3) (v := -1) (by simp [fillF, zeroSet])
      obtain ⟨hk, hs⟩ := fill3 (e0 := e0) (e1 := e1) (e2 := e2) (e3 := e3) v0 v1 v2 s30 s31 s32
      rw [hk, hs] at hp
      simp only [SetD.ds, En.ds, En.zero, zeroSet, fillF, app_cons, app_nil]
      refine wp_lt (d := .b true) rfl ?_
      refine wp_ite (t := true) rfl (fun _ => ?_) (fun h => by cases h)
      refine wp_chk rfl ?_
      refine wp_call rfl hp rfl ?_
      simp only [lv_cons, lv_nil, SetD.ds, En.ds, En.zero, fillF, app_cons, app_nil]
      refine wp_lt (d := .b false) rfl ?_
      refine wp_ite (t := false) rfl (fun h => by cases h) (fun _ => ?_)
      refine wp_lt (d := I (3 + 1 : Nat)) rfl ?_
      exact wp_cont rfl rfl (hQ1 _ ⟨_, 3 + 1, rfl, by omega, by omega⟩)
    · have hp := put_con (s := fillF e0 e1 e2 e3 4) (e := e4) (v := -1) (by simp [fillF, zeroSet])
      obtain ⟨hk, hs⟩ := fill4 v0 v1 v2 v3 s40 s41 s42 s43
      rw [hk, hs] at hp
      simp only [SetD.ds, En.ds, fillF, app_cons, app_nil]
      refine wp_lt (d := .b false) rfl ?_
      refine wp_ite (t := false) rfl (fun h => by cases h) (fun _ => ?_)
      refine wp_chk rfl ?_
      refine wp_call rfl hp rfl ?_
      simp only [lv_cons, lv_nil, SetD.ds, En.ds, app_cons, app_nil]
      refine wp_lt (d := .b true) rfl ?_
      refine wp_ite (t := true) rfl (fun _ => ?_) (fun h => by cases h)
      refine wp_chk rfl ?_
      refine wp_lt (d := .b true) ?_ ?_
      · repeat' first
          | refine ite_t (eqs_b rfl rfl) ?_
          | refine ite_t (eqs_i rfl rfl) ?_
          | exact rfl
      refine wp_ite (t := true) rfl (fun _ => ?_) (fun h => by cases h)
      refine wp_chk rfl ?_
      refine wp_lt (d := .b true) ?_ ?_
      · repeat' first
          | refine ite_t (eqs_b rfl rfl) ?_
          | refine ite_t (eqs_i rfl rfl) ?_
          | exact rfl
      refine wp_ite (t := true) rfl (fun _ => ?_) (fun h => by cases h)
      refine wp_chk rfl ?_
      refine wp_lt (d := .b true) ?_ ?_
      · repeat' first
          | refine ite_t (eqs_b rfl rfl) ?_
          | refine ite_t (eqs_i rfl rfl) ?_
          | exact rfl
      refine wp_ite (t := true) rfl (fun _ => ?_) (fun h => by cases h)
      refine wp_chk rfl ?_
      refine wp_lt (d := .b true) ?_ ?_
      · repeat' first
          | refine ite_t (eqs_b rfl rfl) ?_
          | refine ite_t (eqs_i rfl rfl) ?_
          | exact rfl
      exact wp_return rfl rfl
end Go.Proofs.YtebcdcdcefhdfaaDoor.Sx
