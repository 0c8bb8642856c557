/-
  Layer 14: TlbUnlike.
-/
import Derived.Test.YtmjhghclgockjaaDoorTlba
namespace Go.Proofs.YtmjhghclgockjaaDoor.Sx
open Go
set_option linter.unusedVariables false
set_option linter.unusedSimpArgs false
set_option maxRecDepth 100000

/-! ### no two of the same page -/
def UT (ts : List SetD) : Prop := ∀ s ∈ ts, unlikeF s = true
theorem UT_new {n : Nat} : UT (newT n) := fun s hs => by
  rw [(List.mem_replicate.1 hs).2]
  rfl
theorem UT_put {ts : List SetD} {e : En} {v : Int} (h : UT ts) (hT : TR ts) : UT (putT ts e v) := by
  rcases putT_cases (ts := ts) (e := e) (v := v) with ⟨h0, h1⟩ | ⟨s, hs, h1⟩ <;> rw [h1]
  · intro s hs; cases hs
  · intro x hx
    rcases List.mem_or_eq_of_mem_set hx with h2 | h2
    · exact h x h2
    · rw [h2, setPut_W (hT.tree hs)]
      exact putW_unlike (h s (List.mem_of_getElem? hs)) (setPutK_lt (hT.tree hs))
theorem same_idx {n : Nat} {e f : En} (h : sameF e f = true) : e.v = true ∧ f.v = true ∧ idxF n e.vpn e.lv = idxF n f.vpn f.lv := by
  simp only [sameF, Bool.and_eq_true, beq_iff_eq] at h
  exact ⟨h.1.1.1.1, h.1.1.1.2, by rw [h.1.2, h.1.1.2]⟩
theorem en_at {s : SetD} {x : En} (h : x ∈ s.en) : ∃ k, k < 4 ∧ x = s.at k := by
  simp only [SetD.en, List.mem_cons, List.not_mem_nil, or_false] at h
  rcases h with rfl | rfl | rfl | rfl
  · exact ⟨0, by omega, rfl⟩
  · exact ⟨1, by omega, rfl⟩
  · exact ⟨2, by omega, rfl⟩
  · exact ⟨3, by omega, rfl⟩
theorem at_en {s : SetD} {k : Nat} (h : k < 4) : s.at k ∈ s.en := by
  have hcase : k = 0 ∨ k = 1 ∨ k = 2 ∨ k = 3 := by omega
  rcases hcase with rfl | rfl | rfl | rfl <;> simp [SetD.at, SetD.en]
theorem pair_enT {n : Nat} : ∀ (ts : List SetD) (off : Nat), (∀ s ∈ ts, unlikeF s = true) → (∀ j s, ts[j]? = some s → ∀ k, k < 4 → wayOk n (off + j) (s.at k) = true) → (enT ts).Pairwise (fun a b => sameF b a = false)
  | [], _, _, _ => .nil
  | s :: ts, off, hu, hw => by
    have ih := pair_enT ts (off + 1) (fun s hs => hu s (List.mem_cons_of_mem _ hs)) (fun j s hs k hk => by
      have := hw (j + 1) s (by simpa using hs) k hk
      rwa [show off + (j + 1) = off + 1 + j by omega] at this)
    have : enT (s :: ts) = s.en ++ enT ts := rfl
    rw [this, List.pairwise_append]
    refine ⟨?_, ih, fun x hx y hy => ?_⟩
    · have := hu s (List.mem_cons_self ..)
      simp only [unlikeF, Bool.and_eq_true, Bool.not_eq_true'] at this
      simp [SetD.en, this]
    · rw [Bool.eq_false_iff]
      intro hs
      obtain ⟨h1, h2, h3⟩ := same_idx (n := n) hs
      obtain ⟨k, hk, rfl⟩ := en_at hx
      obtain ⟨s', hs', hy'⟩ := List.mem_flatMap.1 hy
      obtain ⟨k', hk', rfl⟩ := en_at hy'
      obtain ⟨j, hj⟩ := List.getElem?_of_mem hs'
      have w1 := hw 0 s rfl k hk
      have w2 := hw (j + 1) s' (by simpa using hj) k' hk'
      simp only [wayOk, h1, h2, Bool.not_true, Bool.false_or, beq_iff_eq] at w1 w2
      omega
theorem pair_allT {ts : List SetD} (hT : TR ts) (hU : UT ts) : (allT ts).Pairwise (fun a b => sameF b a = false) := by
  refine List.Pairwise.filter _ (pair_enT (n := ts.length) ts 0 hU (fun j s hs k hk => ?_))
  rw [Nat.zero_add]
  exact hT.way hs hk

theorem TlbUnlike_con {n : Nat} {es : List En} {zs : List Int} (hn : n < 256) (hO : ∀ e ∈ es, e.Ok) (hz : ∀ z ∈ zs, -128 ≤ z ∧ z ≤ 127) : Cn gAll 4 [(false, [.i .u8 (n : Int)]), (false, [.sl 11 (es.map En.ds)]), (false, [.sl 1 (zs.map fun z => [.i .i8 z])])] [bb true] := by
  refine con rfl rfl atlaslaw14_TlbUnlike_c atlaslaw14_TlbUnlike_p rfl ?_
  unfold atlaslaw14_TlbUnlike_ir
  simp only [lv_cons, lv_nil, app_cons, app_nil]
  refine wp_call rfl awake14_con rfl ?_
  simp only [lv_cons, lv_nil, app_cons, app_nil]
  refine wp_lt (d := (.b false)) rfl ?_
  simp only [lv_cons, lv_nil, app_cons, app_nil]
  refine wp_ite (t := false) rfl (fun h => by cases h) (fun _ => ?_)
  refine wp_lt (len_is rfl (List.length_map ..)) ?_
  simp only [lv_cons, lv_nil, app_cons, app_nil]
  refine wp_lt rfl ?_
  simp only [lv_cons, lv_nil, app_cons, app_nil]
  refine wp_ite rfl (fun _ => ?_) (fun hl => ?_)
  · refine wp_call rfl awake14_con rfl ?_
    exact wp_return rfl rfl
  have hl := of_decide_eq_false hl
  refine wp_lt (cv_i rfl (by omega) (by omega)) ?_
  simp only [lv_cons, lv_nil, app_cons, app_nil]
  refine wp_lt (i_rem (b := 17) rfl rfl (by omega)) ?_
  simp only [lv_cons, lv_nil, app_cons, app_nil]
  have hr17 : n % 17 ≤ 16 := by omega
  refine wp_call rfl (tlbNew_ok hr17) rfl ?_
  simp only [lv_cons, lv_nil, app_cons, app_nil]
  refine wp_rounds (fun m ds => ∃ (q : Nat) (ts : List SetD), ds = [I q, tlb ts] ∧ q + m = es.length + 1 ∧ q ≤ es.length ∧ TR ts ∧ ts.length = n % 17 ∧ UT ts) (es.length + 1) rfl ⟨0, newT (n % 17), rfl, by omega, by omega, newT_ok hr17, newT_len, UT_new⟩ ?_
    (fun es hes => by obtain ⟨q, _, _, h1, h2, _⟩ := hes; omega)
  rintro m es1 Q ⟨q, ts, rfl, hq1, hq2, hT, htl, hU⟩ hQ
  simp only [lv_cons, lv_nil, app_cons, app_nil]
  refine wp_lt (len_is rfl (List.length_map ..)) ?_
  simp only [lv_cons, lv_nil, app_cons, app_nil]
  refine wp_lt rfl ?_
  simp only [lv_cons, lv_nil, app_cons, app_nil]
  refine wp_ite rfl (fun hc => ?_) (fun hc => ?_)
  · have hc := of_decide_eq_true hc
    have hq : q < es.length := by omega
    obtain ⟨e, he⟩ : ∃ e, es[q]? = some e := ⟨_, List.getElem?_eq_getElem hq⟩
    have hrow := rws_row he
    have heo : e.Ok := hO e (List.mem_of_getElem? he)
    refine wp_chk (inb_t rfl rfl (by rw [List.length_map]; exact hq)) ?_
    refine wp_call (evs_cons (evals_row rfl rfl hrow rfl) rfl) (refMay_con (e := e)) rfl ?_
    simp only [lv_cons, lv_nil, app_cons, app_nil]
    refine wp_lt rfl ?_
    simp only [lv_cons, lv_nil, app_cons, app_nil]
    refine wp_ite rfl (fun hmay => ?_) (fun hmay => ?_)
    · refine wp_lt (i_add (a := (q : Int)) (b := 1) rfl rfl (by omega) (by omega)) ?_
      simp only [lv_cons, lv_nil, app_cons, app_nil]
      exact wp_cont rfl rfl (hQ _ ⟨q + 1, ts, rfl, by omega, by omega, hT, htl, hU⟩)
    have hmay : e.may = true := by simpa using hmay
    refine wp_chk (inb_t rfl rfl (by rw [List.length_map]; exact hq)) ?_
    refine wp_lt (not_e (t := e.v) (idx_e rfl rfl hrow rfl)) ?_
    simp only [lv_cons, lv_nil, app_cons, app_nil]
    refine wp_ite rfl (fun hv => ?_) (fun hv => ?_)
    · refine wp_lt (i_add (a := (q : Int)) (b := 1) rfl rfl (by omega) (by omega)) ?_
      simp only [lv_cons, lv_nil, app_cons, app_nil]
      exact wp_cont rfl rfl (hQ _ ⟨q + 1, ts, rfl, by omega, by omega, hT, htl, hU⟩)
    refine wp_lt (len_is rfl (List.length_map ..)) ?_
    simp only [lv_cons, lv_nil, app_cons, app_nil]
    refine wp_lt rfl ?_
    simp only [lv_cons, lv_nil, app_cons, app_nil]
    refine wp_ite rfl (fun hc2 => ?_) (fun hc2 => ?_)
    · have hc2 := of_decide_eq_true hc2
      have hqz : q < zs.length := by omega
      obtain ⟨z, hzq⟩ : ∃ z, zs[q]? = some z := ⟨_, List.getElem?_eq_getElem hqz⟩
      have hzb := hz z (List.mem_of_getElem? hzq)
      have hzrow : (zs.map fun z => [D.i .i8 z])[q]? = some [.i .i8 z] := by rw [List.getElem?_map, hzq]; rfl
      refine wp_chk (inb_t rfl rfl (by rw [List.length_map]; exact hqz)) ?_
      refine wp_lt (cv_i (idx_e rfl rfl hzrow rfl) (by omega) (by omega)) ?_
      simp only [lv_cons, lv_nil, app_cons, app_nil]
      refine wp_chk (inb_t rfl rfl (by rw [List.length_map]; exact hq)) ?_
      refine wp_call (evs_cons rfl (evs_cons (evals_row rfl rfl hrow rfl) rfl)) (tlbPut_con (ts := ts) (e := e) (v := z) hT heo hmay) rfl ?_
      simp only [lv_cons, lv_nil, app_cons, app_nil]
      refine wp_lt (i_add (a := (q : Int)) (b := 1) rfl rfl (by omega) (by omega)) ?_
      simp only [lv_cons, lv_nil, app_cons, app_nil]
      exact wp_cont rfl rfl (hQ _ ⟨q + 1, _, rfl, by omega, by omega, hT.put heo hmay, by rw [putT_len]; exact htl, UT_put hU hT⟩)
    · refine wp_chk (inb_t rfl rfl (by rw [List.length_map]; exact hq)) ?_
      refine wp_call (evs_cons rfl (evs_cons (evals_row rfl rfl hrow rfl) rfl)) (tlbPut_con (ts := ts) (e := e) (v := -1) hT heo hmay) rfl ?_
      simp only [lv_cons, lv_nil, app_cons, app_nil]
      refine wp_lt (i_add (a := (q : Int)) (b := 1) rfl rfl (by omega) (by omega)) ?_
      simp only [lv_cons, lv_nil, app_cons, app_nil]
      exact wp_cont rfl rfl (hQ _ ⟨q + 1, _, rfl, by omega, by omega, hT.put heo hmay, by rw [putT_len]; exact htl, UT_put hU hT⟩)
  have hp := pair_allT hT hU
  have hAl := allT_le (ts := ts)
  have hl16 := hT.len
  refine wp_call rfl (tlbAll_con (by omega)) rfl ?_
  simp only [lv_cons, lv_nil, app_cons, app_nil]
  have hM : 0 < (allT ts).length → mT ts.length = 11 := fun h => mT_pos (by omega)
  generalize mT ts.length = M at hM ⊢
  generalize allT ts = ws at hM hAl hp ⊢
  have hL : (rws ws).length = ws.length := List.length_map ..
  rw [List.pairwise_iff_getElem] at hp
  refine wp_rounds (fun m ds => ∃ (b : Bool) (p : Nat), ds = [.b b, I p] ∧ p + m = ws.length + 1 ∧ p ≤ ws.length) (ws.length + 1) rfl ⟨_, 0, rfl, by omega, by omega⟩ ?_
    (fun es hes => by obtain ⟨_, q, _, h1, h2⟩ := hes; omega)
  rintro m1 es1 Q1 ⟨b, p, rfl, hp1, hp2⟩ hQ1
  simp only [lv_cons, lv_nil, app_cons, app_nil]
  refine wp_lt (len_is rfl hL) ?_
  simp only [lv_cons, lv_nil, app_cons, app_nil]
  refine wp_lt rfl ?_
  simp only [lv_cons, lv_nil, app_cons, app_nil]
  refine wp_ite rfl (fun hc1 => ?_) (fun hc1 => ?_)
  · have hc1 := of_decide_eq_true hc1
    have hpl : p < ws.length := by omega
    obtain rfl := hM (by omega)
    refine wp_rounds (fun m ds => ∃ (b : Bool) (k : Nat), ds = [.b b, I k] ∧ k + m = p + 1 ∧ k ≤ p) (p + 1) rfl ⟨_, 0, rfl, by omega, by omega⟩ ?_
      (fun es hes => by obtain ⟨_, q, _, h1, h2⟩ := hes; omega)
    rintro m2 es2 Q2 ⟨b2, k, rfl, hk1, hk2⟩ hQ2
    simp only [lv_cons, lv_nil, app_cons, app_nil]
    refine wp_lt rfl ?_
    simp only [lv_cons, lv_nil, app_cons, app_nil]
    refine wp_ite rfl (fun hc2 => ?_) (fun hc2 => ?_)
    · have hc2 := of_decide_eq_true hc2
      have hkp : k < p := by omega
      have hsm := hp k p (by omega) hpl hkp
      have hrp := rws_row (List.getElem?_eq_getElem hpl)
      have hrk := rws_row (List.getElem?_eq_getElem (show k < ws.length by omega))
      refine wp_chk (inb_t rfl rfl (by rw [hL]; omega)) ?_
      refine wp_chk (inb_t rfl rfl (by rw [hL]; omega)) ?_
      refine wp_call (evs_cons (evals_row rfl rfl hrp rfl) (evs_cons (evals_row rfl rfl hrk rfl) rfl)) (refSame_con (e := ws[p]) (f := ws[k])) rfl ?_
      rw [hsm]
      simp only [lv_cons, lv_nil, app_cons, app_nil]
      refine wp_ite (t := false) rfl (fun h => by cases h) (fun _ => ?_)
      refine wp_lt (i_add (a := (k : Int)) (b := 1) rfl rfl (by omega) (by omega)) ?_
      simp only [lv_cons, lv_nil, app_cons, app_nil]
      exact wp_cont rfl rfl (hQ2 _ ⟨_, k + 1, rfl, by omega, by omega⟩)
    · refine wp_lt (i_add (a := (p : Int)) (b := 1) rfl rfl (by omega) (by omega)) ?_
      simp only [lv_cons, lv_nil, app_cons, app_nil]
      exact wp_cont rfl rfl (hQ1 _ ⟨_, p + 1, rfl, by omega, by omega⟩)
  · refine wp_call rfl (tlbRight_con hT.ok (by omega)) rfl ?_
    rw [hT.right]
    simp only [lv_cons, lv_nil, app_cons, app_nil]
    refine wp_ite (t := true) rfl (fun _ => ?_) (fun h => by cases h)
    refine wp_lt (len_is rfl hL) ?_
    simp only [lv_cons, lv_nil, app_cons, app_nil]
    refine wp_lt (cv_i rfl (by omega) (by omega)) ?_
    simp only [lv_cons, lv_nil, app_cons, app_nil]
    refine wp_lt (i_rem (b := 17) rfl rfl (by omega)) ?_
    simp only [lv_cons, lv_nil, app_cons, app_nil]
    refine wp_lt (i_mul (a := 4) rfl rfl (by omega) (by omega)) ?_
    simp only [lv_cons, lv_nil, app_cons, app_nil]
    refine wp_lt (d := .b true) (cmp_e rfl (decide_eq_true (by omega))) ?_
    simp only [lv_cons, lv_nil, app_cons, app_nil]
    exact wp_return rfl rfl
end Go.Proofs.YtmjhghclgockjaaDoor.Sx
