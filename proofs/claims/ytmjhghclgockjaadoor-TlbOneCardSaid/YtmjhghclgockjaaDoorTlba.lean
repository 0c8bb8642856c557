/-
  Layer 14: TlbAsid.
-/
import Derived.Test.YtmjhghclgockjaaDoorTlbl
namespace Go.Proofs.YtmjhghclgockjaaDoor.Sx
open Go
set_option linter.unusedVariables false
set_option linter.unusedSimpArgs false
set_option maxRecDepth 100000

section
variable {ρ : List D} {x y : Ex}
theorem i_rem {a b : Nat} (hx : x.eval ρ = some (I a)) (hy : y.eval ρ = some (I b)) (h : b ≠ 0) : (Ex.bin .rem x y).eval ρ = some (I (a % b : Nat)) := by
  have h1 : (a : Int).tmod b = ((a % b : Nat) : Int) := by rw [Int.tmod_eq_emod_of_nonneg (by omega)]; push_cast; rfl
  have h3 : ¬ (b : Int) = 0 := by omega
  simp only [Ex.eval, hx, hy, binD, if_true]
  rw [if_neg h3, h1]
theorem i_mul {a b : Int} (hx : x.eval ρ = some (I a)) (hy : y.eval ρ = some (I b)) (h0 : -9223372036854775808 ≤ a * b) (h1 : a * b ≤ 9223372036854775807) : (Ex.bin .mul x y).eval ρ = some (I (a * b)) := by
  simp [Ex.eval, hx, hy, binD, wrapI h0 h1]
end

/-- the buffer behind putting -/
theorem putT_at {ts : List SetD} {e : En} {v : Int} (hT : TR ts) (hn : 0 < ts.length) : ∃ (j k : Nat) (s : SetD), j = idxF ts.length e.vpn e.lv ∧ ts[j]? = some s ∧ k < 4 ∧ putT ts e v = ts.set j (putW e s k) := by
  rcases putT_cases (ts := ts) (e := e) (v := v) with ⟨h0, _⟩ | ⟨s, hs, h1⟩
  · rw [h0] at hn; cases hn
  · exact ⟨_, setPutK s e v, s, rfl, hs, setPutK_lt (hT.tree hs), by rw [h1, setPut_W (hT.tree hs)]⟩
/-! ### what is found -/
theorem findF_hit {s : SetD} {n a k : Nat} {l : Int} (h : findF s n a l = ((k : Int), true)) : hitF (s.at k) n a l = true := by
  unfold findF at h
  split at h
  · rename_i h0
    obtain rfl : k = 0 := by have := congrArg Prod.fst h; simp only at this; omega
    exact h0
  split at h
  · rename_i h0
    obtain rfl : k = 1 := by have := congrArg Prod.fst h; simp only at this; omega
    exact h0
  split at h
  · rename_i h0
    obtain rfl : k = 2 := by have := congrArg Prod.fst h; simp only at this; omega
    exact h0
  split at h
  · rename_i h0
    obtain rfl : k = 3 := by have := congrArg Prod.fst h; simp only at this; omega
    exact h0
  · cases congrArg Prod.snd h
theorem hit_find {s : SetD} {n a k : Nat} {l : Int} (hk : k < 4) (h : hitF (s.at k) n a l = true) : (findF s n a l).2 = true := by
  have hcase : k = 0 ∨ k = 1 ∨ k = 2 ∨ k = 3 := by omega
  unfold findF
  split
  · rfl
  split
  · rfl
  split
  · rfl
  split
  · rfl
  · rcases hcase with rfl | rfl | rfl | rfl <;> simp only [SetD.at] at h <;> contradiction
theorem findT_of {ts : List SetD} {n a l k : Nat} {s : SetD} (hl : l < 3) (hs : ts[lvI ts a l]? = some s) (hk : k < 4) (h : hitF (s.at k) n a l = true) : (findT ts n a).2.2.2 = true := by
  have h1 : (lvF ts n a l).2 = true := by rw [lvF, setAt_of hs]; exact hit_find hk h
  have hn : ¬ ts.length = 0 := by have := (List.getElem?_eq_some_iff.1 hs).1; omega
  unfold findT
  rw [if_neg hn]
  split
  · rfl
  split
  · rfl
  split
  · rfl
  · have hcase : l = 0 ∨ l = 1 ∨ l = 2 := by omega
    rcases hcase with rfl | rfl | rfl
    · rename_i h0 _ _; exact absurd h1 h0
    · rename_i h0 _; exact absurd h1 h0
    · rename_i h0; exact absurd h1 h0
theorem mem_allT {ts : List SetD} {j k : Nat} {s : SetD} (hs : ts[j]? = some s) (hk : k < 4) (hv : (s.at k).v = true) : s.at k ∈ allT ts := by
  refine List.mem_filter.2 ⟨List.mem_flatMap.2 ⟨s, List.mem_of_getElem? hs, ?_⟩, hv⟩
  have hcase : k = 0 ∨ k = 1 ∨ k = 2 ∨ k = 3 := by omega
  rcases hcase with rfl | rfl | rfl | rfl <;> simp [SetD.at, SetD.en]
theorem allT_may {ts : List SetD} (hT : TR ts) {e : En} (h : e ∈ allT ts) : e.May := by
  obtain ⟨h1, h2⟩ := List.mem_filter.1 h
  obtain ⟨s, hs, he⟩ := List.mem_flatMap.1 h1
  obtain ⟨j, hj⟩ := List.getElem?_of_mem hs
  obtain ⟨_, m0, m1, m2, m3⟩ := SetD.right_may (hT.set hj)
  simp only [SetD.en, List.mem_cons, List.not_mem_nil, or_false] at he
  rcases he with rfl | rfl | rfl | rfl <;> (apply En.may_May; assumption)
theorem hit_match {e : En} {n a : Nat} {l : Int} (h : hitF e n a l = true) : e.lv = l ∧ matchF e n a = true := by
  simp only [hitF, Bool.and_eq_true, beq_iff_eq] at h
  exact h
theorem match_cov {e : En} {n a : Nat} (h : matchF e n a = true) : coversF e a = true ∧ (e.g = true ∨ e.asid = n) := by
  simp only [matchF, Bool.and_eq_true, Bool.or_eq_true, beq_iff_eq] at h
  exact h
theorem cov_v {e : En} {a : Nat} (h : coversF e a = true) : e.v = true := by
  simp only [coversF, Bool.and_eq_true] at h
  exact h.1.1
theorem findT_hit {ts : List SetD} {n a : Nat} (h : (findT ts n a).2.2.2 = true) : coversF (findT ts n a).1 a = true ∧ ((findT ts n a).1.g = true ∨ (findT ts n a).1.asid = n) ∧ (findT ts n a).1 ∈ allT ts := by
  obtain ⟨l, j, k, s, hl, hs, hj, hk, hf, hb, hE⟩ := findT_use h
  rw [hE]
  have h1 := match_cov (hit_match (findF_hit hf)).2
  exact ⟨h1.1, h1.2, mem_allT hs hk (cov_v h1.1)⟩
theorem findT_all {ts : List SetD} {n m a : Nat} (h : (findT ts n a).2.2.2 = true) (hg : (findT ts n a).1.g = true) : (findT ts m a).2.2.2 = true := by
  obtain ⟨l, j, k, s, hl, hs, hj, hk, hf, hb, hE⟩ := findT_use h
  rw [hE] at hg
  subst hj
  have h1 := findF_hit hf
  refine findT_of hl hs hk ?_
  simp only at hg
  simp only [hitF, matchF, hg, Bool.true_or, Bool.and_true] at h1 ⊢
  exact h1

theorem TlbAsid_con {ts : List SetD} {n o a : Nat} (hO : TOk ts) (hl : ts.length < 9223372036854775808) (ha : a < 18446744073709551616) : Cn gAll 5 [tv ts, u n, u o, u a] [bb true] := by
  refine con rfl rfl atlaslaw14_TlbAsid_c atlaslaw14_TlbAsid_p rfl ?_
  unfold atlaslaw14_TlbAsid_ir
  simp only [lv_cons, lv_nil, app_cons, app_nil]
  refine wp_jn (fun es => ∃ b, es = [.b b] ∧ (b = false → rightT ts = true)) ?_ ?_
  rotate_left
  · intro Q hQ
    refine wp_call rfl awake14_con rfl ?_
    simp only [lv_cons, lv_nil, app_cons, app_nil]
    refine wp_lt (d := (.b false)) rfl ?_
    simp only [lv_cons, lv_nil, app_cons, app_nil]
    refine wp_ite (t := false) rfl (fun h => by cases h) (fun _ => ?_)
    refine wp_call rfl (refRightT_con hO hl) rfl ?_
    simp only [lv_cons, lv_nil, app_cons, app_nil]
    refine wp_lt rfl ?_
    simp only [lv_cons, lv_nil, app_cons, app_nil]
    refine wp_ite rfl (fun _ => wp_cont rfl rfl (hQ _ ⟨_, rfl, fun h => by cases h⟩)) (fun h1 => ?_)
    refine wp_call rfl isVa_con rfl ?_
    simp only [lv_cons, lv_nil, app_cons, app_nil]
    refine wp_lt rfl ?_
    simp only [lv_cons, lv_nil, app_cons, app_nil]
    exact wp_cont rfl rfl (hQ _ ⟨_, rfl, fun _ => by simpa using h1⟩)
  rintro es ⟨b, rfl, hb⟩
  simp only [lv_cons, lv_nil, app_cons, app_nil]
  refine wp_ite rfl (fun h => ?_) (fun h => ?_)
  · refine wp_call rfl awake14_con rfl ?_
    exact wp_return rfl rfl
  have hr := hb h
  subst h
  clear hb
  have hTR : TR ts := ⟨hr, hO⟩
  have hl16 := hTR.len
  have hA1 := findT_hit (ts := ts) (n := n) (a := a)
  have hA2 := findT_hit (ts := ts) (n := o) (a := a)
  have hA3 := findT_all (ts := ts) (n := n) (m := o) (a := a)
  refine wp_call rfl (tlbFind_con (n := n) hTR ha) rfl ?_
  refine wp_call ?_ (tlbFind_con (n := o) hTR ha) rfl ?_
  · simp only [findV]
    simp only [lv_cons, lv_nil, SetD.ds, En.ds, app_cons, app_nil]
    rfl
  simp only [findV]
  obtain ⟨⟨f, j, k, ok⟩, hF⟩ : ∃ r, findT ts n a = r := ⟨_, rfl⟩
  obtain ⟨⟨g, j2, k2, is⟩, hG⟩ : ∃ r, findT ts o a = r := ⟨_, rfl⟩
  rw [hF] at hA1 hA3 ⊢
  rw [hG] at hA2 hA3 ⊢
  clear hF hG
  simp only [lv_cons, lv_nil, SetD.ds, En.ds, app_cons, app_nil]
  refine wp_jn (fun es => es = [.b false]) ?_ ?_
  rotate_left
  · intro Q hQ
    clear hr hTR
    obtain ⟨fv, fas, fg, flv, fvp, fpp, f1, f2, f3, f4, fd⟩ := f
    obtain ⟨gv, gas, gg, glv, gvp, gpp, g1, g2, g3, g4, gd⟩ := g
    simp only at hA1 hA2 hA3 ⊢
    have k1 : ok = true → fg = false → fas = n := fun h h2 => by
      rcases (hA1 h).2.1 with h3 | h3
      · rw [h2] at h3; cases h3
      · exact h3
    have k2 : is = true → gg = false → gas = o := fun h h2 => by
      rcases (hA2 h).2.1 with h3 | h3
      · rw [h2] at h3; cases h3
      · exact h3
    clear hA1 hA2
    cases ok <;> cases is <;> cases fg <;> cases gg <;>
      (try (have := hA3 rfl rfl; cases this)) <;>
      (try (obtain rfl := k1 rfl rfl)) <;>
      (try (obtain rfl := k2 rfl rfl)) <;>
      clear hA3 k1 k2 <;>
      repeat' first
        | refine wp_ite (t := true) rfl (fun _ => ?_) (fun h => by cases h)
        | refine wp_ite (t := false) rfl (fun h => by cases h) (fun _ => ?_)
        | (refine wp_lt (d := .b false) (cmp_e rfl (bne_self_eq_false _)) ?_; simp only [lv_cons, lv_nil, app_cons, app_nil])
        | (refine wp_lt (d := .b true) rfl ?_; simp only [lv_cons, lv_nil, app_cons, app_nil])
        | (refine wp_lt (d := .b false) rfl ?_; simp only [lv_cons, lv_nil, app_cons, app_nil])
        | exact wp_cont rfl rfl (hQ _ rfl)
  rintro es rfl
  simp only [lv_cons, lv_nil, app_cons, app_nil]
  refine wp_ite (t := false) rfl (fun h => by cases h) (fun _ => ?_)
  refine wp_call rfl (tlbAll_con (by omega)) rfl ?_
  simp only [lv_cons, lv_nil, app_cons, app_nil]
  have hAl := allT_le (ts := ts)
  have hMay : ∀ e ∈ allT ts, e.May := fun e he => allT_may hTR he
  have hM : 0 < (allT ts).length → mT ts.length = 11 := fun h => mT_pos (by omega)
  have q1 : ok = true → ∃ e ∈ allT ts, coversF e a = true := fun h => ⟨f, (hA1 h).2.2, (hA1 h).1⟩
  have q2 : is = true → ∃ e ∈ allT ts, coversF e a = true := fun h => ⟨g, (hA2 h).2.2, (hA2 h).1⟩
  clear hA1 hA2 hA3
  generalize mT ts.length = M at hM ⊢
  generalize allT ts = ws at hM hAl hMay q1 q2 ⊢
  have hL : (rws ws).length = ws.length := List.length_map ..
  refine wp_rounds (fun m ds => ∃ (b : Bool) (q : Nat), ds = [.b b, I q] ∧ q + m = ws.length + 1 ∧ q ≤ ws.length ∧ (b = false → ∀ x e, x < q → ws[x]? = some e → coversF e a = false)) (ws.length + 1) rfl ⟨_, 0, rfl, by omega, by omega, fun _ x _ h => by omega⟩ ?_
    (fun es hes => by obtain ⟨_, q, _, h1, h2, _⟩ := hes; omega)
  rintro m1 es1 Q1 ⟨b, q, rfl, hq1, hq2, hc⟩ hQ1
  simp only [lv_cons, lv_nil, app_cons, app_nil]
  refine wp_lt (len_is rfl hL) ?_
  simp only [lv_cons, lv_nil, app_cons, app_nil]
  refine wp_lt rfl ?_
  simp only [lv_cons, lv_nil, app_cons, app_nil]
  refine wp_ite rfl (fun hc1 => ?_) (fun hc1 => ?_)
  · have hc1 := of_decide_eq_true hc1
    have hq : q < ws.length := by omega
    obtain rfl := hM (by omega)
    obtain ⟨e, he⟩ : ∃ e, ws[q]? = some e := ⟨_, List.getElem?_eq_getElem hq⟩
    have hrow := rws_row he
    refine wp_jn (fun es => ∃ b', es = [.b b'] ∧ (b' = false → b = false ∧ coversF e a = false)) ?_ ?_
    · rintro es ⟨b', rfl, hb'⟩
      simp only [lv_cons, lv_nil, app_cons, app_nil]
      refine wp_lt (i_add (a := (q : Int)) (b := 1) rfl rfl (by omega) (by omega)) ?_
      simp only [lv_cons, lv_nil, app_cons, app_nil]
      refine wp_cont rfl rfl (hQ1 _ ⟨b', q + 1, rfl, by omega, by omega, fun h x e' hx he' => ?_⟩)
      obtain ⟨h1, h2⟩ := hb' h
      by_cases hxq : x = q
      · subst hxq
        rw [he] at he'
        cases he'
        exact h2
      · exact hc h1 x e' (by omega) he'
    · intro Q2 hQ2
      refine wp_ite rfl (fun _ => wp_cont rfl rfl (hQ2 _ ⟨_, rfl, fun h => by cases h⟩)) (fun hb => ?_)
      refine wp_chk (inb_t rfl rfl (by rw [hL]; exact hq)) ?_
      refine wp_call (evs_cons (evals_row rfl rfl hrow rfl) rfl) (refCovers_con (e := e) ha (.inl (hMay e (List.mem_of_getElem? he)))) rfl ?_
      simp only [lv_cons, lv_nil, app_cons, app_nil]
      exact wp_cont rfl rfl (hQ2 _ ⟨_, rfl, fun h => ⟨hb, h⟩⟩)
  · have hc1 := of_decide_eq_false hc1
    obtain rfl : q = ws.length := by omega
    refine wp_jn (fun es => es = [.b true]) ?_ ?_
    · rintro es rfl
      simp only [lv_cons, lv_nil, app_cons, app_nil]
      exact wp_return rfl rfl
    · intro Q2 hQ2
      refine wp_ite rfl (fun _ => wp_cont rfl rfl (hQ2 _ rfl)) (fun hb => ?_)
      have hno : ∀ e ∈ ws, coversF e a = false := fun e he => by
        obtain ⟨x, hx⟩ := List.getElem?_of_mem he
        exact hc hb x e (List.getElem?_eq_some_iff.1 hx).1 hx
      obtain rfl : ok = false := by
        rw [Bool.eq_false_iff]
        intro h
        obtain ⟨e, he, h2⟩ := q1 h
        rw [hno e he] at h2
        cases h2
      obtain rfl : is = false := by
        rw [Bool.eq_false_iff]
        intro h
        obtain ⟨e, he, h2⟩ := q2 h
        rw [hno e he] at h2
        cases h2
      refine wp_lt (d := (.b true)) rfl ?_
      simp only [lv_cons, lv_nil, app_cons, app_nil]
      refine wp_ite (t := true) rfl (fun _ => ?_) (fun h => by cases h)
      refine wp_lt (d := (.b true)) rfl ?_
      simp only [lv_cons, lv_nil, app_cons, app_nil]
      exact wp_cont rfl rfl (hQ2 _ rfl)
end Go.Proofs.YtmjhghclgockjaaDoor.Sx
