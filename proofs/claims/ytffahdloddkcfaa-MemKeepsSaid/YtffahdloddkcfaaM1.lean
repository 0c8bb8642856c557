/-
  Layer 3: memories as data; few, the same, right: contracts.
  Layer 3: a word put: contract.
  Layer 3: loading and storing: contracts.
  Layer 3: what putting, storing and clearing leave: plain lists, no program in sight.
  Layer 3: clearing, and the reference's putting: contracts.
  Layer 2 and 3: the reference's bytes, its loading and storing: contracts.
  Layer 3: bits of what is stored and loaded: plain numbers, no program in sight.
  Layer 3: are memories the same: contract.
-/
import Derived.Test.YtffahdloddkcfaaStep
import Derived.Test.YtffahdloddkcfaaIrM
import Derived.Test.YtffahdloddkcfaaSli
import Derived.Test.YtffahdloddkcfaaSlg
namespace Go.Proofs.Ytffahdloddkcfaa.Sx
open Go
set_option linter.unusedVariables false
set_option linter.unusedSimpArgs false
set_option maxRecDepth 100000

/-- a cell: a word's place, and its value -/
abbrev Cl := Nat × Nat
abbrev crow (c : Cl) : List D := [U c.1, U c.2]
abbrev crs (cs : List Cl) : List (List D) := cs.map crow
/-- a memory -/
abbrev md (k s : Nat) (cs : List Cl) : DV := (true, [U s, .sl k (crs cs)])
/-- the width of its rows: without any it may be told as none -/
def Kd (k : Nat) (cs : List Cl) : Prop := k = 2 ∨ (k = 0 ∧ cs = [])
theorem Kd.two {k : Nat} {cs : List Cl} (h : Kd k cs) (hl : 0 < cs.length) : k = 2 := by
  rcases h with h | ⟨_, h⟩
  · exact h
  · rw [h] at hl; cases hl
def COk (cs : List Cl) : Prop := ∀ c ∈ cs, c.1 < 18446744073709551616 ∧ c.2 < 18446744073709551616
theorem crow_of {cs : List Cl} {j : Nat} {c : Cl} (h : cs[j]? = some c) : (crs cs)[j]? = some (crow c) := by
  rw [List.getElem?_map, h]; rfl
theorem crs_len {cs : List Cl} : (crs cs).length = cs.length := List.length_map ..

theorem few_con {k s : Nat} {cs : List Cl} : Cn gAll 10 [md k s cs] [bb (decide (cs.length ≤ 300))] := by
  refine con rfl rfl atlasref03_Few_c atlasref03_Few_p rfl ?_
  unfold atlasref03_Few_ir
  simp only [lv_cons, lv_nil, app_cons, app_nil]
  refine wp_lt (len_is rfl crs_len) ?_
  simp only [lv_cons, lv_nil, app_cons, app_nil]
  refine wp_lt rfl ?_
  simp only [lv_cons, lv_nil, app_cons, app_nil]
  refine wp_return rfl (bb_iff ?_)
  simp only [decide_eq_true_eq]
  omega

/-- the same memories -/
theorem sameM_con {k k' s : Nat} {cs : List Cl} (hk : Kd k cs) (hk' : Kd k' cs) (hl : cs.length < 9223372036854775808) : Cn gAll 13 [md k s cs, md k' s cs] [bb true] := by
  refine con rfl rfl atlasref03_Same_c atlasref03_Same_p rfl ?_
  unfold atlasref03_Same_ir
  simp only [lv_cons, lv_nil, app_cons, app_nil]
  refine wp_lt (d := .b false) (cmp_e rfl (bne_self_eq_false _)) ?_
  simp only [lv_cons, lv_nil, app_cons, app_nil]
  refine wp_ite (t := false) rfl (fun h => by cases h) (fun _ => ?_)
  refine wp_lt (len_is rfl crs_len) ?_
  simp only [lv_cons, lv_nil, app_cons, app_nil]
  refine wp_lt (len_is rfl crs_len) ?_
  simp only [lv_cons, lv_nil, app_cons, app_nil]
  refine wp_lt (d := .b false) (cmp_e rfl (bne_self_eq_false _)) ?_
  simp only [lv_cons, lv_nil, app_cons, app_nil]
  refine wp_ite (t := false) rfl (fun h => by cases h) (fun _ => ?_)
  refine wp_rounds (fun m ds => ∃ (b : Bool) (n : Nat), ds = [.b b, I n] ∧ n + m = cs.length + 1 ∧ n ≤ cs.length) (cs.length + 1) rfl ⟨_, 0, rfl, by omega, by omega⟩ ?_
    (fun es hes => by obtain ⟨_, n, _, h1, h2⟩ := hes; omega)
  rintro m es Q ⟨b, n, rfl, hm, hle⟩ hQ
  simp only [lv_cons, lv_nil, app_cons, app_nil]
  refine wp_lt (len_is rfl crs_len) ?_
  simp only [lv_cons, lv_nil, app_cons, app_nil]
  refine wp_lt rfl ?_
  simp only [lv_cons, lv_nil, app_cons, app_nil]
  refine wp_ite rfl (fun hc => ?_) (fun hc => ?_)
  · have hc := of_decide_eq_true hc
    have hnl : n < cs.length := by omega
    obtain rfl := hk.two (by omega)
    obtain rfl := hk'.two (by omega)
    obtain ⟨c, hcs⟩ : ∃ c, cs[n]? = some c := ⟨_, List.getElem?_eq_getElem hnl⟩
    have hrow := crow_of hcs
    refine wp_chk (inb_t rfl rfl (by rw [crs_len]; exact hnl)) ?_
    refine wp_chk (inb_t rfl rfl (by rw [crs_len]; exact hnl)) ?_
    refine wp_lt (not_e (t := true) (ite_t (eqs_i (idx_e rfl rfl hrow rfl) (idx_e rfl rfl hrow rfl)) (ite_t (eqs_i (idx_e rfl rfl hrow rfl) (idx_e rfl rfl hrow rfl)) rfl))) ?_
    simp only [lv_cons, lv_nil, app_cons, app_nil]
    refine wp_ite (t := false) rfl (fun h => by cases h) (fun _ => ?_)
    refine wp_lt (i_add (a := (n : Int)) (b := 1) rfl rfl (by omega) (by omega)) ?_
    simp only [lv_cons, lv_nil, app_cons, app_nil]
    exact wp_cont rfl rfl (hQ _ ⟨_, n + 1, rfl, by omega, by omega⟩)
  · exact wp_return rfl rfl

/-! ### right memories -/
def cellOk (s : Nat) (cs : List Cl) (j : Nat) : Prop := ∀ c, cs[j]? = some c → c.2 ≠ 0 ∧ c.1 < s / 8 ∧ ∀ b, 0 < j → cs[j - 1]? = some b → b.1 < c.1
instance : ∀ s cs j, Decidable (cellOk s cs j) := fun s cs j => by
  unfold cellOk
  cases cs[j]? with
  | none => exact isTrue (fun c h => by cases h)
  | some c =>
    by_cases h1 : c.2 ≠ 0 ∧ c.1 < s / 8
    · by_cases h2 : 0 < j
      · cases hb : cs[j - 1]? with
        | none => exact isTrue (fun c' h => by cases h; exact ⟨h1.1, h1.2, fun b _ h => by cases h⟩)
        | some b =>
          by_cases h3 : b.1 < c.1
          · exact isTrue (fun c' h => by cases h; exact ⟨h1.1, h1.2, fun b' _ h => by cases h; exact h3⟩)
          · exact isFalse (fun h => h3 ((h c rfl).2.2 b h2 rfl))
      · exact isTrue (fun c' h => by cases h; exact ⟨h1.1, h1.2, fun b h => absurd h h2⟩)
    · exact isFalse (fun h => h1 ⟨(h c rfl).1, (h c rfl).2.1⟩)
def rightM (s : Nat) (cs : List Cl) : Bool := decide (s % 4096 = 0) && decide (s ≤ 1099511627776) && (List.range cs.length).all fun j => decide (cellOk s cs j)
theorem rightM_iff {s : Nat} {cs : List Cl} : rightM s cs = true ↔ s % 4096 = 0 ∧ s ≤ 1099511627776 ∧ ∀ j, cellOk s cs j := by
  simp only [rightM, Bool.and_eq_true, decide_eq_true_eq, List.all_eq_true, List.mem_range]
  constructor
  · rintro ⟨⟨h1, h2⟩, h3⟩
    refine ⟨h1, h2, fun j c hc => ?_⟩
    exact h3 j (List.getElem?_eq_some_iff.1 hc).1 c hc
  · rintro ⟨h1, h2, h3⟩
    exact ⟨⟨h1, h2⟩, fun j _ => h3 j⟩

section
variable {ρ : List D} {x y : Ex} {k : IntKind} {a b : Int}
theorem e_eql (hx : x.eval ρ = some (.i k a)) (hy : y.eval ρ = some (.i k b)) : (Ex.bin .eql x y).eval ρ = some (.b (a == b)) := by simp [Ex.eval, hx, hy, binD]
theorem e_neq (hx : x.eval ρ = some (.i k a)) (hy : y.eval ρ = some (.i k b)) : (Ex.bin .neq x y).eval ρ = some (.b (a != b)) := by simp [Ex.eval, hx, hy, binD]
theorem e_lss (hx : x.eval ρ = some (.i k a)) (hy : y.eval ρ = some (.i k b)) : (Ex.bin .lss x y).eval ρ = some (.b (decide (a < b))) := by simp [Ex.eval, hx, hy, binD]
theorem e_leq (hx : x.eval ρ = some (.i k a)) (hy : y.eval ρ = some (.i k b)) : (Ex.bin .leq x y).eval ρ = some (.b (decide (a ≤ b))) := by simp [Ex.eval, hx, hy, binD]
theorem e_gtr (hx : x.eval ρ = some (.i k a)) (hy : y.eval ρ = some (.i k b)) : (Ex.bin .gtr x y).eval ρ = some (.b (decide (a > b))) := by simp [Ex.eval, hx, hy, binD]
theorem e_geq (hx : x.eval ρ = some (.i k a)) (hy : y.eval ρ = some (.i k b)) : (Ex.bin .geq x y).eval ρ = some (.b (decide (a ≥ b))) := by simp [Ex.eval, hx, hy, binD]
end
theorem rightM_not {s : Nat} {cs : List Cl} {j : Nat} (h : ¬ cellOk s cs j) : rightM s cs = false := by
  rw [Bool.eq_false_iff]
  intro h'
  exact h ((rightM_iff.1 h').2.2 j)
theorem cellOk_past {s : Nat} {cs : List Cl} {j : Nat} (h : cs.length ≤ j) : cellOk s cs j := fun c hc => by
  have := (List.getElem?_eq_some_iff.1 hc).1
  omega

theorem memRight_con {k s : Nat} {cs : List Cl} (hk : Kd k cs) (hs : s < 18446744073709551616) (hl : cs.length < 9223372036854775808) : Cn gAll 14 [md k s cs] [bb (rightM s cs)] := by
  refine con rfl rfl mem_Right_c mem_Right_p rfl ?_
  unfold mem_Right_ir
  simp only [lv_cons, lv_nil, app_cons, app_nil]
  refine wp_lt (len_is rfl crs_len) ?_
  simp only [lv_cons, lv_nil, app_cons, app_nil]
  refine wp_rounds (fun m ds => ∃ (b : Bool) (n : Nat), ds = [.b b, I n] ∧ n + m = cs.length + 1 ∧ n ≤ cs.length ∧ ∀ j, j < n → cellOk s cs j) (cs.length + 1) rfl ⟨_, 0, rfl, by omega, by omega, fun j hj => by omega⟩ ?_
    (fun es hes => by obtain ⟨_, n, _, h1, h2, _⟩ := hes; omega)
  rintro m es Q ⟨b, n, rfl, hm, hle, hh⟩ hQ
  simp only [lv_cons, lv_nil, app_cons, app_nil]
  refine wp_lt rfl ?_
  simp only [lv_cons, lv_nil, app_cons, app_nil]
  refine wp_ite rfl (fun hc => ?_) (fun hc => ?_)
  · have hc := of_decide_eq_true hc
    have hnl : n < cs.length := by omega
    obtain rfl := hk.two (by omega)
    obtain ⟨c, hcs⟩ : ∃ c, cs[n]? = some c := ⟨_, List.getElem?_eq_getElem hnl⟩
    have hrow := crow_of hcs
    refine wp_chk (inb_t rfl rfl (by rw [crs_len]; exact hnl)) ?_
    refine wp_lt (e_eql (idx_e rfl rfl hrow rfl) rfl) ?_
    simp only [lv_cons, lv_nil, app_cons, app_nil]
    refine wp_ite rfl (fun h1 => ?_) (fun h1 => ?_)
    · refine wp_return rfl (bb_eq (rightM_not (j := n) fun h => ?_).symm)
      have h1 : c.2 = 0 := by simpa using h1
      exact (h c hcs).1 h1
    have h1 : c.2 ≠ 0 := by simpa using h1
    refine wp_lt (u_quo (b := 8) rfl rfl (by omega) hs) ?_
    simp only [lv_cons, lv_nil, app_cons, app_nil]
    refine wp_lt (e_geq (idx_e rfl rfl hrow rfl) rfl) ?_
    simp only [lv_cons, lv_nil, app_cons, app_nil]
    refine wp_ite rfl (fun h2 => ?_) (fun h2 => ?_)
    · have h2 := of_decide_eq_true h2
      refine wp_return rfl (bb_eq (rightM_not (j := n) fun h => ?_).symm)
      have := (h c hcs).2.1
      omega
    have h2 := of_decide_eq_false h2
    refine wp_lt rfl ?_
    simp only [lv_cons, lv_nil, app_cons, app_nil]
    refine wp_ite rfl (fun h3 => ?_) (fun h3 => ?_)
    · have h3 := of_decide_eq_true h3
      obtain ⟨b', hbs⟩ : ∃ c, cs[n - 1]? = some c := ⟨_, List.getElem?_eq_getElem (by omega)⟩
      have hrow' := crow_of hbs
      refine wp_lt (d := I (n - 1 : Nat)) ((i_sub (a := (n : Int)) (b := 1) rfl rfl (by omega) (by omega)).trans (by rw [show (n : Int) - 1 = ((n - 1 : Nat) : Int) by omega])) ?_
      simp only [lv_cons, lv_nil, app_cons, app_nil]
      refine wp_chk (inb_t rfl rfl (by rw [crs_len]; omega)) ?_
      refine wp_lt (e_geq (idx_e rfl rfl hrow' rfl) (idx_e rfl rfl hrow rfl)) ?_
      simp only [lv_cons, lv_nil, app_cons, app_nil]
      refine wp_ite rfl (fun h4 => ?_) (fun h4 => ?_)
      · have h4 := of_decide_eq_true h4
        refine wp_return rfl (bb_eq (rightM_not (j := n) fun h => ?_).symm)
        have := (h c hcs).2.2 b' (by omega) hbs
        omega
      have h4 := of_decide_eq_false h4
      refine wp_lt (i_add (a := (n : Int)) (b := 1) rfl rfl (by omega) (by omega)) ?_
      simp only [lv_cons, lv_nil, app_cons, app_nil]
      refine wp_cont rfl rfl (hQ _ ⟨_, n + 1, rfl, by omega, by omega, fun j hj => ?_⟩)
      by_cases hjn : j = n
      · subst hjn
        intro c' hc'
        rw [hcs] at hc'
        cases hc'
        exact ⟨h1, by omega, fun b'' _ hb'' => by rw [hbs] at hb''; cases hb''; omega⟩
      · exact hh j (by omega)
    · have h3 := of_decide_eq_false h3
      refine wp_lt (i_add (a := (n : Int)) (b := 1) rfl rfl (by omega) (by omega)) ?_
      simp only [lv_cons, lv_nil, app_cons, app_nil]
      refine wp_cont rfl rfl (hQ _ ⟨_, n + 1, rfl, by omega, by omega, fun j hj => ?_⟩)
      by_cases hjn : j = n
      · subst hjn
        intro c' hc'
        rw [hcs] at hc'
        cases hc'
        exact ⟨h1, by omega, fun b'' hb0 _ => by omega⟩
      · exact hh j (by omega)
  · have hc := of_decide_eq_false hc
    obtain rfl : n = cs.length := by omega
    refine wp_call rfl (even_con (a := s) (b := 4096) (by omega)) rfl ?_
    simp only [lv_cons, lv_nil, app_cons, app_nil]
    have hall : ∀ j, cellOk s cs j := fun j => by
      by_cases hj : j < cs.length
      · exact hh j hj
      · exact cellOk_past (by omega)
    refine wp_ite rfl (fun h1 => ?_) (fun h1 => ?_)
    · have h1 := of_decide_eq_true h1
      refine wp_lt rfl ?_
      simp only [lv_cons, lv_nil, app_cons, app_nil]
      refine wp_return rfl (bb_iff ?_)
      rw [rightM_iff]
      simp only [decide_eq_true_eq]
      exact ⟨fun h => ⟨h1, by omega, hall⟩, fun h => by have := h.2.1; omega⟩
    · have h1 := of_decide_eq_false h1
      refine wp_return rfl (bb_iff ?_)
      rw [rightM_iff]
      exact ⟨fun h => (by cases h), fun h => absurd h.1 h1⟩

theorem refRightM_con {k s : Nat} {cs : List Cl} (hk : Kd k cs) (hs : s < 18446744073709551616) (hl : cs.length < 9223372036854775808) : Cn gAll 12 [md k s cs] [bb (rightM s cs)] := by
  refine con rfl rfl atlasref03_Right_c atlasref03_Right_p rfl ?_
  unfold atlasref03_Right_ir
  simp only [lv_cons, lv_nil, app_cons, app_nil]
  refine wp_lt (u_rem (b := 4096) rfl rfl (by omega)) ?_
  simp only [lv_cons, lv_nil, app_cons, app_nil]
  refine wp_lt (e_neq rfl rfl) ?_
  simp only [lv_cons, lv_nil, app_cons, app_nil]
  refine wp_ite rfl (fun h1 => ?_) (fun h1 => ?_)
  · refine wp_return rfl (bb_iff ?_)
    rw [rightM_iff]
    have h1 : ((s % 4096 : Nat) : Int) ≠ 0 := by simpa using h1
    exact ⟨fun h => (by cases h), fun h => absurd (by rw [h.1]; rfl) h1⟩
  have h1 : ((s % 4096 : Nat) : Int) = 0 := by simpa using h1
  refine wp_lt (e_gtr rfl rfl) ?_
  simp only [lv_cons, lv_nil, app_cons, app_nil]
  refine wp_ite rfl (fun h2 => ?_) (fun h2 => ?_)
  · have h2 := of_decide_eq_true h2
    refine wp_return rfl (bb_iff ?_)
    rw [rightM_iff]
    exact ⟨fun h => (by cases h), fun h => by have := h.2.1; omega⟩
  have h2 := of_decide_eq_false h2
  refine wp_rounds (fun m ds => ∃ (b : Bool) (n : Nat), ds = [.b b, I n] ∧ n + m = cs.length + 1 ∧ n ≤ cs.length ∧ ∀ j, j < n → cellOk s cs j) (cs.length + 1) rfl ⟨_, 0, rfl, by omega, by omega, fun j hj => by omega⟩ ?_
    (fun es hes => by obtain ⟨_, n, _, h1, h2, _⟩ := hes; omega)
  rintro m es Q ⟨b, n, rfl, hm, hle, hh⟩ hQ
  simp only [lv_cons, lv_nil, app_cons, app_nil]
  refine wp_lt (len_is rfl crs_len) ?_
  simp only [lv_cons, lv_nil, app_cons, app_nil]
  refine wp_lt rfl ?_
  simp only [lv_cons, lv_nil, app_cons, app_nil]
  refine wp_ite rfl (fun hc => ?_) (fun hc => ?_)
  · have hc := of_decide_eq_true hc
    have hnl : n < cs.length := by omega
    obtain rfl := hk.two (by omega)
    obtain ⟨c, hcs⟩ : ∃ c, cs[n]? = some c := ⟨_, List.getElem?_eq_getElem hnl⟩
    have hrow := crow_of hcs
    refine wp_chk (inb_t rfl rfl (by rw [crs_len]; exact hnl)) ?_
    refine wp_lt (e_eql (idx_e rfl rfl hrow rfl) rfl) ?_
    simp only [lv_cons, lv_nil, app_cons, app_nil]
    refine wp_ite rfl (fun h3 => ?_) (fun h3 => ?_)
    · refine wp_return rfl (bb_eq (rightM_not (j := n) fun h => ?_).symm)
      have h3 : c.2 = 0 := by simpa using h3
      exact (h c hcs).1 h3
    have h3 : c.2 ≠ 0 := by simpa using h3
    refine wp_chk (inb_t rfl rfl (by rw [crs_len]; exact hnl)) ?_
    refine wp_lt (u_quo (b := 8) rfl rfl (by omega) hs) ?_
    simp only [lv_cons, lv_nil, app_cons, app_nil]
    refine wp_lt (e_geq (idx_e rfl rfl hrow rfl) rfl) ?_
    simp only [lv_cons, lv_nil, app_cons, app_nil]
    refine wp_ite rfl (fun h4 => ?_) (fun h4 => ?_)
    · have h4 := of_decide_eq_true h4
      refine wp_return rfl (bb_eq (rightM_not (j := n) fun h => ?_).symm)
      have := (h c hcs).2.1
      omega
    have h4 := of_decide_eq_false h4
    refine wp_lt rfl ?_
    simp only [lv_cons, lv_nil, app_cons, app_nil]
    refine wp_ite rfl (fun h5 => ?_) (fun h5 => ?_)
    · have h5 := of_decide_eq_true h5
      obtain ⟨b', hbs⟩ : ∃ c, cs[n - 1]? = some c := ⟨_, List.getElem?_eq_getElem (by omega)⟩
      have hrow' := crow_of hbs
      refine wp_chk (inb_t rfl rfl (by rw [crs_len]; exact hnl)) ?_
      refine wp_lt (d := I (n - 1 : Nat)) ((i_sub (a := (n : Int)) (b := 1) rfl rfl (by omega) (by omega)).trans (by rw [show (n : Int) - 1 = ((n - 1 : Nat) : Int) by omega])) ?_
      simp only [lv_cons, lv_nil, app_cons, app_nil]
      refine wp_chk (inb_t rfl rfl (by rw [crs_len]; omega)) ?_
      refine wp_lt (e_leq (idx_e rfl rfl hrow rfl) (idx_e rfl rfl hrow' rfl)) ?_
      simp only [lv_cons, lv_nil, app_cons, app_nil]
      refine wp_ite rfl (fun h6 => ?_) (fun h6 => ?_)
      · have h6 := of_decide_eq_true h6
        refine wp_return rfl (bb_eq (rightM_not (j := n) fun h => ?_).symm)
        have := (h c hcs).2.2 b' (by omega) hbs
        omega
      have h6 := of_decide_eq_false h6
      refine wp_lt (i_add (a := (n : Int)) (b := 1) rfl rfl (by omega) (by omega)) ?_
      simp only [lv_cons, lv_nil, app_cons, app_nil]
      refine wp_cont rfl rfl (hQ _ ⟨_, n + 1, rfl, by omega, by omega, fun j hj => ?_⟩)
      by_cases hjn : j = n
      · subst hjn
        intro c' hc'
        rw [hcs] at hc'
        cases hc'
        exact ⟨h3, by omega, fun b'' _ hb'' => by rw [hbs] at hb''; cases hb''; omega⟩
      · exact hh j (by omega)
    · have h5 := of_decide_eq_false h5
      refine wp_lt (i_add (a := (n : Int)) (b := 1) rfl rfl (by omega) (by omega)) ?_
      simp only [lv_cons, lv_nil, app_cons, app_nil]
      refine wp_cont rfl rfl (hQ _ ⟨_, n + 1, rfl, by omega, by omega, fun j hj => ?_⟩)
      by_cases hjn : j = n
      · subst hjn
        intro c' hc'
        rw [hcs] at hc'
        cases hc'
        exact ⟨h3, by omega, fun b'' hb0 _ => by omega⟩
      · exact hh j (by omega)
  · have hc := of_decide_eq_false hc
    obtain rfl : n = cs.length := by omega
    refine wp_return rfl (bb_iff ?_)
    rw [rightM_iff]
    refine ⟨fun _ => ⟨by omega, by omega, fun j => ?_⟩, fun _ => rfl⟩
    by_cases hj : j < cs.length
    · exact hh j hj
    · exact cellOk_past (by omega)

theorem memNew_con {n : Nat} (hn : n < 18446744073709551616) : Cn gAll 11 [u n] (if rightM n [] then [md 0 n [], i 0] else [md 0 0 [], i 1]) := by
  refine con rfl rfl mem_New_c mem_New_p rfl ?_
  unfold mem_New_ir
  simp only [lv_cons, lv_nil, app_cons, app_nil]
  refine wp_call rfl (memRight_con (k := 0) (cs := []) (.inr ⟨rfl, rfl⟩) hn (by decide)) rfl ?_
  simp only [lv_cons, lv_nil, app_cons, app_nil]
  refine wp_lt rfl ?_
  simp only [lv_cons, lv_nil, app_cons, app_nil]
  refine wp_ite rfl (fun h => ?_) (fun h => ?_)
  · have h : rightM n [] = false := by simpa using h
    rw [h]
    exact wp_return rfl rfl
  · have h : rightM n [] = true := by simpa using h
    rw [h]
    exact wp_return rfl rfl

/-! ### where a word is -/
def Asc (cs : List Cl) : Prop := cs.Pairwise (fun a b => a.1 < b.1)
theorem asc_of {s : Nat} {cs : List Cl} (h : rightM s cs = true) : Asc cs := by
  have hc := (rightM_iff.1 h).2.2
  unfold Asc
  rw [List.pairwise_iff_getElem]
  intro i j hi hj hij
  induction j with
  | zero => omega
  | succ j ih =>
    have h1 := (hc (j + 1) _ (List.getElem?_eq_getElem hj)).2.2 cs[j] (by omega) (List.getElem?_eq_getElem (by omega))
    by_cases he : i = j
    · subst he; exact h1
    · exact Nat.lt_trans (ih (by omega) (by omega)) h1
/-- how many cells lie below -/
def lowN (cs : List Cl) (a : Nat) : Nat := (cs.filter fun c => decide (c.1 < a)).length
theorem lowN_le {cs : List Cl} {a : Nat} : lowN cs a ≤ cs.length := List.length_filter_le _ _
theorem low_iff {a : Nat} : ∀ {cs : List Cl} {j : Nat} {c : Cl}, Asc cs → cs[j]? = some c → (c.1 < a ↔ j < lowN cs a)
  | [], j, c, _, h => by simp at h
  | d :: ds, j, c, hs, h => by
    obtain ⟨hd, hds⟩ := List.pairwise_cons.1 hs
    by_cases hda : d.1 < a
    · have e : lowN (d :: ds) a = lowN ds a + 1 := by unfold lowN; rw [List.filter_cons_of_pos (by simpa using hda)]; rfl
      rw [e]
      cases j with
      | zero =>
        obtain rfl : d = c := by simpa using h
        exact ⟨fun _ => by omega, fun _ => hda⟩
      | succ j =>
        have := low_iff (a := a) hds (show ds[j]? = some c by simpa using h)
        omega
    · have hall : ∀ x ∈ d :: ds, ¬ x.1 < a := fun x hx => by
        rcases List.mem_cons.1 hx with rfl | hx
        · exact hda
        · have := hd x hx; omega
      have e : lowN (d :: ds) a = 0 := by
        unfold lowN
        rw [List.length_eq_zero_iff, List.filter_eq_nil_iff]
        intro x hx
        simpa using hall x hx
      rw [e]
      have := hall c (List.mem_of_getElem? h)
      omega
def hasN (cs : List Cl) (a : Nat) : Bool := match cs[lowN cs a]? with | some c => c.1 == a | none => false
theorem memFind_con {k s a : Nat} {cs : List Cl} (hk : Kd k cs) (hs : Asc cs) (hl : cs.length < 4611686018427387904) : Cn gAll 36 [md k s cs, u a] [i (lowN cs a), bb (hasN cs a)] := by
  refine con rfl rfl mem_find_c mem_find_p rfl ?_
  unfold mem_find_ir
  simp only [lv_cons, lv_nil, app_cons, app_nil]
  refine wp_lt (len_is rfl crs_len) ?_
  simp only [lv_cons, lv_nil, app_cons, app_nil]
  refine wp_rounds (fun m ds => ∃ (lo hi : Nat), ds = [I lo, I hi] ∧ lo ≤ lowN cs a ∧ lowN cs a ≤ hi ∧ hi ≤ cs.length ∧ hi - lo + 1 ≤ m) (cs.length + 1) rfl ⟨0, cs.length, rfl, by omega, lowN_le, by omega, by omega⟩ ?_
    (fun es hes => by obtain ⟨_, _, _, _, _, _, h⟩ := hes; omega)
  rintro m es Q ⟨lo, hi, rfl, h1, h2, h3, hm⟩ hQ
  simp only [lv_cons, lv_nil, app_cons, app_nil]
  refine wp_lt rfl ?_
  simp only [lv_cons, lv_nil, app_cons, app_nil]
  refine wp_ite rfl (fun hc => ?_) (fun hc => ?_)
  · have hc := of_decide_eq_true hc
    refine wp_lt (d := I (lo + hi : Nat)) ((i_add (a := (lo : Int)) (b := (hi : Int)) rfl rfl (by omega) (by omega)).trans (by rw [Int.natCast_add])) ?_
    simp only [lv_cons, lv_nil, app_cons, app_nil]
    refine wp_lt (cv_u rfl (by omega)) ?_
    simp only [lv_cons, lv_nil, app_cons, app_nil]
    refine wp_lt (u_shr (b := 1) rfl rfl (by omega)) ?_
    simp only [lv_cons, lv_nil, app_cons, app_nil]
    rw [show (lo + hi) / 2 ^ 1 = (lo + hi) / 2 from rfl]
    refine wp_lt (cv_i (n := ((lo + hi) / 2 : Nat)) rfl (by omega) (by omega)) ?_
    simp only [lv_cons, lv_nil, app_cons, app_nil]
    have hml : (lo + hi) / 2 < hi := by omega
    have hmg : lo ≤ (lo + hi) / 2 := by omega
    generalize (lo + hi) / 2 = mid at hml hmg ⊢
    obtain rfl := hk.two (by omega)
    obtain ⟨c, hcs⟩ : ∃ c, cs[mid]? = some c := ⟨_, List.getElem?_eq_getElem (by omega)⟩
    have hrow := crow_of hcs
    have hlow := low_iff (a := a) hs hcs
    refine wp_chk (inb_t rfl rfl (by rw [crs_len]; omega)) ?_
    refine wp_lt (d := .b false) (cmp_e (e_neq (idx_e rfl rfl hrow rfl) (idx_e rfl rfl hrow rfl)) (bne_self_eq_false _)) ?_
    simp only [lv_cons, lv_nil, app_cons, app_nil]
    refine wp_lt (d := .b false) (cmp_e rfl (bne_self_eq_false _)) ?_
    simp only [lv_cons, lv_nil, app_cons, app_nil]
    refine wp_ite (t := false) rfl (fun h => by cases h) (fun _ => ?_)
    refine wp_ite (t := false) rfl (fun h => by cases h) (fun _ => ?_)
    refine wp_lt (e_lss (idx_e rfl rfl hrow rfl) rfl) ?_
    simp only [lv_cons, lv_nil, app_cons, app_nil]
    refine wp_ite rfl (fun h4 => ?_) (fun h4 => ?_)
    · have h4 := of_decide_eq_true h4
      refine wp_lt (i_add (a := (mid : Int)) (b := 1) rfl rfl (by omega) (by omega)) ?_
      simp only [lv_cons, lv_nil, app_cons, app_nil]
      exact wp_cont rfl rfl (hQ _ ⟨mid + 1, hi, rfl, by omega, h2, h3, by omega⟩)
    · have h4 := of_decide_eq_false h4
      refine wp_lt (e_gtr (idx_e rfl rfl hrow rfl) rfl) ?_
      simp only [lv_cons, lv_nil, app_cons, app_nil]
      refine wp_ite rfl (fun _ => ?_) (fun _ => ?_) <;> exact wp_cont rfl rfl (hQ _ ⟨lo, mid, rfl, h1, by omega, by omega, by omega⟩)
  · have hc := of_decide_eq_false hc
    obtain rfl : lo = lowN cs a := by omega
    refine wp_lt rfl ?_
    simp only [lv_cons, lv_nil, app_cons, app_nil]
    refine wp_ite rfl (fun h4 => ?_) (fun h4 => ?_)
    · have h4 := of_decide_eq_true h4
      obtain rfl := hk.two (by omega)
      obtain ⟨c, hcs⟩ : ∃ c, cs[lowN cs a]? = some c := ⟨_, List.getElem?_eq_getElem (by omega)⟩
      have hrow := crow_of hcs
      have hlow := low_iff (a := a) hs hcs
      have hh : hasN cs a = (c.1 == a) := by unfold hasN; rw [hcs]
      rw [hh]
      clear hh
      generalize lowN cs a = q at hrow hlow h4 hcs ⊢
      refine wp_chk (inb_t rfl rfl (by rw [crs_len]; omega)) ?_
      refine wp_lt (d := .b false) (cmp_e (e_neq (idx_e rfl rfl hrow rfl) (idx_e rfl rfl hrow rfl)) (bne_self_eq_false _)) ?_
      simp only [lv_cons, lv_nil, app_cons, app_nil]
      refine wp_lt (d := .b false) (cmp_e rfl (bne_self_eq_false _)) ?_
      simp only [lv_cons, lv_nil, app_cons, app_nil]
      refine wp_ite (t := false) rfl (fun h => by cases h) (fun _ => ?_)
      refine wp_ite (t := false) rfl (fun h => by cases h) (fun _ => ?_)
      refine wp_lt (e_lss (idx_e rfl rfl hrow rfl) rfl) ?_
      simp only [lv_cons, lv_nil, app_cons, app_nil]
      refine wp_ite rfl (fun h5 => ?_) (fun h5 => ?_)
      · have h5 := of_decide_eq_true h5
        omega
      have h5 := of_decide_eq_false h5
      refine wp_lt (e_gtr (idx_e rfl rfl hrow rfl) rfl) ?_
      simp only [lv_cons, lv_nil, app_cons, app_nil]
      refine wp_ite rfl (fun h6 => ?_) (fun h6 => ?_)
      · have h6 := of_decide_eq_true h6
        have : (c.1 == a) = false := beq_eq_false_iff_ne.2 (by omega)
        rw [this]
        exact wp_return rfl rfl
      · have h6 := of_decide_eq_false h6
        have : (c.1 == a) = true := beq_iff_eq.2 (by omega)
        rw [this]
        exact wp_return rfl rfl
    · have h4 := of_decide_eq_false h4
      have hh : hasN cs a = false := by unfold hasN; rw [List.getElem?_eq_none (by omega)]
      rw [hh]
      exact wp_return rfl rfl

/-- a word's value, by its place -/
def lookN (cs : List Cl) (p : Nat) : Nat := match cs[lowN cs p]? with | some c => if c.1 = p then c.2 else 0 | none => 0
def wordN (s : Nat) (cs : List Cl) (a : Nat) : Nat := if s ≤ a then 0 else lookN cs (a / 8)
theorem lookN_not {cs : List Cl} {p : Nat} (h : hasN cs p = false) : lookN cs p = 0 := by
  unfold hasN at h
  unfold lookN
  split
  · rename_i c hc
    rw [hc] at h
    rw [if_neg]
    simpa using h
  · rfl
theorem lookN_of {cs : List Cl} {p j : Nat} {c : Cl} (hs : Asc cs) (hc : cs[j]? = some c) (h : c.1 = p) : lowN cs p = j ∧ lookN cs p = c.2 := by
  have hj := (List.getElem?_eq_some_iff.1 hc).1
  have h1 : ¬ j < lowN cs p := fun h' => by
    have := (low_iff hs hc).2 h'
    omega
  have h2 : ¬ lowN cs p < j := fun h' => by
    obtain ⟨d, hd⟩ : ∃ d, cs[lowN cs p]? = some d := ⟨_, List.getElem?_eq_getElem (by omega)⟩
    have h3 := low_iff (a := p) hs hd
    have h4 : d.1 < c.1 := by
      have := List.pairwise_iff_getElem.1 hs (lowN cs p) j (by omega) hj h'
      rw [List.getElem?_eq_getElem (by omega)] at hd
      rw [List.getElem?_eq_getElem hj] at hc
      cases hd
      cases hc
      exact this
    omega
  have h3 : lowN cs p = j := by omega
  refine ⟨h3, ?_⟩
  unfold lookN
  rw [h3, hc]
  exact if_pos h
theorem memWord_con {k s a : Nat} {cs : List Cl} (hk : Kd k cs) (hs : Asc cs) (hl : cs.length < 4611686018427387904) (ha : a < 18446744073709551616) : Cn gAll 19 [md k s cs, u a] [u (wordN s cs a)] := by
  refine con rfl rfl mem_Word_c mem_Word_p rfl ?_
  unfold mem_Word_ir
  simp only [lv_cons, lv_nil, app_cons, app_nil]
  refine wp_lt (u_quo (b := 8) rfl rfl (by omega) ha) ?_
  simp only [lv_cons, lv_nil, app_cons, app_nil]
  refine wp_call rfl (memFind_con (s := s) (a := a / 8) hk hs hl) rfl ?_
  simp only [lv_cons, lv_nil, app_cons, app_nil]
  refine wp_lt rfl ?_
  simp only [lv_cons, lv_nil, app_cons, app_nil]
  refine wp_ite rfl (fun h1 => ?_) (fun h1 => ?_)
  · have h1 : hasN cs (a / 8) = false := by simpa using h1
    refine wp_return rfl ?_
    unfold wordN
    rw [lookN_not h1]
    split <;> rfl
  have h1 : hasN cs (a / 8) = true := by simpa using h1
  refine wp_lt (e_geq rfl rfl) ?_
  simp only [lv_cons, lv_nil, app_cons, app_nil]
  refine wp_ite rfl (fun h2 => ?_) (fun h2 => ?_)
  · have h2 := of_decide_eq_true h2
    refine wp_return rfl ?_
    unfold wordN
    rw [if_pos (by omega)]
    rfl
  have h2 := of_decide_eq_false h2
  unfold hasN at h1
  split at h1
  · rename_i c hc
    have h1 : c.1 = a / 8 := by simpa using h1
    have hj := (List.getElem?_eq_some_iff.1 hc).1
    obtain rfl := hk.two (by omega)
    refine wp_chk (inb_t rfl rfl (by rw [crs_len]; omega)) ?_
    refine wp_return (evs_cons (evs_one (idx_e rfl rfl (crow_of hc) rfl)) rfl) ?_
    unfold wordN
    rw [if_neg (by omega), (lookN_of hs hc h1).2]
  · cases h1
theorem refWord_con {k s a : Nat} {cs : List Cl} (hk : Kd k cs) (hs : Asc cs) (hl : cs.length < 4611686018427387904) (ha : a < 18446744073709551616) : Cn gAll 20 [md k s cs, u a] [u (wordN s cs a)] := by
  refine con rfl rfl atlasref03_Word_c atlasref03_Word_p rfl ?_
  unfold atlasref03_Word_ir
  simp only [lv_cons, lv_nil, app_cons, app_nil]
  refine wp_lt (e_geq rfl rfl) ?_
  simp only [lv_cons, lv_nil, app_cons, app_nil]
  refine wp_ite rfl (fun h0 => ?_) (fun h0 => ?_)
  · have h0 := of_decide_eq_true h0
    refine wp_return rfl ?_
    unfold wordN
    rw [if_pos (by omega)]
    rfl
  have h0 := of_decide_eq_false h0
  have hw : wordN s cs a = lookN cs (a / 8) := by unfold wordN; rw [if_neg (by omega)]
  rw [hw]
  refine wp_lt (len_is rfl crs_len) ?_
  simp only [lv_cons, lv_nil, app_cons, app_nil]
  refine wp_rounds (fun m ds => ∃ (d : D) (lo hi : Nat), ds = [d, I lo, I hi] ∧ lo ≤ lowN cs (a / 8) ∧ hi ≤ cs.length ∧ (∀ j c, cs[j]? = some c → c.1 = a / 8 → j < hi) ∧ lowN cs (a / 8) ≤ hi ∧ hi - lo + 1 ≤ m) (cs.length + 1) rfl ⟨_, 0, cs.length, rfl, by omega, by omega, fun j c hc _ => (List.getElem?_eq_some_iff.1 hc).1, lowN_le, by omega⟩ ?_
    (fun es hes => by obtain ⟨_, _, _, _, _, _, _, _, h⟩ := hes; omega)
  rintro m es Q ⟨d, lo, hi, rfl, h1, h2, h3, h4, hm⟩ hQ
  simp only [lv_cons, lv_nil, app_cons, app_nil]
  refine wp_lt rfl ?_
  simp only [lv_cons, lv_nil, app_cons, app_nil]
  refine wp_ite rfl (fun hc => ?_) (fun hc => ?_)
  · have hc := of_decide_eq_true hc
    refine wp_lt (d := I (lo + hi : Nat)) ((i_add (a := (lo : Int)) (b := (hi : Int)) rfl rfl (by omega) (by omega)).trans (by rw [Int.natCast_add])) ?_
    simp only [lv_cons, lv_nil, app_cons, app_nil]
    refine wp_lt (i_quo (b := 2) rfl rfl (by omega) (by omega)) ?_
    simp only [lv_cons, lv_nil, app_cons, app_nil]
    have hml : (lo + hi) / 2 < hi := by omega
    have hmg : lo ≤ (lo + hi) / 2 := by omega
    generalize (lo + hi) / 2 = mid at hml hmg ⊢
    obtain rfl := hk.two (by omega)
    obtain ⟨c, hcs⟩ : ∃ c, cs[mid]? = some c := ⟨_, List.getElem?_eq_getElem (by omega)⟩
    have hrow := crow_of hcs
    have hlow := low_iff (a := a / 8) hs hcs
    refine wp_chk (inb_t rfl rfl (by rw [crs_len]; omega)) ?_
    refine wp_lt (u_quo (b := 8) rfl rfl (by omega) ha) ?_
    simp only [lv_cons, lv_nil, app_cons, app_nil]
    refine wp_lt (e_eql (idx_e rfl rfl hrow rfl) rfl) ?_
    simp only [lv_cons, lv_nil, app_cons, app_nil]
    refine wp_ite rfl (fun h5 => ?_) (fun h5 => ?_)
    · have h5 : c.1 = a / 8 := by have := beq_iff_eq.1 h5; omega
      refine wp_chk (inb_t rfl rfl (by rw [crs_len]; omega)) ?_
      refine wp_return (evs_cons (evs_one (idx_e rfl rfl hrow rfl)) rfl) ?_
      rw [(lookN_of hs hcs h5).2]
    have h5 : c.1 ≠ a / 8 := by have := beq_eq_false_iff_ne.1 h5; omega
    refine wp_chk (inb_t rfl rfl (by rw [crs_len]; omega)) ?_
    refine wp_lt (u_quo (b := 8) rfl rfl (by omega) ha) ?_
    simp only [lv_cons, lv_nil, app_cons, app_nil]
    refine wp_lt (e_lss (idx_e rfl rfl hrow rfl) rfl) ?_
    simp only [lv_cons, lv_nil, app_cons, app_nil]
    refine wp_ite rfl (fun h6 => ?_) (fun h6 => ?_)
    · have h6 := of_decide_eq_true h6
      refine wp_lt (i_add (a := (mid : Int)) (b := 1) rfl rfl (by omega) (by omega)) ?_
      simp only [lv_cons, lv_nil, app_cons, app_nil]
      exact wp_cont rfl rfl (hQ _ ⟨_, mid + 1, hi, rfl, by omega, h2, h3, h4, by omega⟩)
    · have h6 := of_decide_eq_false h6
      refine wp_cont rfl rfl (hQ _ ⟨_, lo, mid, rfl, h1, by omega, fun j c' hc' he => ?_, by omega, by omega⟩)
      have := (lookN_of hs hc' he).1
      have hjm : j ≠ mid := fun e => by
        subst e
        rw [hcs] at hc'
        cases hc'
        exact h5 he
      omega
  · have hc := of_decide_eq_false hc
    refine wp_return rfl ?_
    have : hasN cs (a / 8) = false := by
      rw [Bool.eq_false_iff]
      intro h
      unfold hasN at h
      split at h
      · rename_i c hcc
        have := h3 _ c hcc (by simpa using h)
        omega
      · cases h
    rw [lookN_not this]
    rfl

/-! ### why bytes are not there -/
def sizeOk (z : Int) : Bool := z == 1 || z == 2 || z == 4 || z == 8
theorem sizeOk_iff {z : Int} : sizeOk z = true ↔ z = 1 ∨ z = 2 ∨ z = 4 ∨ z = 8 := by
  simp only [sizeOk, Bool.or_eq_true, beq_iff_eq, or_assoc]
def wrongN (s a : Nat) (z : Int) : Int := if sizeOk z = true then (if a % z.toNat = 0 then (if s ≤ a then 3 else 0) else 2) else 1
theorem sizeB_con {z : Int} : Cn gAll 38 [i z] [bb (sizeOk z)] := by
  refine con rfl rfl bytes_Size_c bytes_Size_p rfl ?_
  unfold bytes_Size_ir
  simp only [lv_cons, lv_nil, app_cons, app_nil]
  refine wp_lt (e_eql rfl rfl) ?_
  simp only [lv_cons, lv_nil, app_cons, app_nil]
  refine wp_ite rfl (fun h1 => ?_) (fun h1 => ?_)
  · exact wp_return rfl (bb_eq (by simp [sizeOk, h1]))
  refine wp_lt (e_eql rfl rfl) ?_
  simp only [lv_cons, lv_nil, app_cons, app_nil]
  refine wp_ite rfl (fun h2 => ?_) (fun h2 => ?_)
  · exact wp_return rfl (bb_eq (by simp [sizeOk, h2]))
  refine wp_lt (e_eql rfl rfl) ?_
  simp only [lv_cons, lv_nil, app_cons, app_nil]
  refine wp_ite rfl (fun h3 => ?_) (fun h3 => ?_)
  · exact wp_return rfl (bb_eq (by simp [sizeOk, h3]))
  refine wp_lt (e_eql rfl rfl) ?_
  simp only [lv_cons, lv_nil, app_cons, app_nil]
  exact wp_return rfl (bb_eq (by simp only [sizeOk, h1, h2, h3, Bool.false_or]))
theorem sizeR_con {z : Int} : Cn gAll 40 [i z] [bb (sizeOk z)] := by
  refine con rfl rfl atlasref02_Size_c atlasref02_Size_p rfl ?_
  unfold atlasref02_Size_ir
  simp only [lv_cons, lv_nil, app_cons, app_nil]
  refine wp_lt (e_eql rfl rfl) ?_
  simp only [lv_cons, lv_nil, app_cons, app_nil]
  refine wp_ite rfl (fun h1 => ?_) (fun h1 => ?_)
  · exact wp_return rfl (bb_eq (by simp [sizeOk, h1]))
  refine wp_lt (e_eql rfl rfl) ?_
  simp only [lv_cons, lv_nil, app_cons, app_nil]
  refine wp_ite rfl (fun h2 => ?_) (fun h2 => ?_)
  · exact wp_return rfl (bb_eq (by simp [sizeOk, h2]))
  refine wp_lt (e_eql rfl rfl) ?_
  simp only [lv_cons, lv_nil, app_cons, app_nil]
  refine wp_ite rfl (fun h3 => ?_) (fun h3 => ?_)
  · exact wp_return rfl (bb_eq (by simp [sizeOk, h3]))
  refine wp_lt (e_eql rfl rfl) ?_
  simp only [lv_cons, lv_nil, app_cons, app_nil]
  exact wp_return rfl (bb_eq (by simp only [sizeOk, h1, h2, h3, Bool.false_or]))
theorem wrong_con {k s a : Nat} {z : Int} {cs : List Cl} (ha : a < 18446744073709551616) : Cn gAll 27 [md k s cs, u a, i z] [i (wrongN s a z)] := by
  refine con rfl rfl mem_wrong_c mem_wrong_p rfl ?_
  unfold mem_wrong_ir
  simp only [lv_cons, lv_nil, app_cons, app_nil]
  refine wp_call rfl (sizeB_con (z := z)) rfl ?_
  simp only [lv_cons, lv_nil, app_cons, app_nil]
  refine wp_lt rfl ?_
  simp only [lv_cons, lv_nil, app_cons, app_nil]
  refine wp_ite rfl (fun h1 => ?_) (fun h1 => ?_)
  · have h1 : sizeOk z = false := by simpa using h1
    refine wp_return rfl ?_
    unfold wrongN
    rw [h1]
    rfl
  have h1 : sizeOk z = true := by simpa using h1
  have hz := sizeOk_iff.1 h1
  obtain ⟨n, rfl⟩ : ∃ n : Nat, z = (n : Int) := ⟨z.toNat, by omega⟩
  refine wp_lt (cv_u rfl (by omega)) ?_
  simp only [lv_cons, lv_nil, app_cons, app_nil]
  refine wp_call rfl (even_con (a := a) (b := n) (by omega)) rfl ?_
  simp only [lv_cons, lv_nil, app_cons, app_nil]
  refine wp_lt rfl ?_
  simp only [lv_cons, lv_nil, app_cons, app_nil]
  unfold wrongN
  rw [if_pos h1, Int.toNat_natCast]
  refine wp_ite rfl (fun h2 => ?_) (fun h2 => ?_)
  · have h2 : ¬ a % n = 0 := by simpa using h2
    rw [if_neg h2]
    exact wp_return rfl rfl
  have h2 : a % n = 0 := by simpa using h2
  rw [if_pos h2]
  refine wp_lt (e_geq rfl rfl) ?_
  simp only [lv_cons, lv_nil, app_cons, app_nil]
  refine wp_ite rfl (fun h3 => ?_) (fun h3 => ?_)
  · have h3 := of_decide_eq_true h3
    rw [if_pos (by omega)]
    exact wp_return rfl rfl
  · have h3 := of_decide_eq_false h3
    rw [if_neg (by omega)]
    exact wp_return rfl rfl
theorem refWrong_con {k s a : Nat} {z : Int} {cs : List Cl} (ha : a < 18446744073709551616) : Cn gAll 29 [md k s cs, u a, i z] [i (wrongN s a z)] := by
  refine con rfl rfl atlasref03_wrong_c atlasref03_wrong_p rfl ?_
  unfold atlasref03_wrong_ir
  simp only [lv_cons, lv_nil, app_cons, app_nil]
  refine wp_call rfl (sizeR_con (z := z)) rfl ?_
  simp only [lv_cons, lv_nil, app_cons, app_nil]
  refine wp_lt rfl ?_
  simp only [lv_cons, lv_nil, app_cons, app_nil]
  refine wp_ite rfl (fun h1 => ?_) (fun h1 => ?_)
  · have h1 : sizeOk z = false := by simpa using h1
    refine wp_return rfl ?_
    unfold wrongN
    rw [h1]
    rfl
  have h1 : sizeOk z = true := by simpa using h1
  have hz := sizeOk_iff.1 h1
  obtain ⟨n, rfl⟩ : ∃ n : Nat, z = (n : Int) := ⟨z.toNat, by omega⟩
  refine wp_lt (cv_u rfl (by omega)) ?_
  simp only [lv_cons, lv_nil, app_cons, app_nil]
  refine wp_lt (u_rem rfl rfl (by omega)) ?_
  simp only [lv_cons, lv_nil, app_cons, app_nil]
  refine wp_lt (e_neq rfl rfl) ?_
  simp only [lv_cons, lv_nil, app_cons, app_nil]
  unfold wrongN
  rw [if_pos h1, Int.toNat_natCast]
  refine wp_ite rfl (fun h2 => ?_) (fun h2 => ?_)
  · have h2 : ¬ ((a % n : Nat) : Int) = 0 := by simpa using h2
    rw [if_neg (by omega)]
    exact wp_return rfl rfl
  have h2 : ((a % n : Nat) : Int) = 0 := by simpa using h2
  rw [if_pos (by omega)]
  refine wp_lt (e_geq rfl rfl) ?_
  simp only [lv_cons, lv_nil, app_cons, app_nil]
  refine wp_ite rfl (fun h3 => ?_) (fun h3 => ?_)
  · have h3 := of_decide_eq_true h3
    rw [if_pos (by omega)]
    exact wp_return rfl rfl
  · have h3 := of_decide_eq_false h3
    rw [if_neg (by omega)]
    exact wp_return rfl rfl
end Go.Proofs.Ytffahdloddkcfaa.Sx

namespace Go.Proofs.Ytffahdloddkcfaa.Sx
open Go
set_option linter.unusedVariables false
set_option linter.unusedSimpArgs false
set_option maxRecDepth 100000

theorem wk_md {s : Nat} : WkR [md 0 s []] [md 2 s []] := by
  intro I w v h
  obtain ⟨vs, rfl, h⟩ := h
  refine ⟨vs, rfl, ?_⟩
  cases h with
  | cons h1 h =>
    cases h with
    | cons h2 h =>
      cases h
      refine .cons h1 (.cons ?_ .nil)
      generalize hxs : ([] : List (List D)) = xs at h2
      cases h2 with
      | nil _ p cap hz => exact .nil 2 p cap fun h => by cases h
      | sl _ _ _ _ _ _ h0 => omega
/-- the memory behind putting -/
def putM (cs : List Cl) (p v : Nat) : List Cl := cs.take (lowN cs p) ++ ((if v = 0 then [] else [(p, v)]) ++ cs.drop (lowN cs p + (hasN cs p).toNat))
theorem put_del {cs : List Cl} {p : Nat} (h : hasN cs p = true) : crs (putM cs p 0) = (crs cs).take (lowN cs p) ++ (crs cs).drop (lowN cs p + 1) := by
  simp [putM, h, crs, List.map_take, List.map_drop]
theorem put_ins {cs : List Cl} {p v : Nat} (h : hasN cs p = false) (hv : v ≠ 0) : crs (putM cs p v) = insR (crs cs) (lowN cs p) (crow (p, v)) := by
  simp [putM, h, crs, insR, hv, List.map_take, List.map_drop]
theorem put_non {cs : List Cl} {p : Nat} (h : hasN cs p = false) : putM cs p 0 = cs := by
  simp [putM, h]
theorem put_set {cs : List Cl} {p v : Nat} {c : Cl} (hc : cs[lowN cs p]? = some c) (h : c.1 = p) (hv : v ≠ 0) : crs (putM cs p v) = (crs cs).set (lowN cs p) (crow (p, v)) := by
  have hj := (List.getElem?_eq_some_iff.1 hc).1
  have hh : hasN cs p = true := by unfold hasN; rw [hc]; simpa using h
  have : (crs cs).set (lowN cs p) (crow (p, v)) = crs (cs.set (lowN cs p) (p, v)) := by rw [crs, crs, List.map_set]
  rw [this]
  congr 1
  unfold putM
  rw [hh, if_neg hv, List.set_eq_take_append_cons_drop, if_pos hj]
  rfl
theorem has_at {cs : List Cl} {p : Nat} (h : hasN cs p = true) : ∃ c, cs[lowN cs p]? = some c ∧ c.1 = p := by
  unfold hasN at h
  split at h
  · rename_i c hc
    exact ⟨c, hc, by simpa using h⟩
  · cases h
theorem own_cells {ρ : List D} {k : Nat} {cs : List Cl} {x : Ex} (hk : Kd k cs) (hx : x.eval ρ = some (.sl k (crs cs))) : (Ex.app 2 (.c (.sl 2 [])) x).eval ρ = some (.sl 2 (crs cs)) := by
  rcases hk with rfl | ⟨rfl, rfl⟩
  · exact app0_e hx
  · simp only [Ex.eval, hx, appD]
    rfl
theorem put1_e {ρ : List D} {x ix y : Ex} {k : IntKind} {m : Nat} {rows : List (List D)} {a b d : D} (hx : x.eval ρ = some (.sl 2 rows)) (hi : ix.eval ρ = some (.i k (m : Int))) (hr : rows[m]? = some [a, b]) (hv : y.eval ρ = some d) : (Ex.put x ix 1 [y]).eval ρ = some (.sl 2 (rows.set m [a, d])) := by
  simp only [Ex.eval, Ex.evals, hx, hi, hv, putD]
  rw [if_pos (by omega)]
  simp only [Int.toNat_natCast, hr]
  rfl
theorem memPut_wp {k s p v : Nat} {cs : List Cl} (hk : Kd k cs) (hs : Asc cs) (hl : cs.length ≤ 1000000) : IR.wp (Cn gAll) (fun r => r = [md 2 s (putM cs p v)] ∨ (putM cs p v = [] ∧ r = [md 0 s []])) mem_put_ir [] (leavesOf [md k s cs, u p, u v]) := by
  unfold mem_put_ir
  simp only [lv_cons, lv_nil, app_cons, app_nil]
  have hlow := lowN_le (cs := cs) (a := p)
  have hcl := crs_len (cs := cs)
  refine wp_call rfl (memFind_con (s := s) (a := p) hk hs (by omega)) rfl ?_
  simp only [lv_cons, lv_nil, app_cons, app_nil]
  refine wp_may (e_eql (len_is rfl crs_len) rfl) (fun h => ?_) ?_
  · obtain rfl : cs = [] := by
      have : ((cs.length : Nat) : Int) = 0 := by simpa using h
      exact List.length_eq_zero_iff.1 (by omega)
    refine wp_ite (t := false) rfl (fun h => by cases h) (fun _ => ?_)
    refine wp_ite (t := false) rfl (fun h => by cases h) (fun _ => ?_)
    refine wp_lt (e_neq rfl rfl) ?_
    simp only [lv_cons, lv_nil, app_cons, app_nil]
    refine wp_ite rfl (fun hv => ?_) (fun hv => ?_)
    · have hv : v ≠ 0 := by simpa using hv
      refine wp_chk (eqs_i rfl rfl) ?_
      refine wp_call rfl (con_eat (by decide) (insert_con (s0 := 0) (rows := []) (i := 0) (d0 := U p) (d1 := U v) (.inr ⟨rfl, rfl⟩) (by simp) (by decide))) rfl ?_
      simp only [lv_cons, lv_nil, app_cons, app_nil]
      refine wp_return rfl (.inl ?_)
      have := put_ins (cs := []) (p := p) (v := v) rfl hv
      rw [md, this]
      rfl
    · obtain rfl : v = 0 := by simpa using hv
      exact wp_return rfl (.inr ⟨rfl, rfl⟩)
  · refine wp_chk (room_t (own_cells hk rfl) (by omega)) ?_
    refine wp_ite rfl (fun hh => ?_) (fun hh => ?_)
    · obtain ⟨c, hc, hcp⟩ := has_at hh
      have hj := (List.getElem?_eq_some_iff.1 hc).1
      refine wp_lt (e_eql rfl rfl) ?_
      simp only [lv_cons, lv_nil, app_cons, app_nil]
      refine wp_ite rfl (fun hv => ?_) (fun hv => ?_)
      · obtain rfl : v = 0 := by simpa using hv
        refine wp_lt (d := I (lowN cs p + 1 : Nat)) (i_add (a := (lowN cs p : Int)) (b := 1) rfl rfl (by omega) (by omega)) ?_
        simp only [lv_cons, lv_nil, app_cons, app_nil]
        refine wp_chk (eqs_i rfl rfl) ?_
        refine wp_chk (eqs_i rfl rfl) ?_
        refine wp_call (evs_cons (evs_one (own_cells hk rfl)) rfl) (con_eat (by decide) (delete_con (i := lowN cs p) (j := lowN cs p + 1) (by omega) (by omega))) rfl ?_
        simp only [lv_cons, lv_nil, app_cons, app_nil]
        refine wp_return rfl (.inl ?_)
        rw [md, put_del hh]
      · have hv : v ≠ 0 := by simpa using hv
        refine wp_ite rfl (fun _ => ?_) (fun h => absurd (hh.symm.trans h) (by decide))
        refine wp_chk (inb_t (own_cells hk rfl) rfl (by omega)) ?_
        refine wp_chk (inb_t (own_cells hk rfl) rfl (by omega)) ?_
        refine wp_return (evs_cons (es_cons rfl (es_cons (put1_e (own_cells hk rfl) rfl (crow_of hc) rfl) rfl)) rfl) (.inl ?_)
        rw [md, put_set hc hcp hv, hcp]
    · refine wp_ite rfl (fun h => absurd (hh.symm.trans h) (by decide)) (fun _ => ?_)
      refine wp_lt (e_neq rfl rfl) ?_
      simp only [lv_cons, lv_nil, app_cons, app_nil]
      refine wp_ite rfl (fun hv => ?_) (fun hv => ?_)
      · have hv : v ≠ 0 := by simpa using hv
        refine wp_chk (eqs_i rfl rfl) ?_
        refine wp_call (evs_cons (evs_one (own_cells hk rfl)) rfl) (con_eat (by decide) (insert_con (s0 := 2) (rows := crs cs) (i := lowN cs p) (d0 := U p) (d1 := U v) (.inl rfl) (by omega) (by omega))) rfl ?_
        simp only [lv_cons, lv_nil, app_cons, app_nil]
        refine wp_return rfl (.inl ?_)
        rw [md, put_ins hh hv]
      · obtain rfl : v = 0 := by simpa using hv
        refine wp_return (evs_cons (es_cons rfl (es_cons (own_cells hk rfl) rfl)) rfl) (.inl ?_)
        rw [md, put_non hh]
theorem memPut_con {k s p v : Nat} {cs : List Cl} (hk : Kd k cs) (hs : Asc cs) (hl : cs.length ≤ 1000000) : Cn gAll 32 [md k s cs, u p, u v] [md 2 s (putM cs p v)] := by
  refine con' rfl rfl mem_put_c mem_put_p (fun r => r = [md 2 s (putM cs p v)] ∨ (putM cs p v = [] ∧ r = [md 0 s []])) (fun r hr => ?_) rfl (memPut_wp hk hs hl)
  rcases hr with rfl | ⟨h, rfl⟩
  · exact fun _ _ _ h => h
  · rw [h]; exact wk_md
theorem uniq_md {k s : Nat} {cs : List Cl} : Uniq (md k s cs) := by
  have h0 : ∀ (j z : Nat) (l : List (List D)), (md k s cs).2[j]? = some (D.sl z l) → j = 1 := by
    intro j z l h
    cases j with
    | zero => simp at h
    | succ j =>
      cases j with
      | zero => rfl
      | succ j => simp at h
  intro i j z z' l l' h1 h2
  rw [h0 i z l h1, h0 j z' l' h2]
theorem plain_md {k s : Nat} {cs : List Cl} : ∀ d ∈ (md k s cs).2, d.plain ∨ ∃ z l, d = D.sl z l ∧ ∀ row ∈ l, ∀ x ∈ row, x.plain := by
  intro d hd
  simp only [List.mem_cons, List.not_mem_nil, or_false] at hd
  rcases hd with rfl | rfl
  · exact .inl trivial
  · refine .inr ⟨_, _, rfl, fun row hr x hx => ?_⟩
    obtain ⟨c, _, rfl⟩ := List.mem_map.1 hr
    simp only [List.mem_cons, List.not_mem_nil, or_false] at hx
    rcases hx with rfl | rfl <;> trivial
theorem memPut_conN {k s p v : Nat} {cs : List Cl} (hk : Kd k cs) (hs : Asc cs) (hl : cs.length ≤ 1000000) : Cn gAll (nwOff + 32) [md k s cs, u p, u v] [md 2 s (putM cs p v)] := by
  refine conN' rfl rfl mem_put_n mem_put_p (fun r => r = [md 2 s (putM cs p v)] ∨ (putM cs p v = [] ∧ r = [md 0 s []])) rfl uniq_md (fun r hr => ?_) (memPut_wp hk hs hl)
  rcases hr with rfl | ⟨h, rfl⟩
  · exact ⟨_, rfl, uniq_md, plain_md, fun _ _ _ h => h⟩
  · rw [h]
    refine ⟨_, rfl, uniq_md (cs := []), plain_md (cs := []), fun B w v hn => ?_⟩
    obtain ⟨us, hv, hall⟩ := hn
    refine ⟨us, hv, ?_⟩
    match us, hall with
    | [a, b], .cons h1 (.cons h2 .nil) =>
      refine .cons h1 (.cons ⟨⟨fun r hr => (by cases hr), ?_⟩, fun r hr => (by cases hr)⟩ .nil)
      rcases h2.1.2 with h | ⟨_, _, _, _, _, _, h0, _⟩
      · exact .inl h
      · exact absurd h0 (by decide)
end Go.Proofs.Ytffahdloddkcfaa.Sx

namespace Go.Proofs.Ytffahdloddkcfaa.Sx
open Go
set_option linter.unusedVariables false
set_option linter.unusedSimpArgs false
set_option maxRecDepth 100000

theorem lookN_lt {cs : List Cl} {p : Nat} (h : COk cs) : lookN cs p < 18446744073709551616 := by
  unfold lookN
  split
  · rename_i c hc
    split
    · exact (h c (List.mem_of_getElem? hc)).2
    · omega
  · omega
theorem wordN_lt {cs : List Cl} {s a : Nat} (h : COk cs) : wordN s cs a < 18446744073709551616 := by
  unfold wordN
  split
  · omega
  · exact lookN_lt h
def loadN (s : Nat) (cs : List Cl) (a n : Nat) : Nat := getN (wordN s cs a) (a % 8 * 8) (n * 8)
theorem memLoad_bad {k s a : Nat} {z : Int} {cs : List Cl} (ha : a < 18446744073709551616) (h : wrongN s a z ≠ 0) : Cn gAll 15 [md k s cs, u a, i z] [u 0, i (wrongN s a z)] := by
  refine con rfl rfl mem_Load_c mem_Load_p rfl ?_
  unfold mem_Load_ir
  simp only [lv_cons, lv_nil, app_cons, app_nil]
  refine wp_call rfl (wrong_con (k := k) (s := s) (z := z) (cs := cs) ha) rfl ?_
  simp only [lv_cons, lv_nil, app_cons, app_nil]
  refine wp_lt (d := .b true) (cmp_e (e_neq rfl rfl) (bne_iff_ne.2 h)) ?_
  simp only [lv_cons, lv_nil, app_cons, app_nil]
  refine wp_ite (t := true) rfl (fun _ => ?_) (fun h => by cases h)
  exact wp_return rfl rfl
theorem memLoad_ok {k s a n : Nat} {cs : List Cl} (hk : Kd k cs) (hs : Asc cs) (hO : COk cs) (hl : cs.length < 4611686018427387904) (ha : a < 18446744073709551616) (hn : sizeOk n = true) (h : wrongN s a n = 0) : Cn gAll 15 [md k s cs, u a, i n] [u (loadN s cs a n), i 0] := by
  refine con rfl rfl mem_Load_c mem_Load_p rfl ?_
  unfold mem_Load_ir
  simp only [lv_cons, lv_nil, app_cons, app_nil]
  have hz := sizeOk_iff.1 hn
  refine wp_call rfl (wrong_con (k := k) (s := s) (z := n) (cs := cs) ha) rfl ?_
  rw [h]
  simp only [lv_cons, lv_nil, app_cons, app_nil]
  refine wp_lt (d := (.b false)) rfl ?_
  simp only [lv_cons, lv_nil, app_cons, app_nil]
  refine wp_ite (t := false) rfl (fun h => by cases h) (fun _ => ?_)
  refine wp_call rfl (memWord_con hk hs hl ha) rfl ?_
  simp only [lv_cons, lv_nil, app_cons, app_nil]
  refine wp_lt (u_rem (b := 8) rfl rfl (by omega)) ?_
  simp only [lv_cons, lv_nil, app_cons, app_nil]
  refine wp_lt (cv_i rfl (by omega) (by omega)) ?_
  simp only [lv_cons, lv_nil, app_cons, app_nil]
  refine wp_lt (d := I (a % 8 * 8 : Nat)) ((i_mul (b := 8) rfl rfl (by omega) (by omega)).trans (by rw [Int.natCast_mul]; rfl)) ?_
  simp only [lv_cons, lv_nil, app_cons, app_nil]
  refine wp_lt (d := I (n * 8 : Nat)) ((i_mul (b := 8) rfl rfl (by omega) (by omega)).trans (by rw [Int.natCast_mul]; rfl)) ?_
  simp only [lv_cons, lv_nil, app_cons, app_nil]
  refine wp_call rfl (bitsGet_con (wordN_lt hO) (by omega) (by omega)) rfl ?_
  simp only [lv_cons, lv_nil, app_cons, app_nil]
  exact wp_return rfl rfl
def storeM (s : Nat) (cs : List Cl) (a n v : Nat) : List Cl := putM cs (a / 8) (setN (wordN s cs a) (a % 8 * 8) (n * 8) v)
theorem memStore_bad {k s a v : Nat} {z : Int} {cs : List Cl} (ha : a < 18446744073709551616) (h : wrongN s a z ≠ 0) : Cn gAll 17 [md k s cs, u a, i z, u v] [md k s cs, i (wrongN s a z)] := by
  refine con rfl rfl mem_Store_c mem_Store_p rfl ?_
  unfold mem_Store_ir
  simp only [lv_cons, lv_nil, app_cons, app_nil]
  refine wp_call rfl (wrong_con (k := k) (s := s) (z := z) (cs := cs) ha) rfl ?_
  simp only [lv_cons, lv_nil, app_cons, app_nil]
  refine wp_lt (d := .b true) (cmp_e (e_neq rfl rfl) (bne_iff_ne.2 h)) ?_
  simp only [lv_cons, lv_nil, app_cons, app_nil]
  refine wp_ite (t := true) rfl (fun _ => ?_) (fun h => by cases h)
  exact wp_return rfl rfl
theorem memStore_ok {k s a n v : Nat} {cs : List Cl} (hk : Kd k cs) (hs : Asc cs) (hO : COk cs) (hl : cs.length ≤ 1000000) (ha : a < 18446744073709551616) (hv : v < 18446744073709551616) (hn : sizeOk n = true) (h : wrongN s a n = 0) : Cn gAll 17 [md k s cs, u a, i n, u v] [md 2 s (storeM s cs a n v), i 0] := by
  refine con rfl rfl mem_Store_c mem_Store_p rfl ?_
  unfold mem_Store_ir
  simp only [lv_cons, lv_nil, app_cons, app_nil]
  have hz := sizeOk_iff.1 hn
  refine wp_call rfl (wrong_con (k := k) (s := s) (z := n) (cs := cs) ha) rfl ?_
  rw [h]
  simp only [lv_cons, lv_nil, app_cons, app_nil]
  refine wp_lt (d := (.b false)) rfl ?_
  simp only [lv_cons, lv_nil, app_cons, app_nil]
  refine wp_ite (t := false) rfl (fun h => by cases h) (fun _ => ?_)
  refine wp_lt (u_quo (b := 8) rfl rfl (by omega) ha) ?_
  simp only [lv_cons, lv_nil, app_cons, app_nil]
  refine wp_call rfl (memWord_con hk hs (by omega) ha) rfl ?_
  simp only [lv_cons, lv_nil, app_cons, app_nil]
  refine wp_lt (u_rem (b := 8) rfl rfl (by omega)) ?_
  simp only [lv_cons, lv_nil, app_cons, app_nil]
  refine wp_lt (cv_i rfl (by omega) (by omega)) ?_
  simp only [lv_cons, lv_nil, app_cons, app_nil]
  refine wp_lt (d := I (a % 8 * 8 : Nat)) ((i_mul (b := 8) rfl rfl (by omega) (by omega)).trans (by rw [Int.natCast_mul]; rfl)) ?_
  simp only [lv_cons, lv_nil, app_cons, app_nil]
  refine wp_lt (d := I (n * 8 : Nat)) ((i_mul (b := 8) rfl rfl (by omega) (by omega)).trans (by rw [Int.natCast_mul]; rfl)) ?_
  simp only [lv_cons, lv_nil, app_cons, app_nil]
  refine wp_call rfl (bitsSet_con (wordN_lt hO) hv (by omega) (by omega)) rfl ?_
  simp only [lv_cons, lv_nil, app_cons, app_nil]
  refine wp_call rfl (memPut_con hk hs hl) rfl ?_
  simp only [lv_cons, lv_nil, app_cons, app_nil]
  exact wp_return rfl rfl
end Go.Proofs.Ytffahdloddkcfaa.Sx

namespace Go.Proofs.Ytffahdloddkcfaa.Sx
open Go
set_option linter.unusedVariables false
set_option linter.unusedSimpArgs false
set_option maxRecDepth 100000

def below (cs : List Cl) (a : Nat) : List Cl := cs.filter fun c => decide (c.1 < a)
def above (cs : List Cl) (a : Nat) : List Cl := cs.filter fun c => decide (a ≤ c.1)
theorem asc_tail {d : Cl} {ds : List Cl} (h : Asc (d :: ds)) : Asc ds := (List.pairwise_cons.1 h).2
theorem asc_head {d : Cl} {ds : List Cl} (h : Asc (d :: ds)) {x : Cl} (hx : x ∈ ds) : d.1 < x.1 := (List.pairwise_cons.1 h).1 x hx
theorem low_lt {d : Cl} {ds : List Cl} {a : Nat} (h : d.1 < a) : lowN (d :: ds) a = lowN ds a + 1 := by
  unfold lowN; rw [List.filter_cons_of_pos (by simpa using h)]; rfl
theorem low_ge {d : Cl} {ds : List Cl} {a : Nat} (hs : Asc (d :: ds)) (h : a ≤ d.1) : lowN (d :: ds) a = 0 := by
  unfold lowN
  rw [List.length_eq_zero_iff, List.filter_eq_nil_iff]
  intro x hx
  rcases List.mem_cons.1 hx with rfl | hx
  · simp; omega
  · have := asc_head hs hx; simp; omega
theorem take_low {a : Nat} : ∀ {cs : List Cl}, Asc cs → cs.take (lowN cs a) = below cs a
  | [], _ => rfl
  | d :: ds, hs => by
    by_cases h : d.1 < a
    · rw [low_lt h, List.take_succ_cons, take_low (asc_tail hs), below, below, List.filter_cons_of_pos (by simpa using h)]
    · rw [low_ge hs (by omega), List.take_zero]
      symm
      rw [below, List.filter_eq_nil_iff]
      intro x hx
      rcases List.mem_cons.1 hx with rfl | hx
      · simp; omega
      · have := asc_head hs hx; simp; omega
theorem drop_low {a : Nat} : ∀ {cs : List Cl}, Asc cs → cs.drop (lowN cs a) = above cs a
  | [], _ => rfl
  | d :: ds, hs => by
    by_cases h : d.1 < a
    · rw [low_lt h, List.drop_succ_cons, drop_low (asc_tail hs), above, above, List.filter_cons_of_neg (by simp; omega)]
    · rw [low_ge hs (by omega), List.drop_zero]
      symm
      rw [above, List.filter_eq_self]
      intro x hx
      rcases List.mem_cons.1 hx with rfl | hx
      · simp; omega
      · have := asc_head hs hx; simp; omega
theorem low_succ {p : Nat} : ∀ {cs : List Cl}, Asc cs → lowN cs p + (hasN cs p).toNat = lowN cs (p + 1)
  | [], _ => rfl
  | d :: ds, hs => by
    by_cases h : d.1 < p
    · have e : hasN (d :: ds) p = hasN ds p := by unfold hasN; rw [low_lt h]; rfl
      have := low_succ (p := p) (asc_tail hs)
      rw [e, low_lt h, low_lt (show d.1 < p + 1 by omega)]
      omega
    · by_cases h2 : d.1 = p
      · have e : hasN (d :: ds) p = true := by unfold hasN; rw [low_ge hs (by omega)]; simpa using h2
        rw [e, low_ge hs (by omega), low_lt (show d.1 < p + 1 by omega)]
        cases ds with
        | nil => rfl
        | cons x xs =>
          have := asc_head hs (List.mem_cons_self (a := x) (l := xs))
          rw [low_ge (asc_tail hs) (by omega)]
          rfl
      · have e : hasN (d :: ds) p = false := by unfold hasN; rw [low_ge hs (by omega)]; simpa using h2
        rw [e, low_ge hs (by omega), low_ge hs (by omega)]
        rfl
theorem putM_eq {cs : List Cl} {p v : Nat} (hs : Asc cs) : putM cs p v = below cs p ++ ((if v = 0 then [] else [(p, v)]) ++ above cs (p + 1)) := by
  unfold putM
  rw [low_succ hs, take_low hs, drop_low hs]
theorem mem_below {cs : List Cl} {a : Nat} {c : Cl} : c ∈ below cs a ↔ c ∈ cs ∧ c.1 < a := by simp [below]
theorem mem_above {cs : List Cl} {a : Nat} {c : Cl} : c ∈ above cs a ↔ c ∈ cs ∧ a ≤ c.1 := by simp [above]
theorem mem_putM {cs : List Cl} {p v : Nat} {c : Cl} (hs : Asc cs) : c ∈ putM cs p v ↔ (c ∈ cs ∧ c.1 ≠ p) ∨ (v ≠ 0 ∧ c = (p, v)) := by
  rw [putM_eq hs, List.mem_append, List.mem_append, mem_below, mem_above]
  have h : c ∈ (if v = 0 then ([] : List Cl) else [(p, v)]) ↔ v ≠ 0 ∧ c = (p, v) := by
    split
    · rename_i h; simp [h]
    · rename_i h; simp [h]
  rw [h]
  constructor
  · rintro (⟨h1, h2⟩ | h | ⟨h1, h2⟩)
    · exact .inl ⟨h1, by omega⟩
    · exact .inr h
    · exact .inl ⟨h1, by omega⟩
  · rintro (⟨h1, h2⟩ | h)
    · by_cases h3 : c.1 < p
      · exact .inl ⟨h1, h3⟩
      · exact .inr (.inr ⟨h1, by omega⟩)
    · exact .inr (.inl h)
theorem asc_putM {cs : List Cl} {p v : Nat} (hs : Asc cs) : Asc (putM cs p v) := by
  rw [putM_eq hs]
  unfold Asc
  rw [List.pairwise_append, List.pairwise_append]
  have hi : ∀ c, c ∈ (if v = 0 then ([] : List Cl) else [(p, v)]) → c.1 = p := by
    intro c
    split
    · intro h; cases h
    · intro h; rw [List.mem_singleton.1 h]
  refine ⟨hs.filter _, ⟨?_, hs.filter _, fun a ha b hb => ?_⟩, fun a ha b hb => ?_⟩
  · split
    · exact .nil
    · exact List.pairwise_singleton _ _
  · have := hi a ha; have := (mem_above.1 hb).2; omega
  · have := (mem_below.1 ha).2
    rcases List.mem_append.1 hb with hb | hb
    · have := hi b hb; omega
    · have := (mem_above.1 hb).2; omega
theorem look_mem {cs : List Cl} {p v : Nat} (hs : Asc cs) (h : (p, v) ∈ cs) : lookN cs p = v := by
  obtain ⟨j, hj, he⟩ := List.getElem_of_mem h
  exact (lookN_of hs (by rw [List.getElem?_eq_getElem hj, he]) rfl).2
theorem look_non {cs : List Cl} {p : Nat} (h : ∀ c ∈ cs, c.1 ≠ p) : lookN cs p = 0 := by
  unfold lookN
  split
  · rename_i c hc
    rw [if_neg (h c (List.mem_of_getElem? hc))]
  · rfl
theorem look_pos {cs : List Cl} {p : Nat} (h : lookN cs p ≠ 0) : (p, lookN cs p) ∈ cs := by
  generalize hv : lookN cs p = v at h
  unfold lookN at hv
  split at hv
  · rename_i c hc
    split at hv
    · rename_i hp
      subst hv hp
      exact List.mem_of_getElem? hc
    · exact absurd hv.symm h
  · exact absurd hv.symm h
theorem look_same {cs ds : List Cl} {p : Nat} (hs : Asc cs) (hd : Asc ds) (h : ∀ v, (p, v) ∈ cs ↔ (p, v) ∈ ds) : lookN cs p = lookN ds p := by
  by_cases hc : ∃ v, (p, v) ∈ cs
  · obtain ⟨v, hv⟩ := hc
    rw [look_mem hs hv, look_mem hd ((h v).1 hv)]
  · rw [look_non fun c hm he => hc ⟨c.2, by rw [← he]; exact hm⟩, look_non fun c hm he => hc ⟨c.2, (h _).2 (by rw [← he]; exact hm)⟩]
theorem look_putM {cs : List Cl} {p v q : Nat} (hs : Asc cs) : lookN (putM cs p v) q = if q = p then v else lookN cs q := by
  split
  · rename_i h
    subst h
    by_cases hv : v = 0
    · rw [hv]
      exact look_non fun c hm he => by
        rcases (mem_putM hs).1 hm with h | h
        · exact h.2 he
        · exact h.1 rfl
    · exact look_mem (asc_putM hs) ((mem_putM hs).2 (.inr ⟨hv, rfl⟩))
  · rename_i h
    refine look_same (asc_putM hs) hs fun w => ?_
    rw [mem_putM hs]
    constructor
    · rintro (⟨h1, _⟩ | ⟨_, h1⟩)
      · exact h1
      · cases h1; exact absurd rfl h
    · exact fun h1 => .inl ⟨h1, h⟩
def NZ (cs : List Cl) : Prop := ∀ c ∈ cs, c.2 ≠ 0
theorem asc_ext : ∀ {cs ds : List Cl}, Asc cs → Asc ds → (∀ c, c ∈ cs ↔ c ∈ ds) → cs = ds
  | [], [], _, _, _ => rfl
  | [], d :: ds, _, _, h => by have := (h d).2 List.mem_cons_self; cases this
  | c :: cs, [], _, _, h => by have := (h c).1 List.mem_cons_self; cases this
  | c :: cs, d :: ds, h1, h2, h => by
    have hcd : c = d := by
      rcases List.mem_cons.1 ((h c).1 List.mem_cons_self) with e | hc
      · exact e
      · rcases List.mem_cons.1 ((h d).2 List.mem_cons_self) with e | hd
        · exact e.symm
        · have := asc_head h2 hc; have := asc_head h1 hd; omega
    subst hcd
    rw [asc_ext (asc_tail h1) (asc_tail h2) fun x => ?_]
    constructor
    · intro hx
      rcases List.mem_cons.1 ((h x).1 (List.mem_cons_of_mem _ hx)) with e | hx'
      · subst e; have := asc_head h1 hx; omega
      · exact hx'
    · intro hx
      rcases List.mem_cons.1 ((h x).2 (List.mem_cons_of_mem _ hx)) with e | hx'
      · subst e; have := asc_head h2 hx; omega
      · exact hx'
theorem look_ext {cs ds : List Cl} (h1 : Asc cs) (h2 : Asc ds) (z1 : NZ cs) (z2 : NZ ds) (h : ∀ p, lookN cs p = lookN ds p) : cs = ds := by
  refine asc_ext h1 h2 fun c => ⟨fun hc => ?_, fun hc => ?_⟩
  · have e := look_mem h1 (p := c.1) (v := c.2) hc
    have := look_pos (cs := ds) (p := c.1) (by rw [← h, e]; exact z1 c hc)
    rw [← h, e] at this
    exact this
  · have e := look_mem h2 (p := c.1) (v := c.2) hc
    have := look_pos (cs := cs) (p := c.1) (by rw [h, e]; exact z2 c hc)
    rw [h, e] at this
    exact this

/-- a right memory -/
structure RM (s : Nat) (cs : List Cl) : Prop where
  even : s % 4096 = 0
  most : s ≤ 1099511627776
  asc : Asc cs
  nz : NZ cs
  low : ∀ c ∈ cs, c.1 < s / 8
theorem right_rm {s : Nat} {cs : List Cl} : rightM s cs = true ↔ RM s cs := by
  constructor
  · intro h
    obtain ⟨h1, h2, h3⟩ := rightM_iff.1 h
    refine ⟨h1, h2, asc_of h, fun c hc => ?_, fun c hc => ?_⟩
    · obtain ⟨j, hj, rfl⟩ := List.getElem_of_mem hc
      exact (h3 j _ (List.getElem?_eq_getElem hj)).1
    · obtain ⟨j, hj, rfl⟩ := List.getElem_of_mem hc
      exact (h3 j _ (List.getElem?_eq_getElem hj)).2.1
  · intro h
    refine rightM_iff.2 ⟨h.even, h.most, fun j c hc => ⟨h.nz c (List.mem_of_getElem? hc), h.low c (List.mem_of_getElem? hc), fun b hj hb => ?_⟩⟩
    obtain ⟨hj1, rfl⟩ := List.getElem?_eq_some_iff.1 hc
    obtain ⟨hj2, rfl⟩ := List.getElem?_eq_some_iff.1 hb
    exact List.pairwise_iff_getElem.1 h.asc (j - 1) j hj2 hj1 (by omega)
theorem RM.put {s : Nat} {cs : List Cl} {p v : Nat} (h : RM s cs) (hp : p < s / 8) : RM s (putM cs p v) := by
  refine ⟨h.even, h.most, asc_putM h.asc, fun c hc => ?_, fun c hc => ?_⟩
  · rcases (mem_putM h.asc).1 hc with hc | ⟨hv, rfl⟩
    · exact h.nz c hc.1
    · exact hv
  · rcases (mem_putM h.asc).1 hc with hc | ⟨hv, rfl⟩
    · exact h.low c hc.1
    · exact hp
theorem RM.cok {s : Nat} {cs : List Cl} (h : RM s cs) (hv : ∀ c ∈ cs, c.2 < 18446744073709551616) : COk cs := fun c hc => ⟨by have := h.low c hc; have := h.most; omega, hv c hc⟩
theorem cok_put {cs : List Cl} {p v : Nat} (hs : Asc cs) (h : COk cs) (hp : p < 18446744073709551616) (hv : v < 18446744073709551616) : COk (putM cs p v) := fun c hc => by
  rcases (mem_putM hs).1 hc with hc | ⟨_, rfl⟩
  · exact h c hc.1
  · exact ⟨hp, hv⟩
theorem len_put {cs : List Cl} {p v : Nat} : (putM cs p v).length ≤ cs.length + 1 := by
  unfold putM
  rw [List.length_append, List.length_append, List.length_take, List.length_drop]
  have : (if v = 0 then ([] : List Cl) else [(p, v)]).length ≤ 1 := by split <;> simp
  omega
theorem word_in {s a : Nat} {cs : List Cl} (h : a < s) : wordN s cs a = lookN cs (a / 8) := by unfold wordN; rw [if_neg (by omega)]
theorem look_store {s a n v q : Nat} {cs : List Cl} (hs : Asc cs) (ha : a < s) : lookN (storeM s cs a n v) q = if q = a / 8 then setN (lookN cs (a / 8)) (a % 8 * 8) (n * 8) v else lookN cs q := by
  rw [storeM, look_putM hs, word_in ha]
theorem RM.store {s a n v : Nat} {cs : List Cl} (h : RM s cs) (ha : a < s) : RM s (storeM s cs a n v) := h.put (by have := h.even; omega)
theorem cok_store {s a n v : Nat} {cs : List Cl} (h : RM s cs) (hO : COk cs) (ha : a < s) : COk (storeM s cs a n v) := cok_put h.asc hO (by have := h.most; omega) (setN_lt ..)
theorem len_store {s a n v : Nat} {cs : List Cl} : (storeM s cs a n v).length ≤ cs.length + 1 := len_put

/-! ### clearing -/
def clrM (cs : List Cl) (a b : Nat) : List Cl := cs.take (lowN cs a) ++ cs.drop (lowN cs b)
theorem clr_filter {a b : Nat} : ∀ {cs : List Cl}, Asc cs → a ≤ b → clrM cs a b = cs.filter fun c => decide (c.1 < a) || decide (b ≤ c.1)
  | cs, hs, hab => by
    rw [clrM, take_low hs, drop_low hs]
    induction cs with
    | nil => rfl
    | cons d ds ih =>
      have ih := ih (asc_tail hs)
      by_cases h1 : d.1 < a
      · rw [below, above, List.filter_cons_of_pos (by simpa using h1), List.filter_cons_of_neg (by simp; omega), List.filter_cons_of_pos (by simp; omega)]
        exact congrArg (d :: ·) ih
      · have hb : below (d :: ds) a = [] := by
          rw [below, List.filter_eq_nil_iff]
          intro x hx
          rcases List.mem_cons.1 hx with rfl | hx
          · simp; omega
          · have := asc_head hs hx; simp; omega
        rw [hb, List.nil_append, above]
        refine List.filter_congr fun x hx => ?_
        have : ¬ x.1 < a := by
          rcases List.mem_cons.1 hx with rfl | hx
          · exact h1
          · have := asc_head hs hx; omega
        rw [decide_eq_false this, Bool.false_or]
theorem look_clr {cs : List Cl} {a b q : Nat} (hs : Asc cs) (hab : a ≤ b) : lookN (clrM cs a b) q = if a ≤ q ∧ q < b then 0 else lookN cs q := by
  rw [clr_filter hs hab]
  split
  · rename_i h
    refine look_non fun c hc he => ?_
    simp only [List.mem_filter, Bool.or_eq_true, decide_eq_true_eq] at hc
    omega
  · rename_i h
    refine look_same (hs.filter _) hs fun v => ?_
    simp only [List.mem_filter, Bool.or_eq_true, decide_eq_true_eq]
    exact ⟨fun h => h.1, fun h' => ⟨h', by omega⟩⟩
theorem RM.clr {s : Nat} {cs : List Cl} {a b : Nat} (h : RM s cs) (hab : a ≤ b) : RM s (clrM cs a b) := by
  rw [clr_filter h.asc hab]
  exact ⟨h.even, h.most, h.asc.filter _, fun c hc => h.nz c (List.mem_filter.1 hc).1, fun c hc => h.low c (List.mem_filter.1 hc).1⟩
theorem cok_clr {cs : List Cl} {a b : Nat} (hs : Asc cs) (hab : a ≤ b) (h : COk cs) : COk (clrM cs a b) := by
  rw [clr_filter hs hab]
  exact fun c hc => h c (List.mem_filter.1 hc).1
theorem len_clr {cs : List Cl} {a b : Nat} (hs : Asc cs) (hab : a ≤ b) : (clrM cs a b).length ≤ cs.length := by
  rw [clr_filter hs hab]
  exact List.length_filter_le _ _

/-! ### bytes -/
def getB (bs : List Nat) : Nat := bs.foldr (fun b v => 256 * v + b) 0
def putB (v n : Nat) : List Nat := (List.range n).map fun i => v / 256 ^ i % 256
theorem putB_succ {v n : Nat} : putB v (n + 1) = v % 256 :: putB (v / 256) n := by
  unfold putB
  rw [List.range_succ_eq_map, List.map_cons, List.map_map]
  congr 1
  · simp
  · refine List.map_congr_left fun i _ => ?_
    simp only [Function.comp]
    rw [Nat.pow_succ, Nat.mul_comm, Nat.div_div_eq_div_mul]
theorem putB_end {v n : Nat} : putB v (n + 1) = putB v n ++ [v / 256 ^ n % 256] := by
  unfold putB
  rw [List.range_succ, List.map_append]
  rfl
theorem putB_len {v n : Nat} : (putB v n).length = n := by simp [putB]
theorem putB_get {v n j : Nat} (h : j < n) : (putB v n)[j]? = some (v / 256 ^ j % 256) := by
  simp [putB, h]
theorem getB_putB : ∀ {n v : Nat}, getB (putB v n) = v % 256 ^ n
  | 0, v => by simp [putB, getB, Nat.mod_one]
  | n + 1, v => by
    rw [putB_succ]
    show 256 * getB (putB (v / 256) n) + v % 256 = _
    rw [getB_putB, Nat.pow_succ, Nat.mul_comm (256 ^ n) 256, Nat.mod_mul]
    omega
theorem getB_testBit : ∀ {bs : List Nat} {j : Nat}, (∀ x ∈ bs, x < 256) → (getB bs).testBit j = ((bs[j / 8]?).getD 0).testBit (j % 8)
  | [], j, _ => by simp [getB]
  | b :: bs, j, h => by
    show (256 * getB bs + b).testBit j = _
    have := Nat.testBit_two_pow_mul_add (i := 8) (a := getB bs) (b := b) (h b List.mem_cons_self) j
    rw [show (256 : Nat) = 2 ^ 8 from rfl, this]
    split
    · rename_i hj
      rw [Nat.div_eq_of_lt hj, Nat.mod_eq_of_lt hj]
      rfl
    · rename_i hj
      rw [getB_testBit fun x hx => h x (List.mem_cons_of_mem _ hx), show j / 8 = (j - 8) / 8 + 1 by omega, List.getElem?_cons_succ, show (j - 8) % 8 = j % 8 by omega]
theorem getB_lt : ∀ {bs : List Nat}, (∀ x ∈ bs, x < 256) → getB bs < 256 ^ bs.length
  | [], _ => by decide
  | b :: bs, h => by
    have h1 := getB_lt fun x hx => h x (List.mem_cons_of_mem _ hx)
    have h2 := h b List.mem_cons_self
    show 256 * getB bs + b < 256 ^ (bs.length + 1)
    rw [Nat.pow_succ]
    omega
theorem pow256 (k : Nat) : (256 : Nat) ^ k = 2 ^ (k * 8) := by rw [Nat.mul_comm, Nat.pow_mul]
theorem getN_bytes {w o n : Nat} : getN w (o * 8) (n * 8) = getB (putB (w / 256 ^ o) n) := by
  rw [getB_putB, getN, pow256, pow256]
theorem byte_testBit {v j i : Nat} (hi : i < 8) : (v / 256 ^ j % 256).testBit i = v.testBit (8 * j + i) := by
  rw [pow256, show (256 : Nat) = 2 ^ 8 from rfl, Nat.testBit_mod_two_pow, Nat.testBit_div_two_pow, decide_eq_true hi, Bool.true_and]
  congr 1
  omega
/-- so many bytes of a word, from o on, are those of another number -/
def mixB (w v o i : Nat) : List Nat := (List.range 8).map fun j => if o ≤ j ∧ j < o + i then v / 256 ^ (j - o) % 256 else w / 256 ^ j % 256
theorem mixB_0 {w v o : Nat} : mixB w v o 0 = putB w 8 := by
  unfold mixB putB
  refine List.map_congr_left fun j _ => ?_
  rw [if_neg (by omega)]
theorem mixB_len {w v o i : Nat} : (mixB w v o i).length = 8 := by simp [mixB]
theorem mixB_set {w v o i : Nat} (h : o + i < 8) : (mixB w v o i).set (o + i) (v / 256 ^ i % 256) = mixB w v o (i + 1) := by
  apply List.ext_getElem
  · simp [mixB]
  intro j h1 h2
  rw [List.getElem_set]
  simp only [mixB, List.getElem_map, List.getElem_range]
  by_cases e : o + i = j
  · subst e
    rw [if_pos rfl, if_pos (by omega)]
    congr 3
    omega
  · rw [if_neg e]
    by_cases h3 : o ≤ j ∧ j < o + i
    · rw [if_pos h3, if_pos (by omega)]
    · rw [if_neg h3, if_neg (by omega)]
theorem mixB_small {w v o i : Nat} : ∀ x ∈ mixB w v o i, x < 256 := by
  intro x hx
  simp only [mixB, List.mem_map] at hx
  obtain ⟨j, _, rfl⟩ := hx
  split <;> exact Nat.mod_lt _ (by decide)
theorem getB_mix {w v o n : Nat} (h : o + n ≤ 8) : getB (mixB w v o n) = setN w (o * 8) (n * 8) v := by
  refine Nat.eq_of_testBit_eq fun k => ?_
  rw [getB_testBit mixB_small]
  unfold setN
  rw [ofF_testBit]
  by_cases hk : k < 64
  · rw [decide_eq_true hk, Bool.true_and]
    have hg : (mixB w v o n)[k / 8]? = some (if o ≤ k / 8 ∧ k / 8 < o + n then v / 256 ^ (k / 8 - o) % 256 else w / 256 ^ (k / 8) % 256) := by
      simp [mixB, show k / 8 < 8 by omega]
    rw [hg, Option.getD_some]
    by_cases h1 : o ≤ k / 8 ∧ k / 8 < o + n
    · rw [if_pos h1, if_pos (by omega), byte_testBit (by omega)]
      congr 1
      omega
    · rw [if_neg h1, if_neg (by omega), byte_testBit (by omega)]
      congr 1
      omega
  · rw [decide_eq_false hk, Bool.false_and, List.getElem?_eq_none (by rw [mixB_len]; omega)]
    simp
end Go.Proofs.Ytffahdloddkcfaa.Sx

namespace Go.Proofs.Ytffahdloddkcfaa.Sx
open Go
set_option linter.unusedVariables false
set_option linter.unusedSimpArgs false
set_option maxRecDepth 100000

theorem crs_take {cs : List Cl} {n : Nat} : (crs cs).take n = crs (cs.take n) := by rw [crs, crs, List.map_take]
theorem crs_drop {cs : List Cl} {n : Nat} : (crs cs).drop n = crs (cs.drop n) := by rw [crs, crs, List.map_drop]
/-- what a list of two slices holds at a place -/
theorem two_e {ρ : List D} {x y ix : Ex} {k : Nat} {m : Nat} {a b : List (List D)} (hx : x.eval ρ = some (.sl k a)) (hy : y.eval ρ = some (.sl k b)) (hi : ix.eval ρ = some (.i .i64 (m : Int))) (hm : m < 2) : (Ex.idx (.cat (.one [x]) (.one [y])) ix 0).eval ρ = some (.sl k (if m = 0 then a else b)) := by
  have : (Ex.cat (.one [x]) (.one [y])).eval ρ = some (.sl 1 ([[.sl k a]] ++ [[.sl k b]])) := cat_e (one_e (evs_one hx) rfl) (one_e (evs_one hy) rfl)
  refine idx_e (j := 0) this hi (r := [.sl k (if m = 0 then a else b)]) ?_ rfl
  rcases m with _ | _ | m
  · rfl
  · rfl
  · omega
theorem two_inb {ρ : List D} {x y ix : Ex} {k : Nat} {m : Nat} {a b : List (List D)} (hx : x.eval ρ = some (.sl k a)) (hy : y.eval ρ = some (.sl k b)) (hi : ix.eval ρ = some (.i .i64 (m : Int))) (hm : m < 2) : (Ex.inb (.cat (.one [x]) (.one [y])) ix 1).eval ρ = some (.b true) :=
  inb_t (cat_e (one_e (evs_one hx) rfl) (one_e (evs_one hy) rfl)) hi (by simpa using hm)
theorem app_w {ρ : List D} {x y : Ex} {m n0 n : Nat} {a b : List (List D)} (hx : x.eval ρ = some (.sl n0 a)) (hy : y.eval ρ = some (.sl m b)) (h0 : n0 = n ∨ (n0 = 0 ∧ a = [])) (h1 : m = n ∨ b = []) : ∃ k', (Ex.app n x y).eval ρ = some (.sl k' (a ++ b)) := by
  simp only [Ex.eval, hx, hy, appD]
  rw [if_pos ⟨by rcases h0 with h | ⟨h, rfl⟩ <;> simp [h], by rcases h1 with h | rfl <;> simp [*]⟩]
  cases b with
  | nil => exact ⟨n0, by simp⟩
  | cons => exact ⟨n, rfl⟩
theorem app_k {ρ : List D} {x y : Ex} {k n : Nat} {a b : List (List D)} (hx : x.eval ρ = some (.sl n a)) (hy : y.eval ρ = some (.sl k b)) (h : k = n ∨ b = []) : (Ex.app n x y).eval ρ = some (.sl n (a ++ b)) := by
  simp only [Ex.eval, hx, hy, appD]
  rw [if_pos ⟨.inl trivial, by rcases h with h | rfl <;> simp [*]⟩]
  cases b <;> simp
theorem Kd.two_or {k : Nat} {cs : List Cl} (h : Kd k cs) : k = 2 ∨ crs cs = [] := by
  rcases h with h | ⟨_, rfl⟩
  · exact .inl h
  · exact .inr rfl
theorem Kd.take {k n : Nat} {cs : List Cl} (h : Kd k cs) : Kd k (cs.take n) := by
  rcases h with h | ⟨h, rfl⟩
  · exact .inl h
  · exact .inr ⟨h, by simp⟩
theorem Kd.drop {k n : Nat} {cs : List Cl} (h : Kd k cs) : Kd k (cs.drop n) := by
  rcases h with h | ⟨h, rfl⟩
  · exact .inl h
  · exact .inr ⟨h, by simp⟩
theorem memClear_wp {k s a b : Nat} {cs : List Cl} (hk : Kd k cs) (hs : Asc cs) (hl : cs.length ≤ 1000000) (hab : a + b < 18446744073709551616) : IR.wp (Cn gAll) (fun r => r = [md 2 s (clrM cs (a / 8) ((a + b) / 8))]) mem_Clear_ir [] (leavesOf [md k s cs, u a, u b]) := by
  unfold mem_Clear_ir
  simp only [lv_cons, lv_nil, app_cons, app_nil]
  have hcl := crs_len (cs := cs)
  refine wp_lt (u_quo (b := 8) rfl rfl (by omega) (by omega)) ?_
  simp only [lv_cons, lv_nil, app_cons, app_nil]
  refine wp_call rfl (memFind_con (s := s) (a := a / 8) hk hs (by omega)) rfl ?_
  simp only [lv_cons, lv_nil, app_cons, app_nil]
  refine wp_lt (u_add rfl rfl hab) ?_
  simp only [lv_cons, lv_nil, app_cons, app_nil]
  refine wp_lt (u_quo (b := 8) rfl rfl (by omega) hab) ?_
  simp only [lv_cons, lv_nil, app_cons, app_nil]
  refine wp_call rfl (memFind_con (s := s) (a := (a + b) / 8) hk hs (by omega)) rfl ?_
  simp only [lv_cons, lv_nil, app_cons, app_nil]
  have hlow := lowN_le (cs := cs) (a := a / 8)
  have hlow2 := lowN_le (cs := cs) (a := (a + b) / 8)
  unfold clrM
  generalize lowN cs (a / 8) = p at hlow ⊢
  generalize lowN cs ((a + b) / 8) = q at hlow2 ⊢
  generalize hasN cs (a / 8) = h1
  generalize hasN cs ((a + b) / 8) = h2
  obtain ⟨k', hk'⟩ := app_w (n := 2) (ρ := [U s, .sl k (crs cs), U a, U b, U (a / 8), I p, .b h1, U (a + b), U ((a + b) / 8), I q, .b h2]) (x := .c (.sl 0 [])) (y := .v 1) rfl rfl (.inr ⟨rfl, rfl⟩) hk.two_or
  refine wp_chk (bnd_t (a := 0) (c := cs.length) rfl rfl (len_is rfl crs_len) (by omega) hlow) ?_
  refine wp_chk (room_t hk' (by simp)) ?_
  refine wp_chk (bnd_t (a := q) (b := cs.length) (c := cs.length) rfl (len_is rfl crs_len) (len_is rfl crs_len) hlow2 (by omega)) ?_
  refine wp_chk (room_t hk' (by simp)) ?_
  have hA : ∀ ρ : List D, ρ[1]? = some (.sl k (crs cs)) → ρ[5]? = some (I p) → (Ex.sub (.v 1) (.c (.i .i64 0)) (.v 5)).eval ρ = some (.sl k (crs (cs.take p))) := fun ρ e1 e2 => by
    have := sub_e (lo := .c (.i .i64 0)) (hi := .v 5) (a := 0) (b := p) (ρ := ρ) (x := .v 1) e1 rfl e2 (by omega) (by omega)
    rw [this, List.drop_zero, crs_take]
  have hB : ∀ ρ : List D, ρ[1]? = some (.sl k (crs cs)) → ρ[9]? = some (I q) → (Ex.sub (.v 1) (.v 9) (.len (.v 1))).eval ρ = some (.sl k (crs (cs.drop q))) := fun ρ e1 e2 => by
    have := sub_e (lo := .v 9) (hi := .len (.v 1)) (a := q) (b := cs.length) (ρ := ρ) (x := .v 1) e1 e2 (len_is e1 crs_len) (by omega) (by omega)
    rw [this, ← hcl, List.take_length, crs_drop]
  refine wp_rounds (fun m ds => ∃ (x n : Nat), ds = [I x, I n] ∧ n + m = 3 ∧ n ≤ 2 ∧ x = (if n = 0 then 0 else if n = 1 then p else p + (cs.length - q))) 3 rfl ⟨0, 0, rfl, by omega, by omega, rfl⟩ ?_
    (fun es hes => by obtain ⟨_, n, _, h1, h2, _⟩ := hes; omega)
  rintro m es Q ⟨x, n, rfl, hm, hle, hx⟩ hQ
  simp only [lv_cons, lv_nil, app_cons, app_nil]
  refine wp_lt rfl ?_
  simp only [lv_cons, lv_nil, app_cons, app_nil]
  refine wp_ite rfl (fun hc => ?_) (fun hc => ?_)
  · have hc := of_decide_eq_true hc
    refine wp_chk (two_inb (hA _ rfl rfl) (hB _ rfl rfl) rfl (by omega)) ?_
    refine wp_chk (two_inb (hA _ rfl rfl) (hB _ rfl rfl) rfl (by omega)) ?_
    refine wp_lt (len_is (L := if n = 0 then p else cs.length - q) (two_e (hA _ rfl rfl) (hB _ rfl rfl) rfl (by omega)) (by split <;> simp [crs] <;> omega)) ?_
    simp only [lv_cons, lv_nil, app_cons, app_nil]
    have hxb : x ≤ 2000000 := by
      rw [hx]
      split
      · omega
      · split <;> omega
    have hL : (if n = 0 then p else cs.length - q) ≤ 1000000 := by split <;> omega
    refine wp_lt (d := I ((x + if n = 0 then p else cs.length - q : Nat))) ((i_add (a := (x : Int)) (b := ((if n = 0 then p else cs.length - q : Nat) : Int)) rfl rfl (by omega) (by omega)).trans (by rw [Int.natCast_add])) ?_
    simp only [lv_cons, lv_nil, app_cons, app_nil]
    refine wp_lt (d := .b false) (cmp_e rfl (decide_eq_false (by omega))) ?_
    simp only [lv_cons, lv_nil, app_cons, app_nil]
    refine wp_ite (t := false) rfl (fun h => by cases h) (fun _ => ?_)
    refine wp_lt (i_add (a := (n : Int)) (b := 1) rfl rfl (by omega) (by omega)) ?_
    simp only [lv_cons, lv_nil, app_cons, app_nil]
    refine wp_cont rfl rfl (hQ _ ⟨_, n + 1, rfl, by omega, by omega, ?_⟩)
    rcases n with _ | _ | n
    · simp at hx ⊢; omega
    · simp at hx ⊢; omega
    · omega
  · have hc := of_decide_eq_false hc
    obtain rfl : n = 2 := by omega
    have hx : x = p + (cs.length - q) := hx
    refine wp_chk (eqs_i rfl rfl) ?_
    refine wp_call rfl (con_eat (by decide) (grow_con (n := x) (by omega))) rfl ?_
    simp only [lv_cons, lv_nil, app_cons, app_nil]
    refine wp_rounds (fun m ds => ∃ (r : List Cl) (n : Nat), ds = [I n, .sl 2 (crs r)] ∧ n + m = 3 ∧ n ≤ 2 ∧ r = (if n = 0 then [] else if n = 1 then cs.take p else cs.take p ++ cs.drop q)) 3 rfl ⟨[], 0, rfl, by omega, by omega, rfl⟩ ?_
      (fun es hes => by obtain ⟨_, n, _, h1, h2, _⟩ := hes; omega)
    rintro m es Q2 ⟨r, n, rfl, hm2, hle2, hr⟩ hQ2
    simp only [lv_cons, lv_nil, app_cons, app_nil]
    refine wp_lt rfl ?_
    simp only [lv_cons, lv_nil, app_cons, app_nil]
    refine wp_ite rfl (fun hc => ?_) (fun hc => ?_)
    · have hc := of_decide_eq_true hc
      refine wp_chk (two_inb (hA _ rfl rfl) (hB _ rfl rfl) rfl (by omega)) ?_
      refine wp_chk (two_inb (hA _ rfl rfl) (hB _ rfl rfl) rfl (by omega)) ?_
      have hapd : ∀ ρ : List D, ρ[1]? = some (.sl k (crs cs)) → ρ[5]? = some (I p) → ρ[9]? = some (I q) → ρ[15]? = some (I n) → ρ[16]? = some (.sl 2 (crs r)) → (Ex.app 2 (.v 16) (.idx (.cat (.one [(.sub (.v 1) (.c (.i .i64 0)) (.v 5))]) (.one [(.sub (.v 1) (.v 9) (.len (.v 1)))])) (.v 15) 0)).eval ρ = some (.sl 2 (crs (r ++ if n = 0 then cs.take p else cs.drop q))) := fun ρ e1 e5 e9 e15 e16 => by
        have := app_k (n := 2) (x := .v 16) e16 (two_e (ix := .v 15) (m := n) (hA _ e1 e5) (hB _ e1 e9) e15 (by omega)) (by
          rcases hk with rfl | ⟨_, rfl⟩
          · exact .inl rfl
          · right; split <;> simp [crs])
        rw [this]
        congr 1
        split <;> simp [crs]
      refine wp_chk (room_t (hapd _ rfl rfl rfl rfl rfl) ?_) ?_
      · have : (crs (r ++ if n = 0 then cs.take p else cs.drop q)).length ≤ 2 * cs.length := by
          rw [crs_len, List.length_append, hr]
          rcases n with _ | _ | n
          · simp; omega
          · simp; omega
          · omega
        omega
      refine wp_lt (i_add (a := (n : Int)) (b := 1) rfl rfl (by omega) (by omega)) ?_
      simp only [lv_cons, lv_nil, app_cons, app_nil]
      refine wp_cont rfl (es_cons rfl (es_cons (hapd _ rfl rfl rfl rfl rfl) rfl)) (hQ2 _ ⟨_, n + 1, rfl, by omega, by omega, ?_⟩)
      rcases n with _ | _ | n
      · simp at hr ⊢; simp [hr]
      · simp at hr ⊢; simp [hr]
      · omega
    · have hc := of_decide_eq_false hc
      obtain rfl : n = 2 := by omega
      have hr : r = cs.take p ++ cs.drop q := hr
      rw [← hr]
      exact wp_return rfl rfl

theorem memClear_con {k s a b : Nat} {cs : List Cl} (hk : Kd k cs) (hs : Asc cs) (hl : cs.length ≤ 1000000) (hab : a + b < 18446744073709551616) : Cn gAll 22 [md k s cs, u a, u b] [md 2 s (clrM cs (a / 8) ((a + b) / 8))] := con rfl rfl mem_Clear_c mem_Clear_p rfl (memClear_wp hk hs hl hab)
theorem memClear_conN {k s a b : Nat} {cs : List Cl} (hk : Kd k cs) (hs : Asc cs) (hl : cs.length ≤ 1000000) (hab : a + b < 18446744073709551616) : Cn gAll (nwOff + 22) [md k s cs, u a, u b] [md 2 s (clrM cs (a / 8) ((a + b) / 8))] := conN rfl rfl mem_Clear_n mem_Clear_p rfl uniq_md plain_md (memClear_wp hk hs hl hab)

/-! ### the reference -/
/-- results whose rows may be told as none -/
def Md (s : Nat) (cs : List Cl) (r : List DV) : Prop := ∃ k, Kd k cs ∧ r = [md k s cs]
theorem wk_Md {s : Nat} {cs : List Cl} {r : List DV} (h : Md s cs r) : WkR r [md 2 s cs] := by
  obtain ⟨k, hk | ⟨hk, h⟩, rfl⟩ := h
  · rw [hk]; exact fun _ _ _ h => h
  · rw [hk, h]; exact wk_md
theorem take_one {cs : List Cl} {n : Nat} {c : Cl} (h : cs[n]? = some c) : cs.take (n + 1) = cs.take n ++ [c] := by
  rw [List.take_add_one, h]; rfl
theorem row_e {ρ : List D} {x ix : Ex} {k : Nat} {m : Nat} {cs : List Cl} {c : Cl} (hx : x.eval ρ = some (.sl 2 (crs cs))) (hi : ix.eval ρ = some (.i .i64 (m : Int))) (hc : cs[m]? = some c) : Ex.evals ρ [.idx x ix 0, .idx x ix 1] = some (crow c) :=
  es_cons (idx_e hx hi (crow_of hc) rfl) (evs_one (idx_e hx hi (crow_of hc) rfl))
theorem crs_app {a b : List Cl} : crs (a ++ b) = crs a ++ crs b := by rw [crs, crs, crs, List.map_append]
/-- a row more -/
theorem more_e {ρ : List D} {x : Ex} {xs : List Ex} {k : Nat} {r : List Cl} {c : Cl} (hx : x.eval ρ = some (.sl k (crs r))) (hk : Kd k r) (h : Ex.evals ρ xs = some (crow c)) : (Ex.app 2 x (.one xs)).eval ρ = some (.sl 2 (crs (r ++ [c]))) := by
  rw [crs_app]
  exact app_e hx (one_e h rfl) (by rcases hk with h | ⟨h, rfl⟩; exact .inl h; exact .inr ⟨h, rfl⟩) (by simp)
theorem row_room {ρ : List D} {x : Ex} {r : List Cl} (hx : x.eval ρ = some (.sl 2 (crs r))) (h : r.length ≤ 1000000) : (Ex.room (.len x) 17).eval ρ = some (.b true) :=
  room_t hx (by rw [crs_len]; omega)
def keptB (a b : Nat) (c : Cl) : Bool := decide (8 * c.1 < a) || decide (a + b ≤ 8 * c.1)
theorem refClear_con {k s a b : Nat} {cs : List Cl} (hk : Kd k cs) (hc8 : ∀ c ∈ cs, c.1 < 1152921504606846976) (hl : cs.length ≤ 900000) (hab : a + b < 18446744073709551616) : Cn gAll 23 [md k s cs, u a, u b] [md 2 s (cs.filter (keptB a b))] := by
  refine con' rfl rfl atlasref03_Clear_c atlasref03_Clear_p (Md s (cs.filter (keptB a b))) (fun r hr => wk_Md hr) rfl ?_
  unfold atlasref03_Clear_ir
  simp only [lv_cons, lv_nil, app_cons, app_nil]
  refine wp_rounds (fun m ds => ∃ (n k' : Nat) (r : List Cl), ds = [I n, .sl k' (crs r)] ∧ Kd k' r ∧ n + m = cs.length + 1 ∧ n ≤ cs.length ∧ r = (cs.take n).filter (keptB a b)) (cs.length + 1) rfl ⟨0, 0, [], rfl, .inr ⟨rfl, rfl⟩, by omega, by omega, by simp⟩ ?_
    (fun es hes => by obtain ⟨n, _, _, _, _, h1, h2, _⟩ := hes; omega)
  rintro m es Q ⟨n, k', r, rfl, hk', hm, hle, hr⟩ hQ
  simp only [lv_cons, lv_nil, app_cons, app_nil]
  have hrl : r.length ≤ cs.length := by rw [hr]; exact Nat.le_trans (List.length_filter_le _ _) (by rw [List.length_take]; omega)
  refine wp_lt (len_is rfl crs_len) ?_
  simp only [lv_cons, lv_nil, app_cons, app_nil]
  refine wp_lt rfl ?_
  simp only [lv_cons, lv_nil, app_cons, app_nil]
  refine wp_ite rfl (fun hc => ?_) (fun hc => ?_)
  · have hc := of_decide_eq_true hc
    have hnl : n < cs.length := by omega
    obtain rfl := hk.two (by omega)
    obtain ⟨c, hcs⟩ : ∃ c, cs[n]? = some c := ⟨_, List.getElem?_eq_getElem hnl⟩
    have hc8' := hc8 c (List.mem_of_getElem? hcs)
    have hrow := crow_of hcs
    have hst := congrArg (List.filter (keptB a b)) (take_one hcs)
    rw [List.filter_append, ← hr] at hst
    refine wp_chk (inb_t rfl rfl (by rw [crs_len]; exact hnl)) ?_
    refine wp_lt (u_mul (a := 8) (b := c.1) rfl (idx_e rfl rfl hrow rfl) (by omega)) ?_
    simp only [lv_cons, lv_nil, app_cons, app_nil]
    refine wp_lt (e_lss rfl rfl) ?_
    simp only [lv_cons, lv_nil, app_cons, app_nil]
    refine wp_ite rfl (fun h1 => ?_) (fun h1 => ?_)
    · have h1 := of_decide_eq_true h1
      have hp : keptB a b c = true := by simp only [keptB, Bool.or_eq_true, decide_eq_true_eq]; omega
      rw [List.filter_cons_of_pos hp, List.filter_nil] at hst
      refine wp_chk (inb_t rfl rfl (by rw [crs_len]; exact hnl)) ?_
      refine wp_chk (row_room (more_e rfl hk' (row_e (k := k') rfl rfl hcs)) (by rw [List.length_append, List.length_singleton]; omega)) ?_
      refine wp_lt (i_add (a := (n : Int)) (b := 1) rfl rfl (by omega) (by omega)) ?_
      simp only [lv_cons, lv_nil, app_cons, app_nil]
      exact wp_cont rfl (es_cons rfl (es_cons (more_e rfl hk' (row_e (k := k') rfl rfl hcs)) rfl)) (hQ _ ⟨n + 1, 2, _, rfl, .inl rfl, by omega, by omega, hst.symm⟩)
    have h1 := of_decide_eq_false h1
    refine wp_chk (inb_t rfl rfl (by rw [crs_len]; exact hnl)) ?_
    refine wp_lt (u_mul (a := 8) (b := c.1) rfl (idx_e rfl rfl hrow rfl) (by omega)) ?_
    simp only [lv_cons, lv_nil, app_cons, app_nil]
    refine wp_lt (u_add rfl rfl hab) ?_
    simp only [lv_cons, lv_nil, app_cons, app_nil]
    refine wp_lt (e_geq rfl rfl) ?_
    simp only [lv_cons, lv_nil, app_cons, app_nil]
    refine wp_ite rfl (fun h2 => ?_) (fun h2 => ?_)
    · have h2 := of_decide_eq_true h2
      have hp : keptB a b c = true := by simp only [keptB, Bool.or_eq_true, decide_eq_true_eq]; omega
      rw [List.filter_cons_of_pos hp, List.filter_nil] at hst
      refine wp_chk (inb_t rfl rfl (by rw [crs_len]; exact hnl)) ?_
      refine wp_chk (row_room (more_e rfl hk' (row_e (k := k') rfl rfl hcs)) (by rw [List.length_append, List.length_singleton]; omega)) ?_
      refine wp_lt (i_add (a := (n : Int)) (b := 1) rfl rfl (by omega) (by omega)) ?_
      simp only [lv_cons, lv_nil, app_cons, app_nil]
      exact wp_cont rfl (es_cons rfl (es_cons (more_e rfl hk' (row_e (k := k') rfl rfl hcs)) rfl)) (hQ _ ⟨n + 1, 2, _, rfl, .inl rfl, by omega, by omega, hst.symm⟩)
    · have h2 := of_decide_eq_false h2
      have hp : ¬ keptB a b c = true := by simp only [keptB, Bool.or_eq_true, decide_eq_true_eq]; omega
      rw [List.filter_cons_of_neg hp, List.filter_nil, List.append_nil] at hst
      refine wp_lt (i_add (a := (n : Int)) (b := 1) rfl rfl (by omega) (by omega)) ?_
      simp only [lv_cons, lv_nil, app_cons, app_nil]
      exact wp_cont rfl rfl (hQ _ ⟨n + 1, k', r, rfl, hk', by omega, by omega, hst.symm⟩)
  · have hc := of_decide_eq_false hc
    obtain rfl : n = cs.length := by omega
    rw [List.take_length] at hr
    subst hr
    exact wp_return rfl ⟨k', hk', rfl⟩

/-- putting, of what has been looked at -/
def setR (cs : List Cl) (p v : Nat) : List Cl := below cs p ++ ((if v = 0 ∨ above cs (p + 1) = [] then [] else [(p, v)]) ++ above cs (p + 1))
theorem above_lt {l : List Cl} {c : Cl} {p : Nat} (hs : Asc (l ++ [c])) (h : c.1 ≤ p) : above l (p + 1) = [] := by
  rw [above, List.filter_eq_nil_iff]
  intro x hx
  have := (List.pairwise_append.1 hs).2.2 x hx c List.mem_cons_self
  simp
  omega
theorem above_end {l : List Cl} {c : Cl} {p : Nat} : above (l ++ [c]) (p + 1) = above l (p + 1) ++ if p < c.1 then [c] else [] := by
  rw [above, List.filter_append]
  congr 1
  by_cases h : p < c.1
  · rw [List.filter_cons_of_pos (by simp; omega), if_pos h]; rfl
  · rw [List.filter_cons_of_neg (by simp; omega), if_neg h]; rfl
theorem below_end {l : List Cl} {c : Cl} {p : Nat} : below (l ++ [c]) p = below l p ++ if c.1 < p then [c] else [] := by
  rw [below, List.filter_append]
  congr 1
  by_cases h : c.1 < p
  · rw [List.filter_cons_of_pos (by simpa using h), if_pos h]; rfl
  · rw [List.filter_cons_of_neg (by simpa using h), if_neg h]; rfl
theorem setR_lt {l : List Cl} {c : Cl} {p v : Nat} (hs : Asc (l ++ [c])) (h : c.1 < p) : setR (l ++ [c]) p v = setR l p v ++ [c] := by
  have := above_lt hs (Nat.le_of_lt h)
  simp [setR, above_end, below_end, this, h, show ¬ p < c.1 by omega]
theorem setR_eq {l : List Cl} {c : Cl} {p v : Nat} (hs : Asc (l ++ [c])) (h : c.1 = p) : setR (l ++ [c]) p v = setR l p v := by
  have := above_lt hs (Nat.le_of_eq h)
  simp [setR, above_end, below_end, this, show ¬ p < c.1 by omega, show ¬ c.1 < p by omega]
theorem setR_gt {l : List Cl} {c : Cl} {p v : Nat} (h : p < c.1) (hd : v = 0 ∨ above l (p + 1) ≠ []) : setR (l ++ [c]) p v = setR l p v ++ [c] := by
  simp only [setR, above_end, below_end, if_pos h, if_neg (show ¬ c.1 < p by omega), List.append_nil]
  rcases hd with hd | hd
  · simp [hd]
  · simp [hd]
theorem setR_in {l : List Cl} {c : Cl} {p v : Nat} (h : p < c.1) (hv : v ≠ 0) (hd : above l (p + 1) = []) : setR (l ++ [c]) p v = setR l p v ++ [(p, v)] ++ [c] := by
  simp [setR, above_end, below_end, if_pos h, if_neg (show ¬ c.1 < p by omega), hv, hd]
theorem setR_len {l : List Cl} {p v : Nat} : (setR l p v).length ≤ 2 * l.length + 1 := by
  have h1 : (below l p).length ≤ l.length := List.length_filter_le _ _
  have h2 : (above l (p + 1)).length ≤ l.length := List.length_filter_le _ _
  have h3 : (if v = 0 ∨ above l (p + 1) = [] then ([] : List Cl) else [(p, v)]).length ≤ 1 := by split <;> simp
  rw [setR, List.length_append, List.length_append]
  omega
theorem refSet_con {k s p v : Nat} {cs : List Cl} (hk : Kd k cs) (hs : Asc cs) (hl : cs.length ≤ 400000) : Cn gAll 35 [md k s cs, u p, u v] [md 2 s (putM cs p v)] := by
  refine con' rfl rfl atlasref03_Set_c atlasref03_Set_p (Md s (putM cs p v)) (fun r hr => wk_Md hr) rfl ?_
  unfold atlasref03_Set_ir
  simp only [lv_cons, lv_nil, app_cons, app_nil]
  refine wp_lt (e_eql rfl rfl) ?_
  simp only [lv_cons, lv_nil, app_cons, app_nil]
  refine wp_rounds (fun m ds => ∃ (d : Bool) (n k' : Nat) (r : List Cl), ds = [.b d, I n, .sl k' (crs r)] ∧ (d = true ↔ v = 0 ∨ above (cs.take n) (p + 1) ≠ []) ∧ Kd k' r ∧ n + m = cs.length + 1 ∧ n ≤ cs.length ∧ r = setR (cs.take n) p v) (cs.length + 1) rfl ⟨_, 0, 0, [], rfl, by simp [above], .inr ⟨rfl, rfl⟩, by omega, by omega, by simp [setR, above, below]⟩ ?_
    (fun es hes => by obtain ⟨_, n, _, _, _, _, _, h1, h2, _⟩ := hes; omega)
  rintro m es Q ⟨d, n, k', r, rfl, hd, hk', hm, hle, hr⟩ hQ
  simp only [lv_cons, lv_nil, app_cons, app_nil]
  have hrl : r.length ≤ 800001 := by
    rw [hr]
    refine Nat.le_trans setR_len ?_
    rw [List.length_take]
    omega
  refine wp_lt (len_is rfl crs_len) ?_
  simp only [lv_cons, lv_nil, app_cons, app_nil]
  refine wp_lt rfl ?_
  simp only [lv_cons, lv_nil, app_cons, app_nil]
  refine wp_ite rfl (fun hc => ?_) (fun hc => ?_)
  · have hc := of_decide_eq_true hc
    have hnl : n < cs.length := by omega
    obtain rfl := hk.two (by omega)
    obtain ⟨c, hcs⟩ : ∃ c, cs[n]? = some c := ⟨_, List.getElem?_eq_getElem hnl⟩
    have hrow := crow_of hcs
    have hst := take_one hcs
    have hs' : Asc (cs.take n ++ [c]) := by rw [← hst]; exact hs.take
    have hae : above (cs.take (n + 1)) (p + 1) = above (cs.take n) (p + 1) ++ if p < c.1 then [c] else [] := by rw [hst, above_end]
    refine wp_lt (d := (.b (!d))) rfl ?_
    simp only [lv_cons, lv_nil, app_cons, app_nil]
    refine wp_ite rfl (fun h1 => ?_) (fun h1 => ?_)
    · have h1 : d = false := by simpa using h1
      have hnd : v ≠ 0 ∧ above (cs.take n) (p + 1) = [] := by
        have : ¬ (v = 0 ∨ above (cs.take n) (p + 1) ≠ []) := fun h => by rw [hd.2 h] at h1; cases h1
        exact ⟨fun h => this (.inl h), Classical.not_not.1 fun h => this (.inr h)⟩
      refine wp_chk (inb_t rfl rfl (by rw [crs_len]; exact hnl)) ?_
      refine wp_lt (e_gtr (idx_e rfl rfl hrow rfl) rfl) ?_
      simp only [lv_cons, lv_nil, app_cons, app_nil]
      refine wp_ite rfl (fun h2 => ?_) (fun h2 => ?_)
      · have h2 := of_decide_eq_true h2
        have h2 : p < c.1 := by omega
        have hin := setR_in (l := cs.take n) h2 hnd.1 hnd.2
        rw [← hst, ← hr] at hin
        have hap := fun (ρ : List D) (e7 : (Ex.v 7).eval ρ = some (.sl k' (crs r))) (e2 : (Ex.v 2).eval ρ = some (U p)) (e3 : (Ex.v 3).eval ρ = some (U v)) => more_e (c := (p, v)) e7 hk' (es_cons e2 (evs_one e3))
        refine wp_chk (row_room (hap _ rfl rfl rfl) (by rw [List.length_append, List.length_singleton]; omega)) ?_
        refine wp_chk (inb_t rfl rfl (by rw [crs_len]; exact hnl)) ?_
        refine wp_lt (d := .b true) (cmp_e (e_neq (idx_e rfl rfl hrow rfl) rfl) (bne_iff_ne.2 (by omega))) ?_
        simp only [lv_cons, lv_nil, app_cons, app_nil]
        refine wp_ite (t := true) rfl (fun _ => ?_) (fun h => by cases h)
        refine wp_chk (inb_t rfl rfl (by rw [crs_len]; exact hnl)) ?_
        refine wp_chk (row_room (more_e (hap _ rfl rfl rfl) (.inl rfl) (row_e (k := 2) rfl rfl hcs)) (by simp only [List.length_append, List.length_singleton]; omega)) ?_
        refine wp_lt (i_add (a := (n : Int)) (b := 1) rfl rfl (by omega) (by omega)) ?_
        simp only [lv_cons, lv_nil, app_cons, app_nil]
        refine wp_cont rfl (es_cons rfl (es_cons rfl (es_cons (more_e (hap _ rfl rfl rfl) (.inl rfl) (row_e (k := 2) rfl rfl hcs)) rfl))) (hQ _ ⟨true, n + 1, 2, _, rfl, ?_, .inl rfl, by omega, by omega, hin.symm⟩)
        rw [hae, if_pos h2]
        simp
      · have h2 := of_decide_eq_false h2
        have h2 : ¬ p < c.1 := by omega
        refine wp_chk (inb_t rfl rfl (by rw [crs_len]; exact hnl)) ?_
        refine wp_lt (e_neq (idx_e rfl rfl hrow rfl) rfl) ?_
        simp only [lv_cons, lv_nil, app_cons, app_nil]
        have hd' : d = true ↔ v = 0 ∨ above (cs.take (n + 1)) (p + 1) ≠ [] := by rw [hae, if_neg h2, List.append_nil]; exact hd
        refine wp_ite rfl (fun h3 => ?_) (fun h3 => ?_)
        · have h3 := bne_iff_ne.1 h3
          have hlt := setR_lt (v := v) hs' (show c.1 < p by omega)
          rw [← hst, ← hr] at hlt
          refine wp_chk (inb_t rfl rfl (by rw [crs_len]; exact hnl)) ?_
          refine wp_chk (row_room (more_e rfl hk' (row_e (k := k') rfl rfl hcs)) (by rw [List.length_append, List.length_singleton]; omega)) ?_
          refine wp_lt (i_add (a := (n : Int)) (b := 1) rfl rfl (by omega) (by omega)) ?_
          simp only [lv_cons, lv_nil, app_cons, app_nil]
          exact wp_cont rfl (es_cons rfl (es_cons rfl (es_cons (more_e rfl hk' (row_e (k := k') rfl rfl hcs)) rfl))) (hQ _ ⟨d, n + 1, 2, _, rfl, hd', .inl rfl, by omega, by omega, hlt.symm⟩)
        · have h3 : c.1 = p := by have : ((c.1 : Nat) : Int) = p := by simpa using h3
                                  omega
          have heq := setR_eq (v := v) hs' h3
          rw [← hst, ← hr] at heq
          refine wp_lt (i_add (a := (n : Int)) (b := 1) rfl rfl (by omega) (by omega)) ?_
          simp only [lv_cons, lv_nil, app_cons, app_nil]
          exact wp_cont rfl rfl (hQ _ ⟨d, n + 1, k', r, rfl, hd', hk', by omega, by omega, heq.symm⟩)
    · have h1 : d = true := by simpa using h1
      have hyd := hd.1 h1
      have hd' : d = true ↔ v = 0 ∨ above (cs.take (n + 1)) (p + 1) ≠ [] := by
        refine ⟨fun _ => ?_, fun _ => h1⟩
        rcases hyd with h | h
        · exact .inl h
        · exact .inr (by rw [hae]; simp [h])
      refine wp_chk (inb_t rfl rfl (by rw [crs_len]; exact hnl)) ?_
      refine wp_lt (e_neq (idx_e rfl rfl hrow rfl) rfl) ?_
      simp only [lv_cons, lv_nil, app_cons, app_nil]
      refine wp_ite rfl (fun h3 => ?_) (fun h3 => ?_)
      · have h3 := bne_iff_ne.1 h3
        have hlt : setR (cs.take n ++ [c]) p v = setR (cs.take n) p v ++ [c] := by
          by_cases h4 : c.1 < p
          · exact setR_lt hs' h4
          · exact setR_gt (by omega) hyd
        rw [← hst, ← hr] at hlt
        refine wp_chk (inb_t rfl rfl (by rw [crs_len]; exact hnl)) ?_
        refine wp_chk (row_room (more_e rfl hk' (row_e (k := k') rfl rfl hcs)) (by rw [List.length_append, List.length_singleton]; omega)) ?_
        refine wp_lt (i_add (a := (n : Int)) (b := 1) rfl rfl (by omega) (by omega)) ?_
        simp only [lv_cons, lv_nil, app_cons, app_nil]
        exact wp_cont rfl (es_cons rfl (es_cons rfl (es_cons (more_e rfl hk' (row_e (k := k') rfl rfl hcs)) rfl))) (hQ _ ⟨d, n + 1, 2, _, rfl, hd', .inl rfl, by omega, by omega, hlt.symm⟩)
      · have h3 : c.1 = p := by have : ((c.1 : Nat) : Int) = p := by simpa using h3
                                omega
        have heq := setR_eq (v := v) hs' h3
        rw [← hst, ← hr] at heq
        refine wp_lt (i_add (a := (n : Int)) (b := 1) rfl rfl (by omega) (by omega)) ?_
        simp only [lv_cons, lv_nil, app_cons, app_nil]
        exact wp_cont rfl rfl (hQ _ ⟨d, n + 1, k', r, rfl, hd', hk', by omega, by omega, heq.symm⟩)
  · have hc := of_decide_eq_false hc
    obtain rfl : n = cs.length := by omega
    rw [List.take_length] at hr hd
    refine wp_lt (d := (.b (!d))) rfl ?_
    simp only [lv_cons, lv_nil, app_cons, app_nil]
    refine wp_ite rfl (fun h1 => ?_) (fun h1 => ?_)
    · have h1 : d = false := by simpa using h1
      have hnd : ¬ (v = 0 ∨ above cs (p + 1) ≠ []) := fun h => by rw [hd.2 h] at h1; cases h1
      have hv : v ≠ 0 := fun h => hnd (.inl h)
      have ha : above cs (p + 1) = [] := Classical.not_not.1 fun h => hnd (.inr h)
      have he : r ++ [(p, v)] = putM cs p v := by rw [putM_eq hs, hr, setR, ha, if_neg hv]; simp
      have hap := fun (ρ : List D) (e7 : (Ex.v 7).eval ρ = some (.sl k' (crs r))) (e2 : (Ex.v 2).eval ρ = some (U p)) (e3 : (Ex.v 3).eval ρ = some (U v)) => more_e (c := (p, v)) e7 hk' (es_cons e2 (evs_one e3))
      rw [← he]
      refine wp_chk (row_room (hap _ rfl rfl rfl) (by rw [List.length_append, List.length_singleton]; omega)) ?_
      exact wp_return (evs_cons (es_cons rfl (evs_one (hap _ rfl rfl rfl))) rfl) ⟨2, .inl rfl, rfl⟩
    · have h1 : d = true := by simpa using h1
      have hyd := hd.1 h1
      have he : r = putM cs p v := by
        rw [putM_eq hs, hr, setR]
        by_cases hv : v = 0
        · rw [if_pos (.inl hv), if_pos hv]
        · have : above cs (p + 1) ≠ [] := hyd.resolve_left hv
          rw [if_neg (by rintro (h | h); exact hv h; exact this h), if_neg hv]
      rw [← he]
      exact wp_return rfl ⟨k', hk', rfl⟩
end Go.Proofs.Ytffahdloddkcfaa.Sx

namespace Go.Proofs.Ytffahdloddkcfaa.Sx
open Go
set_option linter.unusedVariables false
set_option linter.unusedSimpArgs false
set_option maxRecDepth 100000

abbrev byt (b : Nat) : List D := [.i .u8 (b : Int)]
abbrev bys (l : List Nat) : List (List D) := l.map byt
theorem bys_len {l : List Nat} : (bys l).length = l.length := List.length_map ..
theorem bys_get {l : List Nat} {j b : Nat} (h : l[j]? = some b) : (bys l)[j]? = some (byt b) := by rw [List.getElem?_map, h]; rfl
theorem cv_u8 {ρ : List D} {x : Ex} {k : IntKind} {n : Nat} (hx : x.eval ρ = some (.i k (n : Int))) (h : n < 256) : (Ex.cv .u8 x).eval ρ = some (.i .u8 (n : Int)) := by
  have : IntKind.u8.wrap (n : Int) = (n : Int) := by
    show (n : Int) % 256 = n
    omega
  simp [Ex.eval, hx, this]
/-- a byte more -/
theorem by_more {ρ : List D} {x y : Ex} {k v j : Nat} (hx : x.eval ρ = some (.sl k (bys (putB v j)))) (hy : y.eval ρ = some (.i .u8 ((v / 256 ^ j % 256 : Nat) : Int))) (hk : k = 1 ∨ (k = 0 ∧ j = 0)) : (Ex.app 1 x (.one [y])).eval ρ = some (.sl 1 (bys (putB v (j + 1)))) := by
  rw [putB_end, bys, List.map_append]
  exact app_e hx (one_e (evs_one hy) rfl) (by rcases hk with h | ⟨h, rfl⟩; exact .inl h; exact .inr ⟨h, rfl⟩) (by simp)
theorem refPutB_con {v n : Nat} (hv : v < 18446744073709551616) (h1 : 1 ≤ n) (h8 : n ≤ 8) : Cn gAll 34 [u v, i n] [(false, [.sl 1 (bys (putB v n))])] := by
  refine con rfl rfl atlasref02_Put_c atlasref02_Put_p rfl ?_
  unfold atlasref02_Put_ir
  simp only [lv_cons, lv_nil, app_cons, app_nil]
  refine wp_rounds (fun m ds => ∃ (j k' : Nat), ds = [U (v / 256 ^ j), I j, .sl k' (bys (putB v j))] ∧ (k' = 1 ∨ (k' = 0 ∧ j = 0)) ∧ j + m = n + 1 ∧ j ≤ n) (n + 1) rfl ⟨0, 0, by simp [putB, bys], .inr ⟨rfl, rfl⟩, by omega, by omega⟩ ?_
    (fun es hes => by obtain ⟨_, _, _, _, h1, h2⟩ := hes; omega)
  rintro m es Q_ ⟨j, k', rfl, hk', hm, hle⟩ hQ_
  simp only [lv_cons, lv_nil, app_cons, app_nil]
  refine wp_lt rfl ?_
  simp only [lv_cons, lv_nil, app_cons, app_nil]
  refine wp_ite rfl (fun hc => ?_) (fun hc => ?_)
  · have hc := of_decide_eq_true hc
    have hlt : v / 256 ^ j < 18446744073709551616 := Nat.lt_of_le_of_lt (Nat.div_le_self _ _) hv
    have hq : v / 256 ^ j / 256 = v / 256 ^ (j + 1) := by rw [Nat.div_div_eq_div_mul, Nat.pow_succ]
    refine wp_lt (u_rem (b := 256) rfl rfl (by omega)) ?_
    simp only [lv_cons, lv_nil, app_cons, app_nil]
    refine wp_lt (cv_u8 rfl (by omega)) ?_
    simp only [lv_cons, lv_nil, app_cons, app_nil]
    refine wp_chk (room_t (by_more rfl rfl hk') (by rw [bys_len, putB_len]; omega)) ?_
    refine wp_lt (u_quo (b := 256) rfl rfl (by omega) hlt) ?_
    rw [hq]
    simp only [lv_cons, lv_nil, app_cons, app_nil]
    refine wp_lt (i_add (a := (j : Int)) (b := 1) rfl rfl (by omega) (by omega)) ?_
    simp only [lv_cons, lv_nil, app_cons, app_nil]
    exact wp_cont rfl (es_cons rfl (es_cons rfl (evs_one (by_more rfl rfl hk')))) (hQ_ _ ⟨j + 1, 1, rfl, .inl rfl, by omega, by omega⟩)
  have hc := of_decide_eq_false hc
  obtain rfl : j = n := by omega
  obtain rfl : k' = 1 := by omega
  exact wp_return rfl rfl
theorem refGet_con {bs : List Nat} (hb : ∀ x ∈ bs, x < 256) (h8 : bs.length ≤ 8) : Cn gAll 31 [(false, [.sl 1 (bys bs)])] [u (getB bs)] := by
  refine con rfl rfl atlasref02_Get_c atlasref02_Get_p rfl ?_
  unfold atlasref02_Get_ir
  simp only [lv_cons, lv_nil, app_cons, app_nil]
  refine wp_lt (len_is rfl bys_len) ?_
  simp only [lv_cons, lv_nil, app_cons, app_nil]
  refine wp_lt (d := I bs.length) ?_ ?_
  · simp only [Ex.eval, List.getElem?_cons_succ, List.getElem?_cons_zero, binD]
    rw [decide_eq_false (by omega)]
    rfl
  simp only [lv_cons, lv_nil, app_cons, app_nil]
  refine wp_lt (i_sub (a := (bs.length : Int)) (b := 1) rfl rfl (by omega) (by omega)) ?_
  simp only [lv_cons, lv_nil, app_cons, app_nil]
  refine wp_rounds (fun m ds => ∃ (j : Nat), ds = [U (getB (bs.drop j)), I ((j : Int) - 1)] ∧ m = j + 1 ∧ j ≤ bs.length) (bs.length + 1) rfl ⟨bs.length, by simp [getB], rfl, by omega⟩ ?_
    (fun es hes => by obtain ⟨_, _, h1, _⟩ := hes; omega)
  rintro m es Q ⟨j, rfl, hm, hle⟩ hQ
  simp only [lv_cons, lv_nil, app_cons, app_nil]
  refine wp_lt rfl ?_
  simp only [lv_cons, lv_nil, app_cons, app_nil]
  refine wp_ite rfl (fun hc => ?_) (fun hc => ?_)
  · have hc := of_decide_eq_true hc
    obtain ⟨j, rfl⟩ : ∃ q, j = q + 1 := ⟨j - 1, by omega⟩
    have hjl : j < bs.length := by omega
    obtain ⟨b, hbj⟩ : ∃ b, bs[j]? = some b := ⟨_, List.getElem?_eq_getElem hjl⟩
    have hb256 : b < 256 := hb b (List.mem_of_getElem? hbj)
    have hdr : bs.drop j = b :: bs.drop (j + 1) := by
      rw [List.drop_eq_getElem_cons hjl]
      rw [List.getElem?_eq_getElem hjl] at hbj
      cases hbj
      rfl
    have hg : getB (bs.drop j) = 256 * getB (bs.drop (j + 1)) + b := by rw [hdr]; rfl
    have hlt : getB (bs.drop j) < 256 ^ 8 := Nat.lt_of_lt_of_le (getB_lt fun x hx => hb x (List.mem_of_mem_drop hx)) (Nat.pow_le_pow_right (by decide) (by rw [List.length_drop]; omega))
    have hlt : getB (bs.drop j) < 18446744073709551616 := hlt
    have hj1 : (((j + 1 : Nat) : Int) - 1) = (j : Int) := by omega
    rw [hj1]
    refine wp_lt (u_mul (a := 256) (b := getB (bs.drop (j + 1))) rfl rfl (by omega)) ?_
    simp only [lv_cons, lv_nil, app_cons, app_nil]
    refine wp_chk (inb_t rfl rfl (by rw [bys_len]; exact hjl)) ?_
    refine wp_lt (cv_u (idx_e rfl rfl (bys_get hbj) rfl) (by omega)) ?_
    simp only [lv_cons, lv_nil, app_cons, app_nil]
    refine wp_lt (u_add rfl rfl (by omega)) ?_
    rw [← hg]
    simp only [lv_cons, lv_nil, app_cons, app_nil]
    refine wp_lt (i_sub (a := (j : Int)) (b := 1) rfl rfl (by omega) (by omega)) ?_
    simp only [lv_cons, lv_nil, app_cons, app_nil]
    exact wp_cont rfl rfl (hQ _ ⟨j, rfl, by omega, by omega⟩)
  · have hc := of_decide_eq_false hc
    obtain rfl : j = 0 := by omega
    exact wp_return rfl (by rw [List.drop_zero])
theorem putB_small {v n : Nat} : ∀ x ∈ putB v n, x < 256 := by
  intro x hx
  simp only [putB, List.mem_map] at hx
  obtain ⟨_, _, rfl⟩ := hx
  exact Nat.mod_lt _ (by decide)
theorem refLow_con {v n : Nat} (hv : v < 18446744073709551616) (h1 : 1 ≤ n) (h8 : n ≤ 8) : Cn gAll 25 [u v, i n] [u (v % 256 ^ n)] := by
  refine con rfl rfl atlasref02_Low_c atlasref02_Low_p rfl ?_
  unfold atlasref02_Low_ir
  simp only [lv_cons, lv_nil, app_cons, app_nil]
  refine wp_call rfl (refPutB_con hv h1 h8) rfl ?_
  simp only [lv_cons, lv_nil, app_cons, app_nil]
  refine wp_call rfl (refGet_con putB_small (by rw [putB_len]; exact h8)) rfl ?_
  simp only [lv_cons, lv_nil, app_cons, app_nil]
  rw [getB_putB]
  exact wp_return rfl rfl
def pickN (q : Nat) : Nat := match q % 4 with | 0 => 1 | 1 => 2 | 2 => 4 | _ => 8
theorem pick_or (q : Nat) : pickN q = 1 ∨ pickN q = 2 ∨ pickN q = 4 ∨ pickN q = 8 := by
  unfold pickN
  have : q % 4 < 4 := Nat.mod_lt _ (by decide)
  generalize q % 4 = r at this
  rcases r with _ | _ | _ | _ | r <;> simp
theorem refPick_con {q : Nat} : Cn gAll 24 [(false, [.i .u8 (q : Int)])] [i (pickN q)] := by
  refine con rfl rfl atlasref02_Pick_c atlasref02_Pick_p rfl ?_
  unfold atlasref02_Pick_ir
  simp only [lv_cons, lv_nil, app_cons, app_nil]
  refine wp_lt (rem8 (a := q) (m := 4) rfl (by decide)) ?_
  simp only [lv_cons, lv_nil, app_cons, app_nil]
  unfold pickN
  have : q % 4 < 4 := Nat.mod_lt _ (by decide)
  generalize q % 4 = r at this ⊢
  rcases r with _ | _ | _ | _ | r
  · exact wp_chk rfl (wp_chk rfl (wp_return rfl rfl))
  · exact wp_chk rfl (wp_chk rfl (wp_return rfl rfl))
  · exact wp_chk rfl (wp_chk rfl (wp_return rfl rfl))
  · exact wp_chk rfl (wp_chk rfl (wp_return rfl rfl))
  · omega
theorem refByte_con {k s a : Nat} {cs : List Cl} (hk : Kd k cs) (hs : Asc cs) (hO : COk cs) (hl : cs.length < 4611686018427387904) (ha : a < 18446744073709551616) : Cn gAll 30 [md k s cs, u a] [(false, [.i .u8 ((wordN s cs a / 256 ^ (a % 8) % 256 : Nat) : Int)])] := by
  refine con rfl rfl atlasref03_Byte_c atlasref03_Byte_p rfl ?_
  unfold atlasref03_Byte_ir
  simp only [lv_cons, lv_nil, app_cons, app_nil]
  refine wp_call rfl (refWord_con hk hs hl ha) rfl ?_
  simp only [lv_cons, lv_nil, app_cons, app_nil]
  refine wp_call rfl (refPutB_con (n := 8) (wordN_lt hO) (by decide) (by decide)) rfl ?_
  simp only [lv_cons, lv_nil, app_cons, app_nil]
  refine wp_lt (u_rem (b := 8) rfl rfl (by omega)) ?_
  simp only [lv_cons, lv_nil, app_cons, app_nil]
  refine wp_chk (inb_t rfl rfl (by rw [bys_len, putB_len]; omega)) ?_
  exact wp_return (evs_cons (evs_one (idx_e rfl rfl (bys_get (putB_get (by omega))) rfl)) rfl) rfl

theorem wrong_0 {s a : Nat} {z : Int} (h : wrongN s a z = 0) : ∃ n : Nat, z = n ∧ sizeOk n = true ∧ (n = 1 ∨ n = 2 ∨ n = 4 ∨ n = 8) ∧ a % n = 0 ∧ a < s := by
  unfold wrongN at h
  split at h
  · rename_i hz
    have hz' := sizeOk_iff.1 hz
    obtain ⟨n, rfl⟩ : ∃ n : Nat, z = (n : Int) := ⟨z.toNat, by omega⟩
    rw [Int.toNat_natCast] at h
    split at h
    · split at h
      · cases h
      · exact ⟨n, rfl, hz, by omega, by assumption, by omega⟩
    · cases h
  · cases h
theorem size_fits {a n : Nat} (hn : n = 1 ∨ n = 2 ∨ n = 4 ∨ n = 8) (ha : a % n = 0) : a % 8 + n ≤ 8 := by
  rcases hn with rfl | rfl | rfl | rfl <;> omega
theorem refLoad_bad {k s a : Nat} {z : Int} {cs : List Cl} (ha : a < 18446744073709551616) (h : wrongN s a z ≠ 0) : Cn gAll 16 [md k s cs, u a, i z] [u 0, i (wrongN s a z)] := by
  refine con rfl rfl atlasref03_Load_c atlasref03_Load_p rfl ?_
  unfold atlasref03_Load_ir
  simp only [lv_cons, lv_nil, app_cons, app_nil]
  refine wp_call rfl (refWrong_con (k := k) (s := s) (z := z) (cs := cs) ha) rfl ?_
  simp only [lv_cons, lv_nil, app_cons, app_nil]
  refine wp_lt (d := .b true) (cmp_e (e_neq rfl rfl) (bne_iff_ne.2 h)) ?_
  simp only [lv_cons, lv_nil, app_cons, app_nil]
  refine wp_ite (t := true) rfl (fun _ => ?_) (fun h => by cases h)
  exact wp_return rfl rfl
theorem refLoad_ok {k s a n : Nat} {cs : List Cl} (hk : Kd k cs) (hR : RM s cs) (hO : COk cs) (hl : cs.length < 4611686018427387904) (hn : n = 1 ∨ n = 2 ∨ n = 4 ∨ n = 8) (han : a % n = 0) (has : a < s) (h : wrongN s a n = 0) : Cn gAll 16 [md k s cs, u a, i n] [u (loadN s cs a n), i 0] := by
  refine con rfl rfl atlasref03_Load_c atlasref03_Load_p rfl ?_
  unfold atlasref03_Load_ir
  simp only [lv_cons, lv_nil, app_cons, app_nil]
  have hmost := hR.most
  have heven := hR.even
  have hfit := size_fits hn han
  have hW := wordN_lt (s := s) (a := a) hO
  refine wp_call rfl (refWrong_con (k := k) (s := s) (z := n) (cs := cs) (a := a) (by omega)) rfl ?_
  rw [h]
  simp only [lv_cons, lv_nil, app_cons, app_nil]
  refine wp_lt (d := (.b false)) rfl ?_
  simp only [lv_cons, lv_nil, app_cons, app_nil]
  refine wp_ite (t := false) rfl (fun h => by cases h) (fun _ => ?_)
  have hbyte : ∀ j, j < n → wordN s cs (a + j) / 256 ^ ((a + j) % 8) % 256 = wordN s cs a / 256 ^ (a % 8) / 256 ^ j % 256 := fun j hj => by
    rw [word_in (by omega), word_in has, show (a + j) / 8 = a / 8 by omega, show (a + j) % 8 = a % 8 + j by omega, Nat.pow_add, Nat.div_div_eq_div_mul]
  unfold loadN
  rw [getN_bytes]
  generalize wordN s cs a / 256 ^ (a % 8) = v at hbyte ⊢
  refine wp_rounds (fun m ds => ∃ (j k' : Nat), ds = [I j, .sl k' (bys (putB v j))] ∧ (k' = 1 ∨ (k' = 0 ∧ j = 0)) ∧ j + m = n + 1 ∧ j ≤ n) (n + 1) rfl ⟨0, 0, by simp [putB, bys], .inr ⟨rfl, rfl⟩, by omega, by omega⟩ ?_
    (fun es hes => by obtain ⟨_, _, _, _, h1, h2⟩ := hes; omega)
  rintro m es Q ⟨j, k', rfl, hk', hm, hle⟩ hQ
  simp only [lv_cons, lv_nil, app_cons, app_nil]
  refine wp_lt rfl ?_
  simp only [lv_cons, lv_nil, app_cons, app_nil]
  refine wp_ite rfl (fun hc => ?_) (fun hc => ?_)
  · have hc := of_decide_eq_true hc
    refine wp_lt (cv_u rfl (by omega)) ?_
    simp only [lv_cons, lv_nil, app_cons, app_nil]
    refine wp_lt (u_add rfl rfl (by omega)) ?_
    simp only [lv_cons, lv_nil, app_cons, app_nil]
    refine wp_call rfl (refByte_con (s := s) (a := a + j) hk hR.asc hO hl (by omega)) rfl ?_
    rw [hbyte j (by omega)]
    simp only [lv_cons, lv_nil, app_cons, app_nil]
    refine wp_chk (room_t (by_more rfl rfl hk') (by rw [bys_len, putB_len]; omega)) ?_
    refine wp_lt (i_add (a := (j : Int)) (b := 1) rfl rfl (by omega) (by omega)) ?_
    simp only [lv_cons, lv_nil, app_cons, app_nil]
    exact wp_cont rfl (es_cons rfl (evs_one (by_more rfl rfl hk'))) (hQ _ ⟨j + 1, 1, rfl, .inl rfl, by omega, by omega⟩)
  · have hc := of_decide_eq_false hc
    obtain rfl : j = n := by omega
    obtain rfl : k' = 1 := by omega
    refine wp_call rfl (refGet_con putB_small (by rw [putB_len]; omega)) rfl ?_
    simp only [lv_cons, lv_nil, app_cons, app_nil]
    refine wp_chk (eqs_i rfl rfl) ?_
    exact wp_return rfl rfl
theorem refStore_bad {k s a v : Nat} {z : Int} {cs : List Cl} (ha : a < 18446744073709551616) (h : wrongN s a z ≠ 0) : Cn gAll 18 [md k s cs, u a, i z, u v] [md k s cs, i (wrongN s a z)] := by
  refine con rfl rfl atlasref03_Store_c atlasref03_Store_p rfl ?_
  unfold atlasref03_Store_ir
  simp only [lv_cons, lv_nil, app_cons, app_nil]
  refine wp_call rfl (refWrong_con (k := k) (s := s) (z := z) (cs := cs) ha) rfl ?_
  simp only [lv_cons, lv_nil, app_cons, app_nil]
  refine wp_lt (d := .b true) (cmp_e (e_neq rfl rfl) (bne_iff_ne.2 h)) ?_
  simp only [lv_cons, lv_nil, app_cons, app_nil]
  refine wp_ite (t := true) rfl (fun _ => ?_) (fun h => by cases h)
  exact wp_return rfl rfl
theorem refStore_ok {k s a n v : Nat} {cs : List Cl} (hk : Kd k cs) (hR : RM s cs) (hO : COk cs) (hl : cs.length ≤ 400000) (hv : v < 18446744073709551616) (hn : n = 1 ∨ n = 2 ∨ n = 4 ∨ n = 8) (han : a % n = 0) (has : a < s) (h : wrongN s a n = 0) : Cn gAll 18 [md k s cs, u a, i n, u v] [md 2 s (storeM s cs a n v), i 0] := by
  refine con rfl rfl atlasref03_Store_c atlasref03_Store_p rfl ?_
  unfold atlasref03_Store_ir
  simp only [lv_cons, lv_nil, app_cons, app_nil]
  have hmost := hR.most
  have hfit := size_fits hn han
  refine wp_call rfl (refWrong_con (k := k) (s := s) (z := n) (cs := cs) (a := a) (by omega)) rfl ?_
  rw [h]
  simp only [lv_cons, lv_nil, app_cons, app_nil]
  refine wp_lt (d := (.b false)) rfl ?_
  simp only [lv_cons, lv_nil, app_cons, app_nil]
  refine wp_ite (t := false) rfl (fun h => by cases h) (fun _ => ?_)
  refine wp_call rfl (refWord_con (s := s) (a := a) hk hR.asc (by omega) (by omega)) rfl ?_
  simp only [lv_cons, lv_nil, app_cons, app_nil]
  have hW := wordN_lt (s := s) (a := a) hO
  unfold storeM
  generalize wordN s cs a = w at hW ⊢
  refine wp_rounds (fun m ds => ∃ (j k' : Nat), ds = [U (w / 256 ^ j), I j, .sl k' (bys (putB w j))] ∧ (k' = 1 ∨ (k' = 0 ∧ j = 0)) ∧ j + m = 8 + 1 ∧ j ≤ 8) (8 + 1) rfl ⟨0, 0, by simp [putB, bys], .inr ⟨rfl, rfl⟩, by omega, by omega⟩ ?_
    (fun es hes => by obtain ⟨_, _, _, _, h1, h2⟩ := hes; omega)
  rintro m es Q1 ⟨j, k', rfl, hk', hm, hle⟩ hQ1
  simp only [lv_cons, lv_nil, app_cons, app_nil]
  refine wp_lt rfl ?_
  simp only [lv_cons, lv_nil, app_cons, app_nil]
  refine wp_ite rfl (fun hc => ?_) (fun hc => ?_)
  · have hc := of_decide_eq_true hc
    have hlt : w / 256 ^ j < 18446744073709551616 := Nat.lt_of_le_of_lt (Nat.div_le_self _ _) hW
    have hq : w / 256 ^ j / 256 = w / 256 ^ (j + 1) := by rw [Nat.div_div_eq_div_mul, Nat.pow_succ]
    refine wp_lt (u_rem (b := 256) rfl rfl (by omega)) ?_
    simp only [lv_cons, lv_nil, app_cons, app_nil]
    refine wp_lt (cv_u8 rfl (by omega)) ?_
    simp only [lv_cons, lv_nil, app_cons, app_nil]
    refine wp_chk (room_t (by_more rfl rfl hk') (by rw [bys_len, putB_len]; omega)) ?_
    refine wp_lt (u_quo (b := 256) rfl rfl (by omega) hlt) ?_
    rw [hq]
    simp only [lv_cons, lv_nil, app_cons, app_nil]
    refine wp_lt (i_add (a := (j : Int)) (b := 1) rfl rfl (by omega) (by omega)) ?_
    simp only [lv_cons, lv_nil, app_cons, app_nil]
    exact wp_cont rfl (es_cons rfl (es_cons rfl (evs_one (by_more rfl rfl hk')))) (hQ1 _ ⟨j + 1, 1, rfl, .inl rfl, by omega, by omega⟩)
  have hc := of_decide_eq_false hc
  obtain rfl : j = 8 := by omega
  obtain rfl : k' = 1 := by omega
  clear hk' hm hle hc hQ1
  refine wp_rounds (fun m ds => ∃ (j k' : Nat), ds = [U (v / 256 ^ j), I j, .sl k' (bys (putB v j))] ∧ (k' = 1 ∨ (k' = 0 ∧ j = 0)) ∧ j + m = n + 1 ∧ j ≤ n) (n + 1) rfl ⟨0, 0, by simp [putB, bys], .inr ⟨rfl, rfl⟩, by omega, by omega⟩ ?_
    (fun es hes => by obtain ⟨_, _, _, _, h1, h2⟩ := hes; omega)
  rintro m es Q2 ⟨j, k', rfl, hk', hm, hle⟩ hQ2
  simp only [lv_cons, lv_nil, app_cons, app_nil]
  refine wp_lt rfl ?_
  simp only [lv_cons, lv_nil, app_cons, app_nil]
  refine wp_ite rfl (fun hc => ?_) (fun hc => ?_)
  · have hc := of_decide_eq_true hc
    have hlt : v / 256 ^ j < 18446744073709551616 := Nat.lt_of_le_of_lt (Nat.div_le_self _ _) hv
    have hq : v / 256 ^ j / 256 = v / 256 ^ (j + 1) := by rw [Nat.div_div_eq_div_mul, Nat.pow_succ]
    refine wp_lt (u_rem (b := 256) rfl rfl (by omega)) ?_
    simp only [lv_cons, lv_nil, app_cons, app_nil]
    refine wp_lt (cv_u8 rfl (by omega)) ?_
    simp only [lv_cons, lv_nil, app_cons, app_nil]
    refine wp_chk (room_t (by_more rfl rfl hk') (by rw [bys_len, putB_len]; omega)) ?_
    refine wp_lt (u_quo (b := 256) rfl rfl (by omega) hlt) ?_
    rw [hq]
    simp only [lv_cons, lv_nil, app_cons, app_nil]
    refine wp_lt (i_add (a := (j : Int)) (b := 1) rfl rfl (by omega) (by omega)) ?_
    simp only [lv_cons, lv_nil, app_cons, app_nil]
    exact wp_cont rfl (es_cons rfl (es_cons rfl (evs_one (by_more rfl rfl hk')))) (hQ2 _ ⟨j + 1, 1, rfl, .inl rfl, by omega, by omega⟩)
  have hc := of_decide_eq_false hc
  obtain rfl : j = n := by omega
  obtain rfl : k' = 1 := by omega
  clear hk' hm hle hc hQ2
  refine wp_rounds (fun m ds => ∃ (i : Nat), ds = [I i, .sl 1 (bys (mixB w v (a % 8) i))] ∧ i + m = j + 1 ∧ i ≤ j) (j + 1) rfl ⟨0, by rw [mixB_0]; rfl, by omega, by omega⟩ ?_
    (fun es hes => by obtain ⟨_, _, h1, h2⟩ := hes; omega)
  rintro m es Q ⟨i, rfl, hm, hle⟩ hQ
  simp only [lv_cons, lv_nil, app_cons, app_nil]
  refine wp_lt rfl ?_
  simp only [lv_cons, lv_nil, app_cons, app_nil]
  refine wp_ite rfl (fun hc => ?_) (fun hc => ?_)
  · have hc := of_decide_eq_true hc
    have hij : i < j := by omega
    refine wp_lt (u_rem (b := 8) rfl rfl (by omega)) ?_
    simp only [lv_cons, lv_nil, app_cons, app_nil]
    refine wp_lt (cv_i rfl (by omega) (by omega)) ?_
    simp only [lv_cons, lv_nil, app_cons, app_nil]
    refine wp_lt (d := I (a % 8 + i : Nat)) ((i_add (a := ((a % 8 : Nat) : Int)) (b := (i : Int)) rfl rfl (by omega) (by omega)).trans (by rw [Int.natCast_add])) ?_
    simp only [lv_cons, lv_nil, app_cons, app_nil]
    refine wp_chk (inb_t rfl rfl (by rw [bys_len, putB_len]; omega)) ?_
    refine wp_chk (inb_t rfl rfl (by rw [bys_len, putB_len]; omega)) ?_
    refine wp_chk (inb_t rfl rfl (by rw [bys_len, mixB_len]; omega)) ?_
    refine wp_chk (inb_t rfl rfl (by rw [bys_len, mixB_len]; omega)) ?_
    refine wp_lt (i_add (a := (i : Int)) (b := 1) rfl rfl (by omega) (by omega)) ?_
    simp only [lv_cons, lv_nil, app_cons, app_nil]
    obtain ⟨o, ho⟩ : ∃ o, (mixB w v (a % 8) i)[a % 8 + i]? = some o := ⟨_, List.getElem?_eq_getElem (by rw [mixB_len]; omega)⟩
    refine wp_cont rfl (es_cons rfl (evs_one (put_e rfl rfl (bys_get ho) (evs_one (idx_e rfl rfl (bys_get (putB_get hij)) rfl)) rfl))) (hQ _ ⟨i + 1, ?_, by omega, by omega⟩)
    have := mixB_set (w := w) (v := v) (o := a % 8) (i := i) (by omega)
    rw [← this, bys, bys, List.map_set]
    rfl
  · have hc := of_decide_eq_false hc
    obtain rfl : i = j := by omega
    refine wp_lt (u_quo (b := 8) rfl rfl (by omega) (by omega)) ?_
    simp only [lv_cons, lv_nil, app_cons, app_nil]
    refine wp_call rfl (refGet_con mixB_small (by rw [mixB_len]; omega)) rfl ?_
    rw [getB_mix hfit]
    simp only [lv_cons, lv_nil, app_cons, app_nil]
    refine wp_call rfl (refSet_con (s := s) hk hR.asc hl) rfl ?_
    simp only [lv_cons, lv_nil, app_cons, app_nil]
    exact wp_return rfl rfl
end Go.Proofs.Ytffahdloddkcfaa.Sx

namespace Go.Proofs.Ytffahdloddkcfaa.Sx
open Go
set_option linter.unusedVariables false
set_option linter.unusedSimpArgs false
set_option maxRecDepth 100000

theorem setN_testBit (w lo n v i : Nat) : (setN w lo n v).testBit i = (decide (i < 64) && if lo ≤ i ∧ i < lo + n then v.testBit (i - lo) else w.testBit i) := by
  unfold setN
  rw [ofF_testBit]
theorem get_set {w lo n v : Nat} (h : lo + n ≤ 64) : getN (setN w lo n v) lo n = v % 2 ^ n := by
  refine Nat.eq_of_testBit_eq fun i => ?_
  rw [getN_testBit, setN_testBit, Nat.testBit_mod_two_pow]
  by_cases hi : i < n
  · rw [decide_eq_true hi, decide_eq_true (show lo + i < 64 by omega), if_pos (by omega), Nat.add_sub_cancel_left, Bool.true_and]
  · rw [decide_eq_false hi, Bool.false_and, Bool.false_and]
theorem get_set_off {w lo n v lo' n' : Nat} (h : lo' + n' ≤ 64) (hd : lo' + n' ≤ lo ∨ lo + n ≤ lo') : getN (setN w lo n v) lo' n' = getN w lo' n' := by
  refine Nat.eq_of_testBit_eq fun i => ?_
  rw [getN_testBit, getN_testBit, setN_testBit]
  by_cases hi : i < n'
  · rw [decide_eq_true (show lo' + i < 64 by omega), if_neg (by omega), Bool.true_and]
  · rw [decide_eq_false hi, Bool.false_and, Bool.false_and]
theorem set_get {w lo n v : Nat} (hw : w < 18446744073709551616) : setN (setN w lo n v) lo n (getN w lo n) = w := by
  refine Nat.eq_of_testBit_eq fun i => ?_
  rw [setN_testBit, setN_testBit]
  by_cases hi : i < 64
  · rw [decide_eq_true hi, Bool.true_and, Bool.true_and]
    by_cases h : lo ≤ i ∧ i < lo + n
    · rw [if_pos h, getN_testBit, decide_eq_true (by omega), Bool.true_and]
      congr 1
      omega
    · rw [if_neg h, if_neg h]
  · rw [decide_eq_false hi, Bool.false_and, testBit_lt64 hw (by omega)]
theorem set_comm {w lo n v lo' n' v' : Nat} (hd : lo' + n' ≤ lo ∨ lo + n ≤ lo') : setN (setN w lo n v) lo' n' v' = setN (setN w lo' n' v') lo n v := by
  refine Nat.eq_of_testBit_eq fun i => ?_
  rw [setN_testBit, setN_testBit, setN_testBit, setN_testBit]
  by_cases hi : i < 64
  · rw [decide_eq_true hi, Bool.true_and, Bool.true_and, Bool.true_and, Bool.true_and]
    by_cases h : lo ≤ i ∧ i < lo + n
    · rw [if_pos h, if_pos h, if_neg (by omega)]
    · rw [if_neg h, if_neg h]
  · rw [decide_eq_false hi, Bool.false_and, Bool.false_and]
theorem set_halves {w lo n v : Nat} : setN (setN w lo n v) (lo + n) n (v / 2 ^ n) = setN w lo (2 * n) v := by
  refine Nat.eq_of_testBit_eq fun i => ?_
  rw [setN_testBit, setN_testBit, setN_testBit]
  by_cases hi : i < 64
  · rw [decide_eq_true hi, Bool.true_and, Bool.true_and, Bool.true_and]
    by_cases h : lo + n ≤ i ∧ i < lo + n + n
    · rw [if_pos h, if_pos (by omega), Nat.testBit_div_two_pow]
      congr 1
      omega
    · rw [if_neg h]
      by_cases h2 : lo ≤ i ∧ i < lo + n
      · rw [if_pos h2, if_pos (by omega)]
      · rw [if_neg h2, if_neg (by omega)]
  · rw [decide_eq_false hi, Bool.false_and, Bool.false_and]
theorem get_halves {w lo n : Nat} : getN w lo (n + n) = getN w lo n + getN w (lo + n) n * 2 ^ n := by
  unfold getN
  rw [Nat.pow_add, Nat.mod_mul, Nat.pow_add, Nat.div_div_eq_div_mul, Nat.mul_comm (2 ^ n)]
theorem getN_lt {w lo n : Nat} : getN w lo n < 2 ^ n := Nat.mod_lt _ (Nat.two_pow_pos n)

/-! ### sizes and places -/
def Sz (n : Nat) : Prop := n = 1 ∨ n = 2 ∨ n = 4 ∨ n = 8
theorem Sz.ok {n : Nat} (h : Sz n) : sizeOk n = true := by rcases h with rfl | rfl | rfl | rfl <;> rfl
theorem Sz.wrong {s a n : Nat} (h : Sz n) (ha : a % n = 0) (has : a < s) : wrongN s a n = 0 := by
  unfold wrongN
  rw [if_pos h.ok, Int.toNat_natCast, if_pos ha, if_neg (by omega)]
theorem Sz.place {s a n : Nat} (h : Sz n) (hs : s % 4096 = 0) (h0 : s ≠ 0) : (a % s / n * n) % n = 0 ∧ a % s / n * n + n ≤ s := by
  have := Nat.mod_lt a (Nat.pos_of_ne_zero h0)
  rcases h with rfl | rfl | rfl | rfl <;> omega
theorem Sz.pow {n : Nat} (h : Sz n) : 2 ^ (n * 8) ≤ 18446744073709551616 := by rcases h with rfl | rfl | rfl | rfl <;> decide

section
variable {s i j n m v w : Nat} {cs : List Cl}
theorem load_eq (has : i < s) : loadN s cs i n = getN (lookN cs (i / 8)) (i % 8 * 8) (n * 8) := by rw [loadN, word_in has]
theorem load_store (hs : Asc cs) (hn : Sz n) (hin : i % n = 0) (has : i < s) : loadN s (storeM s cs i n v) i n = v % 256 ^ n := by
  have := size_fits hn hin
  rw [load_eq has, look_store hs has, if_pos rfl, get_set (by omega), pow256]
theorem load_off (hs : Asc cs) (hn : Sz n) (hm : Sz m) (hin : i % n = 0) (hjm : j % m = 0) (has : i < s) (hjs : j < s) (hd : j + m ≤ i ∨ i + n ≤ j) : loadN s (storeM s cs i n v) j m = loadN s cs j m := by
  have := size_fits hn hin
  have := size_fits hm hjm
  rw [load_eq hjs, load_eq hjs, look_store hs has]
  split
  · rename_i h
    rw [get_set_off (by omega) (by omega), h]
  · rfl
theorem store_back (hR : RM s cs) (hO : COk cs) (has : i < s) : storeM s (storeM s cs i n v) i n (loadN s cs i n) = cs := by
  have h1 := hR.store (n := n) (v := v) has
  have h2 := h1.store (n := n) (v := loadN s cs i n) has
  refine look_ext h2.asc hR.asc h2.nz hR.nz fun q => ?_
  rw [look_store h1.asc has, look_store hR.asc has, look_store hR.asc has, if_pos rfl]
  split
  · rename_i h
    rw [load_eq has, set_get (lookN_lt hO), h]
  · rfl
theorem store_turn (hR : RM s cs) (hn : Sz n) (hm : Sz m) (hin : i % n = 0) (hjm : j % m = 0) (has : i < s) (hjs : j < s) (hd : j + m ≤ i ∨ i + n ≤ j) : storeM s (storeM s cs i n v) j m w = storeM s (storeM s cs j m w) i n v := by
  have := size_fits hn hin
  have := size_fits hm hjm
  have h1 := hR.store (n := n) (v := v) has
  have h2 := h1.store (n := m) (v := w) hjs
  have h3 := hR.store (n := m) (v := w) hjs
  have h4 := h3.store (n := n) (v := v) has
  refine look_ext h2.asc h4.asc h2.nz h4.nz fun q => ?_
  rw [look_store h1.asc hjs, look_store h3.asc has, look_store hR.asc has, look_store hR.asc has, look_store hR.asc hjs, look_store hR.asc hjs]
  by_cases e : i / 8 = j / 8
  · by_cases h : q = i / 8
    · rw [if_pos (by omega), if_pos e.symm, if_pos h, if_pos e, e]
      exact set_comm (by omega)
    · rw [if_neg (by omega), if_neg h, if_neg h, if_neg (by omega)]
  · by_cases h : q = i / 8
    · rw [if_neg (by omega), if_pos h, if_pos h, if_neg e]
    · by_cases h' : q = j / 8
      · rw [if_pos h', if_neg (by omega), if_neg h, if_pos h']
      · rw [if_neg h', if_neg h, if_neg h, if_neg h']
theorem load_halves (hs : Asc cs) (hn : Sz (2 * n)) (hin : i % (2 * n) = 0) (has : i + 2 * n ≤ s) : loadN s cs i (2 * n) = loadN s cs i n + loadN s cs (i + n) n * 2 ^ (8 * n) := by
  have h := size_fits hn hin
  have h0 : n ≠ 0 := fun h => by subst h; rcases hn with h | h | h | h <;> cases h
  rw [load_eq (by omega), load_eq (by omega), load_eq (by omega), show (i + n) / 8 = i / 8 by omega, show (i + n) % 8 * 8 = i % 8 * 8 + n * 8 by omega, show 2 * n * 8 = n * 8 + n * 8 by omega, get_halves, Nat.mul_comm 8 n]
theorem store_halves (hR : RM s cs) (hn : Sz (2 * n)) (hin : i % (2 * n) = 0) (has : i + 2 * n ≤ s) : storeM s (storeM s cs i n v) (i + n) n (v / 2 ^ (8 * n)) = storeM s cs i (2 * n) v := by
  have h := size_fits hn hin
  have h0 : n ≠ 0 := fun h => by subst h; rcases hn with h | h | h | h <;> cases h
  have h1 := hR.store (n := n) (v := v) (a := i) (by omega)
  have h2 := h1.store (n := n) (v := v / 2 ^ (8 * n)) (a := i + n) (by omega)
  have h3 := hR.store (n := 2 * n) (v := v) (a := i) (by omega)
  refine look_ext h2.asc h3.asc h2.nz h3.nz fun q => ?_
  rw [look_store h1.asc (by omega), look_store hR.asc (by omega), look_store hR.asc (by omega), look_store hR.asc (by omega), show (i + n) / 8 = i / 8 by omega, if_pos rfl]
  by_cases hq : q = i / 8
  · rw [if_pos hq, if_pos hq, show (i + n) % 8 * 8 = i % 8 * 8 + n * 8 by omega, Nat.mul_comm 8 n, set_halves, show 2 * (n * 8) = 2 * n * 8 by omega]
  · rw [if_neg hq, if_neg hq, if_neg hq]
theorem load_word (hO : COk cs) (has : i < s) : loadN s cs (i / 8 * 8) 8 = wordN s cs i := by
  rw [load_eq (by omega), word_in has, show i / 8 * 8 / 8 = i / 8 by omega, show i / 8 * 8 % 8 * 8 = 0 by omega]
  unfold getN
  rw [Nat.pow_zero, Nat.div_one]
  exact Nat.mod_eq_of_lt (lookN_lt hO)
end
end Go.Proofs.Ytffahdloddkcfaa.Sx

namespace Go.Proofs.Ytffahdloddkcfaa.Sx
open Go
set_option linter.unusedVariables false
set_option linter.unusedSimpArgs false
set_option maxRecDepth 100000

theorem ite_bb {ρ : List D} {c x : Ex} {t t' : Bool} (hc : c.eval ρ = some (.b t)) (hx : x.eval ρ = some (.b t')) : (Ex.ite c x (.c (.b false))).eval ρ = some (.b (t && t')) := by
  cases t <;> simp [Ex.eval, hc, hx]
theorem sameM_dec {k k' s : Nat} {cs ds : List Cl} (hk : Kd k cs) (hk' : Kd k' ds) (hl : cs.length < 9223372036854775808) (hl' : ds.length < 9223372036854775808) : Cn gAll 13 [md k s cs, md k' s ds] [bb (decide (cs = ds))] := by
  refine con rfl rfl atlasref03_Same_c atlasref03_Same_p rfl ?_
  unfold atlasref03_Same_ir
  simp only [lv_cons, lv_nil, app_cons, app_nil]
  refine wp_lt (d := .b false) (cmp_e rfl (bne_self_eq_false _)) ?_
  simp only [lv_cons, lv_nil, app_cons, app_nil]
  refine wp_ite (t := false) rfl (fun h => by cases h) (fun _ => ?_)
  refine wp_lt (len_is rfl crs_len) ?_
  simp only [lv_cons, lv_nil, app_cons, app_nil]
  refine wp_lt (len_is rfl crs_len) ?_
  simp only [lv_cons, lv_nil, app_cons, app_nil]
  refine wp_lt (e_neq rfl rfl) ?_
  simp only [lv_cons, lv_nil, app_cons, app_nil]
  refine wp_ite rfl (fun h => ?_) (fun h => ?_)
  · have h := bne_iff_ne.1 h
    have : cs ≠ ds := fun e => h (by rw [e])
    exact wp_return rfl (bb_eq (decide_eq_false this).symm)
  have h : cs.length = ds.length := by have := (bne_eq_false_iff_eq (a := ((cs.length : Nat) : Int)) (b := ((ds.length : Nat) : Int))).1 h; omega
  refine wp_rounds (fun m es => ∃ (b : Bool) (n : Nat), es = [.b b, I n] ∧ n + m = cs.length + 1 ∧ n ≤ cs.length ∧ ∀ j, j < n → cs[j]? = ds[j]?) (cs.length + 1) rfl ⟨_, 0, rfl, by omega, by omega, fun j hj => by omega⟩ ?_
    (fun es hes => by obtain ⟨_, n, _, h1, h2, _⟩ := hes; omega)
  rintro m es Q ⟨b, n, rfl, hm, hle, hh⟩ hQ
  simp only [lv_cons, lv_nil, app_cons, app_nil]
  refine wp_lt (len_is rfl crs_len) ?_
  simp only [lv_cons, lv_nil, app_cons, app_nil]
  refine wp_lt rfl ?_
  simp only [lv_cons, lv_nil, app_cons, app_nil]
  refine wp_ite rfl (fun hc => ?_) (fun hc => ?_)
  · have hc := of_decide_eq_true hc
    have hnl : n < cs.length := by omega
    obtain rfl := hk.two (by omega)
    obtain rfl := hk'.two (by omega)
    obtain ⟨c, hcs⟩ : ∃ c, cs[n]? = some c := ⟨_, List.getElem?_eq_getElem hnl⟩
    obtain ⟨d, hds⟩ : ∃ d, ds[n]? = some d := ⟨_, List.getElem?_eq_getElem (by omega)⟩
    have hrow := crow_of hcs
    have hrow' := crow_of hds
    refine wp_chk (inb_t rfl rfl (by rw [crs_len]; exact hnl)) ?_
    refine wp_chk (inb_t rfl rfl (by rw [crs_len]; omega)) ?_
    refine wp_lt (not_e (ite_bb (eqt_i (idx_e rfl rfl hrow rfl) (idx_e rfl rfl hrow' rfl)) (ite_bb (eqt_i (idx_e rfl rfl hrow rfl) (idx_e rfl rfl hrow' rfl)) rfl))) ?_
    simp only [lv_cons, lv_nil, app_cons, app_nil]
    have hcd : (((c.1 : Int) == (d.1 : Int)) && (((c.2 : Int) == (d.2 : Int)) && true)) = decide (c = d) := by
      rw [Bool.eq_iff_iff]
      obtain ⟨c1, c2⟩ := c
      obtain ⟨d1, d2⟩ := d
      simp only [Bool.and_eq_true, beq_iff_eq, decide_eq_true_eq, Prod.mk.injEq, and_true]
      omega
    rw [hcd]
    refine wp_ite rfl (fun h1 => ?_) (fun h1 => ?_)
    · have h1 : c ≠ d := by simpa using h1
      have : cs ≠ ds := fun e => h1 (by rw [e, hds] at hcs; exact (Option.some.inj hcs).symm)
      exact wp_return rfl (bb_eq (decide_eq_false this).symm)
    have h1 : c = d := by simpa using h1
    refine wp_lt (i_add (a := (n : Int)) (b := 1) rfl rfl (by omega) (by omega)) ?_
    simp only [lv_cons, lv_nil, app_cons, app_nil]
    refine wp_cont rfl rfl (hQ _ ⟨_, n + 1, rfl, by omega, by omega, fun j hj => ?_⟩)
    by_cases e : j = n
    · subst e
      rw [hcs, hds, h1]
    · exact hh j (by omega)
  · have hc := of_decide_eq_false hc
    have : cs = ds := List.ext_getElem? fun j => by
      by_cases hj : j < cs.length
      · exact hh j (by omega)
      · rw [List.getElem?_eq_none (by omega), List.getElem?_eq_none (by omega)]
    exact wp_return rfl (bb_eq (decide_eq_true this).symm)
end Go.Proofs.Ytffahdloddkcfaa.Sx
