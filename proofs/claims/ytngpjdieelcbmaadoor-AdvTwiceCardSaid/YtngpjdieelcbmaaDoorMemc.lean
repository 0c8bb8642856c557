/-
  Layer 3: memories as data; few, the same, right: contracts.
-/
import Derived.Test.YtngpjdieelcbmaaDoorStep
import Derived.Test.YtngpjdieelcbmaaDoorIrM
namespace Go.Proofs.YtngpjdieelcbmaaDoor.Sx
open Go
set_option linter.unusedVariables false
set_option linter.unusedSimpArgs false
set_option maxRecDepth 100000

/-- a cell: a word's place, and its value -/
abbrev Cl := Nat × Nat
abbrev crow (c : Cl) : List D := [U c.1, U c.2]
abbrev crs (cs : List Cl) : List (List D) := cs.map crow
/-- a memory -/
abbrev md (k s : Nat) (cs : List Cl) : DV := (true, [U s, .sl k (crs cs)])
/-- the width of its rows: without any it may be told as none -/
def Kd (k : Nat) (cs : List Cl) : Prop := k = 2 ∨ (k = 0 ∧ cs = [])
theorem Kd.two {k : Nat} {cs : List Cl} (h : Kd k cs) (hl : 0 < cs.length) : k = 2 := by
  rcases h with h | ⟨_, h⟩
  · exact h
  · rw [h] at hl; cases hl
def COk (cs : List Cl) : Prop := ∀ c ∈ cs, c.1 < 18446744073709551616 ∧ c.2 < 18446744073709551616
theorem crow_of {cs : List Cl} {j : Nat} {c : Cl} (h : cs[j]? = some c) : (crs cs)[j]? = some (crow c) := by
  rw [List.getElem?_map, h]; rfl
theorem crs_len {cs : List Cl} : (crs cs).length = cs.length := List.length_map ..

theorem few_con {k s : Nat} {cs : List Cl} : Cn gAll 14 [md k s cs] [bb (decide (cs.length ≤ 300))] := by
  refine con rfl rfl atlasref03_Few_c atlasref03_Few_p rfl ?_
  unfold atlasref03_Few_ir
  simp only [lv_cons, lv_nil, app_cons, app_nil]
  refine wp_lt (len_is rfl crs_len) ?_
  simp only [lv_cons, lv_nil, app_cons, app_nil]
  refine wp_lt rfl ?_
  simp only [lv_cons, lv_nil, app_cons, app_nil]
  refine wp_return rfl (bb_iff ?_)
  simp only [decide_eq_true_eq]
  omega

/-- the same memories -/
theorem sameM_con {k k' s : Nat} {cs : List Cl} (hk : Kd k cs) (hk' : Kd k' cs) (hl : cs.length < 9223372036854775808) : Cn gAll 11 [md k s cs, md k' s cs] [bb true] := by
  refine con rfl rfl atlasref03_Same_c atlasref03_Same_p rfl ?_
  unfold atlasref03_Same_ir
  simp only [lv_cons, lv_nil, app_cons, app_nil]
  refine wp_lt (d := .b false) (cmp_e rfl (bne_self_eq_false _)) ?_
  simp only [lv_cons, lv_nil, app_cons, app_nil]
  refine wp_ite (t := false) rfl (fun h => by cases h) (fun _ => ?_)
  refine wp_lt (len_is rfl crs_len) ?_
  simp only [lv_cons, lv_nil, app_cons, app_nil]
  refine wp_lt (len_is rfl crs_len) ?_
  simp only [lv_cons, lv_nil, app_cons, app_nil]
  refine wp_lt (d := .b false) (cmp_e rfl (bne_self_eq_false _)) ?_
  simp only [lv_cons, lv_nil, app_cons, app_nil]
  refine wp_ite (t := false) rfl (fun h => by cases h) (fun _ => ?_)
  refine wp_rounds (fun m ds => ∃ (b : Bool) (n : Nat), ds = [.b b, I n] ∧ n + m = cs.length + 1 ∧ n ≤ cs.length) (cs.length + 1) rfl ⟨_, 0, rfl, by omega, by omega⟩ ?_
    (fun es hes => by obtain ⟨_, n, _, h1, h2⟩ := hes; omega)
  rintro m es Q ⟨b, n, rfl, hm, hle⟩ hQ
  simp only [lv_cons, lv_nil, app_cons, app_nil]
  refine wp_lt (len_is rfl crs_len) ?_
  simp only [lv_cons, lv_nil, app_cons, app_nil]
  refine wp_lt rfl ?_
  simp only [lv_cons, lv_nil, app_cons, app_nil]
  refine wp_ite rfl (fun hc => ?_) (fun hc => ?_)
  · have hc := of_decide_eq_true hc
    have hnl : n < cs.length := by omega
    obtain rfl := hk.two (by omega)
    obtain rfl := hk'.two (by omega)
    obtain ⟨c, hcs⟩ : ∃ c, cs[n]? = some c := ⟨_, List.getElem?_eq_getElem hnl⟩
    have hrow := crow_of hcs
    refine wp_chk (inb_t rfl rfl (by rw [crs_len]; exact hnl)) ?_
    refine wp_chk (inb_t rfl rfl (by rw [crs_len]; exact hnl)) ?_
    refine wp_lt (not_e (t := true) (ite_t (eqs_i (idx_e rfl rfl hrow rfl) (idx_e rfl rfl hrow rfl)) (ite_t (eqs_i (idx_e rfl rfl hrow rfl) (idx_e rfl rfl hrow rfl)) rfl))) ?_
    simp only [lv_cons, lv_nil, app_cons, app_nil]
    refine wp_ite (t := false) rfl (fun h => by cases h) (fun _ => ?_)
    refine wp_lt (i_add (a := (n : Int)) (b := 1) rfl rfl (by omega) (by omega)) ?_
    simp only [lv_cons, lv_nil, app_cons, app_nil]
    exact wp_cont rfl rfl (hQ _ ⟨_, n + 1, rfl, by omega, by omega⟩)
  · exact wp_return rfl rfl

/-! ### right memories -/
def cellOk (s : Nat) (cs : List Cl) (j : Nat) : Prop := ∀ c, cs[j]? = some c → c.2 ≠ 0 ∧ c.1 < s / 8 ∧ ∀ b, 0 < j → cs[j - 1]? = some b → b.1 < c.1
instance : ∀ s cs j, Decidable (cellOk s cs j) := fun s cs j => by
  unfold cellOk
  cases cs[j]? with
  | none => exact isTrue (fun c h => by cases h)
  | some c =>
    by_cases h1 : c.2 ≠ 0 ∧ c.1 < s / 8
    · by_cases h2 : 0 < j
      · cases hb : cs[j - 1]? with
        | none => exact isTrue (fun c' h => by cases h; exact ⟨h1.1, h1.2, fun b _ h => by cases h⟩)
        | some b =>
          by_cases h3 : b.1 < c.1
          · exact isTrue (fun c' h => by cases h; exact ⟨h1.1, h1.2, fun b' _ h => by cases h; exact h3⟩)
          · exact isFalse (fun h => h3 ((h c rfl).2.2 b h2 rfl))
      · exact isTrue (fun c' h => by cases h; exact ⟨h1.1, h1.2, fun b h => absurd h h2⟩)
    · exact isFalse (fun h => h1 ⟨(h c rfl).1, (h c rfl).2.1⟩)
def rightM (s : Nat) (cs : List Cl) : Bool := decide (s % 4096 = 0) && decide (s ≤ 1099511627776) && (List.range cs.length).all fun j => decide (cellOk s cs j)
theorem rightM_iff {s : Nat} {cs : List Cl} : rightM s cs = true ↔ s % 4096 = 0 ∧ s ≤ 1099511627776 ∧ ∀ j, cellOk s cs j := by
  simp only [rightM, Bool.and_eq_true, decide_eq_true_eq, List.all_eq_true, List.mem_range]
  constructor
  · rintro ⟨⟨h1, h2⟩, h3⟩
    refine ⟨h1, h2, fun j c hc => ?_⟩
    exact h3 j (List.getElem?_eq_some_iff.1 hc).1 c hc
  · rintro ⟨h1, h2, h3⟩
    exact ⟨⟨h1, h2⟩, fun j _ => h3 j⟩

section
variable {ρ : List D} {x y : Ex} {k : IntKind} {a b : Int}
theorem e_eql (hx : x.eval ρ = some (.i k a)) (hy : y.eval ρ = some (.i k b)) : (Ex.bin .eql x y).eval ρ = some (.b (a == b)) := by simp [Ex.eval, hx, hy, binD]
theorem e_neq (hx : x.eval ρ = some (.i k a)) (hy : y.eval ρ = some (.i k b)) : (Ex.bin .neq x y).eval ρ = some (.b (a != b)) := by simp [Ex.eval, hx, hy, binD]
theorem e_lss (hx : x.eval ρ = some (.i k a)) (hy : y.eval ρ = some (.i k b)) : (Ex.bin .lss x y).eval ρ = some (.b (decide (a < b))) := by simp [Ex.eval, hx, hy, binD]
theorem e_leq (hx : x.eval ρ = some (.i k a)) (hy : y.eval ρ = some (.i k b)) : (Ex.bin .leq x y).eval ρ = some (.b (decide (a ≤ b))) := by simp [Ex.eval, hx, hy, binD]
theorem e_gtr (hx : x.eval ρ = some (.i k a)) (hy : y.eval ρ = some (.i k b)) : (Ex.bin .gtr x y).eval ρ = some (.b (decide (a > b))) := by simp [Ex.eval, hx, hy, binD]
theorem e_geq (hx : x.eval ρ = some (.i k a)) (hy : y.eval ρ = some (.i k b)) : (Ex.bin .geq x y).eval ρ = some (.b (decide (a ≥ b))) := by simp [Ex.eval, hx, hy, binD]
end
theorem rightM_not {s : Nat} {cs : List Cl} {j : Nat} (h : ¬ cellOk s cs j) : rightM s cs = false := by
  rw [Bool.eq_false_iff]
  intro h'
  exact h ((rightM_iff.1 h').2.2 j)
theorem cellOk_past {s : Nat} {cs : List Cl} {j : Nat} (h : cs.length ≤ j) : cellOk s cs j := fun c hc => by
  have := (List.getElem?_eq_some_iff.1 hc).1
  omega


theorem refRightM_con {k s : Nat} {cs : List Cl} (hk : Kd k cs) (hs : s < 18446744073709551616) (hl : cs.length < 9223372036854775808) : Cn gAll 15 [md k s cs] [bb (rightM s cs)] := by
  refine con rfl rfl atlasref03_Right_c atlasref03_Right_p rfl ?_
  unfold atlasref03_Right_ir
  simp only [lv_cons, lv_nil, app_cons, app_nil]
  refine wp_lt (u_rem (b := 4096) rfl rfl (by omega)) ?_
  simp only [lv_cons, lv_nil, app_cons, app_nil]
  refine wp_lt (e_neq rfl rfl) ?_
  simp only [lv_cons, lv_nil, app_cons, app_nil]
  refine wp_ite rfl (fun h1 => ?_) (fun h1 => ?_)
  · refine wp_return rfl (bb_iff ?_)
    rw [rightM_iff]
    have h1 : ((s % 4096 : Nat) : Int) ≠ 0 := by simpa using h1
    exact ⟨fun h => (by cases h), fun h => absurd (by rw [h.1]; rfl) h1⟩
  have h1 : ((s % 4096 : Nat) : Int) = 0 := by simpa using h1
  refine wp_lt (e_gtr rfl rfl) ?_
  simp only [lv_cons, lv_nil, app_cons, app_nil]
  refine wp_ite rfl (fun h2 => ?_) (fun h2 => ?_)
  · have h2 := of_decide_eq_true h2
    refine wp_return rfl (bb_iff ?_)
    rw [rightM_iff]
    exact ⟨fun h => (by cases h), fun h => by have := h.2.1; omega⟩
  have h2 := of_decide_eq_false h2
  refine wp_rounds (fun m ds => ∃ (b : Bool) (n : Nat), ds = [.b b, I n] ∧ n + m = cs.length + 1 ∧ n ≤ cs.length ∧ ∀ j, j < n → cellOk s cs j) (cs.length + 1) rfl ⟨_, 0, rfl, by omega, by omega, fun j hj => by omega⟩ ?_
    (fun es hes => by obtain ⟨_, n, _, h1, h2, _⟩ := hes; omega)
  rintro m es Q ⟨b, n, rfl, hm, hle, hh⟩ hQ
  simp only [lv_cons, lv_nil, app_cons, app_nil]
  refine wp_lt (len_is rfl crs_len) ?_
  simp only [lv_cons, lv_nil, app_cons, app_nil]
  refine wp_lt rfl ?_
  simp only [lv_cons, lv_nil, app_cons, app_nil]
  refine wp_ite rfl (fun hc => ?_) (fun hc => ?_)
  · have hc := of_decide_eq_true hc
    have hnl : n < cs.length := by omega
    obtain rfl := hk.two (by omega)
    obtain ⟨c, hcs⟩ : ∃ c, cs[n]? = some c := ⟨_, List.getElem?_eq_getElem hnl⟩
    have hrow := crow_of hcs
    refine wp_chk (inb_t rfl rfl (by rw [crs_len]; exact hnl)) ?_
    refine wp_lt (e_eql (idx_e rfl rfl hrow rfl) rfl) ?_
    simp only [lv_cons, lv_nil, app_cons, app_nil]
    refine wp_ite rfl (fun h3 => ?_) (fun h3 => ?_)
    · refine wp_return rfl (bb_eq (rightM_not (j := n) fun h => ?_).symm)
      have h3 : c.2 = 0 := by simpa using h3
      exact (h c hcs).1 h3
    have h3 : c.2 ≠ 0 := by simpa using h3
    refine wp_chk (inb_t rfl rfl (by rw [crs_len]; exact hnl)) ?_
    refine wp_lt (u_quo (b := 8) rfl rfl (by omega) hs) ?_
    simp only [lv_cons, lv_nil, app_cons, app_nil]
    refine wp_lt (e_geq (idx_e rfl rfl hrow rfl) rfl) ?_
    simp only [lv_cons, lv_nil, app_cons, app_nil]
    refine wp_ite rfl (fun h4 => ?_) (fun h4 => ?_)
    · have h4 := of_decide_eq_true h4
      refine wp_return rfl (bb_eq (rightM_not (j := n) fun h => ?_).symm)
      have := (h c hcs).2.1
      omega
    have h4 := of_decide_eq_false h4
    refine wp_lt rfl ?_
    simp only [lv_cons, lv_nil, app_cons, app_nil]
    refine wp_ite rfl (fun h5 => ?_) (fun h5 => ?_)
    · have h5 := of_decide_eq_true h5
      obtain ⟨b', hbs⟩ : ∃ c, cs[n - 1]? = some c := ⟨_, List.getElem?_eq_getElem (by omega)⟩
      have hrow' := crow_of hbs
      refine wp_chk (inb_t rfl rfl (by rw [crs_len]; exact hnl)) ?_
      refine wp_lt (d := I (n - 1 : Nat)) ((i_sub (a := (n : Int)) (b := 1) rfl rfl (by omega) (by omega)).trans (by rw [show (n : Int) - 1 = ((n - 1 : Nat) : Int) by omega])) ?_
      simp only [lv_cons, lv_nil, app_cons, app_nil]
      refine wp_chk (inb_t rfl rfl (by rw [crs_len]; omega)) ?_
      refine wp_lt (e_leq (idx_e rfl rfl hrow rfl) (idx_e rfl rfl hrow' rfl)) ?_
      simp only [lv_cons, lv_nil, app_cons, app_nil]
      refine wp_ite rfl (fun h6 => ?_) (fun h6 => ?_)
      · have h6 := of_decide_eq_true h6
        refine wp_return rfl (bb_eq (rightM_not (j := n) fun h => ?_).symm)
        have := (h c hcs).2.2 b' (by omega) hbs
        omega
      have h6 := of_decide_eq_false h6
      refine wp_lt (i_add (a := (n : Int)) (b := 1) rfl rfl (by omega) (by omega)) ?_
      simp only [lv_cons, lv_nil, app_cons, app_nil]
      refine wp_cont rfl rfl (hQ _ ⟨_, n + 1, rfl, by omega, by omega, fun j hj => ?_⟩)
      by_cases hjn : j = n
      · subst hjn
        intro c' hc'
        rw [hcs] at hc'
        cases hc'
        exact ⟨h3, by omega, fun b'' _ hb'' => by rw [hbs] at hb''; cases hb''; omega⟩
      · exact hh j (by omega)
    · have h5 := of_decide_eq_false h5
      refine wp_lt (i_add (a := (n : Int)) (b := 1) rfl rfl (by omega) (by omega)) ?_
      simp only [lv_cons, lv_nil, app_cons, app_nil]
      refine wp_cont rfl rfl (hQ _ ⟨_, n + 1, rfl, by omega, by omega, fun j hj => ?_⟩)
      by_cases hjn : j = n
      · subst hjn
        intro c' hc'
        rw [hcs] at hc'
        cases hc'
        exact ⟨h3, by omega, fun b'' hb0 _ => by omega⟩
      · exact hh j (by omega)
  · have hc := of_decide_eq_false hc
    obtain rfl : n = cs.length := by omega
    refine wp_return rfl (bb_iff ?_)
    rw [rightM_iff]
    refine ⟨fun _ => ⟨by omega, by omega, fun j => ?_⟩, fun _ => rfl⟩
    by_cases hj : j < cs.length
    · exact hh j hj
    · exact cellOk_past (by omega)


/-! ### where a word is -/
def Asc (cs : List Cl) : Prop := cs.Pairwise (fun a b => a.1 < b.1)
theorem asc_of {s : Nat} {cs : List Cl} (h : rightM s cs = true) : Asc cs := by
  have hc := (rightM_iff.1 h).2.2
  unfold Asc
  rw [List.pairwise_iff_getElem]
  intro i j hi hj hij
  induction j with
  | zero => omega
  | succ j ih =>
    have h1 := (hc (j + 1) _ (List.getElem?_eq_getElem hj)).2.2 cs[j] (by omega) (List.getElem?_eq_getElem (by omega))
    by_cases he : i = j
    · subst he; exact h1
    · exact Nat.lt_trans (ih (by omega) (by omega)) h1
/-- how many cells lie below -/
def lowN (cs : List Cl) (a : Nat) : Nat := (cs.filter fun c => decide (c.1 < a)).length
theorem lowN_le {cs : List Cl} {a : Nat} : lowN cs a ≤ cs.length := List.length_filter_le _ _
theorem low_iff {a : Nat} : ∀ {cs : List Cl} {j : Nat} {c : Cl}, Asc cs → cs[j]? = some c → (c.1 < a ↔ j < lowN cs a)
  | [], j, c, _, h => by simp at h
  | d :: ds, j, c, hs, h => by
    obtain ⟨hd, hds⟩ := List.pairwise_cons.1 hs
    by_cases hda : d.1 < a
    · have e : lowN (d :: ds) a = lowN ds a + 1 := by unfold lowN; rw [List.filter_cons_of_pos (by simpa using hda)]; rfl
      rw [e]
      cases j with
      | zero =>
        obtain rfl : d = c := by simpa using h
        exact ⟨fun _ => by omega, fun _ => hda⟩
      | succ j =>
        have := low_iff (a := a) hds (show ds[j]? = some c by simpa using h)
        omega
    · have hall : ∀ x ∈ d :: ds, ¬ x.1 < a := fun x hx => by
        rcases List.mem_cons.1 hx with rfl | hx
        · exact hda
        · have := hd x hx; omega
      have e : lowN (d :: ds) a = 0 := by
        unfold lowN
        rw [List.length_eq_zero_iff, List.filter_eq_nil_iff]
        intro x hx
        simpa using hall x hx
      rw [e]
      have := hall c (List.mem_of_getElem? h)
      omega
def hasN (cs : List Cl) (a : Nat) : Bool := match cs[lowN cs a]? with | some c => c.1 == a | none => false
theorem memFind_con {k s a : Nat} {cs : List Cl} (hk : Kd k cs) (hs : Asc cs) (hl : cs.length < 4611686018427387904) : Cn gAll 55 [md k s cs, u a] [i (lowN cs a), bb (hasN cs a)] := by
  refine con rfl rfl mem_find_c mem_find_p rfl ?_
  unfold mem_find_ir
  simp only [lv_cons, lv_nil, app_cons, app_nil]
  refine wp_lt (len_is rfl crs_len) ?_
  simp only [lv_cons, lv_nil, app_cons, app_nil]
  refine wp_rounds (fun m ds => ∃ (lo hi : Nat), ds = [I lo, I hi] ∧ lo ≤ lowN cs a ∧ lowN cs a ≤ hi ∧ hi ≤ cs.length ∧ hi - lo + 1 ≤ m) (cs.length + 1) rfl ⟨0, cs.length, rfl, by omega, lowN_le, by omega, by omega⟩ ?_
    (fun es hes => by obtain ⟨_, _, _, _, _, _, h⟩ := hes; omega)
  rintro m es Q ⟨lo, hi, rfl, h1, h2, h3, hm⟩ hQ
  simp only [lv_cons, lv_nil, app_cons, app_nil]
  refine wp_lt rfl ?_
  simp only [lv_cons, lv_nil, app_cons, app_nil]
  refine wp_ite rfl (fun hc => ?_) (fun hc => ?_)
  · have hc := of_decide_eq_true hc
    refine wp_lt (d := I (lo + hi : Nat)) ((i_add (a := (lo : Int)) (b := (hi : Int)) rfl rfl (by omega) (by omega)).trans (by rw [Int.natCast_add])) ?_
    simp only [lv_cons, lv_nil, app_cons, app_nil]
    refine wp_lt (cv_u rfl (by omega)) ?_
    simp only [lv_cons, lv_nil, app_cons, app_nil]
    refine wp_lt (u_shr (b := 1) rfl rfl (by omega)) ?_
    simp only [lv_cons, lv_nil, app_cons, app_nil]
    rw [show (lo + hi) / 2 ^ 1 = (lo + hi) / 2 from rfl]
    refine wp_lt (cv_i (n := ((lo + hi) / 2 : Nat)) rfl (by omega) (by omega)) ?_
    simp only [lv_cons, lv_nil, app_cons, app_nil]
    have hml : (lo + hi) / 2 < hi := by omega
    have hmg : lo ≤ (lo + hi) / 2 := by omega
    generalize (lo + hi) / 2 = mid at hml hmg ⊢
    obtain rfl := hk.two (by omega)
    obtain ⟨c, hcs⟩ : ∃ c, cs[mid]? = some c := ⟨_, List.getElem?_eq_getElem (by omega)⟩
    have hrow := crow_of hcs
    have hlow := low_iff (a := a) hs hcs
    refine wp_chk (inb_t rfl rfl (by rw [crs_len]; omega)) ?_
    refine wp_lt (d := .b false) (cmp_e (e_neq (idx_e rfl rfl hrow rfl) (idx_e rfl rfl hrow rfl)) (bne_self_eq_false _)) ?_
    simp only [lv_cons, lv_nil, app_cons, app_nil]
    refine wp_lt (d := .b false) (cmp_e rfl (bne_self_eq_false _)) ?_
    simp only [lv_cons, lv_nil, app_cons, app_nil]
    refine wp_ite (t := false) rfl (fun h => by cases h) (fun _ => ?_)
    refine wp_ite (t := false) rfl (fun h => by cases h) (fun _ => ?_)
    refine wp_lt (e_lss (idx_e rfl rfl hrow rfl) rfl) ?_
    simp only [lv_cons, lv_nil, app_cons, app_nil]
    refine wp_ite rfl (fun h4 => ?_) (fun h4 => ?_)
    · have h4 := of_decide_eq_true h4
      refine wp_lt (i_add (a := (mid : Int)) (b := 1) rfl rfl (by omega) (by omega)) ?_
      simp only [lv_cons, lv_nil, app_cons, app_nil]
      exact wp_cont rfl rfl (hQ _ ⟨mid + 1, hi, rfl, by omega, h2, h3, by omega⟩)
    · have h4 := of_decide_eq_false h4
      refine wp_lt (e_gtr (idx_e rfl rfl hrow rfl) rfl) ?_
      simp only [lv_cons, lv_nil, app_cons, app_nil]
      refine wp_ite rfl (fun _ => ?_) (fun _ => ?_) <;> exact wp_cont rfl rfl (hQ _ ⟨lo, mid, rfl, h1, by omega, by omega, by omega⟩)
  · have hc := of_decide_eq_false hc
    obtain rfl : lo = lowN cs a := by omega
    refine wp_lt rfl ?_
    simp only [lv_cons, lv_nil, app_cons, app_nil]
    refine wp_ite rfl (fun h4 => ?_) (fun h4 => ?_)
    · have h4 := of_decide_eq_true h4
      obtain rfl := hk.two (by omega)
      obtain ⟨c, hcs⟩ : ∃ c, cs[lowN cs a]? = some c := ⟨_, List.getElem?_eq_getElem (by omega)⟩
      have hrow := crow_of hcs
      have hlow := low_iff (a := a) hs hcs
      have hh : hasN cs a = (c.1 == a) := by unfold hasN; rw [hcs]
      rw [hh]
      clear hh
      generalize lowN cs a = q at hrow hlow h4 hcs ⊢
      refine wp_chk (inb_t rfl rfl (by rw [crs_len]; omega)) ?_
      refine wp_lt (d := .b false) (cmp_e (e_neq (idx_e rfl rfl hrow rfl) (idx_e rfl rfl hrow rfl)) (bne_self_eq_false _)) ?_
      simp only [lv_cons, lv_nil, app_cons, app_nil]
      refine wp_lt (d := .b false) (cmp_e rfl (bne_self_eq_false _)) ?_
      simp only [lv_cons, lv_nil, app_cons, app_nil]
      refine wp_ite (t := false) rfl (fun h => by cases h) (fun _ => ?_)
      refine wp_ite (t := false) rfl (fun h => by cases h) (fun _ => ?_)
      refine wp_lt (e_lss (idx_e rfl rfl hrow rfl) rfl) ?_
      simp only [lv_cons, lv_nil, app_cons, app_nil]
      refine wp_ite rfl (fun h5 => ?_) (fun h5 => ?_)
      · have h5 := of_decide_eq_true h5
        omega
      have h5 := of_decide_eq_false h5
      refine wp_lt (e_gtr (idx_e rfl rfl hrow rfl) rfl) ?_
      simp only [lv_cons, lv_nil, app_cons, app_nil]
      refine wp_ite rfl (fun h6 => ?_) (fun h6 => ?_)
      · have h6 := of_decide_eq_true h6
        have : (c.1 == a) = false := beq_eq_false_iff_ne.2 (by omega)
        rw [this]
        exact wp_return rfl rfl
      · have h6 := of_decide_eq_false h6
        have : (c.1 == a) = true := beq_iff_eq.2 (by omega)
        rw [this]
        exact wp_return rfl rfl
    · have h4 := of_decide_eq_false h4
      have hh : hasN cs a = false := by unfold hasN; rw [List.getElem?_eq_none (by omega)]
      rw [hh]
      exact wp_return rfl rfl

/-- a word's value, by its place -/
def lookN (cs : List Cl) (p : Nat) : Nat := match cs[lowN cs p]? with | some c => if c.1 = p then c.2 else 0 | none => 0
def wordN (s : Nat) (cs : List Cl) (a : Nat) : Nat := if s ≤ a then 0 else lookN cs (a / 8)
theorem lookN_not {cs : List Cl} {p : Nat} (h : hasN cs p = false) : lookN cs p = 0 := by
  unfold hasN at h
  unfold lookN
  split
  · rename_i c hc
    rw [hc] at h
    rw [if_neg]
    simpa using h
  · rfl
theorem lookN_of {cs : List Cl} {p j : Nat} {c : Cl} (hs : Asc cs) (hc : cs[j]? = some c) (h : c.1 = p) : lowN cs p = j ∧ lookN cs p = c.2 := by
  have hj := (List.getElem?_eq_some_iff.1 hc).1
  have h1 : ¬ j < lowN cs p := fun h' => by
    have := (low_iff hs hc).2 h'
    omega
  have h2 : ¬ lowN cs p < j := fun h' => by
    obtain ⟨d, hd⟩ : ∃ d, cs[lowN cs p]? = some d := ⟨_, List.getElem?_eq_getElem (by omega)⟩
    have h3 := low_iff (a := p) hs hd
    have h4 : d.1 < c.1 := by
      have := List.pairwise_iff_getElem.1 hs (lowN cs p) j (by omega) hj h'
      rw [List.getElem?_eq_getElem (by omega)] at hd
      rw [List.getElem?_eq_getElem hj] at hc
      cases hd
      cases hc
      exact this
    omega
  have h3 : lowN cs p = j := by omega
  refine ⟨h3, ?_⟩
  unfold lookN
  rw [h3, hc]
  exact if_pos h
theorem memWord_con {k s a : Nat} {cs : List Cl} (hk : Kd k cs) (hs : Asc cs) (hl : cs.length < 4611686018427387904) (ha : a < 18446744073709551616) : Cn gAll 33 [md k s cs, u a] [u (wordN s cs a)] := by
  refine con rfl rfl mem_Word_c mem_Word_p rfl ?_
  unfold mem_Word_ir
  simp only [lv_cons, lv_nil, app_cons, app_nil]
  refine wp_lt (u_quo (b := 8) rfl rfl (by omega) ha) ?_
  simp only [lv_cons, lv_nil, app_cons, app_nil]
  refine wp_call rfl (memFind_con (s := s) (a := a / 8) hk hs hl) rfl ?_
  simp only [lv_cons, lv_nil, app_cons, app_nil]
  refine wp_lt rfl ?_
  simp only [lv_cons, lv_nil, app_cons, app_nil]
  refine wp_ite rfl (fun h1 => ?_) (fun h1 => ?_)
  · have h1 : hasN cs (a / 8) = false := by simpa using h1
    refine wp_return rfl ?_
    unfold wordN
    rw [lookN_not h1]
    split <;> rfl
  have h1 : hasN cs (a / 8) = true := by simpa using h1
  refine wp_lt (e_geq rfl rfl) ?_
  simp only [lv_cons, lv_nil, app_cons, app_nil]
  refine wp_ite rfl (fun h2 => ?_) (fun h2 => ?_)
  · have h2 := of_decide_eq_true h2
    refine wp_return rfl ?_
    unfold wordN
    rw [if_pos (by omega)]
    rfl
  have h2 := of_decide_eq_false h2
  unfold hasN at h1
  split at h1
  · rename_i c hc
    have h1 : c.1 = a / 8 := by simpa using h1
    have hj := (List.getElem?_eq_some_iff.1 hc).1
    obtain rfl := hk.two (by omega)
    refine wp_chk (inb_t rfl rfl (by rw [crs_len]; omega)) ?_
    refine wp_return (evs_cons (evs_one (idx_e rfl rfl (crow_of hc) rfl)) rfl) ?_
    unfold wordN
    rw [if_neg (by omega), (lookN_of hs hc h1).2]
  · cases h1

/-! ### why bytes are not there -/
def sizeOk (z : Int) : Bool := z == 1 || z == 2 || z == 4 || z == 8
theorem sizeOk_iff {z : Int} : sizeOk z = true ↔ z = 1 ∨ z = 2 ∨ z = 4 ∨ z = 8 := by
  simp only [sizeOk, Bool.or_eq_true, beq_iff_eq, or_assoc]
def wrongN (s a : Nat) (z : Int) : Int := if sizeOk z = true then (if a % z.toNat = 0 then (if s ≤ a then 3 else 0) else 2) else 1
theorem sizeB_con {z : Int} : Cn gAll 69 [i z] [bb (sizeOk z)] := by
  refine con rfl rfl bytes_Size_c bytes_Size_p rfl ?_
  unfold bytes_Size_ir
  simp only [lv_cons, lv_nil, app_cons, app_nil]
  refine wp_lt (e_eql rfl rfl) ?_
  simp only [lv_cons, lv_nil, app_cons, app_nil]
  refine wp_ite rfl (fun h1 => ?_) (fun h1 => ?_)
  · exact wp_return rfl (bb_eq (by simp [sizeOk, h1]))
  refine wp_lt (e_eql rfl rfl) ?_
  simp only [lv_cons, lv_nil, app_cons, app_nil]
  refine wp_ite rfl (fun h2 => ?_) (fun h2 => ?_)
  · exact wp_return rfl (bb_eq (by simp [sizeOk, h2]))
  refine wp_lt (e_eql rfl rfl) ?_
  simp only [lv_cons, lv_nil, app_cons, app_nil]
  refine wp_ite rfl (fun h3 => ?_) (fun h3 => ?_)
  · exact wp_return rfl (bb_eq (by simp [sizeOk, h3]))
  refine wp_lt (e_eql rfl rfl) ?_
  simp only [lv_cons, lv_nil, app_cons, app_nil]
  exact wp_return rfl (bb_eq (by simp only [sizeOk, h1, h2, h3, Bool.false_or]))
theorem wrong_con {k s a : Nat} {z : Int} {cs : List Cl} (ha : a < 18446744073709551616) : Cn gAll 49 [md k s cs, u a, i z] [i (wrongN s a z)] := by
  refine con rfl rfl mem_wrong_c mem_wrong_p rfl ?_
  unfold mem_wrong_ir
  simp only [lv_cons, lv_nil, app_cons, app_nil]
  refine wp_call rfl (sizeB_con (z := z)) rfl ?_
  simp only [lv_cons, lv_nil, app_cons, app_nil]
  refine wp_lt rfl ?_
  simp only [lv_cons, lv_nil, app_cons, app_nil]
  refine wp_ite rfl (fun h1 => ?_) (fun h1 => ?_)
  · have h1 : sizeOk z = false := by simpa using h1
    refine wp_return rfl ?_
    unfold wrongN
    rw [h1]
    rfl
  have h1 : sizeOk z = true := by simpa using h1
  have hz := sizeOk_iff.1 h1
  obtain ⟨n, rfl⟩ : ∃ n : Nat, z = (n : Int) := ⟨z.toNat, by omega⟩
  refine wp_lt (cv_u rfl (by omega)) ?_
  simp only [lv_cons, lv_nil, app_cons, app_nil]
  refine wp_call rfl (even_con (a := a) (b := n) (by omega)) rfl ?_
  simp only [lv_cons, lv_nil, app_cons, app_nil]
  refine wp_lt rfl ?_
  simp only [lv_cons, lv_nil, app_cons, app_nil]
  unfold wrongN
  rw [if_pos h1, Int.toNat_natCast]
  refine wp_ite rfl (fun h2 => ?_) (fun h2 => ?_)
  · have h2 : ¬ a % n = 0 := by simpa using h2
    rw [if_neg h2]
    exact wp_return rfl rfl
  have h2 : a % n = 0 := by simpa using h2
  rw [if_pos h2]
  refine wp_lt (e_geq rfl rfl) ?_
  simp only [lv_cons, lv_nil, app_cons, app_nil]
  refine wp_ite rfl (fun h3 => ?_) (fun h3 => ?_)
  · have h3 := of_decide_eq_true h3
    rw [if_pos (by omega)]
    exact wp_return rfl rfl
  · have h3 := of_decide_eq_false h3
    rw [if_neg (by omega)]
    exact wp_return rfl rfl
end Go.Proofs.YtngpjdieelcbmaaDoor.Sx
