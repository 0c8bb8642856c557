/-
 Layer 3: memories as data; few, the same, right: contracts.
 Layer 3: a word put: contract.
 Layer 3: loading and storing: contracts.
 Layer 3: what putting, storing and clearing leave: plain lists, no program in sight.
 Layer 3: clearing, and the reference's putting: contracts.
 Layer 2 and 3: the reference's bytes, its loading and storing: contracts.
 Layer 3: bits of what is stored and loaded: plain numbers, no program in sight.
 Layer 3: are memories the same: contract.
-/
import Derived.Test.YtnkjmocacielmaaDoorZStep
import Derived.Test.YtnkjmocacielmaaDoorZIrM
import Derived.Test.YtnkjmocacielmaaDoorZSli
import Derived.Test.YtnkjmocacielmaaDoorZSlg
namespace Go.Proofs.YtnkjmocacielmaaDoor.Sx
open Go
set_option linter.unusedVariables false
set_option linter.unusedSimpArgs false
set_option maxRecDepth 100000
abbrev Cl := Nat × Nat
abbrev crow (c : Cl) : List D := [U c.1, U c.2]
abbrev crs (cs : List Cl) : List (List D) := cs.map crow
abbrev md (k s : Nat) (cs : List Cl) : DV := (true, [U s, .sl k (crs cs)])
def Kd (k : Nat) (cs : List Cl) : Prop := k = 2 ∨ (k = 0 ∧ cs = [])
theorem Kd.two {k : Nat} {cs : List Cl} (h : Kd k cs) (hl : 0 < cs.length) : k = 2 := by
 rcases h with h | ⟨_, h⟩
 ·exact h
 ·rw [h] at hl; cases hl
def COk (cs : List Cl) : Prop := ∀ c ∈ cs, c.1 < 18446744073709551616 ∧ c.2 < 18446744073709551616
theorem crow_of {cs : List Cl} {j : Nat} {c : Cl} (h : cs[j]? = some c) : (crs cs)[j]? = some (crow c) := by
 rw [List.getElem?_map, h]; rfl
theorem crs_len {cs : List Cl} : (crs cs).length = cs.length := List.length_map ..
theorem sameM_con {k k' s : Nat} {cs : List Cl} (hk : Kd k cs) (hk' : Kd k' cs) (hl : cs.length < 9223372036854775808) : Cn gAll 12 [md k s cs, md k' s cs] [bb true] := by
 refine con rfl rfl atlasref03_Same_c atlasref03_Same_p rfl ?_
 unfold atlasref03_Same_ir
 simp only [lv_cons, lv_nil, app_cons, app_nil]
 refine wp_lt (d := .b false) (cmp_e rfl (bne_self_eq_false _)) ?_
 simp only [lv_cons, lv_nil, app_cons, app_nil]
 refine wp_ite (t := false) rfl (fun h => by cases h) (fun _ => ?_)
 refine wp_lt (len_is rfl crs_len) ?_
 simp only [lv_cons, lv_nil, app_cons, app_nil]
 refine wp_lt (len_is rfl crs_len) ?_
 simp only [lv_cons, lv_nil, app_cons, app_nil]
 refine wp_lt (d := .b false) (cmp_e rfl (bne_self_eq_false _)) ?_
 simp only [lv_cons, lv_nil, app_cons, app_nil]
 refine wp_ite (t := false) rfl (fun h => by cases h) (fun _ => ?_)
 refine wp_rounds (fun m ds => ∃ (b : Bool) (n : Nat), ds = [.b b, I n] ∧ n + m = cs.length + 1 ∧ n ≤ cs.length) (cs.length + 1) rfl ⟨_, 0, rfl, by omega, by omega⟩ ?_
  (fun es hes => by obtain ⟨_, n, _, h1, h2⟩ := hes; omega)
 rintro m es Q ⟨b, n, rfl, hm, hle⟩ hQ
 simp only [lv_cons, lv_nil, app_cons, app_nil]
 refine wp_lt (len_is rfl crs_len) ?_
 simp only [lv_cons, lv_nil, app_cons, app_nil]
 refine wp_lt rfl ?_
 simp only [lv_cons, lv_nil, app_cons, app_nil]
 refine wp_ite rfl (fun hc => ?_) (fun hc => ?_)
 ·have hc := of_decide_eq_true hc
  have hnl : n < cs.length := by omega
  obtain rfl := hk.two (by omega)
  obtain rfl := hk'.two (by omega)
  obtain ⟨c, hcs⟩ : ∃ c, cs[n]? = some c := ⟨_, List.getElem?_eq_getElem hnl⟩
  have hrow := crow_of hcs
  refine wp_chk (inb_t rfl rfl (by rw [crs_len]; exact hnl)) ?_
  refine wp_chk (inb_t rfl rfl (by rw [crs_len]; exact hnl)) ?_
  refine wp_lt (not_e (t := true) (ite_t (eqs_i (idx_e rfl rfl hrow rfl) (idx_e rfl rfl hrow rfl)) (ite_t (eqs_i (idx_e rfl rfl hrow rfl) (idx_e rfl rfl hrow rfl)) rfl))) ?_
  simp only [lv_cons, lv_nil, app_cons, app_nil]
  refine wp_ite (t := false) rfl (fun h => by cases h) (fun _ => ?_)
  refine wp_lt (i_add (a := (n : Int)) (b := 1) rfl rfl (by omega) (by omega)) ?_
  simp only [lv_cons, lv_nil, app_cons, app_nil]
  exact wp_cont rfl rfl (hQ _ ⟨_, n + 1, rfl, by omega, by omega⟩)
 ·exact wp_return rfl rfl
def cellOk (s : Nat) (cs : List Cl) (j : Nat) : Prop := ∀ c, cs[j]? = some c → c.2 ≠ 0 ∧ c.1 < s / 8 ∧ ∀ b, 0 < j → cs[j - 1]? = some b → b.1 < c.1
instance : ∀ s cs j, Decidable (cellOk s cs j) := fun s cs j => by
 unfold cellOk
 cases cs[j]? with
 | none => exact isTrue (fun c h => by cases h)
 | some c =>
  by_cases h1 : c.2 ≠ 0 ∧ c.1 < s / 8
  ·by_cases h2 : 0 < j
   ·cases hb : cs[j - 1]? with
    | none => exact isTrue (fun c' h => by cases h; exact ⟨h1.1, h1.2, fun b _ h => by cases h⟩)
    | some b =>
     by_cases h3 : b.1 < c.1
     ·exact isTrue (fun c' h => by cases h; exact ⟨h1.1, h1.2, fun b' _ h => by cases h; exact h3⟩)
     ·exact isFalse (fun h => h3 ((h c rfl).2.2 b h2 rfl))
   ·exact isTrue (fun c' h => by cases h; exact ⟨h1.1, h1.2, fun b h => absurd h h2⟩)
  ·exact isFalse (fun h => h1 ⟨(h c rfl).1, (h c rfl).2.1⟩)
def rightM (s : Nat) (cs : List Cl) : Bool := decide (s % 4096 = 0) && decide (s ≤ 1099511627776) && (List.range cs.length).all fun j => decide (cellOk s cs j)
theorem rightM_iff {s : Nat} {cs : List Cl} : rightM s cs = true ↔ s % 4096 = 0 ∧ s ≤ 1099511627776 ∧ ∀ j, cellOk s cs j := by
 simp only [rightM, Bool.and_eq_true, decide_eq_true_eq, List.all_eq_true, List.mem_range]
 constructor
 ·rintro ⟨⟨h1, h2⟩, h3⟩
  refine ⟨h1, h2, fun j c hc => ?_⟩
  exact h3 j (List.getElem?_eq_some_iff.1 hc).1 c hc
 ·rintro ⟨h1, h2, h3⟩
  exact ⟨⟨h1, h2⟩, fun j _ => h3 j⟩
section
variable {ρ : List D} {x y : Ex} {k : IntKind} {a b : Int}
theorem e_eql (hx : x.eval ρ = some (.i k a)) (hy : y.eval ρ = some (.i k b)) : (Ex.bin .eql x y).eval ρ = some (.b (a == b)) := by simp [Ex.eval, hx, hy, binD]
theorem e_neq (hx : x.eval ρ = some (.i k a)) (hy : y.eval ρ = some (.i k b)) : (Ex.bin .neq x y).eval ρ = some (.b (a != b)) := by simp [Ex.eval, hx, hy, binD]
theorem e_lss (hx : x.eval ρ = some (.i k a)) (hy : y.eval ρ = some (.i k b)) : (Ex.bin .lss x y).eval ρ = some (.b (decide (a < b))) := by simp [Ex.eval, hx, hy, binD]
theorem e_leq (hx : x.eval ρ = some (.i k a)) (hy : y.eval ρ = some (.i k b)) : (Ex.bin .leq x y).eval ρ = some (.b (decide (a ≤ b))) := by simp [Ex.eval, hx, hy, binD]
theorem e_gtr (hx : x.eval ρ = some (.i k a)) (hy : y.eval ρ = some (.i k b)) : (Ex.bin .gtr x y).eval ρ = some (.b (decide (a > b))) := by simp [Ex.eval, hx, hy, binD]
theorem e_geq (hx : x.eval ρ = some (.i k a)) (hy : y.eval ρ = some (.i k b)) : (Ex.bin .geq x y).eval ρ = some (.b (decide (a ≥ b))) := by simp [Ex.eval, hx, hy, binD]
end
theorem rightM_not {s : Nat} {cs : List Cl} {j : Nat} (h : ¬ cellOk s cs j) : rightM s cs = false := by
 rw [Bool.eq_false_iff]
 intro h'
 exact h ((rightM_iff.1 h').2.2 j)
theorem cellOk_past {s : Nat} {cs : List Cl} {j : Nat} (h : cs.length ≤ j) : cellOk s cs j := fun c hc => by
 have := (List.getElem?_eq_some_iff.1 hc).1
 omega
theorem refRightM_con {k s : Nat} {cs : List Cl} (hk : Kd k cs) (hs : s < 18446744073709551616) (hl : cs.length < 9223372036854775808) : Cn gAll 50 [md k s cs] [bb (rightM s cs)] := by
 refine con rfl rfl atlasref03_Right_c atlasref03_Right_p rfl ?_
 unfold atlasref03_Right_ir
 simp only [lv_cons, lv_nil, app_cons, app_nil]
 refine wp_lt (u_rem (b := 4096) rfl rfl (by omega)) ?_
 simp only [lv_cons, lv_nil, app_cons, app_nil]
 refine wp_lt (e_neq rfl rfl) ?_
 simp only [lv_cons, lv_nil, app_cons, app_nil]
 refine wp_ite rfl (fun h1 => ?_) (fun h1 => ?_)
 ·refine wp_return rfl (bb_iff ?_)
  rw [rightM_iff]
  have h1 : ((s % 4096 : Nat) : Int) ≠ 0 := by simpa using h1
  exact ⟨fun h => (by cases h), fun h => absurd (by rw [h.1]; rfl) h1⟩
 have h1 : ((s % 4096 : Nat) : Int) = 0 := by simpa using h1
 refine wp_lt (e_gtr rfl rfl) ?_
 simp only [lv_cons, lv_nil, app_cons, app_nil]
 refine wp_ite rfl (fun h2 => ?_) (fun h2 => ?_)
 ·have h2 := of_decide_eq_true h2
  refine wp_return rfl (bb_iff ?_)
  rw [rightM_iff]
  exact ⟨fun h => (by cases h), fun h => by have := h.2.1; omega⟩
 have h2 := of_decide_eq_false h2
 refine wp_rounds (fun m ds => ∃ (b : Bool) (n : Nat), ds = [.b b, I n] ∧ n + m = cs.length + 1 ∧ n ≤ cs.length ∧ ∀ j, j < n → cellOk s cs j) (cs.length + 1) rfl ⟨_, 0, rfl, by omega, by omega, fun j hj => by omega⟩ ?_
  (fun es hes => by obtain ⟨_, n, _, h1, h2, _⟩ := hes; omega)
 rintro m es Q ⟨b, n, rfl, hm, hle, hh⟩ hQ
 simp only [lv_cons, lv_nil, app_cons, app_nil]
 refine wp_lt (len_is rfl crs_len) ?_
 simp only [lv_cons, lv_nil, app_cons, app_nil]
 refine wp_lt rfl ?_
 simp only [lv_cons, lv_nil, app_cons, app_nil]
 refine wp_ite rfl (fun hc => ?_) (fun hc => ?_)
 ·have hc := of_decide_eq_true hc
  have hnl : n < cs.length := by omega
  obtain rfl := hk.two (by omega)
  obtain ⟨c, hcs⟩ : ∃ c, cs[n]? = some c := ⟨_, List.getElem?_eq_getElem hnl⟩
  have hrow := crow_of hcs
  refine wp_chk (inb_t rfl rfl (by rw [crs_len]; exact hnl)) ?_
  refine wp_lt (e_eql (idx_e rfl rfl hrow rfl) rfl) ?_
  simp only [lv_cons, lv_nil, app_cons, app_nil]
  refine wp_ite rfl (fun h3 => ?_) (fun h3 => ?_)
  ·refine wp_return rfl (bb_eq (rightM_not (j := n) fun h => ?_).symm)
   have h3 : c.2 = 0 := by simpa using h3
   exact (h c hcs).1 h3
  have h3 : c.2 ≠ 0 := by simpa using h3
  refine wp_chk (inb_t rfl rfl (by rw [crs_len]; exact hnl)) ?_
  refine wp_lt (u_quo (b := 8) rfl rfl (by omega) hs) ?_
  simp only [lv_cons, lv_nil, app_cons, app_nil]
  refine wp_lt (e_geq (idx_e rfl rfl hrow rfl) rfl) ?_
  simp only [lv_cons, lv_nil, app_cons, app_nil]
  refine wp_ite rfl (fun h4 => ?_) (fun h4 => ?_)
  ·have h4 := of_decide_eq_true h4
   refine wp_return rfl (bb_eq (rightM_not (j := n) fun h => ?_).symm)
   have := (h c hcs).2.1
   omega
  have h4 := of_decide_eq_false h4
  refine wp_lt rfl ?_
  simp only [lv_cons, lv_nil, app_cons, app_nil]
  refine wp_ite rfl (fun h5 => ?_) (fun h5 => ?_)
  ·have h5 := of_decide_eq_true h5
   obtain ⟨b', hbs⟩ : ∃ c, cs[n - 1]? = some c := ⟨_, List.getElem?_eq_getElem (by omega)⟩
   have hrow' := crow_of hbs
   refine wp_chk (inb_t rfl rfl (by rw [crs_len]; exact hnl)) ?_
   refine wp_lt (d := I (n - 1 : Nat)) ((i_sub (a := (n : Int)) (b := 1) rfl rfl (by omega) (by omega)).trans (by rw [show (n : Int) - 1 = ((n - 1 : Nat) : Int) by omega])) ?_
   simp only [lv_cons, lv_nil, app_cons, app_nil]
   refine wp_chk (inb_t rfl rfl (by rw [crs_len]; omega)) ?_
   refine wp_lt (e_leq (idx_e rfl rfl hrow rfl) (idx_e rfl rfl hrow' rfl)) ?_
   simp only [lv_cons, lv_nil, app_cons, app_nil]
   refine wp_ite rfl (fun h6 => ?_) (fun h6 => ?_)
   ·have h6 := of_decide_eq_true h6
    refine wp_return rfl (bb_eq (rightM_not (j := n) fun h => ?_).symm)
    have := (h c hcs).2.2 b' (by omega) hbs
    omega
   have h6 := of_decide_eq_false h6
   refine wp_lt (i_add (a := (n : Int)) (b := 1) rfl rfl (by omega) (by omega)) ?_
   simp only [lv_cons, lv_nil, app_cons, app_nil]
   refine wp_cont rfl rfl (hQ _ ⟨_, n + 1, rfl, by omega, by omega, fun j hj => ?_⟩)
   by_cases hjn : j = n
   ·subst hjn
    intro c' hc'
    rw [hcs] at hc'
    cases hc'
    exact ⟨h3, by omega, fun b'' _ hb'' => by rw [hbs] at hb''; cases hb''; omega⟩
   ·exact hh j (by omega)
  ·have h5 := of_decide_eq_false h5
   refine wp_lt (i_add (a := (n : Int)) (b := 1) rfl rfl (by omega) (by omega)) ?_
   simp only [lv_cons, lv_nil, app_cons, app_nil]
   refine wp_cont rfl rfl (hQ _ ⟨_, n + 1, rfl, by omega, by omega, fun j hj => ?_⟩)
   by_cases hjn : j = n
   ·subst hjn
    intro c' hc'
    rw [hcs] at hc'
    cases hc'
    exact ⟨h3, by omega, fun b'' hb0 _ => by omega⟩
   ·exact hh j (by omega)
 ·have hc := of_decide_eq_false hc
  obtain rfl : n = cs.length := by omega
  refine wp_return rfl (bb_iff ?_)
  rw [rightM_iff]
  refine ⟨fun _ => ⟨by omega, by omega, fun j => ?_⟩, fun _ => rfl⟩
  by_cases hj : j < cs.length
  ·exact hh j hj
  ·exact cellOk_past (by omega)
def Asc (cs : List Cl) : Prop := cs.Pairwise (fun a b => a.1 < b.1)
theorem asc_of {s : Nat} {cs : List Cl} (h : rightM s cs = true) : Asc cs := by
 have hc := (rightM_iff.1 h).2.2
 unfold Asc
 rw [List.pairwise_iff_getElem]
 intro i j hi hj hij
 induction j with
 | zero => omega
 | succ j ih =>
  have h1 := (hc (j + 1) _ (List.getElem?_eq_getElem hj)).2.2 cs[j] (by omega) (List.getElem?_eq_getElem (by omega))
  by_cases he : i = j
  ·subst he; exact h1
  ·exact Nat.lt_trans (ih (by omega) (by omega)) h1
def lowN (cs : List Cl) (a : Nat) : Nat := (cs.filter fun c => decide (c.1 < a)).length
theorem lowN_le {cs : List Cl} {a : Nat} : lowN cs a ≤ cs.length := List.length_filter_le _ _
theorem low_iff {a : Nat} : ∀ {cs : List Cl} {j : Nat} {c : Cl}, Asc cs → cs[j]? = some c → (c.1 < a ↔ j < lowN cs a)
 | [], j, c, _, h => by simp at h
 | d :: ds, j, c, hs, h => by
  obtain ⟨hd, hds⟩ := List.pairwise_cons.1 hs
  by_cases hda : d.1 < a
  ·have e : lowN (d :: ds) a = lowN ds a + 1 := by unfold lowN; rw [List.filter_cons_of_pos (by simpa using hda)]; rfl
   rw [e]
   cases j with
   | zero =>
    obtain rfl : d = c := by simpa using h
    exact ⟨fun _ => by omega, fun _ => hda⟩
   | succ j =>
    have := low_iff (a := a) hds (show ds[j]? = some c by simpa using h)
    omega
  ·have hall : ∀ x ∈ d :: ds, ¬ x.1 < a := fun x hx => by
    rcases List.mem_cons.1 hx with rfl | hx
    ·exact hda
    ·have := hd x hx; omega
   have e : lowN (d :: ds) a = 0 := by
    unfold lowN
    rw [List.length_eq_zero_iff, List.filter_eq_nil_iff]
    intro x hx
    simpa using hall x hx
   rw [e]
   have := hall c (List.mem_of_getElem? h)
   omega
def hasN (cs : List Cl) (a : Nat) : Bool := match cs[lowN cs a]? with | some c => c.1 == a | none => false
theorem memFind_con {k s a : Nat} {cs : List Cl} (hk : Kd k cs) (hs : Asc cs) (hl : cs.length < 4611686018427387904) : Cn gAll 91 [md k s cs, u a] [i (lowN cs a), bb (hasN cs a)] := by
 refine con rfl rfl mem_find_c mem_find_p rfl ?_
 unfold mem_find_ir
 simp only [lv_cons, lv_nil, app_cons, app_nil]
 refine wp_lt (len_is rfl crs_len) ?_
 simp only [lv_cons, lv_nil, app_cons, app_nil]
 refine wp_rounds (fun m ds => ∃ (lo hi : Nat), ds = [I lo, I hi] ∧ lo ≤ lowN cs a ∧ lowN cs a ≤ hi ∧ hi ≤ cs.length ∧ hi - lo + 1 ≤ m) (cs.length + 1) rfl ⟨0, cs.length, rfl, by omega, lowN_le, by omega, by omega⟩ ?_
  (fun es hes => by obtain ⟨_, _, _, _, _, _, h⟩ := hes; omega)
 rintro m es Q ⟨lo, hi, rfl, h1, h2, h3, hm⟩ hQ
 simp only [lv_cons, lv_nil, app_cons, app_nil]
 refine wp_lt rfl ?_
 simp only [lv_cons, lv_nil, app_cons, app_nil]
 refine wp_ite rfl (fun hc => ?_) (fun hc => ?_)
 ·have hc := of_decide_eq_true hc
  refine wp_lt (d := I (lo + hi : Nat)) ((i_add (a := (lo : Int)) (b := (hi : Int)) rfl rfl (by omega) (by omega)).trans (by rw [Int.natCast_add])) ?_
  simp only [lv_cons, lv_nil, app_cons, app_nil]
  refine wp_lt (cv_u rfl (by omega)) ?_
  simp only [lv_cons, lv_nil, app_cons, app_nil]
  refine wp_lt (u_shr (b := 1) rfl rfl (by omega)) ?_
  simp only [lv_cons, lv_nil, app_cons, app_nil]
  rw [show (lo + hi) / 2 ^ 1 = (lo + hi) / 2 from rfl]
  refine wp_lt (cv_i (n := ((lo + hi) / 2 : Nat)) rfl (by omega) (by omega)) ?_
  simp only [lv_cons, lv_nil, app_cons, app_nil]
  have hml : (lo + hi) / 2 < hi := by omega
  have hmg : lo ≤ (lo + hi) / 2 := by omega
  generalize (lo + hi) / 2 = mid at hml hmg ⊢
  obtain rfl := hk.two (by omega)
  obtain ⟨c, hcs⟩ : ∃ c, cs[mid]? = some c := ⟨_, List.getElem?_eq_getElem (by omega)⟩
  have hrow := crow_of hcs
  have hlow := low_iff (a := a) hs hcs
  refine wp_chk (inb_t rfl rfl (by rw [crs_len]; omega)) ?_
  refine wp_lt (d := .b false) (cmp_e (e_neq (idx_e rfl rfl hrow rfl) (idx_e rfl rfl hrow rfl)) (bne_self_eq_false _)) ?_
  simp only [lv_cons, lv_nil, app_cons, app_nil]
  refine wp_lt (d := .b false) (cmp_e rfl (bne_self_eq_false _)) ?_
  simp only [lv_cons, lv_nil, app_cons, app_nil]
  refine wp_ite (t := false) rfl (fun h => by cases h) (fun _ => ?_)
  refine wp_ite (t := false) rfl (fun h => by cases h) (fun _ => ?_)
  refine wp_lt (e_lss (idx_e rfl rfl hrow rfl) rfl) ?_
  simp only [lv_cons, lv_nil, app_cons, app_nil]
  refine wp_ite rfl (fun h4 => ?_) (fun h4 => ?_)
  ·have h4 := of_decide_eq_true h4
   refine wp_lt (i_add (a := (mid : Int)) (b := 1) rfl rfl (by omega) (by omega)) ?_
   simp only [lv_cons, lv_nil, app_cons, app_nil]
   exact wp_cont rfl rfl (hQ _ ⟨mid + 1, hi, rfl, by omega, h2, h3, by omega⟩)
  ·have h4 := of_decide_eq_false h4
   refine wp_lt (e_gtr (idx_e rfl rfl hrow rfl) rfl) ?_
   simp only [lv_cons, lv_nil, app_cons, app_nil]
   refine wp_ite rfl (fun _ => ?_) (fun _ => ?_) <;> exact wp_cont rfl rfl (hQ _ ⟨lo, mid, rfl, h1, by omega, by omega, by omega⟩)
 ·have hc := of_decide_eq_false hc
  obtain rfl : lo = lowN cs a := by omega
  refine wp_lt rfl ?_
  simp only [lv_cons, lv_nil, app_cons, app_nil]
  refine wp_ite rfl (fun h4 => ?_) (fun h4 => ?_)
  ·have h4 := of_decide_eq_true h4
   obtain rfl := hk.two (by omega)
   obtain ⟨c, hcs⟩ : ∃ c, cs[lowN cs a]? = some c := ⟨_, List.getElem?_eq_getElem (by omega)⟩
   have hrow := crow_of hcs
   have hlow := low_iff (a := a) hs hcs
   have hh : hasN cs a = (c.1 == a) := by unfold hasN; rw [hcs]
   rw [hh]
   clear hh
   generalize lowN cs a = q at hrow hlow h4 hcs ⊢
   refine wp_chk (inb_t rfl rfl (by rw [crs_len]; omega)) ?_
   refine wp_lt (d := .b false) (cmp_e (e_neq (idx_e rfl rfl hrow rfl) (idx_e rfl rfl hrow rfl)) (bne_self_eq_false _)) ?_
   simp only [lv_cons, lv_nil, app_cons, app_nil]
   refine wp_lt (d := .b false) (cmp_e rfl (bne_self_eq_false _)) ?_
   simp only [lv_cons, lv_nil, app_cons, app_nil]
   refine wp_ite (t := false) rfl (fun h => by cases h) (fun _ => ?_)
   refine wp_ite (t := false) rfl (fun h => by cases h) (fun _ => ?_)
   refine wp_lt (e_lss (idx_e rfl rfl hrow rfl) rfl) ?_
   simp only [lv_cons, lv_nil, app_cons, app_nil]
   refine wp_ite rfl (fun h5 => ?_) (fun h5 => ?_)
   ·have h5 := of_decide_eq_true h5
    omega
   have h5 := of_decide_eq_false h5
   refine wp_lt (e_gtr (idx_e rfl rfl hrow rfl) rfl) ?_
   simp only [lv_cons, lv_nil, app_cons, app_nil]
   refine wp_ite rfl (fun h6 => ?_) (fun h6 => ?_)
   ·have h6 := of_decide_eq_true h6
    have : (c.1 == a) = false := beq_eq_false_iff_ne.2 (by omega)
    rw [this]
    exact wp_return rfl rfl
   ·have h6 := of_decide_eq_false h6
    have : (c.1 == a) = true := beq_iff_eq.2 (by omega)
    rw [this]
    exact wp_return rfl rfl
  ·have h4 := of_decide_eq_false h4
   have hh : hasN cs a = false := by unfold hasN; rw [List.getElem?_eq_none (by omega)]
   rw [hh]
   exact wp_return rfl rfl
def lookN (cs : List Cl) (p : Nat) : Nat := match cs[lowN cs p]? with | some c => if c.1 = p then c.2 else 0 | none => 0
def wordN (s : Nat) (cs : List Cl) (a : Nat) : Nat := if s ≤ a then 0 else lookN cs (a / 8)
theorem lookN_not {cs : List Cl} {p : Nat} (h : hasN cs p = false) : lookN cs p = 0 := by
 unfold hasN at h
 unfold lookN
 split
 ·rename_i c hc
  rw [hc] at h
  rw [if_neg]
  simpa using h
 ·rfl
theorem lookN_of {cs : List Cl} {p j : Nat} {c : Cl} (hs : Asc cs) (hc : cs[j]? = some c) (h : c.1 = p) : lowN cs p = j ∧ lookN cs p = c.2 := by
 have hj := (List.getElem?_eq_some_iff.1 hc).1
 have h1 : ¬ j < lowN cs p := fun h' => by
  have := (low_iff hs hc).2 h'
  omega
 have h2 : ¬ lowN cs p < j := fun h' => by
  obtain ⟨d, hd⟩ : ∃ d, cs[lowN cs p]? = some d := ⟨_, List.getElem?_eq_getElem (by omega)⟩
  have h3 := low_iff (a := p) hs hd
  have h4 : d.1 < c.1 := by
   have := List.pairwise_iff_getElem.1 hs (lowN cs p) j (by omega) hj h'
   rw [List.getElem?_eq_getElem (by omega)] at hd
   rw [List.getElem?_eq_getElem hj] at hc
   cases hd
   cases hc
   exact this
  omega
 have h3 : lowN cs p = j := by omega
 refine ⟨h3, ?_⟩
 unfold lookN
 rw [h3, hc]
 exact if_pos h
theorem memWord_con {k s a : Nat} {cs : List Cl} (hk : Kd k cs) (hs : Asc cs) (hl : cs.length < 4611686018427387904) (ha : a < 18446744073709551616) : Cn gAll 76 [md k s cs, u a] [u (wordN s cs a)] := by
 refine con rfl rfl mem_Word_c mem_Word_p rfl ?_
 unfold mem_Word_ir
 simp only [lv_cons, lv_nil, app_cons, app_nil]
 refine wp_lt (u_quo (b := 8) rfl rfl (by omega) ha) ?_
 simp only [lv_cons, lv_nil, app_cons, app_nil]
 refine wp_call rfl (memFind_con (s := s) (a := a / 8) hk hs hl) rfl ?_
 simp only [lv_cons, lv_nil, app_cons, app_nil]
 refine wp_lt rfl ?_
 simp only [lv_cons, lv_nil, app_cons, app_nil]
 refine wp_ite rfl (fun h1 => ?_) (fun h1 => ?_)
 ·have h1 : hasN cs (a / 8) = false := by simpa using h1
  refine wp_return rfl ?_
  unfold wordN
  rw [lookN_not h1]
  split <;> rfl
 have h1 : hasN cs (a / 8) = true := by simpa using h1
 refine wp_lt (e_geq rfl rfl) ?_
 simp only [lv_cons, lv_nil, app_cons, app_nil]
 refine wp_ite rfl (fun h2 => ?_) (fun h2 => ?_)
 ·have h2 := of_decide_eq_true h2
  refine wp_return rfl ?_
  unfold wordN
  rw [if_pos (by omega)]
  rfl
 have h2 := of_decide_eq_false h2
 unfold hasN at h1
 split at h1
 ·rename_i c hc
  have h1 : c.1 = a / 8 := by simpa using h1
  have hj := (List.getElem?_eq_some_iff.1 hc).1
  obtain rfl := hk.two (by omega)
  refine wp_chk (inb_t rfl rfl (by rw [crs_len]; omega)) ?_
  refine wp_return (evs_cons (evs_one (idx_e rfl rfl (crow_of hc) rfl)) rfl) ?_
  unfold wordN
  rw [if_neg (by omega), (lookN_of hs hc h1).2]
 ·cases h1
theorem refWord_con {k s a : Nat} {cs : List Cl} (hk : Kd k cs) (hs : Asc cs) (hl : cs.length < 4611686018427387904) (ha : a < 18446744073709551616) : Cn gAll 65 [md k s cs, u a] [u (wordN s cs a)] := by
 refine con rfl rfl atlasref03_Word_c atlasref03_Word_p rfl ?_
 unfold atlasref03_Word_ir
 simp only [lv_cons, lv_nil, app_cons, app_nil]
 refine wp_lt (e_geq rfl rfl) ?_
 simp only [lv_cons, lv_nil, app_cons, app_nil]
 refine wp_ite rfl (fun h0 => ?_) (fun h0 => ?_)
 ·have h0 := of_decide_eq_true h0
  refine wp_return rfl ?_
  unfold wordN
  rw [if_pos (by omega)]
  rfl
 have h0 := of_decide_eq_false h0
 have hw : wordN s cs a = lookN cs (a / 8) := by unfold wordN; rw [if_neg (by omega)]
 rw [hw]
 refine wp_lt (len_is rfl crs_len) ?_
 simp only [lv_cons, lv_nil, app_cons, app_nil]
 refine wp_rounds (fun m ds => ∃ (d : D) (lo hi : Nat), ds = [d, I lo, I hi] ∧ lo ≤ lowN cs (a / 8) ∧ hi ≤ cs.length ∧ (∀ j c, cs[j]? = some c → c.1 = a / 8 → j < hi) ∧ lowN cs (a / 8) ≤ hi ∧ hi - lo + 1 ≤ m) (cs.length + 1) rfl ⟨_, 0, cs.length, rfl, by omega, by omega, fun j c hc _ => (List.getElem?_eq_some_iff.1 hc).1, lowN_le, by omega⟩ ?_
  (fun es hes => by obtain ⟨_, _, _, _, _, _, _, _, h⟩ := hes; omega)
 rintro m es Q ⟨d, lo, hi, rfl, h1, h2, h3, h4, hm⟩ hQ
 simp only [lv_cons, lv_nil, app_cons, app_nil]
 refine wp_lt rfl ?_
 simp only [lv_cons, lv_nil, app_cons, app_nil]
 refine wp_ite rfl (fun hc => ?_) (fun hc => ?_)
 ·have hc := of_decide_eq_true hc
  refine wp_lt (d := I (lo + hi : Nat)) ((i_add (a := (lo : Int)) (b := (hi : Int)) rfl rfl (by omega) (by omega)).trans (by rw [Int.natCast_add])) ?_
  simp only [lv_cons, lv_nil, app_cons, app_nil]
  refine wp_lt (i_quo (b := 2) rfl rfl (by omega) (by omega)) ?_
  simp only [lv_cons, lv_nil, app_cons, app_nil]
  have hml : (lo + hi) / 2 < hi := by omega
  have hmg : lo ≤ (lo + hi) / 2 := by omega
  generalize (lo + hi) / 2 = mid at hml hmg ⊢
  obtain rfl := hk.two (by omega)
  obtain ⟨c, hcs⟩ : ∃ c, cs[mid]? = some c := ⟨_, List.getElem?_eq_getElem (by omega)⟩
  have hrow := crow_of hcs
  have hlow := low_iff (a := a / 8) hs hcs
  refine wp_chk (inb_t rfl rfl (by rw [crs_len]; omega)) ?_
  refine wp_lt (u_quo (b := 8) rfl rfl (by omega) ha) ?_
  simp only [lv_cons, lv_nil, app_cons, app_nil]
  refine wp_lt (e_eql (idx_e rfl rfl hrow rfl) rfl) ?_
  simp only [lv_cons, lv_nil, app_cons, app_nil]
  refine wp_ite rfl (fun h5 => ?_) (fun h5 => ?_)
  ·have h5 : c.1 = a / 8 := by have := beq_iff_eq.1 h5; omega
   refine wp_chk (inb_t rfl rfl (by rw [crs_len]; omega)) ?_
   refine wp_return (evs_cons (evs_one (idx_e rfl rfl hrow rfl)) rfl) ?_
   rw [(lookN_of hs hcs h5).2]
  have h5 : c.1 ≠ a / 8 := by have := beq_eq_false_iff_ne.1 h5; omega
  refine wp_chk (inb_t rfl rfl (by rw [crs_len]; omega)) ?_
  refine wp_lt (u_quo (b := 8) rfl rfl (by omega) ha) ?_
  simp only [lv_cons, lv_nil, app_cons, app_nil]
  refine wp_lt (e_lss (idx_e rfl rfl hrow rfl) rfl) ?_
  simp only [lv_cons, lv_nil, app_cons, app_nil]
  refine wp_ite rfl (fun h6 => ?_) (fun h6 => ?_)
  ·have h6 := of_decide_eq_true h6
   refine wp_lt (i_add (a := (mid : Int)) (b := 1) rfl rfl (by omega) (by omega)) ?_
   simp only [lv_cons, lv_nil, app_cons, app_nil]
   exact wp_cont rfl rfl (hQ _ ⟨_, mid + 1, hi, rfl, by omega, h2, h3, h4, by omega⟩)
  ·have h6 := of_decide_eq_false h6
   refine wp_cont rfl rfl (hQ _ ⟨_, lo, mid, rfl, h1, by omega, fun j c' hc' he => ?_, by omega, by omega⟩)
   have := (lookN_of hs hc' he).1
   have hjm : j ≠ mid := fun e => by
    subst e
    rw [hcs] at hc'
    cases hc'
    exact h5 he
   omega
 ·have hc := of_decide_eq_false hc
  refine wp_return rfl ?_
  have : hasN cs (a / 8) = false := by
   rw [Bool.eq_false_iff]
   intro h
   unfold hasN at h
   split at h
   ·rename_i c hcc
    have := h3 _ c hcc (by simpa using h)
    omega
   ·cases h
  rw [lookN_not this]
  rfl
def sizeOk (z : Int) : Bool := z == 1 || z == 2 || z == 4 || z == 8
theorem sizeOk_iff {z : Int} : sizeOk z = true ↔ z = 1 ∨ z = 2 ∨ z = 4 ∨ z = 8 := by
 simp only [sizeOk, Bool.or_eq_true, beq_iff_eq, or_assoc]
def wrongN (s a : Nat) (z : Int) : Int := if sizeOk z = true then (if a % z.toNat = 0 then (if s ≤ a then 3 else 0) else 2) else 1
theorem sizeB_con {z : Int} : Cn gAll 96 [i z] [bb (sizeOk z)] := by
 refine con rfl rfl bytes_Size_c bytes_Size_p rfl ?_
 unfold bytes_Size_ir
 simp only [lv_cons, lv_nil, app_cons, app_nil]
 refine wp_lt (e_eql rfl rfl) ?_
 simp only [lv_cons, lv_nil, app_cons, app_nil]
 refine wp_ite rfl (fun h1 => ?_) (fun h1 => ?_)
 ·exact wp_return rfl (bb_eq (by simp [sizeOk, h1]))
 refine wp_lt (e_eql rfl rfl) ?_
 simp only [lv_cons, lv_nil, app_cons, app_nil]
 refine wp_ite rfl (fun h2 => ?_) (fun h2 => ?_)
 ·exact wp_return rfl (bb_eq (by simp [sizeOk, h2]))
 refine wp_lt (e_eql rfl rfl) ?_
 simp only [lv_cons, lv_nil, app_cons, app_nil]
 refine wp_ite rfl (fun h3 => ?_) (fun h3 => ?_)
 ·exact wp_return rfl (bb_eq (by simp [sizeOk, h3]))
 refine wp_lt (e_eql rfl rfl) ?_
 simp only [lv_cons, lv_nil, app_cons, app_nil]
 exact wp_return rfl (bb_eq (by simp only [sizeOk, h1, h2, h3, Bool.false_or]))
theorem wrong_con {k s a : Nat} {z : Int} {cs : List Cl} (ha : a < 18446744073709551616) : Cn gAll 83 [md k s cs, u a, i z] [i (wrongN s a z)] := by
 refine con rfl rfl mem_wrong_c mem_wrong_p rfl ?_
 unfold mem_wrong_ir
 simp only [lv_cons, lv_nil, app_cons, app_nil]
 refine wp_call rfl (sizeB_con (z := z)) rfl ?_
 simp only [lv_cons, lv_nil, app_cons, app_nil]
 refine wp_lt rfl ?_
 simp only [lv_cons, lv_nil, app_cons, app_nil]
 refine wp_ite rfl (fun h1 => ?_) (fun h1 => ?_)
 ·have h1 : sizeOk z = false := by simpa using h1
  refine wp_return rfl ?_
  unfold wrongN
  rw [h1]
  rfl
 have h1 : sizeOk z = true := by simpa using h1
 have hz := sizeOk_iff.1 h1
 obtain ⟨n, rfl⟩ : ∃ n : Nat, z = (n : Int) := ⟨z.toNat, by omega⟩
 refine wp_lt (cv_u rfl (by omega)) ?_
 simp only [lv_cons, lv_nil, app_cons, app_nil]
 refine wp_call rfl (even_con (a := a) (b := n) (by omega)) rfl ?_
 simp only [lv_cons, lv_nil, app_cons, app_nil]
 refine wp_lt rfl ?_
 simp only [lv_cons, lv_nil, app_cons, app_nil]
 unfold wrongN
 rw [if_pos h1, Int.toNat_natCast]
 refine wp_ite rfl (fun h2 => ?_) (fun h2 => ?_)
 ·have h2 : ¬ a % n = 0 := by simpa using h2
  rw [if_neg h2]
  exact wp_return rfl rfl
 have h2 : a % n = 0 := by simpa using h2
 rw [if_pos h2]
 refine wp_lt (e_geq rfl rfl) ?_
 simp only [lv_cons, lv_nil, app_cons, app_nil]
 refine wp_ite rfl (fun h3 => ?_) (fun h3 => ?_)
 ·have h3 := of_decide_eq_true h3
  rw [if_pos (by omega)]
  exact wp_return rfl rfl
 ·have h3 := of_decide_eq_false h3
  rw [if_neg (by omega)]
  exact wp_return rfl rfl
end Go.Proofs.YtnkjmocacielmaaDoor.Sx
namespace Go.Proofs.YtnkjmocacielmaaDoor.Sx
open Go
set_option linter.unusedVariables false
set_option linter.unusedSimpArgs false
set_option maxRecDepth 100000
theorem wk_md {s : Nat} : WkR [md 0 s []] [md 2 s []] := by
 intro I w v h
 obtain ⟨vs, rfl, h⟩ := h
 refine ⟨vs, rfl, ?_⟩
 cases h with
 | cons h1 h =>
  cases h with
  | cons h2 h =>
   cases h
   refine .cons h1 (.cons ?_ .nil)
   generalize hxs : ([] : List (List D)) = xs at h2
   cases h2 with
   | nil _ p cap hz => exact .nil 2 p cap fun h => by cases h
   | sl _ _ _ _ _ _ h0 => omega
def putM (cs : List Cl) (p v : Nat) : List Cl := cs.take (lowN cs p) ++ ((if v = 0 then [] else [(p, v)]) ++ cs.drop (lowN cs p + (hasN cs p).toNat))
theorem put_del {cs : List Cl} {p : Nat} (h : hasN cs p = true) : crs (putM cs p 0) = (crs cs).take (lowN cs p) ++ (crs cs).drop (lowN cs p + 1) := by
 simp [putM, h, crs, List.map_take, List.map_drop]
theorem put_ins {cs : List Cl} {p v : Nat} (h : hasN cs p = false) (hv : v ≠ 0) : crs (putM cs p v) = insR (crs cs) (lowN cs p) (crow (p, v)) := by
 simp [putM, h, crs, insR, hv, List.map_take, List.map_drop]
theorem put_non {cs : List Cl} {p : Nat} (h : hasN cs p = false) : putM cs p 0 = cs := by
 simp [putM, h]
theorem put_set {cs : List Cl} {p v : Nat} {c : Cl} (hc : cs[lowN cs p]? = some c) (h : c.1 = p) (hv : v ≠ 0) : crs (putM cs p v) = (crs cs).set (lowN cs p) (crow (p, v)) := by
 have hj := (List.getElem?_eq_some_iff.1 hc).1
 have hh : hasN cs p = true := by unfold hasN; rw [hc]; simpa using h
 have : (crs cs).set (lowN cs p) (crow (p, v)) = crs (cs.set (lowN cs p) (p, v)) := by rw [crs, crs, List.map_set]
 rw [this]
 congr 1
 unfold putM
 rw [hh, if_neg hv, List.set_eq_take_append_cons_drop, if_pos hj]
 rfl
theorem has_at {cs : List Cl} {p : Nat} (h : hasN cs p = true) : ∃ c, cs[lowN cs p]? = some c ∧ c.1 = p := by
 unfold hasN at h
 split at h
 ·rename_i c hc
  exact ⟨c, hc, by simpa using h⟩
 ·cases h
theorem own_cells {ρ : List D} {k : Nat} {cs : List Cl} {x : Ex} (hk : Kd k cs) (hx : x.eval ρ = some (.sl k (crs cs))) : (Ex.app 2 (.c (.sl 2 [])) x).eval ρ = some (.sl 2 (crs cs)) := by
 rcases hk with rfl | ⟨rfl, rfl⟩
 ·exact app0_e hx
 ·simp only [Ex.eval, hx, appD]
  rfl
theorem put1_e {ρ : List D} {x ix y : Ex} {k : IntKind} {m : Nat} {rows : List (List D)} {a b d : D} (hx : x.eval ρ = some (.sl 2 rows)) (hi : ix.eval ρ = some (.i k (m : Int))) (hr : rows[m]? = some [a, b]) (hv : y.eval ρ = some d) : (Ex.put x ix 1 [y]).eval ρ = some (.sl 2 (rows.set m [a, d])) := by
 simp only [Ex.eval, Ex.evals, hx, hi, hv, putD]
 rw [if_pos (by omega)]
 simp only [Int.toNat_natCast, hr]
 rfl
theorem memPut_wp {k s p v : Nat} {cs : List Cl} (hk : Kd k cs) (hs : Asc cs) (hl : cs.length ≤ 1000000) : IR.wp (Cn gAll) (fun r => r = [md 2 s (putM cs p v)] ∨ (putM cs p v = [] ∧ r = [md 0 s []])) mem_put_ir [] (leavesOf [md k s cs, u p, u v]) := by
 unfold mem_put_ir
 simp only [lv_cons, lv_nil, app_cons, app_nil]
 have hlow := lowN_le (cs := cs) (a := p)
 have hcl := crs_len (cs := cs)
 refine wp_call rfl (memFind_con (s := s) (a := p) hk hs (by omega)) rfl ?_
 simp only [lv_cons, lv_nil, app_cons, app_nil]
 refine wp_may (e_eql (len_is rfl crs_len) rfl) (fun h => ?_) ?_
 ·obtain rfl : cs = [] := by
   have : ((cs.length : Nat) : Int) = 0 := by simpa using h
   exact List.length_eq_zero_iff.1 (by omega)
  refine wp_ite (t := false) rfl (fun h => by cases h) (fun _ => ?_)
  refine wp_ite (t := false) rfl (fun h => by cases h) (fun _ => ?_)
  refine wp_lt (e_neq rfl rfl) ?_
  simp only [lv_cons, lv_nil, app_cons, app_nil]
  refine wp_ite rfl (fun hv => ?_) (fun hv => ?_)
  ·have hv : v ≠ 0 := by simpa using hv
   refine wp_chk (eqs_i rfl rfl) ?_
   refine wp_call rfl (con_eat (by decide) (insert_con (s0 := 0) (rows := []) (i := 0) (d0 := U p) (d1 := U v) (.inr ⟨rfl, rfl⟩) (by simp) (by decide))) rfl ?_
   simp only [lv_cons, lv_nil, app_cons, app_nil]
   refine wp_return rfl (.inl ?_)
   have := put_ins (cs := []) (p := p) (v := v) rfl hv
   rw [md, this]
   rfl
  ·obtain rfl : v = 0 := by simpa using hv
   exact wp_return rfl (.inr ⟨rfl, rfl⟩)
 ·refine wp_chk (room_t (own_cells hk rfl) (by omega)) ?_
  refine wp_ite rfl (fun hh => ?_) (fun hh => ?_)
  ·obtain ⟨c, hc, hcp⟩ := has_at hh
   have hj := (List.getElem?_eq_some_iff.1 hc).1
   refine wp_lt (e_eql rfl rfl) ?_
   simp only [lv_cons, lv_nil, app_cons, app_nil]
   refine wp_ite rfl (fun hv => ?_) (fun hv => ?_)
   ·obtain rfl : v = 0 := by simpa using hv
    refine wp_lt (d := I (lowN cs p + 1 : Nat)) (i_add (a := (lowN cs p : Int)) (b := 1) rfl rfl (by omega) (by omega)) ?_
    simp only [lv_cons, lv_nil, app_cons, app_nil]
    refine wp_chk (eqs_i rfl rfl) ?_
    refine wp_chk (eqs_i rfl rfl) ?_
    refine wp_call (evs_cons (evs_one (own_cells hk rfl)) rfl) (con_eat (by decide) (delete_con (i := lowN cs p) (j := lowN cs p + 1) (by omega) (by omega))) rfl ?_
    simp only [lv_cons, lv_nil, app_cons, app_nil]
    refine wp_return rfl (.inl ?_)
    rw [md, put_del hh]
   ·have hv : v ≠ 0 := by simpa using hv
    refine wp_ite rfl (fun _ => ?_) (fun h => absurd (hh.symm.trans h) (by decide))
    refine wp_chk (inb_t (own_cells hk rfl) rfl (by omega)) ?_
    refine wp_chk (inb_t (own_cells hk rfl) rfl (by omega)) ?_
    refine wp_return (evs_cons (es_cons rfl (es_cons (put1_e (own_cells hk rfl) rfl (crow_of hc) rfl) rfl)) rfl) (.inl ?_)
    rw [md, put_set hc hcp hv, hcp]
  ·refine wp_ite rfl (fun h => absurd (hh.symm.trans h) (by decide)) (fun _ => ?_)
   refine wp_lt (e_neq rfl rfl) ?_
   simp only [lv_cons, lv_nil, app_cons, app_nil]
   refine wp_ite rfl (fun hv => ?_) (fun hv => ?_)
   ·have hv : v ≠ 0 := by simpa using hv
    refine wp_chk (eqs_i rfl rfl) ?_
    refine wp_call (evs_cons (evs_one (own_cells hk rfl)) rfl) (con_eat (by decide) (insert_con (s0 := 2) (rows := crs cs) (i := lowN cs p) (d0 := U p) (d1 := U v) (.inl rfl) (by omega) (by omega))) rfl ?_
    simp only [lv_cons, lv_nil, app_cons, app_nil]
    refine wp_return rfl (.inl ?_)
    rw [md, put_ins hh hv]
   ·obtain rfl : v = 0 := by simpa using hv
    refine wp_return (evs_cons (es_cons rfl (es_cons (own_cells hk rfl) rfl)) rfl) (.inl ?_)
    rw [md, put_non hh]
theorem memPut_con {k s p v : Nat} {cs : List Cl} (hk : Kd k cs) (hs : Asc cs) (hl : cs.length ≤ 1000000) : Cn gAll 84 [md k s cs, u p, u v] [md 2 s (putM cs p v)] := by
 refine con' rfl rfl mem_put_c mem_put_p (fun r => r = [md 2 s (putM cs p v)] ∨ (putM cs p v = [] ∧ r = [md 0 s []])) (fun r hr => ?_) rfl (memPut_wp hk hs hl)
 rcases hr with rfl | ⟨h, rfl⟩
 ·exact fun _ _ _ h => h
 ·rw [h]; exact wk_md
end Go.Proofs.YtnkjmocacielmaaDoor.Sx
namespace Go.Proofs.YtnkjmocacielmaaDoor.Sx
open Go
set_option linter.unusedVariables false
set_option linter.unusedSimpArgs false
set_option maxRecDepth 100000
theorem lookN_lt {cs : List Cl} {p : Nat} (h : COk cs) : lookN cs p < 18446744073709551616 := by
 unfold lookN
 split
 ·rename_i c hc
  split
  ·exact (h c (List.mem_of_getElem? hc)).2
  ·omega
 ·omega
theorem wordN_lt {cs : List Cl} {s a : Nat} (h : COk cs) : wordN s cs a < 18446744073709551616 := by
 unfold wordN
 split
 ·omega
 ·exact lookN_lt h
def storeM (s : Nat) (cs : List Cl) (a n v : Nat) : List Cl := putM cs (a / 8) (setN (wordN s cs a) (a % 8 * 8) (n * 8) v)
theorem memStore_ok {k s a n v : Nat} {cs : List Cl} (hk : Kd k cs) (hs : Asc cs) (hO : COk cs) (hl : cs.length ≤ 1000000) (ha : a < 18446744073709551616) (hv : v < 18446744073709551616) (hn : sizeOk n = true) (h : wrongN s a n = 0) : Cn gAll 62 [md k s cs, u a, i n, u v] [md 2 s (storeM s cs a n v), i 0] := by
 refine con rfl rfl mem_Store_c mem_Store_p rfl ?_
 unfold mem_Store_ir
 simp only [lv_cons, lv_nil, app_cons, app_nil]
 have hz := sizeOk_iff.1 hn
 refine wp_call rfl (wrong_con (k := k) (s := s) (z := n) (cs := cs) ha) rfl ?_
 rw [h]
 simp only [lv_cons, lv_nil, app_cons, app_nil]
 refine wp_lt (d := (.b false)) rfl ?_
 simp only [lv_cons, lv_nil, app_cons, app_nil]
 refine wp_ite (t := false) rfl (fun h => by cases h) (fun _ => ?_)
 refine wp_lt (u_quo (b := 8) rfl rfl (by omega) ha) ?_
 simp only [lv_cons, lv_nil, app_cons, app_nil]
 refine wp_call rfl (memWord_con hk hs (by omega) ha) rfl ?_
 simp only [lv_cons, lv_nil, app_cons, app_nil]
 refine wp_lt (u_rem (b := 8) rfl rfl (by omega)) ?_
 simp only [lv_cons, lv_nil, app_cons, app_nil]
 refine wp_lt (cv_i rfl (by omega) (by omega)) ?_
 simp only [lv_cons, lv_nil, app_cons, app_nil]
 refine wp_lt (d := I (a % 8 * 8 : Nat)) ((i_mul (b := 8) rfl rfl (by omega) (by omega)).trans (by rw [Int.natCast_mul]; rfl)) ?_
 simp only [lv_cons, lv_nil, app_cons, app_nil]
 refine wp_lt (d := I (n * 8 : Nat)) ((i_mul (b := 8) rfl rfl (by omega) (by omega)).trans (by rw [Int.natCast_mul]; rfl)) ?_
 simp only [lv_cons, lv_nil, app_cons, app_nil]
 refine wp_call rfl (bitsSet_con (wordN_lt hO) hv (by omega) (by omega)) rfl ?_
 simp only [lv_cons, lv_nil, app_cons, app_nil]
 refine wp_call rfl (memPut_con hk hs hl) rfl ?_
 simp only [lv_cons, lv_nil, app_cons, app_nil]
 exact wp_return rfl rfl
end Go.Proofs.YtnkjmocacielmaaDoor.Sx
namespace Go.Proofs.YtnkjmocacielmaaDoor.Sx
open Go
set_option linter.unusedVariables false
set_option linter.unusedSimpArgs false
set_option maxRecDepth 100000
def below (cs : List Cl) (a : Nat) : List Cl := cs.filter fun c => decide (c.1 < a)
def above (cs : List Cl) (a : Nat) : List Cl := cs.filter fun c => decide (a ≤ c.1)
theorem asc_tail {d : Cl} {ds : List Cl} (h : Asc (d :: ds)) : Asc ds := (List.pairwise_cons.1 h).2
theorem asc_head {d : Cl} {ds : List Cl} (h : Asc (d :: ds)) {x : Cl} (hx : x ∈ ds) : d.1 < x.1 := (List.pairwise_cons.1 h).1 x hx
theorem low_lt {d : Cl} {ds : List Cl} {a : Nat} (h : d.1 < a) : lowN (d :: ds) a = lowN ds a + 1 := by
 unfold lowN; rw [List.filter_cons_of_pos (by simpa using h)]; rfl
theorem low_ge {d : Cl} {ds : List Cl} {a : Nat} (hs : Asc (d :: ds)) (h : a ≤ d.1) : lowN (d :: ds) a = 0 := by
 unfold lowN
 rw [List.length_eq_zero_iff, List.filter_eq_nil_iff]
 intro x hx
 rcases List.mem_cons.1 hx with rfl | hx
 ·simp; omega
 ·have := asc_head hs hx; simp; omega
theorem take_low {a : Nat} : ∀ {cs : List Cl}, Asc cs → cs.take (lowN cs a) = below cs a
 | [], _ => rfl
 | d :: ds, hs => by
  by_cases h : d.1 < a
  ·rw [low_lt h, List.take_succ_cons, take_low (asc_tail hs), below, below, List.filter_cons_of_pos (by simpa using h)]
  ·rw [low_ge hs (by omega), List.take_zero]
   symm
   rw [below, List.filter_eq_nil_iff]
   intro x hx
   rcases List.mem_cons.1 hx with rfl | hx
   ·simp; omega
   ·have := asc_head hs hx; simp; omega
theorem drop_low {a : Nat} : ∀ {cs : List Cl}, Asc cs → cs.drop (lowN cs a) = above cs a
 | [], _ => rfl
 | d :: ds, hs => by
  by_cases h : d.1 < a
  ·rw [low_lt h, List.drop_succ_cons, drop_low (asc_tail hs), above, above, List.filter_cons_of_neg (by simp; omega)]
  ·rw [low_ge hs (by omega), List.drop_zero]
   symm
   rw [above, List.filter_eq_self]
   intro x hx
   rcases List.mem_cons.1 hx with rfl | hx
   ·simp; omega
   ·have := asc_head hs hx; simp; omega
theorem low_succ {p : Nat} : ∀ {cs : List Cl}, Asc cs → lowN cs p + (hasN cs p).toNat = lowN cs (p + 1)
 | [], _ => rfl
 | d :: ds, hs => by
  by_cases h : d.1 < p
  ·have e : hasN (d :: ds) p = hasN ds p := by unfold hasN; rw [low_lt h]; rfl
   have := low_succ (p := p) (asc_tail hs)
   rw [e, low_lt h, low_lt (show d.1 < p + 1 by omega)]
   omega
  ·by_cases h2 : d.1 = p
   ·have e : hasN (d :: ds) p = true := by unfold hasN; rw [low_ge hs (by omega)]; simpa using h2
    rw [e, low_ge hs (by omega), low_lt (show d.1 < p + 1 by omega)]
    cases ds with
    | nil => rfl
    | cons x xs =>
     have := asc_head hs (List.mem_cons_self (a := x) (l := xs))
     rw [low_ge (asc_tail hs) (by omega)]
     rfl
   ·have e : hasN (d :: ds) p = false := by unfold hasN; rw [low_ge hs (by omega)]; simpa using h2
    rw [e, low_ge hs (by omega), low_ge hs (by omega)]
    rfl
theorem putM_eq {cs : List Cl} {p v : Nat} (hs : Asc cs) : putM cs p v = below cs p ++ ((if v = 0 then [] else [(p, v)]) ++ above cs (p + 1)) := by
 unfold putM
 rw [low_succ hs, take_low hs, drop_low hs]
theorem mem_below {cs : List Cl} {a : Nat} {c : Cl} : c ∈ below cs a ↔ c ∈ cs ∧ c.1 < a := by simp [below]
theorem mem_above {cs : List Cl} {a : Nat} {c : Cl} : c ∈ above cs a ↔ c ∈ cs ∧ a ≤ c.1 := by simp [above]
theorem mem_putM {cs : List Cl} {p v : Nat} {c : Cl} (hs : Asc cs) : c ∈ putM cs p v ↔ (c ∈ cs ∧ c.1 ≠ p) ∨ (v ≠ 0 ∧ c = (p, v)) := by
 rw [putM_eq hs, List.mem_append, List.mem_append, mem_below, mem_above]
 have h : c ∈ (if v = 0 then ([] : List Cl) else [(p, v)]) ↔ v ≠ 0 ∧ c = (p, v) := by
  split
  ·rename_i h; simp [h]
  ·rename_i h; simp [h]
 rw [h]
 constructor
 ·rintro (⟨h1, h2⟩ | h | ⟨h1, h2⟩)
  ·exact .inl ⟨h1, by omega⟩
  ·exact .inr h
  ·exact .inl ⟨h1, by omega⟩
 ·rintro (⟨h1, h2⟩ | h)
  ·by_cases h3 : c.1 < p
   ·exact .inl ⟨h1, h3⟩
   ·exact .inr (.inr ⟨h1, by omega⟩)
  ·exact .inr (.inl h)
theorem asc_putM {cs : List Cl} {p v : Nat} (hs : Asc cs) : Asc (putM cs p v) := by
 rw [putM_eq hs]
 unfold Asc
 rw [List.pairwise_append, List.pairwise_append]
 have hi : ∀ c, c ∈ (if v = 0 then ([] : List Cl) else [(p, v)]) → c.1 = p := by
  intro c
  split
  ·intro h; cases h
  ·intro h; rw [List.mem_singleton.1 h]
 refine ⟨hs.filter _, ⟨?_, hs.filter _, fun a ha b hb => ?_⟩, fun a ha b hb => ?_⟩
 ·split
  ·exact .nil
  ·exact List.pairwise_singleton _ _
 ·have := hi a ha; have := (mem_above.1 hb).2; omega
 ·have := (mem_below.1 ha).2
  rcases List.mem_append.1 hb with hb | hb
  ·have := hi b hb; omega
  ·have := (mem_above.1 hb).2; omega
theorem look_mem {cs : List Cl} {p v : Nat} (hs : Asc cs) (h : (p, v) ∈ cs) : lookN cs p = v := by
 obtain ⟨j, hj, he⟩ := List.getElem_of_mem h
 exact (lookN_of hs (by rw [List.getElem?_eq_getElem hj, he]) rfl).2
theorem look_non {cs : List Cl} {p : Nat} (h : ∀ c ∈ cs, c.1 ≠ p) : lookN cs p = 0 := by
 unfold lookN
 split
 ·rename_i c hc
  rw [if_neg (h c (List.mem_of_getElem? hc))]
 ·rfl
theorem look_same {cs ds : List Cl} {p : Nat} (hs : Asc cs) (hd : Asc ds) (h : ∀ v, (p, v) ∈ cs ↔ (p, v) ∈ ds) : lookN cs p = lookN ds p := by
 by_cases hc : ∃ v, (p, v) ∈ cs
 ·obtain ⟨v, hv⟩ := hc
  rw [look_mem hs hv, look_mem hd ((h v).1 hv)]
 ·rw [look_non fun c hm he => hc ⟨c.2, by rw [← he]; exact hm⟩, look_non fun c hm he => hc ⟨c.2, (h _).2 (by rw [← he]; exact hm)⟩]
theorem look_putM {cs : List Cl} {p v q : Nat} (hs : Asc cs) : lookN (putM cs p v) q = if q = p then v else lookN cs q := by
 split
 ·rename_i h
  subst h
  by_cases hv : v = 0
  ·rw [hv]
   exact look_non fun c hm he => by
    rcases (mem_putM hs).1 hm with h | h
    ·exact h.2 he
    ·exact h.1 rfl
  ·exact look_mem (asc_putM hs) ((mem_putM hs).2 (.inr ⟨hv, rfl⟩))
 ·rename_i h
  refine look_same (asc_putM hs) hs fun w => ?_
  rw [mem_putM hs]
  constructor
  ·rintro (⟨h1, _⟩ | ⟨_, h1⟩)
   ·exact h1
   ·cases h1; exact absurd rfl h
  ·exact fun h1 => .inl ⟨h1, h⟩
def NZ (cs : List Cl) : Prop := ∀ c ∈ cs, c.2 ≠ 0
structure RM (s : Nat) (cs : List Cl) : Prop where
 even : s % 4096 = 0
 most : s ≤ 1099511627776
 asc : Asc cs
 nz : NZ cs
 low : ∀ c ∈ cs, c.1 < s / 8
theorem right_rm {s : Nat} {cs : List Cl} : rightM s cs = true ↔ RM s cs := by
 constructor
 ·intro h
  obtain ⟨h1, h2, h3⟩ := rightM_iff.1 h
  refine ⟨h1, h2, asc_of h, fun c hc => ?_, fun c hc => ?_⟩
  ·obtain ⟨j, hj, rfl⟩ := List.getElem_of_mem hc
   exact (h3 j _ (List.getElem?_eq_getElem hj)).1
  ·obtain ⟨j, hj, rfl⟩ := List.getElem_of_mem hc
   exact (h3 j _ (List.getElem?_eq_getElem hj)).2.1
 ·intro h
  refine rightM_iff.2 ⟨h.even, h.most, fun j c hc => ⟨h.nz c (List.mem_of_getElem? hc), h.low c (List.mem_of_getElem? hc), fun b hj hb => ?_⟩⟩
  obtain ⟨hj1, rfl⟩ := List.getElem?_eq_some_iff.1 hc
  obtain ⟨hj2, rfl⟩ := List.getElem?_eq_some_iff.1 hb
  exact List.pairwise_iff_getElem.1 h.asc (j - 1) j hj2 hj1 (by omega)
theorem RM.put {s : Nat} {cs : List Cl} {p v : Nat} (h : RM s cs) (hp : p < s / 8) : RM s (putM cs p v) := by
 refine ⟨h.even, h.most, asc_putM h.asc, fun c hc => ?_, fun c hc => ?_⟩
 ·rcases (mem_putM h.asc).1 hc with hc | ⟨hv, rfl⟩
  ·exact h.nz c hc.1
  ·exact hv
 ·rcases (mem_putM h.asc).1 hc with hc | ⟨hv, rfl⟩
  ·exact h.low c hc.1
  ·exact hp
theorem RM.cok {s : Nat} {cs : List Cl} (h : RM s cs) (hv : ∀ c ∈ cs, c.2 < 18446744073709551616) : COk cs := fun c hc => ⟨by have := h.low c hc; have := h.most; omega, hv c hc⟩
theorem cok_put {cs : List Cl} {p v : Nat} (hs : Asc cs) (h : COk cs) (hp : p < 18446744073709551616) (hv : v < 18446744073709551616) : COk (putM cs p v) := fun c hc => by
 rcases (mem_putM hs).1 hc with hc | ⟨_, rfl⟩
 ·exact h c hc.1
 ·exact ⟨hp, hv⟩
theorem len_put {cs : List Cl} {p v : Nat} : (putM cs p v).length ≤ cs.length + 1 := by
 unfold putM
 rw [List.length_append, List.length_append, List.length_take, List.length_drop]
 have : (if v = 0 then ([] : List Cl) else [(p, v)]).length ≤ 1 := by split <;> simp
 omega
theorem word_in {s a : Nat} {cs : List Cl} (h : a < s) : wordN s cs a = lookN cs (a / 8) := by unfold wordN; rw [if_neg (by omega)]
theorem RM.store {s a n v : Nat} {cs : List Cl} (h : RM s cs) (ha : a < s) : RM s (storeM s cs a n v) := h.put (by have := h.even; omega)
def clrM (cs : List Cl) (a b : Nat) : List Cl := cs.take (lowN cs a) ++ cs.drop (lowN cs b)
theorem clr_filter {a b : Nat} : ∀ {cs : List Cl}, Asc cs → a ≤ b → clrM cs a b = cs.filter fun c => decide (c.1 < a) || decide (b ≤ c.1)
 | cs, hs, hab => by
  rw [clrM, take_low hs, drop_low hs]
  induction cs with
  | nil => rfl
  | cons d ds ih =>
   have ih := ih (asc_tail hs)
   by_cases h1 : d.1 < a
   ·rw [below, above, List.filter_cons_of_pos (by simpa using h1), List.filter_cons_of_neg (by simp; omega), List.filter_cons_of_pos (by simp; omega)]
    exact congrArg (d :: ·) ih
   ·have hb : below (d :: ds) a = [] := by
     rw [below, List.filter_eq_nil_iff]
     intro x hx
     rcases List.mem_cons.1 hx with rfl | hx
     ·simp; omega
     ·have := asc_head hs hx; simp; omega
    rw [hb, List.nil_append, above]
    refine List.filter_congr fun x hx => ?_
    have : ¬ x.1 < a := by
     rcases List.mem_cons.1 hx with rfl | hx
     ·exact h1
     ·have := asc_head hs hx; omega
    rw [decide_eq_false this, Bool.false_or]
theorem look_clr {cs : List Cl} {a b q : Nat} (hs : Asc cs) (hab : a ≤ b) : lookN (clrM cs a b) q = if a ≤ q ∧ q < b then 0 else lookN cs q := by
 rw [clr_filter hs hab]
 split
 ·rename_i h
  refine look_non fun c hc he => ?_
  simp only [List.mem_filter, Bool.or_eq_true, decide_eq_true_eq] at hc
  omega
 ·rename_i h
  refine look_same (hs.filter _) hs fun v => ?_
  simp only [List.mem_filter, Bool.or_eq_true, decide_eq_true_eq]
  exact ⟨fun h => h.1, fun h' => ⟨h', by omega⟩⟩
theorem RM.clr {s : Nat} {cs : List Cl} {a b : Nat} (h : RM s cs) (hab : a ≤ b) : RM s (clrM cs a b) := by
 rw [clr_filter h.asc hab]
 exact ⟨h.even, h.most, h.asc.filter _, fun c hc => h.nz c (List.mem_filter.1 hc).1, fun c hc => h.low c (List.mem_filter.1 hc).1⟩
end Go.Proofs.YtnkjmocacielmaaDoor.Sx
namespace Go.Proofs.YtnkjmocacielmaaDoor.Sx
open Go
set_option linter.unusedVariables false
set_option linter.unusedSimpArgs false
set_option maxRecDepth 100000
theorem crs_take {cs : List Cl} {n : Nat} : (crs cs).take n = crs (cs.take n) := by rw [crs, crs, List.map_take]
theorem crs_drop {cs : List Cl} {n : Nat} : (crs cs).drop n = crs (cs.drop n) := by rw [crs, crs, List.map_drop]
theorem two_e {ρ : List D} {x y ix : Ex} {k : Nat} {m : Nat} {a b : List (List D)} (hx : x.eval ρ = some (.sl k a)) (hy : y.eval ρ = some (.sl k b)) (hi : ix.eval ρ = some (.i .i64 (m : Int))) (hm : m < 2) : (Ex.idx (.cat (.one [x]) (.one [y])) ix 0).eval ρ = some (.sl k (if m = 0 then a else b)) := by
 have : (Ex.cat (.one [x]) (.one [y])).eval ρ = some (.sl 1 ([[.sl k a]] ++ [[.sl k b]])) := cat_e (one_e (evs_one hx) rfl) (one_e (evs_one hy) rfl)
 refine idx_e (j := 0) this hi (r := [.sl k (if m = 0 then a else b)]) ?_ rfl
 rcases m with _ | _ | m
 ·rfl
 ·rfl
 ·omega
theorem two_inb {ρ : List D} {x y ix : Ex} {k : Nat} {m : Nat} {a b : List (List D)} (hx : x.eval ρ = some (.sl k a)) (hy : y.eval ρ = some (.sl k b)) (hi : ix.eval ρ = some (.i .i64 (m : Int))) (hm : m < 2) : (Ex.inb (.cat (.one [x]) (.one [y])) ix 1).eval ρ = some (.b true) :=
 inb_t (cat_e (one_e (evs_one hx) rfl) (one_e (evs_one hy) rfl)) hi (by simpa using hm)
theorem app_w {ρ : List D} {x y : Ex} {m n0 n : Nat} {a b : List (List D)} (hx : x.eval ρ = some (.sl n0 a)) (hy : y.eval ρ = some (.sl m b)) (h0 : n0 = n ∨ (n0 = 0 ∧ a = [])) (h1 : m = n ∨ b = []) : ∃ k', (Ex.app n x y).eval ρ = some (.sl k' (a ++ b)) := by
 simp only [Ex.eval, hx, hy, appD]
 rw [if_pos ⟨by rcases h0 with h | ⟨h, rfl⟩ <;> simp [h], by rcases h1 with h | rfl <;> simp [*]⟩]
 cases b with
 | nil => exact ⟨n0, by simp⟩
 | cons => exact ⟨n, rfl⟩
theorem app_k {ρ : List D} {x y : Ex} {k n : Nat} {a b : List (List D)} (hx : x.eval ρ = some (.sl n a)) (hy : y.eval ρ = some (.sl k b)) (h : k = n ∨ b = []) : (Ex.app n x y).eval ρ = some (.sl n (a ++ b)) := by
 simp only [Ex.eval, hx, hy, appD]
 rw [if_pos ⟨.inl trivial, by rcases h with h | rfl <;> simp [*]⟩]
 cases b <;> simp
theorem Kd.two_or {k : Nat} {cs : List Cl} (h : Kd k cs) : k = 2 ∨ crs cs = [] := by
 rcases h with h | ⟨_, rfl⟩
 ·exact .inl h
 ·exact .inr rfl
theorem Kd.take {k n : Nat} {cs : List Cl} (h : Kd k cs) : Kd k (cs.take n) := by
 rcases h with h | ⟨h, rfl⟩
 ·exact .inl h
 ·exact .inr ⟨h, by simp⟩
theorem Kd.drop {k n : Nat} {cs : List Cl} (h : Kd k cs) : Kd k (cs.drop n) := by
 rcases h with h | ⟨h, rfl⟩
 ·exact .inl h
 ·exact .inr ⟨h, by simp⟩
theorem memClear_wp {k s a b : Nat} {cs : List Cl} (hk : Kd k cs) (hs : Asc cs) (hl : cs.length ≤ 1000000) (hab : a + b < 18446744073709551616) : IR.wp (Cn gAll) (fun r => r = [md 2 s (clrM cs (a / 8) ((a + b) / 8))]) mem_Clear_ir [] (leavesOf [md k s cs, u a, u b]) := by
 unfold mem_Clear_ir
 simp only [lv_cons, lv_nil, app_cons, app_nil]
 have hcl := crs_len (cs := cs)
 refine wp_lt (u_quo (b := 8) rfl rfl (by omega) (by omega)) ?_
 simp only [lv_cons, lv_nil, app_cons, app_nil]
 refine wp_call rfl (memFind_con (s := s) (a := a / 8) hk hs (by omega)) rfl ?_
 simp only [lv_cons, lv_nil, app_cons, app_nil]
 refine wp_lt (u_add rfl rfl hab) ?_
 simp only [lv_cons, lv_nil, app_cons, app_nil]
 refine wp_lt (u_quo (b := 8) rfl rfl (by omega) hab) ?_
 simp only [lv_cons, lv_nil, app_cons, app_nil]
 refine wp_call rfl (memFind_con (s := s) (a := (a + b) / 8) hk hs (by omega)) rfl ?_
 simp only [lv_cons, lv_nil, app_cons, app_nil]
 have hlow := lowN_le (cs := cs) (a := a / 8)
 have hlow2 := lowN_le (cs := cs) (a := (a + b) / 8)
 unfold clrM
 generalize lowN cs (a / 8) = p at hlow ⊢
 generalize lowN cs ((a + b) / 8) = q at hlow2 ⊢
 generalize hasN cs (a / 8) = h1
 generalize hasN cs ((a + b) / 8) = h2
 obtain ⟨k', hk'⟩ := app_w (n := 2) (ρ := [U s, .sl k (crs cs), U a, U b, U (a / 8), I p, .b h1, U (a + b), U ((a + b) / 8), I q, .b h2]) (x := .c (.sl 0 [])) (y := .v 1) rfl rfl (.inr ⟨rfl, rfl⟩) hk.two_or
 refine wp_chk (bnd_t (a := 0) (c := cs.length) rfl rfl (len_is rfl crs_len) (by omega) hlow) ?_
 refine wp_chk (room_t hk' (by simp)) ?_
 refine wp_chk (bnd_t (a := q) (b := cs.length) (c := cs.length) rfl (len_is rfl crs_len) (len_is rfl crs_len) hlow2 (by omega)) ?_
 refine wp_chk (room_t hk' (by simp)) ?_
 have hA : ∀ ρ : List D, ρ[1]? = some (.sl k (crs cs)) → ρ[5]? = some (I p) → (Ex.sub (.v 1) (.c (.i .i64 0)) (.v 5)).eval ρ = some (.sl k (crs (cs.take p))) := fun ρ e1 e2 => by
  have := sub_e (lo := .c (.i .i64 0)) (hi := .v 5) (a := 0) (b := p) (ρ := ρ) (x := .v 1) e1 rfl e2 (by omega) (by omega)
  rw [this, List.drop_zero, crs_take]
 have hB : ∀ ρ : List D, ρ[1]? = some (.sl k (crs cs)) → ρ[9]? = some (I q) → (Ex.sub (.v 1) (.v 9) (.len (.v 1))).eval ρ = some (.sl k (crs (cs.drop q))) := fun ρ e1 e2 => by
  have := sub_e (lo := .v 9) (hi := .len (.v 1)) (a := q) (b := cs.length) (ρ := ρ) (x := .v 1) e1 e2 (len_is e1 crs_len) (by omega) (by omega)
  rw [this, ← hcl, List.take_length, crs_drop]
 refine wp_rounds (fun m ds => ∃ (x n : Nat), ds = [I x, I n] ∧ n + m = 3 ∧ n ≤ 2 ∧ x = (if n = 0 then 0 else if n = 1 then p else p + (cs.length - q))) 3 rfl ⟨0, 0, rfl, by omega, by omega, rfl⟩ ?_
  (fun es hes => by obtain ⟨_, n, _, h1, h2, _⟩ := hes; omega)
 rintro m es Q ⟨x, n, rfl, hm, hle, hx⟩ hQ
 simp only [lv_cons, lv_nil, app_cons, app_nil]
 refine wp_lt rfl ?_
 simp only [lv_cons, lv_nil, app_cons, app_nil]
 refine wp_ite rfl (fun hc => ?_) (fun hc => ?_)
 ·have hc := of_decide_eq_true hc
  refine wp_chk (two_inb (hA _ rfl rfl) (hB _ rfl rfl) rfl (by omega)) ?_
  refine wp_chk (two_inb (hA _ rfl rfl) (hB _ rfl rfl) rfl (by omega)) ?_
  refine wp_lt (len_is (L := if n = 0 then p else cs.length - q) (two_e (hA _ rfl rfl) (hB _ rfl rfl) rfl (by omega)) (by split <;> simp [crs] <;> omega)) ?_
  simp only [lv_cons, lv_nil, app_cons, app_nil]
  have hxb : x ≤ 2000000 := by
   rw [hx]
   split
   ·omega
   ·split <;> omega
  have hL : (if n = 0 then p else cs.length - q) ≤ 1000000 := by split <;> omega
  refine wp_lt (d := I ((x + if n = 0 then p else cs.length - q : Nat))) ((i_add (a := (x : Int)) (b := ((if n = 0 then p else cs.length - q : Nat) : Int)) rfl rfl (by omega) (by omega)).trans (by rw [Int.natCast_add])) ?_
  simp only [lv_cons, lv_nil, app_cons, app_nil]
  refine wp_lt (d := .b false) (cmp_e rfl (decide_eq_false (by omega))) ?_
  simp only [lv_cons, lv_nil, app_cons, app_nil]
  refine wp_ite (t := false) rfl (fun h => by cases h) (fun _ => ?_)
  refine wp_lt (i_add (a := (n : Int)) (b := 1) rfl rfl (by omega) (by omega)) ?_
  simp only [lv_cons, lv_nil, app_cons, app_nil]
  refine wp_cont rfl rfl (hQ _ ⟨_, n + 1, rfl, by omega, by omega, ?_⟩)
  rcases n with _ | _ | n
  ·simp at hx ⊢; omega
  ·simp at hx ⊢; omega
  ·omega
 ·have hc := of_decide_eq_false hc
  obtain rfl : n = 2 := by omega
  have hx : x = p + (cs.length - q) := hx
  refine wp_chk (eqs_i rfl rfl) ?_
  refine wp_call rfl (con_eat (by decide) (grow_con (n := x) (by omega))) rfl ?_
  simp only [lv_cons, lv_nil, app_cons, app_nil]
  refine wp_rounds (fun m ds => ∃ (r : List Cl) (n : Nat), ds = [I n, .sl 2 (crs r)] ∧ n + m = 3 ∧ n ≤ 2 ∧ r = (if n = 0 then [] else if n = 1 then cs.take p else cs.take p ++ cs.drop q)) 3 rfl ⟨[], 0, rfl, by omega, by omega, rfl⟩ ?_
   (fun es hes => by obtain ⟨_, n, _, h1, h2, _⟩ := hes; omega)
  rintro m es Q2 ⟨r, n, rfl, hm2, hle2, hr⟩ hQ2
  simp only [lv_cons, lv_nil, app_cons, app_nil]
  refine wp_lt rfl ?_
  simp only [lv_cons, lv_nil, app_cons, app_nil]
  refine wp_ite rfl (fun hc => ?_) (fun hc => ?_)
  ·have hc := of_decide_eq_true hc
   refine wp_chk (two_inb (hA _ rfl rfl) (hB _ rfl rfl) rfl (by omega)) ?_
   refine wp_chk (two_inb (hA _ rfl rfl) (hB _ rfl rfl) rfl (by omega)) ?_
   have hapd : ∀ ρ : List D, ρ[1]? = some (.sl k (crs cs)) → ρ[5]? = some (I p) → ρ[9]? = some (I q) → ρ[15]? = some (I n) → ρ[16]? = some (.sl 2 (crs r)) → (Ex.app 2 (.v 16) (.idx (.cat (.one [(.sub (.v 1) (.c (.i .i64 0)) (.v 5))]) (.one [(.sub (.v 1) (.v 9) (.len (.v 1)))])) (.v 15) 0)).eval ρ = some (.sl 2 (crs (r ++ if n = 0 then cs.take p else cs.drop q))) := fun ρ e1 e5 e9 e15 e16 => by
    have := app_k (n := 2) (x := .v 16) e16 (two_e (ix := .v 15) (m := n) (hA _ e1 e5) (hB _ e1 e9) e15 (by omega)) (by
     rcases hk with rfl | ⟨_, rfl⟩
     ·exact .inl rfl
     ·right; split <;> simp [crs])
    rw [this]
    congr 1
    split <;> simp [crs]
   refine wp_chk (room_t (hapd _ rfl rfl rfl rfl rfl) ?_) ?_
   ·have : (crs (r ++ if n = 0 then cs.take p else cs.drop q)).length ≤ 2 * cs.length := by
     rw [crs_len, List.length_append, hr]
     rcases n with _ | _ | n
     ·simp; omega
     ·simp; omega
     ·omega
    omega
   refine wp_lt (i_add (a := (n : Int)) (b := 1) rfl rfl (by omega) (by omega)) ?_
   simp only [lv_cons, lv_nil, app_cons, app_nil]
   refine wp_cont rfl (es_cons rfl (es_cons (hapd _ rfl rfl rfl rfl rfl) rfl)) (hQ2 _ ⟨_, n + 1, rfl, by omega, by omega, ?_⟩)
   rcases n with _ | _ | n
   ·simp at hr ⊢; simp [hr]
   ·simp at hr ⊢; simp [hr]
   ·omega
  ·have hc := of_decide_eq_false hc
   obtain rfl : n = 2 := by omega
   have hr : r = cs.take p ++ cs.drop q := hr
   rw [← hr]
   exact wp_return rfl rfl
theorem memClear_con {k s a b : Nat} {cs : List Cl} (hk : Kd k cs) (hs : Asc cs) (hl : cs.length ≤ 1000000) (hab : a + b < 18446744073709551616) : Cn gAll 80 [md k s cs, u a, u b] [md 2 s (clrM cs (a / 8) ((a + b) / 8))] := con rfl rfl mem_Clear_c mem_Clear_p rfl (memClear_wp hk hs hl hab)
def Md (s : Nat) (cs : List Cl) (r : List DV) : Prop := ∃ k, Kd k cs ∧ r = [md k s cs]
theorem wk_Md {s : Nat} {cs : List Cl} {r : List DV} (h : Md s cs r) : WkR r [md 2 s cs] := by
 obtain ⟨k, hk | ⟨hk, h⟩, rfl⟩ := h
 ·rw [hk]; exact fun _ _ _ h => h
 ·rw [hk, h]; exact wk_md
theorem take_one {cs : List Cl} {n : Nat} {c : Cl} (h : cs[n]? = some c) : cs.take (n + 1) = cs.take n ++ [c] := by
 rw [List.take_add_one, h]; rfl
theorem row_e {ρ : List D} {x ix : Ex} {k : Nat} {m : Nat} {cs : List Cl} {c : Cl} (hx : x.eval ρ = some (.sl 2 (crs cs))) (hi : ix.eval ρ = some (.i .i64 (m : Int))) (hc : cs[m]? = some c) : Ex.evals ρ [.idx x ix 0, .idx x ix 1] = some (crow c) :=
 es_cons (idx_e hx hi (crow_of hc) rfl) (evs_one (idx_e hx hi (crow_of hc) rfl))
theorem crs_app {a b : List Cl} : crs (a ++ b) = crs a ++ crs b := by rw [crs, crs, crs, List.map_append]
theorem more_e {ρ : List D} {x : Ex} {xs : List Ex} {k : Nat} {r : List Cl} {c : Cl} (hx : x.eval ρ = some (.sl k (crs r))) (hk : Kd k r) (h : Ex.evals ρ xs = some (crow c)) : (Ex.app 2 x (.one xs)).eval ρ = some (.sl 2 (crs (r ++ [c]))) := by
 rw [crs_app]
 exact app_e hx (one_e h rfl) (by rcases hk with h | ⟨h, rfl⟩; exact .inl h; exact .inr ⟨h, rfl⟩) (by simp)
theorem row_room {ρ : List D} {x : Ex} {r : List Cl} (hx : x.eval ρ = some (.sl 2 (crs r))) (h : r.length ≤ 1000000) : (Ex.room (.len x) 17).eval ρ = some (.b true) :=
 room_t hx (by rw [crs_len]; omega)
def keptB (a b : Nat) (c : Cl) : Bool := decide (8 * c.1 < a) || decide (a + b ≤ 8 * c.1)
theorem refClear_con {k s a b : Nat} {cs : List Cl} (hk : Kd k cs) (hc8 : ∀ c ∈ cs, c.1 < 1152921504606846976) (hl : cs.length ≤ 900000) (hab : a + b < 18446744073709551616) : Cn gAll 67 [md k s cs, u a, u b] [md 2 s (cs.filter (keptB a b))] := by
 refine con' rfl rfl atlasref03_Clear_c atlasref03_Clear_p (Md s (cs.filter (keptB a b))) (fun r hr => wk_Md hr) rfl ?_
 unfold atlasref03_Clear_ir
 simp only [lv_cons, lv_nil, app_cons, app_nil]
 refine wp_rounds (fun m ds => ∃ (n k' : Nat) (r : List Cl), ds = [I n, .sl k' (crs r)] ∧ Kd k' r ∧ n + m = cs.length + 1 ∧ n ≤ cs.length ∧ r = (cs.take n).filter (keptB a b)) (cs.length + 1) rfl ⟨0, 0, [], rfl, .inr ⟨rfl, rfl⟩, by omega, by omega, by simp⟩ ?_
  (fun es hes => by obtain ⟨n, _, _, _, _, h1, h2, _⟩ := hes; omega)
 rintro m es Q ⟨n, k', r, rfl, hk', hm, hle, hr⟩ hQ
 simp only [lv_cons, lv_nil, app_cons, app_nil]
 have hrl : r.length ≤ cs.length := by rw [hr]; exact Nat.le_trans (List.length_filter_le _ _) (by rw [List.length_take]; omega)
 refine wp_lt (len_is rfl crs_len) ?_
 simp only [lv_cons, lv_nil, app_cons, app_nil]
 refine wp_lt rfl ?_
 simp only [lv_cons, lv_nil, app_cons, app_nil]
 refine wp_ite rfl (fun hc => ?_) (fun hc => ?_)
 ·have hc := of_decide_eq_true hc
  have hnl : n < cs.length := by omega
  obtain rfl := hk.two (by omega)
  obtain ⟨c, hcs⟩ : ∃ c, cs[n]? = some c := ⟨_, List.getElem?_eq_getElem hnl⟩
  have hc8' := hc8 c (List.mem_of_getElem? hcs)
  have hrow := crow_of hcs
  have hst := congrArg (List.filter (keptB a b)) (take_one hcs)
  rw [List.filter_append, ← hr] at hst
  refine wp_chk (inb_t rfl rfl (by rw [crs_len]; exact hnl)) ?_
  refine wp_lt (u_mul (a := 8) (b := c.1) rfl (idx_e rfl rfl hrow rfl) (by omega)) ?_
  simp only [lv_cons, lv_nil, app_cons, app_nil]
  refine wp_lt (e_lss rfl rfl) ?_
  simp only [lv_cons, lv_nil, app_cons, app_nil]
  refine wp_ite rfl (fun h1 => ?_) (fun h1 => ?_)
  ·have h1 := of_decide_eq_true h1
   have hp : keptB a b c = true := by simp only [keptB, Bool.or_eq_true, decide_eq_true_eq]; omega
   rw [List.filter_cons_of_pos hp, List.filter_nil] at hst
   refine wp_chk (inb_t rfl rfl (by rw [crs_len]; exact hnl)) ?_
   refine wp_chk (row_room (more_e rfl hk' (row_e (k := k') rfl rfl hcs)) (by rw [List.length_append, List.length_singleton]; omega)) ?_
   refine wp_lt (i_add (a := (n : Int)) (b := 1) rfl rfl (by omega) (by omega)) ?_
   simp only [lv_cons, lv_nil, app_cons, app_nil]
   exact wp_cont rfl (es_cons rfl (es_cons (more_e rfl hk' (row_e (k := k') rfl rfl hcs)) rfl)) (hQ _ ⟨n + 1, 2, _, rfl, .inl rfl, by omega, by omega, hst.symm⟩)
  have h1 := of_decide_eq_false h1
  refine wp_chk (inb_t rfl rfl (by rw [crs_len]; exact hnl)) ?_
  refine wp_lt (u_mul (a := 8) (b := c.1) rfl (idx_e rfl rfl hrow rfl) (by omega)) ?_
  simp only [lv_cons, lv_nil, app_cons, app_nil]
  refine wp_lt (u_add rfl rfl hab) ?_
  simp only [lv_cons, lv_nil, app_cons, app_nil]
  refine wp_lt (e_geq rfl rfl) ?_
  simp only [lv_cons, lv_nil, app_cons, app_nil]
  refine wp_ite rfl (fun h2 => ?_) (fun h2 => ?_)
  ·have h2 := of_decide_eq_true h2
   have hp : keptB a b c = true := by simp only [keptB, Bool.or_eq_true, decide_eq_true_eq]; omega
   rw [List.filter_cons_of_pos hp, List.filter_nil] at hst
   refine wp_chk (inb_t rfl rfl (by rw [crs_len]; exact hnl)) ?_
   refine wp_chk (row_room (more_e rfl hk' (row_e (k := k') rfl rfl hcs)) (by rw [List.length_append, List.length_singleton]; omega)) ?_
   refine wp_lt (i_add (a := (n : Int)) (b := 1) rfl rfl (by omega) (by omega)) ?_
   simp only [lv_cons, lv_nil, app_cons, app_nil]
   exact wp_cont rfl (es_cons rfl (es_cons (more_e rfl hk' (row_e (k := k') rfl rfl hcs)) rfl)) (hQ _ ⟨n + 1, 2, _, rfl, .inl rfl, by omega, by omega, hst.symm⟩)
  ·have h2 := of_decide_eq_false h2
   have hp : ¬ keptB a b c = true := by simp only [keptB, Bool.or_eq_true, decide_eq_true_eq]; omega
   rw [List.filter_cons_of_neg hp, List.filter_nil, List.append_nil] at hst
   refine wp_lt (i_add (a := (n : Int)) (b := 1) rfl rfl (by omega) (by omega)) ?_
   simp only [lv_cons, lv_nil, app_cons, app_nil]
   exact wp_cont rfl rfl (hQ _ ⟨n + 1, k', r, rfl, hk', by omega, by omega, hst.symm⟩)
 ·have hc := of_decide_eq_false hc
  obtain rfl : n = cs.length := by omega
  rw [List.take_length] at hr
  subst hr
  exact wp_return rfl ⟨k', hk', rfl⟩
def setR (cs : List Cl) (p v : Nat) : List Cl := below cs p ++ ((if v = 0 ∨ above cs (p + 1) = [] then [] else [(p, v)]) ++ above cs (p + 1))
theorem above_lt {l : List Cl} {c : Cl} {p : Nat} (hs : Asc (l ++ [c])) (h : c.1 ≤ p) : above l (p + 1) = [] := by
 rw [above, List.filter_eq_nil_iff]
 intro x hx
 have := (List.pairwise_append.1 hs).2.2 x hx c List.mem_cons_self
 simp
 omega
theorem above_end {l : List Cl} {c : Cl} {p : Nat} : above (l ++ [c]) (p + 1) = above l (p + 1) ++ if p < c.1 then [c] else [] := by
 rw [above, List.filter_append]
 congr 1
 by_cases h : p < c.1
 ·rw [List.filter_cons_of_pos (by simp; omega), if_pos h]; rfl
 ·rw [List.filter_cons_of_neg (by simp; omega), if_neg h]; rfl
theorem below_end {l : List Cl} {c : Cl} {p : Nat} : below (l ++ [c]) p = below l p ++ if c.1 < p then [c] else [] := by
 rw [below, List.filter_append]
 congr 1
 by_cases h : c.1 < p
 ·rw [List.filter_cons_of_pos (by simpa using h), if_pos h]; rfl
 ·rw [List.filter_cons_of_neg (by simpa using h), if_neg h]; rfl
theorem setR_lt {l : List Cl} {c : Cl} {p v : Nat} (hs : Asc (l ++ [c])) (h : c.1 < p) : setR (l ++ [c]) p v = setR l p v ++ [c] := by
 have := above_lt hs (Nat.le_of_lt h)
 simp [setR, above_end, below_end, this, h, show ¬ p < c.1 by omega]
theorem setR_eq {l : List Cl} {c : Cl} {p v : Nat} (hs : Asc (l ++ [c])) (h : c.1 = p) : setR (l ++ [c]) p v = setR l p v := by
 have := above_lt hs (Nat.le_of_eq h)
 simp [setR, above_end, below_end, this, show ¬ p < c.1 by omega, show ¬ c.1 < p by omega]
theorem setR_gt {l : List Cl} {c : Cl} {p v : Nat} (h : p < c.1) (hd : v = 0 ∨ above l (p + 1) ≠ []) : setR (l ++ [c]) p v = setR l p v ++ [c] := by
 simp only [setR, above_end, below_end, if_pos h, if_neg (show ¬ c.1 < p by omega), List.append_nil]
 rcases hd with hd | hd
 ·simp [hd]
 ·simp [hd]
theorem setR_in {l : List Cl} {c : Cl} {p v : Nat} (h : p < c.1) (hv : v ≠ 0) (hd : above l (p + 1) = []) : setR (l ++ [c]) p v = setR l p v ++ [(p, v)] ++ [c] := by
 simp [setR, above_end, below_end, if_pos h, if_neg (show ¬ c.1 < p by omega), hv, hd]
theorem setR_len {l : List Cl} {p v : Nat} : (setR l p v).length ≤ 2 * l.length + 1 := by
 have h1 : (below l p).length ≤ l.length := List.length_filter_le _ _
 have h2 : (above l (p + 1)).length ≤ l.length := List.length_filter_le _ _
 have h3 : (if v = 0 ∨ above l (p + 1) = [] then ([] : List Cl) else [(p, v)]).length ≤ 1 := by split <;> simp
 rw [setR, List.length_append, List.length_append]
 omega
theorem refSet_con {k s p v : Nat} {cs : List Cl} (hk : Kd k cs) (hs : Asc cs) (hl : cs.length ≤ 400000) : Cn gAll 49 [md k s cs, u p, u v] [md 2 s (putM cs p v)] := by
 refine con' rfl rfl atlasref03_Set_c atlasref03_Set_p (Md s (putM cs p v)) (fun r hr => wk_Md hr) rfl ?_
 unfold atlasref03_Set_ir
 simp only [lv_cons, lv_nil, app_cons, app_nil]
 refine wp_lt (e_eql rfl rfl) ?_
 simp only [lv_cons, lv_nil, app_cons, app_nil]
 refine wp_rounds (fun m ds => ∃ (d : Bool) (n k' : Nat) (r : List Cl), ds = [.b d, I n, .sl k' (crs r)] ∧ (d = true ↔ v = 0 ∨ above (cs.take n) (p + 1) ≠ []) ∧ Kd k' r ∧ n + m = cs.length + 1 ∧ n ≤ cs.length ∧ r = setR (cs.take n) p v) (cs.length + 1) rfl ⟨_, 0, 0, [], rfl, by simp [above], .inr ⟨rfl, rfl⟩, by omega, by omega, by simp [setR, above, below]⟩ ?_
  (fun es hes => by obtain ⟨_, n, _, _, _, _, _, h1, h2, _⟩ := hes; omega)
 rintro m es Q ⟨d, n, k', r, rfl, hd, hk', hm, hle, hr⟩ hQ
 simp only [lv_cons, lv_nil, app_cons, app_nil]
 have hrl : r.length ≤ 800001 := by
  rw [hr]
  refine Nat.le_trans setR_len ?_
  rw [List.length_take]
  omega
 refine wp_lt (len_is rfl crs_len) ?_
 simp only [lv_cons, lv_nil, app_cons, app_nil]
 refine wp_lt rfl ?_
 simp only [lv_cons, lv_nil, app_cons, app_nil]
 refine wp_ite rfl (fun hc => ?_) (fun hc => ?_)
 ·have hc := of_decide_eq_true hc
  have hnl : n < cs.length := by omega
  obtain rfl := hk.two (by omega)
  obtain ⟨c, hcs⟩ : ∃ c, cs[n]? = some c := ⟨_, List.getElem?_eq_getElem hnl⟩
  have hrow := crow_of hcs
  have hst := take_one hcs
  have hs' : Asc (cs.take n ++ [c]) := by rw [← hst]; exact hs.take
  have hae : above (cs.take (n + 1)) (p + 1) = above (cs.take n) (p + 1) ++ if p < c.1 then [c] else [] := by rw [hst, above_end]
  refine wp_lt (d := (.b (!d))) rfl ?_
  simp only [lv_cons, lv_nil, app_cons, app_nil]
  refine wp_ite rfl (fun h1 => ?_) (fun h1 => ?_)
  ·have h1 : d = false := by simpa using h1
   have hnd : v ≠ 0 ∧ above (cs.take n) (p + 1) = [] := by
    have : ¬ (v = 0 ∨ above (cs.take n) (p + 1) ≠ []) := fun h => by rw [hd.2 h] at h1; cases h1
    exact ⟨fun h => this (.inl h), Classical.not_not.1 fun h => this (.inr h)⟩
   refine wp_chk (inb_t rfl rfl (by rw [crs_len]; exact hnl)) ?_
   refine wp_lt (e_gtr (idx_e rfl rfl hrow rfl) rfl) ?_
   simp only [lv_cons, lv_nil, app_cons, app_nil]
   refine wp_ite rfl (fun h2 => ?_) (fun h2 => ?_)
   ·have h2 := of_decide_eq_true h2
    have h2 : p < c.1 := by omega
    have hin := setR_in (l := cs.take n) h2 hnd.1 hnd.2
    rw [← hst, ← hr] at hin
    have hap := fun (ρ : List D) (e7 : (Ex.v 7).eval ρ = some (.sl k' (crs r))) (e2 : (Ex.v 2).eval ρ = some (U p)) (e3 : (Ex.v 3).eval ρ = some (U v)) => more_e (c := (p, v)) e7 hk' (es_cons e2 (evs_one e3))
    refine wp_chk (row_room (hap _ rfl rfl rfl) (by rw [List.length_append, List.length_singleton]; omega)) ?_
    refine wp_chk (inb_t rfl rfl (by rw [crs_len]; exact hnl)) ?_
    refine wp_lt (d := .b true) (cmp_e (e_neq (idx_e rfl rfl hrow rfl) rfl) (bne_iff_ne.2 (by omega))) ?_
    simp only [lv_cons, lv_nil, app_cons, app_nil]
    refine wp_ite (t := true) rfl (fun _ => ?_) (fun h => by cases h)
    refine wp_chk (inb_t rfl rfl (by rw [crs_len]; exact hnl)) ?_
    refine wp_chk (row_room (more_e (hap _ rfl rfl rfl) (.inl rfl) (row_e (k := 2) rfl rfl hcs)) (by simp only [List.length_append, List.length_singleton]; omega)) ?_
    refine wp_lt (i_add (a := (n : Int)) (b := 1) rfl rfl (by omega) (by omega)) ?_
    simp only [lv_cons, lv_nil, app_cons, app_nil]
    refine wp_cont rfl (es_cons rfl (es_cons rfl (es_cons (more_e (hap _ rfl rfl rfl) (.inl rfl) (row_e (k := 2) rfl rfl hcs)) rfl))) (hQ _ ⟨true, n + 1, 2, _, rfl, ?_, .inl rfl, by omega, by omega, hin.symm⟩)
    rw [hae, if_pos h2]
    simp
   ·have h2 := of_decide_eq_false h2
    have h2 : ¬ p < c.1 := by omega
    refine wp_chk (inb_t rfl rfl (by rw [crs_len]; exact hnl)) ?_
    refine wp_lt (e_neq (idx_e rfl rfl hrow rfl) rfl) ?_
    simp only [lv_cons, lv_nil, app_cons, app_nil]
    have hd' : d = true ↔ v = 0 ∨ above (cs.take (n + 1)) (p + 1) ≠ [] := by rw [hae, if_neg h2, List.append_nil]; exact hd
    refine wp_ite rfl (fun h3 => ?_) (fun h3 => ?_)
    ·have h3 := bne_iff_ne.1 h3
     have hlt := setR_lt (v := v) hs' (show c.1 < p by omega)
     rw [← hst, ← hr] at hlt
     refine wp_chk (inb_t rfl rfl (by rw [crs_len]; exact hnl)) ?_
     refine wp_chk (row_room (more_e rfl hk' (row_e (k := k') rfl rfl hcs)) (by rw [List.length_append, List.length_singleton]; omega)) ?_
     refine wp_lt (i_add (a := (n : Int)) (b := 1) rfl rfl (by omega) (by omega)) ?_
     simp only [lv_cons, lv_nil, app_cons, app_nil]
     exact wp_cont rfl (es_cons rfl (es_cons rfl (es_cons (more_e rfl hk' (row_e (k := k') rfl rfl hcs)) rfl))) (hQ _ ⟨d, n + 1, 2, _, rfl, hd', .inl rfl, by omega, by omega, hlt.symm⟩)
    ·have h3 : c.1 = p := by have : ((c.1 : Nat) : Int) = p := by simpa using h3
                             omega
     have heq := setR_eq (v := v) hs' h3
     rw [← hst, ← hr] at heq
     refine wp_lt (i_add (a := (n : Int)) (b := 1) rfl rfl (by omega) (by omega)) ?_
     simp only [lv_cons, lv_nil, app_cons, app_nil]
     exact wp_cont rfl rfl (hQ _ ⟨d, n + 1, k', r, rfl, hd', hk', by omega, by omega, heq.symm⟩)
  ·have h1 : d = true := by simpa using h1
   have hyd := hd.1 h1
   have hd' : d = true ↔ v = 0 ∨ above (cs.take (n + 1)) (p + 1) ≠ [] := by
    refine ⟨fun _ => ?_, fun _ => h1⟩
    rcases hyd with h | h
    ·exact .inl h
    ·exact .inr (by rw [hae]; simp [h])
   refine wp_chk (inb_t rfl rfl (by rw [crs_len]; exact hnl)) ?_
   refine wp_lt (e_neq (idx_e rfl rfl hrow rfl) rfl) ?_
   simp only [lv_cons, lv_nil, app_cons, app_nil]
   refine wp_ite rfl (fun h3 => ?_) (fun h3 => ?_)
   ·have h3 := bne_iff_ne.1 h3
    have hlt : setR (cs.take n ++ [c]) p v = setR (cs.take n) p v ++ [c] := by
     by_cases h4 : c.1 < p
     ·exact setR_lt hs' h4
     ·exact setR_gt (by omega) hyd
    rw [← hst, ← hr] at hlt
    refine wp_chk (inb_t rfl rfl (by rw [crs_len]; exact hnl)) ?_
    refine wp_chk (row_room (more_e rfl hk' (row_e (k := k') rfl rfl hcs)) (by rw [List.length_append, List.length_singleton]; omega)) ?_
    refine wp_lt (i_add (a := (n : Int)) (b := 1) rfl rfl (by omega) (by omega)) ?_
    simp only [lv_cons, lv_nil, app_cons, app_nil]
    exact wp_cont rfl (es_cons rfl (es_cons rfl (es_cons (more_e rfl hk' (row_e (k := k') rfl rfl hcs)) rfl))) (hQ _ ⟨d, n + 1, 2, _, rfl, hd', .inl rfl, by omega, by omega, hlt.symm⟩)
   ·have h3 : c.1 = p := by have : ((c.1 : Nat) : Int) = p := by simpa using h3
                            omega
    have heq := setR_eq (v := v) hs' h3
    rw [← hst, ← hr] at heq
    refine wp_lt (i_add (a := (n : Int)) (b := 1) rfl rfl (by omega) (by omega)) ?_
    simp only [lv_cons, lv_nil, app_cons, app_nil]
    exact wp_cont rfl rfl (hQ _ ⟨d, n + 1, k', r, rfl, hd', hk', by omega, by omega, heq.symm⟩)
 ·have hc := of_decide_eq_false hc
  obtain rfl : n = cs.length := by omega
  rw [List.take_length] at hr hd
  refine wp_lt (d := (.b (!d))) rfl ?_
  simp only [lv_cons, lv_nil, app_cons, app_nil]
  refine wp_ite rfl (fun h1 => ?_) (fun h1 => ?_)
  ·have h1 : d = false := by simpa using h1
   have hnd : ¬ (v = 0 ∨ above cs (p + 1) ≠ []) := fun h => by rw [hd.2 h] at h1; cases h1
   have hv : v ≠ 0 := fun h => hnd (.inl h)
   have ha : above cs (p + 1) = [] := Classical.not_not.1 fun h => hnd (.inr h)
   have he : r ++ [(p, v)] = putM cs p v := by rw [putM_eq hs, hr, setR, ha, if_neg hv]; simp
   have hap := fun (ρ : List D) (e7 : (Ex.v 7).eval ρ = some (.sl k' (crs r))) (e2 : (Ex.v 2).eval ρ = some (U p)) (e3 : (Ex.v 3).eval ρ = some (U v)) => more_e (c := (p, v)) e7 hk' (es_cons e2 (evs_one e3))
   rw [← he]
   refine wp_chk (row_room (hap _ rfl rfl rfl) (by rw [List.length_append, List.length_singleton]; omega)) ?_
   exact wp_return (evs_cons (es_cons rfl (evs_one (hap _ rfl rfl rfl))) rfl) ⟨2, .inl rfl, rfl⟩
  ·have h1 : d = true := by simpa using h1
   have hyd := hd.1 h1
   have he : r = putM cs p v := by
    rw [putM_eq hs, hr, setR]
    by_cases hv : v = 0
    ·rw [if_pos (.inl hv), if_pos hv]
    ·have : above cs (p + 1) ≠ [] := hyd.resolve_left hv
     rw [if_neg (by rintro (h | h); exact hv h; exact this h), if_neg hv]
   rw [← he]
   exact wp_return rfl ⟨k', hk', rfl⟩
end Go.Proofs.YtnkjmocacielmaaDoor.Sx
namespace Go.Proofs.YtnkjmocacielmaaDoor.Sx
open Go
set_option linter.unusedVariables false
set_option linter.unusedSimpArgs false
set_option maxRecDepth 100000
end Go.Proofs.YtnkjmocacielmaaDoor.Sx
namespace Go.Proofs.YtnkjmocacielmaaDoor.Sx
open Go
set_option linter.unusedVariables false
set_option linter.unusedSimpArgs false
set_option maxRecDepth 100000
theorem setN_testBit (w lo n v i : Nat) : (setN w lo n v).testBit i = (decide (i < 64) && if lo ≤ i ∧ i < lo + n then v.testBit (i - lo) else w.testBit i) := by
 unfold setN
 rw [ofF_testBit]
theorem getN_lt {w lo n : Nat} : getN w lo n < 2 ^ n := Nat.mod_lt _ (Nat.two_pow_pos n)
def Sz (n : Nat) : Prop := n = 1 ∨ n = 2 ∨ n = 4 ∨ n = 8
theorem Sz.ok {n : Nat} (h : Sz n) : sizeOk n = true := by rcases h with rfl | rfl | rfl | rfl <;> rfl
theorem Sz.wrong {s a n : Nat} (h : Sz n) (ha : a % n = 0) (has : a < s) : wrongN s a n = 0 := by
 unfold wrongN
 rw [if_pos h.ok, Int.toNat_natCast, if_pos ha, if_neg (by omega)]
theorem Sz.place {s a n : Nat} (h : Sz n) (hs : s % 4096 = 0) (h0 : s ≠ 0) : (a % s / n * n) % n = 0 ∧ a % s / n * n + n ≤ s := by
 have := Nat.mod_lt a (Nat.pos_of_ne_zero h0)
 rcases h with rfl | rfl | rfl | rfl <;> omega
section
variable {s i j n m v w : Nat} {cs : List Cl}
end
end Go.Proofs.YtnkjmocacielmaaDoor.Sx
namespace Go.Proofs.YtnkjmocacielmaaDoor.Sx
open Go
set_option linter.unusedVariables false
set_option linter.unusedSimpArgs false
set_option maxRecDepth 100000
theorem ite_bb {ρ : List D} {c x : Ex} {t t' : Bool} (hc : c.eval ρ = some (.b t)) (hx : x.eval ρ = some (.b t')) : (Ex.ite c x (.c (.b false))).eval ρ = some (.b (t && t')) := by
 cases t <;> simp [Ex.eval, hc, hx]
end Go.Proofs.YtnkjmocacielmaaDoor.Sx
