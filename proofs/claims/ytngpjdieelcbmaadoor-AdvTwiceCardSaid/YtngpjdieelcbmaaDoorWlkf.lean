/-
  Layer 10: what marking leaves, what is near: plain data, no program in sight.
-/
import Derived.Test.YtngpjdieelcbmaaDoorWlke
namespace Go.Proofs.YtngpjdieelcbmaaDoor.Sx
open Go
set_option linter.unusedVariables false
set_option linter.unusedSimpArgs false
set_option maxRecDepth 100000

theorem ptN_eq {w w' : Nat} (h0 : ∀ i, i < 8 → w'.testBit i = w.testBit i) (h1 : w' / 256 = w / 256) : ptN w' = ptN w := by
  unfold ptN
  rw [h0 0 (by decide), h0 1 (by decide), h0 2 (by decide), h0 3 (by decide), h0 4 (by decide), h0 5 (by decide), h0 6 (by decide), h0 7 (by decide), h1]
  rw [show w' / 1024 = w / 1024 by omega, show w' / 18014398509481984 = w / 18014398509481984 by omega]
theorem mk_256 {w : Nat} {d : Bool} : mkN w d / 256 = w / 256 := by
  refine Nat.eq_of_testBit_eq fun i => ?_
  rw [show (256 : Nat) = 2 ^ 8 from rfl, Nat.testBit_div_two_pow, Nat.testBit_div_two_pow, mkN_bit, decide_eq_false (by omega), decide_eq_false (by omega)]
  simp
theorem pt_mk {w : Nat} {d : Bool} : ptN (mkN w d) = { ptN w with a := true, d := (ptN w).d || d } := by
  have h := mk_256 (w := w) (d := d)
  have b := fun i => mkN_bit (w := w) (i := i) (d := d)
  have e1 : mkN w d / 1024 = w / 1024 := by omega
  have e2 : mkN w d / 18014398509481984 = w / 18014398509481984 := by omega
  unfold ptN
  rw [b, b, b, b, b, b, b, b, h, e1, e2]
  simp
theorem mk_mk {w : Nat} {d : Bool} : mkN (mkN w d) d = mkN w d := by
  refine Nat.eq_of_testBit_eq fun i => ?_
  rw [mkN_bit, mkN_bit]
  cases w.testBit i <;> cases d <;> cases decide (6 = i) <;> cases decide (7 = i) <;> rfl
theorem word_put {s p v x : Nat} {cs : List Cl} (hs : Asc cs) (hx : x < s) : wordN s (putM cs p v) x = if x / 8 = p then v else wordN s cs x := by
  rw [word_in hx, word_in hx, look_putM hs]
theorem word_mark {s pl x : Nat} {d : Bool} {cs : List Cl} (hs : Asc cs) (hx : x < s) : wordN s (markM s cs pl d) x = if x / 8 = pl / 8 then mkN (wordN s cs pl) d else wordN s cs x := word_put hs hx
theorem word_mark_out {s pl x : Nat} {d : Bool} {cs : List Cl} (hx : s ≤ x) : wordN s (markM s cs pl d) x = wordN s cs x := by
  unfold wordN
  rw [if_pos hx, if_pos hx]
theorem RM.mark {s : Nat} {cs : List Cl} {pl : Nat} {d : Bool} (h : RM s cs) (hp : pl < s) : RM s (markM s cs pl d) := h.put (by have := h.even; omega)
theorem cok_mark {s : Nat} {cs : List Cl} {pl : Nat} {d : Bool} (h : RM s cs) (hO : COk cs) (hp : pl < s) : COk (markM s cs pl d) := cok_put h.asc hO (by have := h.most; omega) (mkN_lt (wordN_lt hO))
theorem len_mark {s : Nat} {cs : List Cl} {pl : Nat} {d : Bool} : (markM s cs pl d).length ≤ cs.length + 1 := len_put
theorem mark_mark {s pl : Nat} {d : Bool} {cs : List Cl} (hR : RM s cs) (hp : pl < s) : markM s (markM s cs pl d) pl d = markM s cs pl d := by
  have h1 := hR.mark (d := d) hp
  have h2 := h1.mark (d := d) hp
  refine look_ext h2.asc h1.asc h2.nz h1.nz fun q => ?_
  have e : wordN s (markM s cs pl d) pl = mkN (wordN s cs pl) d := by rw [word_mark hR.asc hp, if_pos rfl]
  show lookN (putM (markM s cs pl d) (pl / 8) (mkN (wordN s (markM s cs pl d) pl) d)) q = _
  rw [look_putM h1.asc, e, mk_mk]
  split
  · rename_i h
    rw [h]
    unfold markM
    rw [look_putM hR.asc, if_pos rfl]
  · rfl
theorem Pt.bad_ad {p : Pt} {l : Int} {a d g : Bool} (h : p.leaf = true) : ({ p with g := g, a := a, d := d } : Pt).bad l = p.bad l := by
  obtain ⟨v, r, w, x, u, g', a', d', rsw, ppn, high⟩ := p
  simp only [Pt.leaf, Bool.and_eq_true, Bool.or_eq_true] at h
  simp only [Pt.bad]
  rcases h.2 with h | h <;> simp [h]
theorem Pt.link_leaf {p : Pt} (h : p.leaf = true) : p.link = false := by
  simp only [Pt.leaf, Pt.link, Bool.and_eq_true, Bool.or_eq_true] at *
  rcases h.2 with h | h <;> simp [h]
theorem down_mark {s a : Nat} {cs : List Cl} {r : Lf} {d : Bool} (hs : Asc cs) : ∀ {l t : Nat} {g : Bool}, l ≤ 2 → downN s cs a l t g = .leaf r → downN s (markM s cs r.pl d) a l t g = .leaf (markL s cs r d) := by
  intro l
  induction l with
  | zero =>
    intro t g hl h
    rw [down_eq] at h
    split at h
    · cases h
    rename_i h1
    split at h
    · cases h
    rename_i h2
    have hb : (ptN (wordN s cs (slotN t a 0))).bad ((0 : Nat) : Int) = false := by simpa using h2
    have hlk := Pt.link_low (p := ptN (wordN s cs (slotN t a 0))) hb
    have hlf := Pt.leaf_of hb hlk
    rw [if_neg (by rw [hlk]; decide)] at h
    cases h
    rw [down_eq, if_neg h1, word_mark hs (by omega), if_pos rfl, pt_mk]
    have hb2 := Pt.bad_ad (p := ptN (wordN s cs (slotN t a 0))) (l := ((0 : Nat) : Int)) (a := true) (d := (ptN (wordN s cs (slotN t a 0))).d || d) (g := (ptN (wordN s cs (slotN t a 0))).g) hlf
    rw [if_neg (by rw [hb2, hb]; decide), if_neg (by rw [show ({ ptN (wordN s cs (slotN t a 0)) with a := true, d := (ptN (wordN s cs (slotN t a 0))).d || d } : Pt).link = (ptN (wordN s cs (slotN t a 0))).link from rfl, hlk]; decide)]
    rfl
  | succ l ih =>
    intro t g hl h
    rw [down_eq] at h
    split at h
    · cases h
    rename_i h1
    split at h
    · cases h
    rename_i h2
    have hb : (ptN (wordN s cs (slotN t a (l + 1)))).bad ((l + 1 : Nat) : Int) = false := by simpa using h2
    split at h
    · rename_i hlk
      have hr := down_leaf (by omega) h
      have hne : ¬ slotN t a (l + 1) / 8 = r.pl / 8 := fun e => by
        have h8 := slot_mod (t := t) (a := a) (l := l + 1)
        have ha := hr.al
        have e : slotN t a (l + 1) = r.pl := by omega
        obtain ⟨g', hg'⟩ := hr.pt
        have := hr.leaf
        rw [hg', ← e] at this
        have := Pt.link_leaf (p := ptN (wordN s cs (slotN t a (l + 1)))) this
        rw [hlk] at this
        cases this
      rw [down_eq, if_neg h1, word_mark hs (by omega), if_neg hne, if_neg (by rw [hb]; decide), if_pos hlk]
      exact ih (by omega) h
    · rename_i hlk
      have hlk : (ptN (wordN s cs (slotN t a (l + 1)))).link = false := by simpa using hlk
      have hlf := Pt.leaf_of hb hlk
      cases h
      rw [down_eq, if_neg h1, word_mark hs (by omega), if_pos rfl, pt_mk]
      have hb2 := Pt.bad_ad (p := ptN (wordN s cs (slotN t a (l + 1)))) (l := ((l + 1 : Nat) : Int)) (a := true) (d := (ptN (wordN s cs (slotN t a (l + 1)))).d || d) (g := (ptN (wordN s cs (slotN t a (l + 1)))).g) hlf
      rw [if_neg (by rw [hb2, hb]; decide), if_neg (by rw [show ({ ptN (wordN s cs (slotN t a (l + 1))) with a := true, d := (ptN (wordN s cs (slotN t a (l + 1)))).d || d } : Pt).link = (ptN (wordN s cs (slotN t a (l + 1)))).link from rfl, hlk]; decide)]
      rfl
theorem look_mark {s t a : Nat} {cs : List Cl} {r : Lf} {d : Bool} (hs : Asc cs) (h : lookW s cs t a = .leaf r) : lookW s (markM s cs r.pl d) t a = .leaf (markL s cs r d) := by
  have hv := (look_leaf h).1
  unfold lookW at h ⊢
  rw [if_pos hv] at h ⊢
  exact down_mark hs (by omega) h
theorem mkL_mkL {s : Nat} {cs : List Cl} {r : Lf} {d : Bool} (hs : Asc cs) (hr : LeafOk s cs r) : markL s (markM s cs r.pl d) (markL s cs r d) d = markL s cs r d := by
  have e : wordN s (markM s cs r.pl d) r.pl = mkN (wordN s cs r.pl) d := by rw [word_mark hs hr.low, if_pos rfl]
  unfold markL
  simp only
  rw [e, pt_mk]
  simp [Bool.or_assoc]

/-! ### addresses of one page -/
theorem sz_near {a b i j : Nat} (hij : i ≤ j) (hj : j ≤ 2) (h : a / szN (i : Int) = b / szN (i : Int)) : a / szN (j : Int) = b / szN (j : Int) := by
  have e0 : szN ((0 : Nat) : Int) = 4096 := rfl
  have e1 : szN ((1 : Nat) : Int) = 2097152 := rfl
  have e2 : szN ((2 : Nat) : Int) = 1073741824 := rfl
  rcases i with _ | _ | _ | i
  · rcases j with _ | _ | _ | j
    · exact h
    · rw [e0] at h; rw [e1]; omega
    · rw [e0] at h; rw [e2]; omega
    · omega
  · rcases j with _ | _ | _ | j
    · omega
    · exact h
    · rw [e1] at h; rw [e2]; omega
    · omega
  · rcases j with _ | _ | _ | j
    · omega
    · omega
    · exact h
    · omega
  · omega
theorem down_lv {s a : Nat} {cs : List Cl} {r : Lf} : ∀ {l t : Nat} {g : Bool}, downN s cs a l t g = .leaf r → r.lv ≤ l := by
  intro l
  induction l with
  | zero =>
    intro t g h
    unfold downN at h
    split at h
    · cases h
    · split at h
      · cases h
      · cases h; exact Nat.le_refl _
  | succ l ih =>
    intro t g h
    unfold downN at h
    split at h
    · cases h
    · split at h
      · cases h
      · split at h
        · have := ih h; omega
        · cases h; exact Nat.le_refl _
theorem down_near {s a b : Nat} {cs : List Cl} {r : Lf} (hab : a / szN (r.lv : Int) = b / szN (r.lv : Int)) : ∀ {l t : Nat} {g : Bool}, l ≤ 2 → downN s cs a l t g = .leaf r → downN s cs b l t g = .leaf r := by
  intro l
  induction l with
  | zero =>
    intro t g hl h
    have hlv := down_lv h
    have hsl : slotN t b 0 = slotN t a 0 := by unfold slotN; rw [sz_near hlv (by omega) hab]
    rw [down_eq] at h ⊢
    rw [hsl]
    split at h
    · cases h
    rename_i h1
    rw [if_neg h1]
    split at h
    · cases h
    rename_i h2
    rw [if_neg h2]
    split at h
    · rename_i h3
      have hb : (ptN (wordN s cs (slotN t a 0))).bad ((0 : Nat) : Int) = false := by simpa using h2
      have := Pt.link_low (p := ptN (wordN s cs (slotN t a 0))) hb
      rw [h3] at this
      cases this
    · rename_i h3
      rw [if_neg h3]
      exact h
  | succ l ih =>
    intro t g hl h
    have hlv := down_lv h
    have hsl : slotN t b (l + 1) = slotN t a (l + 1) := by unfold slotN; rw [sz_near hlv (by omega) hab]
    rw [down_eq] at h ⊢
    rw [hsl]
    split at h
    · cases h
    rename_i h1
    rw [if_neg h1]
    split at h
    · cases h
    rename_i h2
    rw [if_neg h2]
    split at h
    · rename_i h3
      rw [if_pos h3]
      exact ih (by omega) h
    · rename_i h3
      rw [if_neg h3]
      exact h
theorem isVa_near {a b l : Nat} (hl : l ≤ 2) (h : a / szN (l : Int) = b / szN (l : Int)) (hv : isVaB a = true) (hb : b < 18446744073709551616) : isVaB b = true := by
  have := sz_near hl (Nat.le_refl 2) h
  have e2 : szN ((2 : Nat) : Int) = 1073741824 := rfl
  rw [e2] at this
  simp only [isVaB, decide_eq_true_eq] at hv ⊢
  omega
theorem look_near {s t a b : Nat} {cs : List Cl} {r : Lf} (h : lookW s cs t a = .leaf r) (hb : b < 18446744073709551616) (hab : a / szN (r.lv : Int) = b / szN (r.lv : Int)) : lookW s cs t b = .leaf r := by
  obtain ⟨hv, hl⟩ := look_leaf h
  have hvb := isVa_near hl.lv hab hv hb
  unfold lookW at h ⊢
  rw [if_pos hv] at h
  rw [if_pos hvb]
  exact down_near hab (by omega) h
theorem cause_page {q : Nat} {k : Int} (hq : q = 2 ∨ q = 3) (hk : Kn k) : decide (causeN q k ≥ 12) = decide (q = 3) := by
  rcases hq with rfl | rfl <;> rcases hk with rfl | rfl | rfl <;> rfl
end Go.Proofs.YtngpjdieelcbmaaDoor.Sx
