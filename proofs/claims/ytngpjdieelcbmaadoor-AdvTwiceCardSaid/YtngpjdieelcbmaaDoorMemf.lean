/-
  Layer 3: what putting, storing and clearing leave: plain lists, no program in sight.
-/
import Derived.Test.YtngpjdieelcbmaaDoorMeme
namespace Go.Proofs.YtngpjdieelcbmaaDoor.Sx
open Go
set_option linter.unusedVariables false
set_option linter.unusedSimpArgs false
set_option maxRecDepth 100000

def below (cs : List Cl) (a : Nat) : List Cl := cs.filter fun c => decide (c.1 < a)
def above (cs : List Cl) (a : Nat) : List Cl := cs.filter fun c => decide (a ≤ c.1)
theorem asc_tail {d : Cl} {ds : List Cl} (h : Asc (d :: ds)) : Asc ds := (List.pairwise_cons.1 h).2
theorem asc_head {d : Cl} {ds : List Cl} (h : Asc (d :: ds)) {x : Cl} (hx : x ∈ ds) : d.1 < x.1 := (List.pairwise_cons.1 h).1 x hx
theorem low_lt {d : Cl} {ds : List Cl} {a : Nat} (h : d.1 < a) : lowN (d :: ds) a = lowN ds a + 1 := by
  unfold lowN; rw [List.filter_cons_of_pos (by simpa using h)]; rfl
theorem low_ge {d : Cl} {ds : List Cl} {a : Nat} (hs : Asc (d :: ds)) (h : a ≤ d.1) : lowN (d :: ds) a = 0 := by
  unfold lowN
  rw [List.length_eq_zero_iff, List.filter_eq_nil_iff]
  intro x hx
  rcases List.mem_cons.1 hx with rfl | hx
  · simp; omega
  · have := asc_head hs hx; simp; omega
theorem take_low {a : Nat} : ∀ {cs : List Cl}, Asc cs → cs.take (lowN cs a) = below cs a
  | [], _ => rfl
  | d :: ds, hs => by
    by_cases h : d.1 < a
    · rw [low_lt h, List.take_succ_cons, take_low (asc_tail hs), below, below, List.filter_cons_of_pos (by simpa using h)]
    · rw [low_ge hs (by omega), List.take_zero]
      symm
      rw [below, List.filter_eq_nil_iff]
      intro x hx
      rcases List.mem_cons.1 hx with rfl | hx
      · simp; omega
      · have := asc_head hs hx; simp; omega
theorem drop_low {a : Nat} : ∀ {cs : List Cl}, Asc cs → cs.drop (lowN cs a) = above cs a
  | [], _ => rfl
  | d :: ds, hs => by
    by_cases h : d.1 < a
    · rw [low_lt h, List.drop_succ_cons, drop_low (asc_tail hs), above, above, List.filter_cons_of_neg (by simp; omega)]
    · rw [low_ge hs (by omega), List.drop_zero]
      symm
      rw [above, List.filter_eq_self]
      intro x hx
      rcases List.mem_cons.1 hx with rfl | hx
      · simp; omega
      · have := asc_head hs hx; simp; omega
theorem low_succ {p : Nat} : ∀ {cs : List Cl}, Asc cs → lowN cs p + (hasN cs p).toNat = lowN cs (p + 1)
  | [], _ => rfl
  | d :: ds, hs => by
    by_cases h : d.1 < p
    · have e : hasN (d :: ds) p = hasN ds p := by unfold hasN; rw [low_lt h]; rfl
      have := low_succ (p := p) (asc_tail hs)
      rw [e, low_lt h, low_lt (show d.1 < p + 1 by omega)]
      omega
    · by_cases h2 : d.1 = p
      · have e : hasN (d :: ds) p = true := by unfold hasN; rw [low_ge hs (by omega)]; simpa using h2
        rw [e, low_ge hs (by omega), low_lt (show d.1 < p + 1 by omega)]
        cases ds with
        | nil => rfl
        | cons x xs =>
          have := asc_head hs (List.mem_cons_self (a := x) (l := xs))
          rw [low_ge (asc_tail hs) (by omega)]
          rfl
      · have e : hasN (d :: ds) p = false := by unfold hasN; rw [low_ge hs (by omega)]; simpa using h2
        rw [e, low_ge hs (by omega), low_ge hs (by omega)]
        rfl
theorem putM_eq {cs : List Cl} {p v : Nat} (hs : Asc cs) : putM cs p v = below cs p ++ ((if v = 0 then [] else [(p, v)]) ++ above cs (p + 1)) := by
  unfold putM
  rw [low_succ hs, take_low hs, drop_low hs]
theorem mem_below {cs : List Cl} {a : Nat} {c : Cl} : c ∈ below cs a ↔ c ∈ cs ∧ c.1 < a := by simp [below]
theorem mem_above {cs : List Cl} {a : Nat} {c : Cl} : c ∈ above cs a ↔ c ∈ cs ∧ a ≤ c.1 := by simp [above]
theorem mem_putM {cs : List Cl} {p v : Nat} {c : Cl} (hs : Asc cs) : c ∈ putM cs p v ↔ (c ∈ cs ∧ c.1 ≠ p) ∨ (v ≠ 0 ∧ c = (p, v)) := by
  rw [putM_eq hs, List.mem_append, List.mem_append, mem_below, mem_above]
  have h : c ∈ (if v = 0 then ([] : List Cl) else [(p, v)]) ↔ v ≠ 0 ∧ c = (p, v) := by
    split
    · rename_i h; simp [h]
    · rename_i h; simp [h]
  rw [h]
  constructor
  · rintro (⟨h1, h2⟩ | h | ⟨h1, h2⟩)
    · exact .inl ⟨h1, by omega⟩
    · exact .inr h
    · exact .inl ⟨h1, by omega⟩
  · rintro (⟨h1, h2⟩ | h)
    · by_cases h3 : c.1 < p
      · exact .inl ⟨h1, h3⟩
      · exact .inr (.inr ⟨h1, by omega⟩)
    · exact .inr (.inl h)
theorem asc_putM {cs : List Cl} {p v : Nat} (hs : Asc cs) : Asc (putM cs p v) := by
  rw [putM_eq hs]
  unfold Asc
  rw [List.pairwise_append, List.pairwise_append]
  have hi : ∀ c, c ∈ (if v = 0 then ([] : List Cl) else [(p, v)]) → c.1 = p := by
    intro c
    split
    · intro h; cases h
    · intro h; rw [List.mem_singleton.1 h]
  refine ⟨hs.filter _, ⟨?_, hs.filter _, fun a ha b hb => ?_⟩, fun a ha b hb => ?_⟩
  · split
    · exact .nil
    · exact List.pairwise_singleton _ _
  · have := hi a ha; have := (mem_above.1 hb).2; omega
  · have := (mem_below.1 ha).2
    rcases List.mem_append.1 hb with hb | hb
    · have := hi b hb; omega
    · have := (mem_above.1 hb).2; omega
theorem look_mem {cs : List Cl} {p v : Nat} (hs : Asc cs) (h : (p, v) ∈ cs) : lookN cs p = v := by
  obtain ⟨j, hj, he⟩ := List.getElem_of_mem h
  exact (lookN_of hs (by rw [List.getElem?_eq_getElem hj, he]) rfl).2
theorem look_non {cs : List Cl} {p : Nat} (h : ∀ c ∈ cs, c.1 ≠ p) : lookN cs p = 0 := by
  unfold lookN
  split
  · rename_i c hc
    rw [if_neg (h c (List.mem_of_getElem? hc))]
  · rfl
theorem look_pos {cs : List Cl} {p : Nat} (h : lookN cs p ≠ 0) : (p, lookN cs p) ∈ cs := by
  generalize hv : lookN cs p = v at h
  unfold lookN at hv
  split at hv
  · rename_i c hc
    split at hv
    · rename_i hp
      subst hv hp
      exact List.mem_of_getElem? hc
    · exact absurd hv.symm h
  · exact absurd hv.symm h
theorem look_same {cs ds : List Cl} {p : Nat} (hs : Asc cs) (hd : Asc ds) (h : ∀ v, (p, v) ∈ cs ↔ (p, v) ∈ ds) : lookN cs p = lookN ds p := by
  by_cases hc : ∃ v, (p, v) ∈ cs
  · obtain ⟨v, hv⟩ := hc
    rw [look_mem hs hv, look_mem hd ((h v).1 hv)]
  · rw [look_non fun c hm he => hc ⟨c.2, by rw [← he]; exact hm⟩, look_non fun c hm he => hc ⟨c.2, (h _).2 (by rw [← he]; exact hm)⟩]
theorem look_putM {cs : List Cl} {p v q : Nat} (hs : Asc cs) : lookN (putM cs p v) q = if q = p then v else lookN cs q := by
  split
  · rename_i h
    subst h
    by_cases hv : v = 0
    · rw [hv]
      exact look_non fun c hm he => by
        rcases (mem_putM hs).1 hm with h | h
        · exact h.2 he
        · exact h.1 rfl
    · exact look_mem (asc_putM hs) ((mem_putM hs).2 (.inr ⟨hv, rfl⟩))
  · rename_i h
    refine look_same (asc_putM hs) hs fun w => ?_
    rw [mem_putM hs]
    constructor
    · rintro (⟨h1, _⟩ | ⟨_, h1⟩)
      · exact h1
      · cases h1; exact absurd rfl h
    · exact fun h1 => .inl ⟨h1, h⟩
def NZ (cs : List Cl) : Prop := ∀ c ∈ cs, c.2 ≠ 0
theorem asc_ext : ∀ {cs ds : List Cl}, Asc cs → Asc ds → (∀ c, c ∈ cs ↔ c ∈ ds) → cs = ds
  | [], [], _, _, _ => rfl
  | [], d :: ds, _, _, h => by have := (h d).2 List.mem_cons_self; cases this
  | c :: cs, [], _, _, h => by have := (h c).1 List.mem_cons_self; cases this
  | c :: cs, d :: ds, h1, h2, h => by
    have hcd : c = d := by
      rcases List.mem_cons.1 ((h c).1 List.mem_cons_self) with e | hc
      · exact e
      · rcases List.mem_cons.1 ((h d).2 List.mem_cons_self) with e | hd
        · exact e.symm
        · have := asc_head h2 hc; have := asc_head h1 hd; omega
    subst hcd
    rw [asc_ext (asc_tail h1) (asc_tail h2) fun x => ?_]
    constructor
    · intro hx
      rcases List.mem_cons.1 ((h x).1 (List.mem_cons_of_mem _ hx)) with e | hx'
      · subst e; have := asc_head h1 hx; omega
      · exact hx'
    · intro hx
      rcases List.mem_cons.1 ((h x).2 (List.mem_cons_of_mem _ hx)) with e | hx'
      · subst e; have := asc_head h2 hx; omega
      · exact hx'
theorem look_ext {cs ds : List Cl} (h1 : Asc cs) (h2 : Asc ds) (z1 : NZ cs) (z2 : NZ ds) (h : ∀ p, lookN cs p = lookN ds p) : cs = ds := by
  refine asc_ext h1 h2 fun c => ⟨fun hc => ?_, fun hc => ?_⟩
  · have e := look_mem h1 (p := c.1) (v := c.2) hc
    have := look_pos (cs := ds) (p := c.1) (by rw [← h, e]; exact z1 c hc)
    rw [← h, e] at this
    exact this
  · have e := look_mem h2 (p := c.1) (v := c.2) hc
    have := look_pos (cs := cs) (p := c.1) (by rw [h, e]; exact z2 c hc)
    rw [h, e] at this
    exact this

/-- a right memory -/
structure RM (s : Nat) (cs : List Cl) : Prop where
  even : s % 4096 = 0
  most : s ≤ 1099511627776
  asc : Asc cs
  nz : NZ cs
  low : ∀ c ∈ cs, c.1 < s / 8
theorem right_rm {s : Nat} {cs : List Cl} : rightM s cs = true ↔ RM s cs := by
  constructor
  · intro h
    obtain ⟨h1, h2, h3⟩ := rightM_iff.1 h
    refine ⟨h1, h2, asc_of h, fun c hc => ?_, fun c hc => ?_⟩
    · obtain ⟨j, hj, rfl⟩ := List.getElem_of_mem hc
      exact (h3 j _ (List.getElem?_eq_getElem hj)).1
    · obtain ⟨j, hj, rfl⟩ := List.getElem_of_mem hc
      exact (h3 j _ (List.getElem?_eq_getElem hj)).2.1
  · intro h
    refine rightM_iff.2 ⟨h.even, h.most, fun j c hc => ⟨h.nz c (List.mem_of_getElem? hc), h.low c (List.mem_of_getElem? hc), fun b hj hb => ?_⟩⟩
    obtain ⟨hj1, rfl⟩ := List.getElem?_eq_some_iff.1 hc
    obtain ⟨hj2, rfl⟩ := List.getElem?_eq_some_iff.1 hb
    exact List.pairwise_iff_getElem.1 h.asc (j - 1) j hj2 hj1 (by omega)
theorem RM.put {s : Nat} {cs : List Cl} {p v : Nat} (h : RM s cs) (hp : p < s / 8) : RM s (putM cs p v) := by
  refine ⟨h.even, h.most, asc_putM h.asc, fun c hc => ?_, fun c hc => ?_⟩
  · rcases (mem_putM h.asc).1 hc with hc | ⟨hv, rfl⟩
    · exact h.nz c hc.1
    · exact hv
  · rcases (mem_putM h.asc).1 hc with hc | ⟨hv, rfl⟩
    · exact h.low c hc.1
    · exact hp
theorem RM.cok {s : Nat} {cs : List Cl} (h : RM s cs) (hv : ∀ c ∈ cs, c.2 < 18446744073709551616) : COk cs := fun c hc => ⟨by have := h.low c hc; have := h.most; omega, hv c hc⟩
theorem cok_put {cs : List Cl} {p v : Nat} (hs : Asc cs) (h : COk cs) (hp : p < 18446744073709551616) (hv : v < 18446744073709551616) : COk (putM cs p v) := fun c hc => by
  rcases (mem_putM hs).1 hc with hc | ⟨_, rfl⟩
  · exact h c hc.1
  · exact ⟨hp, hv⟩
theorem len_put {cs : List Cl} {p v : Nat} : (putM cs p v).length ≤ cs.length + 1 := by
  unfold putM
  rw [List.length_append, List.length_append, List.length_take, List.length_drop]
  have : (if v = 0 then ([] : List Cl) else [(p, v)]).length ≤ 1 := by split <;> simp
  omega
theorem word_in {s a : Nat} {cs : List Cl} (h : a < s) : wordN s cs a = lookN cs (a / 8) := by unfold wordN; rw [if_neg (by omega)]
theorem look_store {s a n v q : Nat} {cs : List Cl} (hs : Asc cs) (ha : a < s) : lookN (storeM s cs a n v) q = if q = a / 8 then setN (lookN cs (a / 8)) (a % 8 * 8) (n * 8) v else lookN cs q := by
  rw [storeM, look_putM hs, word_in ha]
theorem RM.store {s a n v : Nat} {cs : List Cl} (h : RM s cs) (ha : a < s) : RM s (storeM s cs a n v) := h.put (by have := h.even; omega)
theorem cok_store {s a n v : Nat} {cs : List Cl} (h : RM s cs) (hO : COk cs) (ha : a < s) : COk (storeM s cs a n v) := cok_put h.asc hO (by have := h.most; omega) (setN_lt ..)
theorem len_store {s a n v : Nat} {cs : List Cl} : (storeM s cs a n v).length ≤ cs.length + 1 := len_put

/-! ### clearing -/
def clrM (cs : List Cl) (a b : Nat) : List Cl := cs.take (lowN cs a) ++ cs.drop (lowN cs b)
theorem clr_filter {a b : Nat} : ∀ {cs : List Cl}, Asc cs → a ≤ b → clrM cs a b = cs.filter fun c => decide (c.1 < a) || decide (b ≤ c.1)
  | cs, hs, hab => by
    rw [clrM, take_low hs, drop_low hs]
    induction cs with
    | nil => rfl
    | cons d ds ih =>
      have ih := ih (asc_tail hs)
      by_cases h1 : d.1 < a
      · rw [below, above, List.filter_cons_of_pos (by simpa using h1), List.filter_cons_of_neg (by simp; omega), List.filter_cons_of_pos (by simp; omega)]
        exact congrArg (d :: ·) ih
      · have hb : below (d :: ds) a = [] := by
          rw [below, List.filter_eq_nil_iff]
          intro x hx
          rcases List.mem_cons.1 hx with rfl | hx
          · simp; omega
          · have := asc_head hs hx; simp; omega
        rw [hb, List.nil_append, above]
        refine List.filter_congr fun x hx => ?_
        have : ¬ x.1 < a := by
          rcases List.mem_cons.1 hx with rfl | hx
          · exact h1
          · have := asc_head hs hx; omega
        rw [decide_eq_false this, Bool.false_or]
theorem look_clr {cs : List Cl} {a b q : Nat} (hs : Asc cs) (hab : a ≤ b) : lookN (clrM cs a b) q = if a ≤ q ∧ q < b then 0 else lookN cs q := by
  rw [clr_filter hs hab]
  split
  · rename_i h
    refine look_non fun c hc he => ?_
    simp only [List.mem_filter, Bool.or_eq_true, decide_eq_true_eq] at hc
    omega
  · rename_i h
    refine look_same (hs.filter _) hs fun v => ?_
    simp only [List.mem_filter, Bool.or_eq_true, decide_eq_true_eq]
    exact ⟨fun h => h.1, fun h' => ⟨h', by omega⟩⟩
theorem RM.clr {s : Nat} {cs : List Cl} {a b : Nat} (h : RM s cs) (hab : a ≤ b) : RM s (clrM cs a b) := by
  rw [clr_filter h.asc hab]
  exact ⟨h.even, h.most, h.asc.filter _, fun c hc => h.nz c (List.mem_filter.1 hc).1, fun c hc => h.low c (List.mem_filter.1 hc).1⟩
theorem cok_clr {cs : List Cl} {a b : Nat} (hs : Asc cs) (hab : a ≤ b) (h : COk cs) : COk (clrM cs a b) := by
  rw [clr_filter hs hab]
  exact fun c hc => h c (List.mem_filter.1 hc).1
theorem len_clr {cs : List Cl} {a b : Nat} (hs : Asc cs) (hab : a ≤ b) : (clrM cs a b).length ≤ cs.length := by
  rw [clr_filter hs hab]
  exact List.length_filter_le _ _

/-! ### bytes -/
def getB (bs : List Nat) : Nat := bs.foldr (fun b v => 256 * v + b) 0
def putB (v n : Nat) : List Nat := (List.range n).map fun i => v / 256 ^ i % 256
theorem putB_succ {v n : Nat} : putB v (n + 1) = v % 256 :: putB (v / 256) n := by
  unfold putB
  rw [List.range_succ_eq_map, List.map_cons, List.map_map]
  congr 1
  · simp
  · refine List.map_congr_left fun i _ => ?_
    simp only [Function.comp]
    rw [Nat.pow_succ, Nat.mul_comm, Nat.div_div_eq_div_mul]
theorem putB_end {v n : Nat} : putB v (n + 1) = putB v n ++ [v / 256 ^ n % 256] := by
  unfold putB
  rw [List.range_succ, List.map_append]
  rfl
theorem putB_len {v n : Nat} : (putB v n).length = n := by simp [putB]
theorem putB_get {v n j : Nat} (h : j < n) : (putB v n)[j]? = some (v / 256 ^ j % 256) := by
  simp [putB, h]
theorem getB_putB : ∀ {n v : Nat}, getB (putB v n) = v % 256 ^ n
  | 0, v => by simp [putB, getB, Nat.mod_one]
  | n + 1, v => by
    rw [putB_succ]
    show 256 * getB (putB (v / 256) n) + v % 256 = _
    rw [getB_putB, Nat.pow_succ, Nat.mul_comm (256 ^ n) 256, Nat.mod_mul]
    omega
theorem getB_testBit : ∀ {bs : List Nat} {j : Nat}, (∀ x ∈ bs, x < 256) → (getB bs).testBit j = ((bs[j / 8]?).getD 0).testBit (j % 8)
  | [], j, _ => by simp [getB]
  | b :: bs, j, h => by
    show (256 * getB bs + b).testBit j = _
    have := Nat.testBit_two_pow_mul_add (i := 8) (a := getB bs) (b := b) (h b List.mem_cons_self) j
    rw [show (256 : Nat) = 2 ^ 8 from rfl, this]
    split
    · rename_i hj
      rw [Nat.div_eq_of_lt hj, Nat.mod_eq_of_lt hj]
      rfl
    · rename_i hj
      rw [getB_testBit fun x hx => h x (List.mem_cons_of_mem _ hx), show j / 8 = (j - 8) / 8 + 1 by omega, List.getElem?_cons_succ, show (j - 8) % 8 = j % 8 by omega]
theorem getB_lt : ∀ {bs : List Nat}, (∀ x ∈ bs, x < 256) → getB bs < 256 ^ bs.length
  | [], _ => by decide
  | b :: bs, h => by
    have h1 := getB_lt fun x hx => h x (List.mem_cons_of_mem _ hx)
    have h2 := h b List.mem_cons_self
    show 256 * getB bs + b < 256 ^ (bs.length + 1)
    rw [Nat.pow_succ]
    omega
theorem pow256 (k : Nat) : (256 : Nat) ^ k = 2 ^ (k * 8) := by rw [Nat.mul_comm, Nat.pow_mul]
theorem getN_bytes {w o n : Nat} : getN w (o * 8) (n * 8) = getB (putB (w / 256 ^ o) n) := by
  rw [getB_putB, getN, pow256, pow256]
theorem byte_testBit {v j i : Nat} (hi : i < 8) : (v / 256 ^ j % 256).testBit i = v.testBit (8 * j + i) := by
  rw [pow256, show (256 : Nat) = 2 ^ 8 from rfl, Nat.testBit_mod_two_pow, Nat.testBit_div_two_pow, decide_eq_true hi, Bool.true_and]
  congr 1
  omega
/-- so many bytes of a word, from o on, are those of another number -/
def mixB (w v o i : Nat) : List Nat := (List.range 8).map fun j => if o ≤ j ∧ j < o + i then v / 256 ^ (j - o) % 256 else w / 256 ^ j % 256
theorem mixB_0 {w v o : Nat} : mixB w v o 0 = putB w 8 := by
  unfold mixB putB
  refine List.map_congr_left fun j _ => ?_
  rw [if_neg (by omega)]
theorem mixB_len {w v o i : Nat} : (mixB w v o i).length = 8 := by simp [mixB]
theorem mixB_set {w v o i : Nat} (h : o + i < 8) : (mixB w v o i).set (o + i) (v / 256 ^ i % 256) = mixB w v o (i + 1) := by
  apply List.ext_getElem
  · simp [mixB]
  intro j h1 h2
  rw [List.getElem_set]
  simp only [mixB, List.getElem_map, List.getElem_range]
  by_cases e : o + i = j
  · subst e
    rw [if_pos rfl, if_pos (by omega)]
    congr 3
    omega
  · rw [if_neg e]
    by_cases h3 : o ≤ j ∧ j < o + i
    · rw [if_pos h3, if_pos (by omega)]
    · rw [if_neg h3, if_neg (by omega)]
theorem mixB_small {w v o i : Nat} : ∀ x ∈ mixB w v o i, x < 256 := by
  intro x hx
  simp only [mixB, List.mem_map] at hx
  obtain ⟨j, _, rfl⟩ := hx
  split <;> exact Nat.mod_lt _ (by decide)
theorem getB_mix {w v o n : Nat} (h : o + n ≤ 8) : getB (mixB w v o n) = setN w (o * 8) (n * 8) v := by
  refine Nat.eq_of_testBit_eq fun k => ?_
  rw [getB_testBit mixB_small]
  unfold setN
  rw [ofF_testBit]
  by_cases hk : k < 64
  · rw [decide_eq_true hk, Bool.true_and]
    have hg : (mixB w v o n)[k / 8]? = some (if o ≤ k / 8 ∧ k / 8 < o + n then v / 256 ^ (k / 8 - o) % 256 else w / 256 ^ (k / 8) % 256) := by
      simp [mixB, show k / 8 < 8 by omega]
    rw [hg, Option.getD_some]
    by_cases h1 : o ≤ k / 8 ∧ k / 8 < o + n
    · rw [if_pos h1, if_pos (by omega), byte_testBit (by omega)]
      congr 1
      omega
    · rw [if_neg h1, if_neg (by omega), byte_testBit (by omega)]
      congr 1
      omega
  · rw [decide_eq_false hk, Bool.false_and, List.getElem?_eq_none (by rw [mixB_len]; omega)]
    simp
end Go.Proofs.YtngpjdieelcbmaaDoor.Sx
