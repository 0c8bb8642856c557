/-
  Layer 16, 17: memories that differ in bits A of leaves: accesses come to the same; an access done again: plain.
-/
import Derived.Test.YtobdkhjaipoliaaGreatDoorZHartb
namespace Go.Proofs.YtobdkhjaipoliaaGreatDoor.Sx
open Go
set_option linter.unusedVariables false
set_option linter.unusedSimpArgs false
set_option maxRecDepth 100000
def relW (u v : Nat) : Prop := u ||| 64 = v ||| 64 ∧ (u = v ∨ (ptN u).leaf = true)
def relM (m y : List Cl) : Prop := ∀ p, relW (lookN m p) (lookN y p)
theorem relW.self {u : Nat} : relW u u := ⟨rfl, .inl rfl⟩
theorem relM.self {m : List Cl} : relM m m := fun _ => .self
theorem or64_bit {w i : Nat} : (w ||| 64).testBit i = (w.testBit i || decide (6 = i)) := by
  rw [Nat.testBit_or, show (64 : Nat) = 2 ^ 6 from rfl, Nat.testBit_two_pow]
theorem mk_f {w : Nat} : mkN w false = w ||| 64 := by simp [mkN]
theorem relW.bit {u v i : Nat} (h : relW u v) (hi : i ≠ 6) : v.testBit i = u.testBit i := by
  have h1 : (u ||| 64).testBit i = (v ||| 64).testBit i := by rw [h.1]
  rw [or64_bit, or64_bit, decide_eq_false (Ne.symm hi), Bool.or_false, Bool.or_false] at h1
  exact h1.symm
theorem relW.div {u v : Nat} (h : relW u v) : v / 256 = u / 256 := by
  have h1 := mk_256 (w := u) (d := false)
  have h2 := mk_256 (w := v) (d := false)
  rw [mk_f] at h1 h2
  rw [← h1, ← h2, h.1]
theorem relW.pt {u v : Nat} (h : relW u v) : ptN v = { ptN u with a := v.testBit 6 } := by
  have d := h.div
  have b0 := h.bit (i := 0) (by decide)
  have b1 := h.bit (i := 1) (by decide)
  have b2 := h.bit (i := 2) (by decide)
  have b3 := h.bit (i := 3) (by decide)
  have b4 := h.bit (i := 4) (by decide)
  have b5 := h.bit (i := 5) (by decide)
  have b7 := h.bit (i := 7) (by decide)
  have e1 : v / 256 % 4 = u / 256 % 4 := by omega
  have e2 : v / 1024 % 17592186044416 = u / 1024 % 17592186044416 := by omega
  have e3 : v / 18014398509481984 = u / 18014398509481984 := by omega
  unfold ptN
  simp only [b0, b1, b2, b3, b4, b5, b7, e1, e2, e3]
theorem leaf_bit {u : Nat} (h : (ptN u).leaf = true) : u.testBit 0 = true := by
  simp only [Pt.leaf, Bool.and_eq_true] at h
  exact h.1
theorem relW.zero {u v : Nat} (h : relW u v) : u = 0 ↔ v = 0 := by
  rcases h.2 with rfl | hl
  · rfl
  · have h0 := leaf_bit hl
    have h1 := h.bit (i := 0) (by decide)
    rw [h0] at h1
    constructor
    · intro e; rw [e] at h0; cases h0
    · intro e; rw [e] at h1; cases h1
theorem relW.nil {v : Nat} (h : relW 0 v) : v = 0 := h.zero.1 rfl
theorem relM.word {m y : List Cl} {s x : Nat} (h : relM m y) : relW (wordN s m x) (wordN s y x) := by
  unfold wordN
  split
  · exact .self
  · exact h _
theorem relM.mark {m y : List Cl} {s pl : Nat} {d : Bool} (h : relM m y) (hm : Asc m) (hy : Asc y) : relM (markM s m pl d) (markM s y pl d) := by
  intro p
  unfold markM
  rw [look_putM hm, look_putM hy]
  split
  · have := (h.word (s := s) (x := pl)).1
    unfold mkN
    rw [this]
    exact .self
  · exact h p
theorem relM.bring {m y : List Cl} {s : Nat} {l : Lf} (h : relM m y) (hy : Asc y) (hl : LeafOk s y l) : relM m (markM s y l.pl false) := by
  intro p
  unfold markM
  rw [look_putM hy]
  split
  · rename_i hp
    have hw := h.word (s := s) (x := l.pl)
    have e : wordN s m l.pl = lookN m p := by rw [word_in hl.low, hp]
    rw [← e, mk_f]
    refine ⟨?_, .inr ?_⟩
    · rw [Nat.or_assoc, Nat.or_self]; exact hw.1
    · have h1 : (ptN (wordN s y l.pl)).leaf = true := by
        obtain ⟨g, hg⟩ := hl.pt
        have := hl.leaf
        rw [hg] at this
        exact this
      rw [hw.pt] at h1
      exact h1
  · exact h p
theorem len_of_zero {m y : List Cl} (hm : Asc m) (hy : Asc y) (zm : NZ m) (zy : NZ y) (h : ∀ p, lookN m p = 0 ↔ lookN y p = 0) : m.length = y.length := by
  have mem : ∀ {cs : List Cl}, Asc cs → NZ cs → ∀ c : Cl, c ∈ cs.map (fun c => (c.1, 1)) ↔ c.2 = 1 ∧ lookN cs c.1 ≠ 0 := by
    intro cs hs hz c
    rw [List.mem_map]
    constructor
    · rintro ⟨d, hd, rfl⟩
      refine ⟨rfl, ?_⟩
      rw [look_mem hs (v := d.2) hd]
      exact hz d hd
    · rintro ⟨h1, h2⟩
      exact ⟨_, look_pos h2, by rw [← h1]⟩
  have asc : ∀ {cs : List Cl}, Asc cs → Asc (cs.map (fun c => (c.1, 1))) := by
    intro cs hs
    exact List.pairwise_map.2 hs
  have := asc_ext (asc hm) (asc hy) fun c => by rw [mem hm zm, mem hy zy]; exact and_congr Iff.rfl (not_congr (h c.1))
  have := congrArg List.length this
  rwa [List.length_map, List.length_map] at this
def Lk.na : Lk → Lk
  | .leaf r => .leaf { r with pt := { r.pt with a := false } }
  | .fault q => .fault q
theorem down_rel {s a : Nat} {m y : List Cl} (hr : relM m y) : ∀ {l t : Nat} {g : Bool}, (downN s y a l t g).na = (downN s m a l t g).na := by
  intro l
  induction l with
  | zero =>
    intro t g
    rw [down_eq (cs := y), down_eq (cs := m)]
    have hw := hr.word (s := s) (x := slotN t a 0)
    by_cases h1 : s ≤ slotN t a 0
    · rw [if_pos h1, if_pos h1]
    rw [if_neg h1, if_neg h1]
    have hp := hw.pt
    rcases hw.2 with he | hlf
    · rw [← he]
      by_cases h2 : (ptN (wordN s m (slotN t a 0))).bad ((0 : Nat) : Int) = true
      · rw [if_pos h2, if_pos h2]
      · rw [if_neg h2, if_neg h2]
        have hlk := Pt.link_low (p := ptN (wordN s m (slotN t a 0))) (by simpa using h2)
        rw [if_neg (by rw [hlk]; decide), if_neg (by rw [hlk]; decide)]
    · rw [hp]
      generalize ptN (wordN s m (slotN t a 0)) = p at *
      generalize (wordN s y (slotN t a 0)).testBit 6 = b at *
      have hb : ({ p with a := b } : Pt).bad ((0 : Nat) : Int) = p.bad ((0 : Nat) : Int) := Pt.bad_ad (d := p.d) (g := p.g) hlf
      have hlk := Pt.link_leaf hlf
      by_cases h2 : p.bad ((0 : Nat) : Int) = true
      · rw [if_pos (hb.trans h2), if_pos h2]
      · rw [if_neg (by rw [hb]; exact h2), if_neg h2, if_neg (by rw [show ({ p with a := b } : Pt).link = p.link from rfl, hlk]; decide), if_neg (by rw [hlk]; decide)]
        rfl
  | succ l ih =>
    intro t g
    rw [down_eq (cs := y), down_eq (cs := m)]
    have hw := hr.word (s := s) (x := slotN t a (l + 1))
    by_cases h1 : s ≤ slotN t a (l + 1)
    · rw [if_pos h1, if_pos h1]
    rw [if_neg h1, if_neg h1]
    have hp := hw.pt
    rcases hw.2 with he | hlf
    · rw [← he]
      by_cases h2 : (ptN (wordN s m (slotN t a (l + 1)))).bad ((l + 1 : Nat) : Int) = true
      · rw [if_pos h2, if_pos h2]
      · rw [if_neg h2, if_neg h2]
        by_cases hlk : (ptN (wordN s m (slotN t a (l + 1)))).link = true
        · rw [if_pos hlk, if_pos hlk]
          exact ih
        · rw [if_neg hlk, if_neg hlk]
    · rw [hp]
      generalize ptN (wordN s m (slotN t a (l + 1))) = p at *
      generalize (wordN s y (slotN t a (l + 1))).testBit 6 = b at *
      have hb : ({ p with a := b } : Pt).bad ((l + 1 : Nat) : Int) = p.bad ((l + 1 : Nat) : Int) := Pt.bad_ad (d := p.d) (g := p.g) hlf
      have hlk := Pt.link_leaf hlf
      by_cases h2 : p.bad ((l + 1 : Nat) : Int) = true
      · rw [if_pos (hb.trans h2), if_pos h2]
      · rw [if_neg (by rw [hb]; exact h2), if_neg h2, if_neg (by rw [show ({ p with a := b } : Pt).link = p.link from rfl, hlk]; decide), if_neg (by rw [hlk]; decide)]
        rfl
theorem look_rel {s t a : Nat} {m y : List Cl} (hr : relM m y) : (lookW s y t a).na = (lookW s m t a).na := by
  unfold lookW
  split
  · exact down_rel hr
  · rfl
theorem na_cases {x y : Lk} (h : y.na = x.na) : (∃ q, x = .fault q ∧ y = .fault q) ∨ ∃ (r : Lf) (b : Bool), x = .leaf r ∧ y = .leaf { r with pt := { r.pt with a := b } } := by
  cases x with
  | fault q =>
    cases y with
    | fault q' => cases h; exact .inl ⟨_, rfl, rfl⟩
    | leaf r => cases h
  | leaf r =>
    cases y with
    | fault q' => cases h
    | leaf r' =>
      obtain ⟨v1, v2, ⟨p1, p2, p3, p4, p5, p6, p7, p8, p9, p10, p11⟩⟩ := r
      obtain ⟨w1, w2, ⟨q1, q2, q3, q4, q5, q6, q7, q8, q9, q10, q11⟩⟩ := r'
      simp only [Lk.na, Lk.leaf.injEq, Lf.mk.injEq, Pt.mk.injEq, true_and] at h
      obtain ⟨rfl, rfl, rfl, rfl, rfl, rfl, rfl, rfl, rfl, rfl, rfl, rfl⟩ := h
      exact .inr ⟨_, q7, rfl, rfl⟩
theorem walk_rel {s t a : Nat} {k p : Int} {sm mx : Bool} {m y : List Cl} (hr : relM m y) : (∃ q, walkR s m t a k p sm mx = .fault q ∧ walkR s y t a k p sm mx = .fault q) ∨ ∃ (r : Lf) (b : Bool), walkR s m t a k p sm mx = .leaf r ∧ walkR s y t a k p sm mx = .leaf { r with pt := { r.pt with a := b } } := by
  unfold walkR
  rcases na_cases (look_rel (s := s) (t := t) (a := a) hr) with ⟨q, e1, e2⟩ | ⟨r, b, e1, e2⟩
  · rw [e1, e2]; exact .inl ⟨q, rfl, rfl⟩
  · rw [e1, e2]
    simp only
    split
    · exact .inr ⟨r, b, rfl, rfl⟩
    · exact .inl ⟨_, rfl, rfl⟩
theorem hit_nil {h : Ht} {k : Int} {a : Nat} (hts : h.ts = []) : hitH h k a = false := by
  unfold hitH
  rw [hts]
  rfl
theorem word_nil {s x : Nat} : wordN s [] x = 0 := by
  unfold wordN lookN
  split <;> simp
theorem lead_rel {h x : Ht} {s a : Nat} {k : Int} {m y : List Cl} (hts : h.ts = []) (hxs : x.ts = []) (h6 : Same6 h x) (hM : RM s m) (hY : RM s y) (hr : relM m y) :
    (∃ q, leadH h s m k a = .fault q ∧ leadH x s y k a = .fault q) ∨ ∃ (h' x' : Ht) (m' y' : List Cl) (pl : Nat), leadH h s m k a = .to h' m' pl ∧ leadH x s y k a = .to x' y' pl ∧ RM s m' ∧ RM s y' ∧ relM m' y' ∧ (m = [] → m' = []) := by
  unfold leadH
  rw [h6.mode]
  by_cases hm : h.mode ≠ 8
  · rw [if_pos hm, if_pos hm]
    exact .inr ⟨_, _, _, _, _, rfl, rfl, hM, hY, hr, id⟩
  rw [if_neg hm, if_neg hm]
  by_cases hva : isVaB a = false
  · rw [if_pos hva, if_pos hva]
    exact .inl ⟨_, rfl, rfl⟩
  rw [if_neg hva, if_neg hva, hit_nil hts, hit_nil hxs, if_neg (show ¬ false = true by decide), if_neg (show ¬ false = true by decide), h6.ppn, h6.priv, h6.sum, h6.mxr]
  rcases walk_rel (s := s) (t := h.ppn) (a := a) (k := k) (p := h.priv) (sm := h.sum) (mx := h.mxr) hr with ⟨q, e1, e2⟩ | ⟨l, b, e1, e2⟩
  · rw [e1, e2]
    exact .inl ⟨q, rfl, rfl⟩
  · rw [e1, e2]
    have hl := (look_leaf (walkR_leaf e1)).2
    refine .inr ⟨_, _, _, _, _, rfl, rfl, hM.mark hl.low, hY.mark hl.low, hr.mark hM.asc hY.asc, fun hn => ?_⟩
    exfalso
    subst hn
    obtain ⟨g, hg⟩ := hl.pt
    have := hl.leaf
    rw [hg, word_nil] at this
    exact absurd this (show ¬ (Nat.testBit 0 0 && (Nat.testBit 0 1 || Nat.testBit 0 3)) = true by decide)
theorem store_zero {u v lo n c : Nat} (h : relW u v) (hlo : lo % 8 = 0) (hn : 8 ≤ n) : setN u lo n c = 0 ↔ setN v lo n c = 0 := by
  rcases h.2 with rfl | hl
  · rfl
  by_cases h0 : lo = 0
  · have : setN v lo n c = setN u lo n c := by
      refine Nat.eq_of_testBit_eq fun i => ?_
      rw [setN_testBit, setN_testBit]
      split
      · rfl
      · rw [h.bit (by omega)]
    rw [this]
  · have b0 := leaf_bit hl
    have b1 := h.bit (i := 0) (by decide)
    rw [b0] at b1
    have c0 : (setN u lo n c).testBit 0 = true := by
      rw [setN_testBit, if_neg (by omega), b0]; rfl
    have c1 : (setN v lo n c).testBit 0 = true := by
      rw [setN_testBit, if_neg (by omega), b1]; rfl
    constructor
    · intro e; rw [e] at c0; cases c0
    · intro e; rw [e] at c1; cases c1
theorem touch_rel {h x : Ht} {s pl z v : Nat} {k : Int} {m y : List Cl} (hz : Sz z) (hM : RM s m) (hY : RM s y) (hr : relM m y) :
    (touchH h s m k pl z v).2.1.length = (touchH x s y k pl z v).2.1.length ∧ ((∃ q, (touchH h s m k pl z v).2.2 = .fault q ∧ (touchH x s y k pl z v).2.2 = .fault q) ∨
      ∃ u w, (touchH h s m k pl z v).2.2 = .val u ∧ (touchH x s y k pl z v).2.2 = .val w ∧ (∀ i, i % 8 ≠ 6 → w.testBit i = u.testBit i) ∧ (m = [] → w = u)) := by
  have hlen : m.length = y.length := len_of_zero hM.asc hY.asc hM.nz hY.nz fun p => (hr p).zero
  have hz8 : 8 ≤ z * 8 := by rcases hz with h | h | h | h <;> omega
  unfold touchH
  by_cases hw : wrongN s pl z = 0
  · rw [if_pos hw, if_pos hw]
    obtain ⟨n, hn, _, _, _, hlt⟩ := wrong_0 hw
    by_cases hk : k = 2
    · rw [if_pos hk, if_pos hk]
      refine ⟨len_of_zero (hM.store hlt).asc (hY.store hlt).asc (hM.store hlt).nz (hY.store hlt).nz fun p => ?_, .inr ⟨0, 0, rfl, rfl, fun _ _ => rfl, fun _ => rfl⟩⟩
      rw [look_store hM.asc hlt, look_store hY.asc hlt]
      split
      · exact store_zero (hr _) (by omega) hz8
      · exact (hr p).zero
    · rw [if_neg hk, if_neg hk]
      refine ⟨hlen, .inr ⟨_, _, rfl, rfl, fun i hi => ?_, fun hn => ?_⟩⟩
      · unfold loadN
        rw [getN_testBit, getN_testBit, (hr.word (s := s) (x := pl)).bit (by omega)]
      · have := hr.word (s := s) (x := pl)
        rw [hn, word_nil] at this
        unfold loadN
        rw [this.nil, hn, word_nil]
  · rw [if_neg hw, if_neg hw]
    exact ⟨hlen, .inl ⟨_, rfl, rfl⟩⟩
theorem access_rel {h x : Ht} {s a z v : Nat} {k : Int} {m y : List Cl} (hts : h.ts = []) (hxs : x.ts = []) (h6 : Same6 h x) (hz : Sz z) (hM : RM s m) (hY : RM s y) (hr : relM m y) :
    (accessH h s m k a z v).2.1.length = (accessH x s y k a z v).2.1.length ∧ ((∃ q, (accessH h s m k a z v).2.2 = .fault q ∧ (accessH x s y k a z v).2.2 = .fault q) ∨
      ∃ u w, (accessH h s m k a z v).2.2 = .val u ∧ (accessH x s y k a z v).2.2 = .val w ∧ (∀ i, i % 8 ≠ 6 → w.testBit i = u.testBit i) ∧ (m = [] → w = u)) := by
  have hlen : m.length = y.length := len_of_zero hM.asc hY.asc hM.nz hY.nz fun p => (hr p).zero
  unfold accessH
  by_cases hal : a % z ≠ 0
  · rw [if_pos hal, if_pos hal]
    exact ⟨hlen, .inl ⟨_, rfl, rfl⟩⟩
  rw [if_neg hal, if_neg hal]
  rcases lead_rel (k := k) (a := a) hts hxs h6 hM hY hr with ⟨q, e1, e2⟩ | ⟨h', x', m', y', pl, e1, e2, hM', hY', hr', hn⟩
  · rw [e1, e2]
    exact ⟨hlen, .inl ⟨_, rfl, rfl⟩⟩
  · rw [e1, e2]
    obtain ⟨t1, t2⟩ := touch_rel (h := h') (x := x') (k := k) (pl := pl) (v := v) hz hM' hY' hr'
    refine ⟨t1, ?_⟩
    rcases t2 with t2 | ⟨u, w, q1, q2, q3, q4⟩
    · exact .inl t2
    · exact .inr ⟨u, w, q1, q2, q3, fun he => q4 (hn he)⟩
end Go.Proofs.YtobdkhjaipoliaaGreatDoor.Sx
