/-
  Layer 16, 17: memories that differ in bits A of leaves: accesses come to the same; an access done again: plain.
-/
import Derived.Test.YtmmppghdnoeheaaGreatDoorZHartb
namespace Go.Proofs.YtmmppghdnoeheaaGreatDoor.Sx
open Go
set_option linter.unusedVariables false
set_option linter.unusedSimpArgs false
set_option maxRecDepth 100000
def relW (u v : Nat) : Prop := u ||| 64 = v ||| 64 ∧ (u = v ∨ (ptN u).leaf = true)
def relM (m y : List Cl) : Prop := ∀ p, relW (lookN m p) (lookN y p)
theorem relW.self {u : Nat} : relW u u := ⟨rfl, .inl rfl⟩
theorem relM.self {m : List Cl} : relM m m := fun _ => .self
theorem or64_bit {w i : Nat} : (w ||| 64).testBit i = (w.testBit i || decide (6 = i)) := by
  rw [Nat.testBit_or, show (64 : Nat) = 2 ^ 6 from rfl, Nat.testBit_two_pow]
theorem mk_f {w : Nat} : mkN w false = w ||| 64 := by simp [mkN]
theorem relW.bit {u v i : Nat} (h : relW u v) (hi : i ≠ 6) : v.testBit i = u.testBit i := by
  have h1 : (u ||| 64).testBit i = (v ||| 64).testBit i := by rw [h.1]
  rw [or64_bit, or64_bit, decide_eq_false (Ne.symm hi), Bool.or_false, Bool.or_false] at h1
  exact h1.symm
theorem relW.div {u v : Nat} (h : relW u v) : v / 256 = u / 256 := by
  have h1 := mk_256 (w := u) (d := false)
  have h2 := mk_256 (w := v) (d := false)
  rw [mk_f] at h1 h2
  rw [← h1, ← h2, h.1]
theorem relW.pt {u v : Nat} (h : relW u v) : ptN v = { ptN u with a := v.testBit 6 } := by
  have d := h.div
  have b0 := h.bit (i := 0) (by decide)
  have b1 := h.bit (i := 1) (by decide)
  have b2 := h.bit (i := 2) (by decide)
  have b3 := h.bit (i := 3) (by decide)
  have b4 := h.bit (i := 4) (by decide)
  have b5 := h.bit (i := 5) (by decide)
  have b7 := h.bit (i := 7) (by decide)
  have e1 : v / 256 % 4 = u / 256 % 4 := by omega
  have e2 : v / 1024 % 17592186044416 = u / 1024 % 17592186044416 := by omega
  have e3 : v / 18014398509481984 = u / 18014398509481984 := by omega
  unfold ptN
  simp only [b0, b1, b2, b3, b4, b5, b7, e1, e2, e3]
theorem leaf_bit {u : Nat} (h : (ptN u).leaf = true) : u.testBit 0 = true := by
  simp only [Pt.leaf, Bool.and_eq_true] at h
  exact h.1
theorem relW.zero {u v : Nat} (h : relW u v) : u = 0 ↔ v = 0 := by
  rcases h.2 with rfl | hl
  · rfl
  · have h0 := leaf_bit hl
    have h1 := h.bit (i := 0) (by decide)
    rw [h0] at h1
    constructor
    · intro e; rw [e] at h0; cases h0
    · intro e; rw [e] at h1; cases h1
theorem relW.nil {v : Nat} (h : relW 0 v) : v = 0 := h.zero.1 rfl
theorem relM.word {m y : List Cl} {s x : Nat} (h : relM m y) : relW (wordN s m x) (wordN s y x) := by
  unfold wordN
  split
  · exact .self
  · exact h _
theorem relM.mark {m y : List Cl} {s pl : Nat} {d : Bool} (h : relM m y) (hm : Asc m) (hy : Asc y) : relM (markM s m pl d) (markM s y pl d) := by
  intro p
  unfold markM
  rw [look_putM hm, look_putM hy]
  split
  · have := (h.word (s := s) (x := pl)).1
    unfold mkN
    rw [this]
    exact .self
  · exact h p
theorem relM.bring {m y : List Cl} {s : Nat} {l : Lf} (h : relM m y) (hy : Asc y) (hl : LeafOk s y l) : relM m (markM s y l.pl false) := by
  intro p
  unfold markM
  rw [look_putM hy]
  split
  · rename_i hp
    have hw := h.word (s := s) (x := l.pl)
    have e : wordN s m l.pl = lookN m p := by rw [word_in hl.low, hp]
    rw [← e, mk_f]
    refine ⟨?_, .inr ?_⟩
    · rw [Nat.or_assoc, Nat.or_self]; exact hw.1
    · have h1 : (ptN (wordN s y l.pl)).leaf = true := by
        obtain ⟨g, hg⟩ := hl.pt
        have := hl.leaf
        rw [hg] at this
        exact this
      rw [hw.pt] at h1
      exact h1
  · exact h p
theorem len_of_zero {m y : List Cl} (hm : Asc m) (hy : Asc y) (zm : NZ m) (zy : NZ y) (h : ∀ p, lookN m p = 0 ↔ lookN y p = 0) : m.length = y.length := by
  have mem : ∀ {cs : List Cl}, Asc cs → NZ cs → ∀ c : Cl, c ∈ cs.map (fun c => (c.1, 1)) ↔ c.2 = 1 ∧ lookN cs c.1 ≠ 0 := by
    intro cs hs hz c
    rw [List.mem_map]
    constructor
    · rintro ⟨d, hd, rfl⟩
      refine ⟨rfl, ?_⟩
      rw [look_mem hs (v := d.2) hd]
      exact hz d hd
    · rintro ⟨h1, h2⟩
      exact ⟨_, look_pos h2, by rw [← h1]⟩
  have asc : ∀ {cs : List Cl}, Asc cs → Asc (cs.map (fun c => (c.1, 1))) := by
    intro cs hs
    exact List.pairwise_map.2 hs
  have := asc_ext (asc hm) (asc hy) fun c => by rw [mem hm zm, mem hy zy]; exact and_congr Iff.rfl (not_congr (h c.1))
  have := congrArg List.length this
  rwa [List.length_map, List.length_map] at this
def Lk.na : Lk → Lk
  | .leaf r => .leaf { r with pt := { r.pt with a := false } }
  | .fault q => .fault q
theorem down_rel {s a : Nat} {m y : List Cl} (hr : relM m y) : ∀ {l t : Nat} {g : Bool}, (downN s y a l t g).na = (downN s m a l t g).na := by
  intro l
  induction l with
  | zero =>
    intro t g
    rw [down_eq (cs := y), down_eq (cs := m)]
    have hw := hr.word (s := s) (x := slotN t a 0)
    by_cases h1 : s ≤ slotN t a 0
    · rw [if_pos h1, if_pos h1]
    rw [if_neg h1, if_neg h1]
    have hp := hw.pt
    rcases hw.2 with he | hlf
    · rw [← he]
      by_cases h2 : (ptN (wordN s m (slotN t a 0))).bad ((0 : Nat) : Int) = true
      · rw [if_pos h2, if_pos h2]
      · rw [if_neg h2, if_neg h2]
        have hlk := Pt.link_low (p := ptN (wordN s m (slotN t a 0))) (by simpa using h2)
        rw [if_neg (by rw [hlk]; decide), if_neg (by rw [hlk]; decide)]
    · rw [hp]
      generalize ptN (wordN s m (slotN t a 0)) = p at *
      generalize (wordN s y (slotN t a 0)).testBit 6 = b at *
      have hb : ({ p with a := b } : Pt).bad ((0 : Nat) : Int) = p.bad ((0 : Nat) : Int) := Pt.bad_ad (d := p.d) (g := p.g) hlf
      have hlk := Pt.link_leaf hlf
      by_cases h2 : p.bad ((0 : Nat) : Int) = true
      · rw [if_pos (hb.trans h2), if_pos h2]
      · rw [if_neg (by rw [hb]; exact h2), if_neg h2, if_neg (by rw [show ({ p with a := b } : Pt).link = p.link from rfl, hlk]; decide), if_neg (by rw [hlk]; decide)]
        rfl
  | succ l ih =>
    intro t g
    rw [down_eq (cs := y), down_eq (cs := m)]
    have hw := hr.word (s := s) (x := slotN t a (l + 1))
    by_cases h1 : s ≤ slotN t a (l + 1)
    · rw [if_pos h1, if_pos h1]
    rw [if_neg h1, if_neg h1]
    have hp := hw.pt
    rcases hw.2 with he | hlf
    · rw [← he]
      by_cases h2 : (ptN (wordN s m (slotN t a (l + 1)))).bad ((l + 1 : Nat) : Int) = true
      · rw [if_pos h2, if_pos h2]
      · rw [if_neg h2, if_neg h2]
        by_cases hlk : (ptN (wordN s m (slotN t a (l + 1)))).link = true
        · rw [if_pos hlk, if_pos hlk]
          exact ih
        · rw [if_neg hlk, if_neg hlk]
    · rw [hp]
      generalize ptN (wordN s m (slotN t a (l + 1))) = p at *
      generalize (wordN s y (slotN t a (l + 1))).testBit 6 = b at *
      have hb : ({ p with a := b } : Pt).bad ((l + 1 : Nat) : Int) = p.bad ((l + 1 : Nat) : Int) := Pt.bad_ad (d := p.d) (g := p.g) hlf
      have hlk := Pt.link_leaf hlf
      by_cases h2 : p.bad ((l + 1 : Nat) : Int) = true
      · rw [if_pos (hb.trans h2), if_pos h2]
      · rw [if_neg (by rw [hb]; exact h2), if_neg h2, if_neg (by rw [show ({ p with a := b } : Pt).link = p.link from rfl, hlk]; decide), if_neg (by rw [hlk]; decide)]
        rfl
theorem look_rel {s t a : Nat} {m y : List Cl} (hr : relM m y) : (lookW s y t a).na = (lookW s m t a).na := by
  unfold lookW
  split
  · exact down_rel hr
  · rfl
theorem na_cases {x y : Lk} (h : y.na = x.na) : (∃ q, x = .fault q ∧ y = .fault q) ∨ ∃ (r : Lf) (b : Bool), x = .leaf r ∧ y = .leaf { r with pt := { r.pt with a := b } } := by
  cases x with
  | fault q =>
    cases y with
    | fault q' => cases h; exact .inl ⟨_, rfl, rfl⟩
    | leaf r => cases h
  | leaf r =>
    cases y with
    | fault q' => cases h
    | leaf r' =>
      obtain ⟨v1, v2, ⟨p1, p2, p3, p4, p5, p6, p7, p8, p9, p10, p11⟩⟩ := r
      obtain ⟨w1, w2, ⟨q1, q2, q3, q4, q5, q6, q7, q8, q9, q10, q11⟩⟩ := r'
      simp only [Lk.na, Lk.leaf.injEq, Lf.mk.injEq, Pt.mk.injEq, true_and] at h
      obtain ⟨rfl, rfl, rfl, rfl, rfl, rfl, rfl, rfl, rfl, rfl, rfl, rfl⟩ := h
      exact .inr ⟨_, q7, rfl, rfl⟩
theorem walk_rel {s t a : Nat} {k p : Int} {sm mx : Bool} {m y : List Cl} (hr : relM m y) : (∃ q, walkR s m t a k p sm mx = .fault q ∧ walkR s y t a k p sm mx = .fault q) ∨ ∃ (r : Lf) (b : Bool), walkR s m t a k p sm mx = .leaf r ∧ walkR s y t a k p sm mx = .leaf { r with pt := { r.pt with a := b } } := by
  unfold walkR
  rcases na_cases (look_rel (s := s) (t := t) (a := a) hr) with ⟨q, e1, e2⟩ | ⟨r, b, e1, e2⟩
  · rw [e1, e2]; exact .inl ⟨q, rfl, rfl⟩
  · rw [e1, e2]
    simp only
    split
    · exact .inr ⟨r, b, rfl, rfl⟩
    · exact .inl ⟨_, rfl, rfl⟩
theorem hit_nil {h : Ht} {k : Int} {a : Nat} (hts : h.ts = []) : hitH h k a = false := by
  unfold hitH
  rw [hts]
  rfl
theorem word_nil {s x : Nat} : wordN s [] x = 0 := by
  unfold wordN lookN
  split <;> simp
theorem lead_rel {h x : Ht} {s a : Nat} {k : Int} {m y : List Cl} (hts : h.ts = []) (hxs : x.ts = []) (h6 : Same6 h x) (hM : RM s m) (hY : RM s y) (hr : relM m y) :
    (∃ q, leadH h s m k a = .fault q ∧ leadH x s y k a = .fault q) ∨ ∃ (h' x' : Ht) (m' y' : List Cl) (pl : Nat), leadH h s m k a = .to h' m' pl ∧ leadH x s y k a = .to x' y' pl ∧ RM s m' ∧ RM s y' ∧ relM m' y' ∧ (m = [] → m' = []) := by
  unfold leadH
  rw [h6.mode]
  by_cases hm : h.mode ≠ 8
  · rw [if_pos hm, if_pos hm]
    exact .inr ⟨_, _, _, _, _, rfl, rfl, hM, hY, hr, id⟩
  rw [if_neg hm, if_neg hm]
  by_cases hva : isVaB a = false
  · rw [if_pos hva, if_pos hva]
    exact .inl ⟨_, rfl, rfl⟩
  rw [if_neg hva, if_neg hva, hit_nil hts, hit_nil hxs, if_neg (show ¬ false = true by decide), if_neg (show ¬ false = true by decide), h6.ppn, h6.priv, h6.sum, h6.mxr]
  rcases walk_rel (s := s) (t := h.ppn) (a := a) (k := k) (p := h.priv) (sm := h.sum) (mx := h.mxr) hr with ⟨q, e1, e2⟩ | ⟨l, b, e1, e2⟩
  · rw [e1, e2]
    exact .inl ⟨q, rfl, rfl⟩
  · rw [e1, e2]
    have hl := (look_leaf (walkR_leaf e1)).2
    refine .inr ⟨_, _, _, _, _, rfl, rfl, hM.mark hl.low, hY.mark hl.low, hr.mark hM.asc hY.asc, fun hn => ?_⟩
    exfalso
    subst hn
    obtain ⟨g, hg⟩ := hl.pt
    have := hl.leaf
    rw [hg, word_nil] at this
    exact absurd this (show ¬ (Nat.testBit 0 0 && (Nat.testBit 0 1 || Nat.testBit 0 3)) = true by decide)
theorem store_zero {u v lo n c : Nat} (h : relW u v) (hlo : lo % 8 = 0) (hn : 8 ≤ n) : setN u lo n c = 0 ↔ setN v lo n c = 0 := by
  rcases h.2 with rfl | hl
  · rfl
  by_cases h0 : lo = 0
  · have : setN v lo n c = setN u lo n c := by
      refine Nat.eq_of_testBit_eq fun i => ?_
      rw [setN_testBit, setN_testBit]
      split
      · rfl
      · rw [h.bit (by omega)]
    rw [this]
  · have b0 := leaf_bit hl
    have b1 := h.bit (i := 0) (by decide)
    rw [b0] at b1
    have c0 : (setN u lo n c).testBit 0 = true := by
      rw [setN_testBit, if_neg (by omega), b0]; rfl
    have c1 : (setN v lo n c).testBit 0 = true := by
      rw [setN_testBit, if_neg (by omega), b1]; rfl
    constructor
    · intro e; rw [e] at c0; cases c0
    · intro e; rw [e] at c1; cases c1
theorem touch_rel {h x : Ht} {s pl z v : Nat} {k : Int} {m y : List Cl} (hz : Sz z) (hM : RM s m) (hY : RM s y) (hr : relM m y) :
    (touchH h s m k pl z v).2.1.length = (touchH x s y k pl z v).2.1.length ∧ ((∃ q, (touchH h s m k pl z v).2.2 = .fault q ∧ (touchH x s y k pl z v).2.2 = .fault q) ∨
      ∃ u w, (touchH h s m k pl z v).2.2 = .val u ∧ (touchH x s y k pl z v).2.2 = .val w ∧ (∀ i, i % 8 ≠ 6 → w.testBit i = u.testBit i) ∧ (m = [] → w = u)) := by
  have hlen : m.length = y.length := len_of_zero hM.asc hY.asc hM.nz hY.nz fun p => (hr p).zero
  have hz8 : 8 ≤ z * 8 := by rcases hz with h | h | h | h <;> omega
  unfold touchH
  by_cases hw : wrongN s pl z = 0
  · rw [if_pos hw, if_pos hw]
    obtain ⟨n, hn, _, _, _, hlt⟩ := wrong_0 hw
    by_cases hk : k = 2
    · rw [if_pos hk, if_pos hk]
      refine ⟨len_of_zero (hM.store hlt).asc (hY.store hlt).asc (hM.store hlt).nz (hY.store hlt).nz fun p => ?_, .inr ⟨0, 0, rfl, rfl, fun _ _ => rfl, fun _ => rfl⟩⟩
      rw [look_store hM.asc hlt, look_store hY.asc hlt]
      split
      · exact store_zero (hr _) (by omega) hz8
      · exact (hr p).zero
    · rw [if_neg hk, if_neg hk]
      refine ⟨hlen, .inr ⟨_, _, rfl, rfl, fun i hi => ?_, fun hn => ?_⟩⟩
      · unfold loadN
        rw [getN_testBit, getN_testBit, (hr.word (s := s) (x := pl)).bit (by omega)]
      · have := hr.word (s := s) (x := pl)
        rw [hn, word_nil] at this
        unfold loadN
        rw [this.nil, hn, word_nil]
  · rw [if_neg hw, if_neg hw]
    exact ⟨hlen, .inl ⟨_, rfl, rfl⟩⟩
theorem access_rel {h x : Ht} {s a z v : Nat} {k : Int} {m y : List Cl} (hts : h.ts = []) (hxs : x.ts = []) (h6 : Same6 h x) (hz : Sz z) (hM : RM s m) (hY : RM s y) (hr : relM m y) :
    (accessH h s m k a z v).2.1.length = (accessH x s y k a z v).2.1.length ∧ ((∃ q, (accessH h s m k a z v).2.2 = .fault q ∧ (accessH x s y k a z v).2.2 = .fault q) ∨
      ∃ u w, (accessH h s m k a z v).2.2 = .val u ∧ (accessH x s y k a z v).2.2 = .val w ∧ (∀ i, i % 8 ≠ 6 → w.testBit i = u.testBit i) ∧ (m = [] → w = u)) := by
  have hlen : m.length = y.length := len_of_zero hM.asc hY.asc hM.nz hY.nz fun p => (hr p).zero
  unfold accessH
  by_cases hal : a % z ≠ 0
  · rw [if_pos hal, if_pos hal]
    exact ⟨hlen, .inl ⟨_, rfl, rfl⟩⟩
  rw [if_neg hal, if_neg hal]
  rcases lead_rel (k := k) (a := a) hts hxs h6 hM hY hr with ⟨q, e1, e2⟩ | ⟨h', x', m', y', pl, e1, e2, hM', hY', hr', hn⟩
  · rw [e1, e2]
    exact ⟨hlen, .inl ⟨_, rfl, rfl⟩⟩
  · rw [e1, e2]
    obtain ⟨t1, t2⟩ := touch_rel (h := h') (x := x') (k := k) (pl := pl) (v := v) hz hM' hY' hr'
    refine ⟨t1, ?_⟩
    rcases t2 with t2 | ⟨u, w, q1, q2, q3, q4⟩
    · exact .inl t2
    · exact .inr ⟨u, w, q1, q2, q3, fun he => q4 (hn he)⟩
theorem find_used {ts : List SetD} {n a j k : Nat} {s : SetD} (hs : ts[j]? = some s) : findT (ts.set j (s.use k)) n a = findT ts n a := by
  have hj := (List.getElem?_eq_some_iff.1 hs).1
  have key : ∀ i, setAt (ts.set j (s.use k)) i = setAt ts i ∨ (setAt (ts.set j (s.use k)) i = s.use k ∧ setAt ts i = s) := by
    intro i
    by_cases h : j = i
    · subst h
      exact .inr ⟨setAt_of (List.getElem?_set_self hj), setAt_of hs⟩
    · left
      unfold setAt
      rw [List.getD_eq_getElem?_getD, List.getD_eq_getElem?_getD, List.getElem?_set_ne h]
  have hI : ∀ l, lvI (ts.set j (s.use k)) a l = lvI ts a l := fun l => by rw [lvI, lvI, List.length_set]
  have hF : ∀ l, lvF (ts.set j (s.use k)) n a l = lvF ts n a l := fun l => by
    rw [lvF, lvF, hI]
    rcases key (lvI ts a l) with e | ⟨e1, e2⟩
    · rw [e]
    · rw [e1, e2]; rfl
  have hG : ∀ l, foundT (ts.set j (s.use k)) n a l = foundT ts n a l := fun l => by
    rw [foundT, foundT, hI, hF]
    rcases key (lvI ts a l) with e | ⟨e1, e2⟩
    · rw [e]
    · rw [e1, e2, use_at]
  unfold findT
  rw [List.length_set, hF, hF, hF, hG, hG, hG]
theorem used_ways {ts : List SetD} {n a i : Nat} {p q : SetD} (h : (findT ts n a).2.2.2 = true) (hp : ts[i]? = some p) (hq : (usedT ts n a)[i]? = some q) (w : Nat) : q.at w = p.at w := by
  obtain ⟨j, k, s, hs, hk, hE⟩ := used_eq h
  rw [hE, List.getElem?_set] at hq
  split at hq
  · rename_i e
    subst e
    rw [hs] at hp
    cases hp
    split at hq
    · cases hq; exact use_at
    · cases hq
  · rw [hp] at hq; cases hq; rfl
theorem agree_look {h : Ht} {s a : Nat} {cs : List Cl} {e : En} (hR : RH h) (ha : a < 18446744073709551616) (hva : isVaB a = true) (hag : agreesB h s cs = true) (hin : e ∈ allT h.ts) (hm : matchF e h.asid a = true) : ∃ l, lookW s cs h.ppn a = .leaf l ∧ okL e l = true := by
  obtain ⟨hc, hg⟩ := match_cov hm
  have hmay := allT_may hR.tr hin
  have hok := List.all_eq_true.1 hag e hin
  unfold okE at hok
  have hskip : (!e.g && e.asid != h.asid) = false := by
    rcases hg with hg | hg
    · rw [hg]; rfl
    · rw [hg]; simp
  rw [hskip, Bool.false_or] at hok
  cases hlk : lookW s cs h.ppn (vaN e.vpn) with
  | fault q => rw [hlk] at hok; cases hok
  | leaf l =>
    rw [hlk] at hok
    simp only at hok
    have q1 : (l.lv : Int) = e.lv := by
      simp only [okL, Bool.and_eq_true, beq_iff_eq] at hok
      exact hok.1.1.1.1.1.1.1
    have hdiv := va_entry hmay.lv ha hva
    rw [cov_vpn hmay hc, ← q1] at hdiv
    exact ⟨l, look_near hlk ha hdiv, hok⟩
theorem lead_again {h h' : Ht} {s pl a : Nat} {k : Int} {cs cs' : List Cl} (hR : RH h) (hM : RM s cs) (hO : COk cs) (ha : a < 18446744073709551616) (hk : k ≠ 2) (hag : agreesB h s cs = true) (hm : h.mode = 8) (e : leadH h s cs k a = .to h' cs' pl) :
    ∃ h'', leadH h' s cs' k a = .to h'' cs' pl ∧ h''.ts.length = h'.ts.length ∧ ∀ (i : Nat) (p q : SetD), h'.ts[i]? = some p → h''.ts[i]? = some q → ∀ w, q.at w = p.at w := by
  have hm' : ¬ h.mode ≠ 8 := by omega
  have e0 := e
  unfold leadH at e
  rw [if_neg hm'] at e
  split at e
  · cases e
  rename_i hva
  split at e
  · rename_i hh
    cases e
    have hok := hit_ok hh
    obtain ⟨j, kw, sj, hs, hkw, hE⟩ := used_eq hok
    have hf : findT (usedT h.ts h.asid a) h.asid a = findT h.ts h.asid a := by rw [hE]; exact find_used hs
    have hh' : hitH { h with ts := usedT h.ts h.asid a } k a = true := by
      unfold hitH
      simp only
      rw [hf]
      exact hh
    have hok' : (findT (usedT h.ts h.asid a) h.asid a).2.2.2 = true := by rw [hf]; exact hok
    refine ⟨{ h with ts := usedT (usedT h.ts h.asid a) h.asid a }, ?_, ?_, fun i p q hp hq w => used_ways hok' hp hq w⟩
    · unfold leadH
      rw [if_neg hm', if_neg hva, if_pos hh']
      show Ld.to _ cs (physE (findT (usedT h.ts h.asid a) h.asid a).1 a) = _
      rw [hf]
    · obtain ⟨j2, k2, s2, hs2, _, hE2⟩ := used_eq hok'
      show (usedT (usedT h.ts h.asid a) h.asid a).length = (usedT h.ts h.asid a).length
      rw [hE2, List.length_set]
  rename_i hh
  split at e
  · cases e
  rename_i l hw
  cases e
  have hk2 : (k == 2) = false := beq_eq_false_iff_ne.2 hk
  rw [hk2] at e0 ⊢
  have hlk := walkR_leaf hw
  obtain ⟨_, hl⟩ := look_leaf hlk
  have hml := hl.mark (d := false) hM.asc
  have hmc := cok_mark (d := false) hM hO hl.low
  have hasid := (mayS_lt hR.satp).1
  have hmay := entryOf_may (a := a) hmc hml hasid
  have hokE := entryOf_ok (a := a) hmc hml hasid
  have hva' : isVaB a = true := by simpa using hva
  have hlk2 := look_mark (d := false) hM.asc hlk
  have hal : allowsF l.pt.r l.pt.w l.pt.x l.pt.u k h.priv h.sum h.mxr = true := by
    unfold walkR at hw
    rw [hlk] at hw
    simp only at hw
    split at hw
    · assumption
    · cases hw
  by_cases hn : 0 < h.ts.length
  · obtain ⟨hR', _, _, _, _, _⟩ := lead_ok hR hM hO e0
    have hag' := agrees_lead hR hM hO ha hk hag e0
    have hcov : coversF (entryOf (markL s cs l false) a h.asid) a = true := by
      have hp := pgN_pos (l := (l.lv : Int))
      have := Nat.mod_lt (numF a) hp
      have := Nat.mod_le (numF a) (pgN (l.lv : Int))
      show (true && decide (numF a - numF a % pgN (l.lv : Int) ≤ numF a) && decide (numF a < numF a - numF a % pgN (l.lv : Int) + pgN (l.lv : Int))) = true
      rw [decide_eq_true (by omega), decide_eq_true (by omega)]
      rfl
    obtain ⟨f1, f2⟩ := put_find (v := h.vic) hR.tr hn hmay (lv_of hl.lv) rfl hcov (fun x hx hxm => by
      obtain ⟨l2, e1, e2⟩ := agree_look hR' ha hva' hag' hx hxm
      rw [show ({ h with ts := putT h.ts (entryOf (markL s cs l false) a h.asid) h.vic, vic := -1 } : Ht).ppn = h.ppn from rfl, hlk2] at e1
      cases e1
      have q1 : (l.lv : Int) = x.lv := by
        simp only [okL, Bool.and_eq_true, beq_iff_eq] at e2
        exact e2.1.1.1.1.1.1.1
      refine ⟨q1.symm, ?_⟩
      rw [← cov_vpn (allT_may hR'.tr hx) (match_cov hxm).1, ← q1]
      rfl)
    have hen : (entryOf (markL s cs l false) a h.asid).asid = h.asid := rfl
    rw [hen] at f1 f2
    have hh' : hitH { h with ts := putT h.ts (entryOf (markL s cs l false) a h.asid) h.vic, vic := -1 } k a = true := by
      unfold hitH
      simp only
      rw [f1, f2, Bool.true_and, Bool.and_eq_true]
      exact ⟨hal, by rw [show (k != 2) = true from bne_iff_ne.2 hk]; rfl⟩
    refine ⟨{ h with ts := usedT (putT h.ts (entryOf (markL s cs l false) a h.asid) h.vic) h.asid a, vic := -1 }, ?_, ?_, fun i p q hp hq w => used_ways f1 hp hq w⟩
    · unfold leadH
      rw [if_neg hm', if_neg hva, if_pos hh']
      show Ld.to _ _ (physE (findT (putT h.ts (entryOf (markL s cs l false) a h.asid) h.vic) h.asid a).1 a) = _
      rw [f2]
      rfl
    · obtain ⟨j2, k2, s2, hs2, _, hE2⟩ := used_eq f1
      show (usedT (putT h.ts (entryOf (markL s cs l false) a h.asid) h.vic) h.asid a).length = _
      rw [hE2, List.length_set]
  · have hts : h.ts = [] := List.length_eq_zero_iff.1 (by omega)
    have hpt : putT h.ts (entryOf (markL s cs l false) a h.asid) h.vic = [] := by rw [hts, putT_nil]
    have hw2 : walkR s (markM s cs l.pl false) h.ppn a k h.priv h.sum h.mxr = .leaf (markL s cs l false) := by
      unfold walkR
      rw [hlk2]
      simp only
      exact if_pos hal
    rw [hpt]
    refine ⟨{ h with ts := [], vic := -1 }, ?_, rfl, fun i p q hp _ => by cases hp⟩
    unfold leadH
    rw [if_neg hm', if_neg hva, hit_nil rfl, if_neg (by decide), hw2, hk2]
    simp only
    rw [mkL_mkL hM.asc hl, show (markL s cs l false).pl = l.pl from rfl, mark_mark hM hl.low, putT_nil]
theorem access_again {h : Ht} {s a z v : Nat} {k : Int} {cs : List Cl} (hR : RH h) (hM : RM s cs) (hO : COk cs) (ha : a < 18446744073709551616) (hk : k ≠ 2) (hag : agreesB h s cs = true) (hm : h.mode = 8) :
    (accessH (accessH h s cs k a z v).1 s (accessH h s cs k a z v).2.1 k a z v).2 = (accessH h s cs k a z v).2 ∧ (accessH (accessH h s cs k a z v).1 s (accessH h s cs k a z v).2.1 k a z v).1.ts.length = (accessH h s cs k a z v).1.ts.length ∧
      ∀ (i : Nat) (p q : SetD), (accessH h s cs k a z v).1.ts[i]? = some p → (accessH (accessH h s cs k a z v).1 s (accessH h s cs k a z v).2.1 k a z v).1.ts[i]? = some q → ∀ w, q.at w = p.at w := by
  have same : ∀ (i : Nat) (p q : SetD), h.ts[i]? = some p → h.ts[i]? = some q → ∀ w, q.at w = p.at w := fun i p q h1 h2 w => by rw [h1] at h2; cases h2; rfl
  by_cases hal : a % z ≠ 0
  · have : accessH h s cs k a z v = (h, cs, .fault 1) := by rw [accessH, if_pos hal]
    rw [this]
    simp only
    rw [this]
    exact ⟨rfl, rfl, same⟩
  cases e : leadH h s cs k a with
  | fault q =>
    have : accessH h s cs k a z v = (h, cs, .fault q) := by rw [accessH, if_neg hal, e]
    rw [this]
    simp only
    rw [this]
    exact ⟨rfl, rfl, same⟩
  | to h' cs' pl =>
    obtain ⟨h'', e2, e3, e4⟩ := lead_again hR hM hO ha hk hag hm e
    have h1 : accessH h s cs k a z v = (h', cs', resN s cs' pl z) := by rw [accessH, if_neg hal, e]; exact touch_load hk
    have h2 : accessH h' s cs' k a z v = (h'', cs', resN s cs' pl z) := by rw [accessH, if_neg hal, e2]; exact touch_load hk
    rw [h1]
    simp only
    rw [h2]
    exact ⟨rfl, e3, e4⟩
end Go.Proofs.YtmmppghdnoeheaaGreatDoor.Sx
