/-
  Layer 16, 17: what bringing does to what the tables tell: plain.
-/
import Derived.Test.YtobdkhjaipoliaaGreatDoorZAdve
namespace Go.Proofs.YtobdkhjaipoliaaGreatDoor.Sx
open Go
set_option linter.unusedVariables false
set_option linter.unusedSimpArgs false
set_option maxRecDepth 100000
def mkLk (s : Nat) (cs : List Cl) (pl : Nat) (d : Bool) : Lk → Lk
  | .leaf r => if r.pl = pl then .leaf (markL s cs r d) else .leaf r
  | .fault q => .fault q
theorem down_mark_any {s a : Nat} {cs : List Cl} {l0 : Lf} {d : Bool} (hs : Asc cs) (h0 : LeafOk s cs l0) : ∀ {l t : Nat} {g : Bool}, downN s (markM s cs l0.pl d) a l t g = mkLk s cs l0.pl d (downN s cs a l t g) := by
  have hlf0 : (ptN (wordN s cs l0.pl)).leaf = true := by
    obtain ⟨g', hg'⟩ := h0.pt
    have := h0.leaf
    rw [hg'] at this
    exact this
  have hal := h0.al
  intro l
  induction l with
  | zero =>
    intro t g
    have h8 := slot_mod (t := t) (a := a) (l := 0)
    rw [down_eq (cs := markM s cs l0.pl d) (l := 0) (t := t) (g := g), down_eq (cs := cs) (l := 0) (t := t) (g := g)]
    by_cases h1 : s ≤ slotN t a 0
    · rw [if_pos h1, if_pos h1]; rfl
    rw [if_neg h1, if_neg h1, word_mark hs (by omega)]
    by_cases hp : slotN t a 0 / 8 = l0.pl / 8
    · have hp' : slotN t a 0 = l0.pl := by omega
      rw [if_pos hp, pt_mk, hp']
      have hb2 := Pt.bad_ad (p := ptN (wordN s cs l0.pl)) (l := ((0 : Nat) : Int)) (a := true) (d := (ptN (wordN s cs l0.pl)).d || d) (g := (ptN (wordN s cs l0.pl)).g) hlf0
      have hlk := Pt.link_leaf hlf0
      by_cases h2 : (ptN (wordN s cs l0.pl)).bad ((0 : Nat) : Int) = true
      · rw [if_pos (by rw [hb2]; exact h2), if_pos h2]; rfl
      rw [if_neg (by rw [hb2]; exact h2), if_neg h2, if_neg (by rw [show ({ ptN (wordN s cs l0.pl) with a := true, d := (ptN (wordN s cs l0.pl)).d || d } : Pt).link = (ptN (wordN s cs l0.pl)).link from rfl, hlk]; decide), if_neg (by rw [hlk]; decide)]
      show _ = if l0.pl = l0.pl then _ else _
      rw [if_pos rfl]
      rfl
    · rw [if_neg hp]
      by_cases h2 : (ptN (wordN s cs (slotN t a 0))).bad ((0 : Nat) : Int) = true
      · rw [if_pos h2, if_pos h2]; rfl
      rw [if_neg h2, if_neg h2]
      have hlk := Pt.link_low (p := ptN (wordN s cs (slotN t a 0))) (by simpa using h2)
      rw [if_neg (by rw [hlk]; decide), if_neg (by rw [hlk]; decide)]
      show _ = if slotN t a 0 = l0.pl then _ else _
      rw [if_neg (by omega)]
  | succ l ih =>
    intro t g
    have h8 := slot_mod (t := t) (a := a) (l := l + 1)
    rw [down_eq (cs := markM s cs l0.pl d) (l := l + 1) (t := t) (g := g), down_eq (cs := cs) (l := l + 1) (t := t) (g := g)]
    by_cases h1 : s ≤ slotN t a (l + 1)
    · rw [if_pos h1, if_pos h1]; rfl
    rw [if_neg h1, if_neg h1, word_mark hs (by omega)]
    by_cases hp : slotN t a (l + 1) / 8 = l0.pl / 8
    · have hp' : slotN t a (l + 1) = l0.pl := by omega
      rw [if_pos hp, pt_mk, hp']
      have hb2 := Pt.bad_ad (p := ptN (wordN s cs l0.pl)) (l := ((l + 1 : Nat) : Int)) (a := true) (d := (ptN (wordN s cs l0.pl)).d || d) (g := (ptN (wordN s cs l0.pl)).g) hlf0
      have hlk := Pt.link_leaf hlf0
      by_cases h2 : (ptN (wordN s cs l0.pl)).bad ((l + 1 : Nat) : Int) = true
      · rw [if_pos (by rw [hb2]; exact h2), if_pos h2]; rfl
      rw [if_neg (by rw [hb2]; exact h2), if_neg h2, if_neg (by rw [show ({ ptN (wordN s cs l0.pl) with a := true, d := (ptN (wordN s cs l0.pl)).d || d } : Pt).link = (ptN (wordN s cs l0.pl)).link from rfl, hlk]; decide), if_neg (by rw [hlk]; decide)]
      show _ = if l0.pl = l0.pl then _ else _
      rw [if_pos rfl]
      rfl
    · rw [if_neg hp]
      by_cases h2 : (ptN (wordN s cs (slotN t a (l + 1)))).bad ((l + 1 : Nat) : Int) = true
      · rw [if_pos h2, if_pos h2]; rfl
      rw [if_neg h2, if_neg h2]
      by_cases hlk : (ptN (wordN s cs (slotN t a (l + 1)))).link = true
      · rw [if_pos hlk, if_pos hlk]
        exact ih
      · rw [if_neg hlk, if_neg hlk]
        show _ = if slotN t a (l + 1) = l0.pl then _ else _
        rw [if_neg (by omega)]
theorem look_mark_any {s t a : Nat} {cs : List Cl} {l0 : Lf} {d : Bool} (hs : Asc cs) (h0 : LeafOk s cs l0) : lookW s (markM s cs l0.pl d) t a = mkLk s cs l0.pl d (lookW s cs t a) := by
  unfold lookW
  split
  · exact down_mark_any hs h0
  · rfl
theorem okE_mark {p n s : Nat} {cs : List Cl} {l0 : Lf} {e : En} (hs : Asc cs) (h0 : LeafOk s cs l0) (ho : okE p n s cs e = true) : okE p n s (markM s cs l0.pl false) e = true := by
  unfold okE at ho ⊢
  rw [look_mark_any hs h0]
  rw [Bool.or_eq_true] at ho ⊢
  rcases ho with ho | ho
  · exact .inl ho
  right
  cases hlk : lookW s cs p (vaN e.vpn) with
  | fault q => rw [hlk] at ho; cases ho
  | leaf r =>
    rw [hlk] at ho
    have hr := (look_leaf hlk).2
    unfold mkLk
    simp only at ho ⊢
    split
    · rename_i r' hr'
      split at hr'
      · cases hr'
        have hd : (ptN (wordN s cs r.pl)).d = r.pt.d := by
          obtain ⟨g, hg⟩ := hr.pt
          rw [hg]
        have e2 : markL s cs r false = { r with pt := { r.pt with a := true } } := by
          unfold markL
          rw [hd, Bool.or_false]
        rw [e2]
        simp only [okL, Bool.and_eq_true] at ho ⊢
        exact ⟨⟨⟨⟨⟨⟨⟨ho.1.1.1.1.1.1.1, ho.1.1.1.1.1.1.2⟩, trivial⟩, ho.1.1.1.1.2⟩, ho.1.1.1.2⟩, ho.1.1.2⟩, ho.1.2⟩, ho.2⟩
      · cases hr'
        exact ho
    · rename_i q hq
      split at hq <;> cases hq
theorem sign_lo {w : Nat} (h : w < 274877906944) : signN w 39 = w := (sign_va (by omega)).2 (.inl h)
theorem sign_hi {w : Nat} (h : w < 549755813888) (h2 : 274877906944 ≤ w) : signN w 39 = w + 18446743523953737728 := by
  refine Nat.eq_of_testBit_eq fun i => ?_
  unfold signN
  rw [ofF_testBit]
  have e : w + 18446743523953737728 = 2 ^ 39 * (2 ^ 25 - 1) + w := by omega
  have h38 : w.testBit 38 = true := by
    rw [Nat.testBit_eq_decide_div_mod_eq, decide_eq_true]
    omega
  rw [e, Nat.testBit_two_pow_mul_add _ (show w < 2 ^ 39 from h)]
  by_cases hi : i < 64
  · rw [decide_eq_true hi, Bool.true_and]
    by_cases h39 : i < 39
    · rw [if_pos h39, Nat.min_eq_left (by omega)]
    · rw [if_neg h39, Nat.min_eq_right (by omega), h38, Nat.testBit_two_pow_sub_one, decide_eq_true (by omega)]
  · rw [decide_eq_false hi, Bool.false_and, if_neg (by omega), Nat.testBit_two_pow_sub_one, decide_eq_false (by omega)]
theorem va_entry {a : Nat} {l : Int} (hl : Lv l) (ha : a < 18446744073709551616) (hv : isVaB a = true) : vaN (numF a - numF a % pgN l) / szN l = a / szN l := by
  simp only [isVaB, decide_eq_true_eq] at hv
  unfold vaN numF
  have e := szN_eq (l := l)
  have key : ∀ p : Nat, (p = 1 ∨ p = 512 ∨ p = 262144) → signN ((a / 4096 % 134217728 - a / 4096 % 134217728 % p) % 134217728 * 4096) 39 / (4096 * p) = a / (4096 * p) := fun p hp => by
    rcases hv with hv | hv
    · rw [sign_lo (by omega)]
      rcases hp with rfl | rfl | rfl <;> omega
    · by_cases hq : (a / 4096 % 134217728 - a / 4096 % 134217728 % p) % 134217728 * 4096 < 274877906944
      · exfalso
        rcases hp with rfl | rfl | rfl <;> omega
      · rw [sign_hi (by omega) (by omega)]
        rcases hp with rfl | rfl | rfl <;> omega
  rw [e]
  refine key (pgN l) ?_
  rcases hl with rfl | rfl | rfl
  · exact .inl rfl
  · exact .inr (.inl rfl)
  · exact .inr (.inr rfl)
theorem dW_or {e w : En} : dW e w = En.zero ∨ dW e w = w := by
  unfold dW
  split
  · exact .inl rfl
  · exact .inr rfl
theorem mem_allT_iff {ts : List SetD} {e : En} : e ∈ allT ts ↔ (∃ s ∈ ts, e ∈ s.en) ∧ e.v = true := by
  simp only [allT, enT, List.mem_filter, List.mem_flatMap]
theorem mem_set_all {ts : List SetD} {j : Nat} {s' : SetD} {e : En} (h : e ∈ allT (ts.set j s')) : e ∈ s'.en ∨ e ∈ allT ts := by
  obtain ⟨⟨s, hs, he⟩, hv⟩ := mem_allT_iff.1 h
  rcases List.mem_or_eq_of_mem_set hs with hs | rfl
  · exact .inr (mem_allT_iff.2 ⟨⟨s, hs, he⟩, hv⟩)
  · exact .inl he
theorem mem_putT {ts : List SetD} {e x : En} {v : Int} (hT : TR ts) (h : x ∈ allT (putT ts e v)) : x = e ∨ x ∈ allT ts := by
  rcases putT_cases (ts := ts) (e := e) (v := v) with ⟨_, hp⟩ | ⟨s, hs, hp⟩
  · rw [hp] at h; cases h
  · rw [hp, setPut_W (hT.tree hs)] at h
    have hxv := (mem_allT_iff.1 h).2
    rcases mem_set_all h with h | h
    · have hold : ∀ w ∈ s.en, x = dW e w → x ∈ allT ts := fun w hw hx => by
        rcases dW_or (e := e) (w := w) with q | q
        · rw [hx, q] at hxv; cases hxv
        · rw [hx, q] at hxv ⊢
          exact mem_allT_iff.2 ⟨⟨s, List.mem_of_getElem? hs, hw⟩, hxv⟩
      have hk := setPutK_lt (e := e) (v := v) (hT.tree hs)
      generalize setPutK s e v = k at h hk
      have m0 : s.w0 ∈ s.en := by simp [SetD.en]
      have m1 : s.w1 ∈ s.en := by simp [SetD.en]
      have m2 : s.w2 ∈ s.en := by simp [SetD.en]
      have m3 : s.w3 ∈ s.en := by simp [SetD.en]
      have hcase : k = 0 ∨ k = 1 ∨ k = 2 ∨ k = 3 := by omega
      rcases hcase with rfl | rfl | rfl | rfl
      · rw [putW_0] at h
        simp only [SetD.en, List.mem_cons, List.not_mem_nil, or_false] at h
        rcases h with h | h | h | h
        · exact .inl h
        · exact .inr (hold _ m1 h)
        · exact .inr (hold _ m2 h)
        · exact .inr (hold _ m3 h)
      · rw [putW_1] at h
        simp only [SetD.en, List.mem_cons, List.not_mem_nil, or_false] at h
        rcases h with h | h | h | h
        · exact .inr (hold _ m0 h)
        · exact .inl h
        · exact .inr (hold _ m2 h)
        · exact .inr (hold _ m3 h)
      · rw [putW_2] at h
        simp only [SetD.en, List.mem_cons, List.not_mem_nil, or_false] at h
        rcases h with h | h | h | h
        · exact .inr (hold _ m0 h)
        · exact .inr (hold _ m1 h)
        · exact .inl h
        · exact .inr (hold _ m3 h)
      · rw [putW_3] at h
        simp only [SetD.en, List.mem_cons, List.not_mem_nil, or_false] at h
        rcases h with h | h | h | h
        · exact .inr (hold _ m0 h)
        · exact .inr (hold _ m1 h)
        · exact .inr (hold _ m2 h)
        · exact .inl h
    · exact .inr h
theorem mem_dropT {ts : List SetD} {x : En} {j w : Int} (h : x ∈ allT (dropT ts j w).1) : x ∈ allT ts := by
  have hxv := (mem_allT_iff.1 h).2
  unfold dropT at h
  split at h
  · rename_i hc
    split at h
    · rename_i s hs
      rcases mem_set_all h with h | h
      · have hz : x ≠ En.zero := fun e => by rw [e] at hxv; cases hxv
        refine mem_allT_iff.2 ⟨⟨s, List.mem_of_getElem? hs, ?_⟩, hxv⟩
        generalize w.toNat = k at h
        unfold SetD.put at h
        split at h <;> simp only [SetD.en, List.mem_cons, List.not_mem_nil, or_false] at h ⊢ <;> rcases h with h | h | h | h <;> first | exact absurd h hz | simp [h]
      · exact h
    · exact h
  · exact h
theorem agrees_drop {h : Ht} {s : Nat} {cs : List Cl} {j w : Int} (ha : agreesB h s cs = true) : agreesB { h with ts := (dropT h.ts j w).1 } s cs = true := by
  rw [agreesB, List.all_eq_true] at ha ⊢
  intro e he
  exact ha e (mem_dropT he)
theorem agrees_pick {h : Ht} {s : Nat} {cs : List Cl} {w : Int} (ha : agreesB h s cs = true) : agreesB (pickV h w) s cs = true := by
  unfold pickV
  split
  · exact ha
  · exact ha
theorem agrees_bring {h : Ht} {s a : Nat} {cs : List Cl} (hR : RH h) (hM : RM s cs) (hO : COk cs) (hav : a < 18446744073709551616) (ha : agreesB h s cs = true) : agreesB (bringH h s cs a) s (bringM h s cs a) = true := by
  cases hb : bringL h s cs a with
  | none => rw [bringH_none hb, bringM_none hb]; exact ha
  | some l =>
    obtain ⟨hm, hlk⟩ := bringL_of hb
    obtain ⟨hva, hl⟩ := look_leaf hlk
    rw [bringH_some hb, bringM_some hb]
    rw [agreesB, List.all_eq_true] at ha ⊢
    intro e he
    rcases mem_putT hR.tr he with rfl | he
    · have hlk2 := look_mark (d := false) hM.asc hlk
      have hnear := look_near (b := vaN (entryOf (markL s cs l false) a h.asid).vpn) hlk2 (signN_lt ..) (va_entry (lv_of hl.lv) hav hva).symm
      have hk : okL (entryOf (markL s cs l false) a h.asid) (markL s cs l false) = true := by
        have hma : (markL s cs l false).pt.a = true := rfl
        unfold okL entryOf
        simp only [hma]
        cases (markL s cs l false).pt.d <;> cases (markL s cs l false).pt.r <;> cases (markL s cs l false).pt.w <;> cases (markL s cs l false).pt.x <;> simp
      show okE h.ppn h.asid s (markM s cs l.pl false) _ = true
      unfold okE
      rw [hnear]
      simp only
      rw [hk, Bool.or_true]
    · show okE h.ppn h.asid s (markM s cs l.pl false) e = true
      exact okE_mark hM.asc hl (ha e he)
end Go.Proofs.YtobdkhjaipoliaaGreatDoor.Sx
