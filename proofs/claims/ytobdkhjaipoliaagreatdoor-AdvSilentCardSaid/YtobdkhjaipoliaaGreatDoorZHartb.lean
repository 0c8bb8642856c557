/-
  Layer 16: where the buffer tells no more than the tables, an access comes to the same without it: plain.
-/
import Derived.Test.YtobdkhjaipoliaaGreatDoorZHart
import Derived.Test.YtobdkhjaipoliaaGreatDoorZAdvf
import Derived.Test.YtobdkhjaipoliaaGreatDoorZT1
namespace Go.Proofs.YtobdkhjaipoliaaGreatDoor.Sx
open Go
set_option linter.unusedVariables false
set_option linter.unusedSimpArgs false
set_option maxRecDepth 100000
def bareH (h : Ht) : Ht := { h with ts := [] }
theorem bare_hit {h : Ht} {k : Int} {a : Nat} : hitH (bareH h) k a = false := rfl
def Ld.to? : Ld → Option (List Cl × Nat)
  | .to _ cs pl => some (cs, pl)
  | .fault _ => none
def Ld.flt : Ld → Nat
  | .to .. => 0
  | .fault q => q
theorem mk_same {w : Nat} {d : Bool} (h6 : w.testBit 6 = true) (h7 : d = true → w.testBit 7 = true) : mkN w d = w := by
  refine Nat.eq_of_testBit_eq fun i => ?_
  rw [mkN_bit]
  by_cases e6 : 6 = i
  · subst e6; rw [h6]; simp
  · rw [decide_eq_false e6, Bool.or_false]
    by_cases e7 : 7 = i
    · subst e7
      cases d
      · simp
      · rw [h7 rfl]; simp
    · rw [decide_eq_false e7, Bool.and_false, Bool.or_false]
theorem mark_same {s pl : Nat} {d : Bool} {cs : List Cl} (hM : RM s cs) (hp : pl < s) (h6 : (ptN (wordN s cs pl)).a = true) (h7 : d = true → (ptN (wordN s cs pl)).d = true) : markM s cs pl d = cs := by
  have hm := hM.mark (d := d) hp
  refine look_ext hm.asc hM.asc hm.nz hM.nz fun q => ?_
  unfold markM
  rw [look_putM hM.asc, mk_same h6 h7]
  split
  · rename_i h
    rw [h, word_in hp]
  · rfl
theorem allows_mono {r w x u r' w' x' : Bool} {k m : Int} {s mx : Bool} (hr : r = true → r' = true) (hw : w = true → w' = true) (hx : x = true → x' = true) (h : allowsF r w x u k m s mx = true) : allowsF r' w' x' u k m s mx = true := by
  unfold allowsF at h ⊢
  rw [Bool.and_eq_true] at h ⊢
  refine ⟨h.1, ?_⟩
  have h2 := h.2
  by_cases k0 : k = 0
  · rw [if_pos k0] at h2 ⊢
    exact hx h2
  · rw [if_neg k0] at h2 ⊢
    by_cases k1 : k = 1
    · rw [if_pos k1] at h2 ⊢
      rw [Bool.or_eq_true, Bool.and_eq_true] at h2 ⊢
      rcases h2 with h2 | h2
      · exact .inl (hr h2)
      · exact .inr ⟨hx h2.1, h2.2⟩
    · rw [if_neg k1] at h2 ⊢
      exact hw h2
theorem cov_vpn {e : En} {a : Nat} (hm : e.May) (h : coversF e a = true) : numF a - numF a % pgN e.lv = e.vpn := by
  simp only [coversF, Bool.and_eq_true, decide_eq_true_eq] at h
  have hv := hm.ve
  have h1 := h.1.2
  have h2 := h.2
  have hp := pgN_pos (l := e.lv)
  show a / 4096 % 134217728 - a / 4096 % 134217728 % pgN e.lv = e.vpn
  generalize a / 4096 % 134217728 = x at h1 h2 ⊢
  generalize e.vpn = y at *
  generalize pgN e.lv = p at *
  obtain ⟨q, rfl⟩ : ∃ q, y = p * q := ⟨y / p, by have := Nat.div_add_mod y p; omega⟩
  obtain ⟨d, rfl⟩ : ∃ d, x = p * q + d := ⟨x - p * q, by omega⟩
  rw [Nat.mul_add_mod, Nat.mod_eq_of_lt (by omega)]
  omega
theorem hit_walk {h : Ht} {s a : Nat} {k : Int} {cs : List Cl} (hR : RH h) (hM : RM s cs) (ha : a < 18446744073709551616) (hva : isVaB a = true) (hag : agreesB h s cs = true) (hh : hitH h k a = true) :
    ∃ l, walkR s cs h.ppn a k h.priv h.sum h.mxr = .leaf l ∧ markM s cs l.pl (k == 2) = cs ∧ physN (markL s cs l (k == 2)) a = physE (findT h.ts h.asid a).1 a := by
  simp only [hitH, Bool.and_eq_true] at hh
  obtain ⟨⟨hf, hal⟩, hk2⟩ := hh
  obtain ⟨hc, hg, hin⟩ := findT_hit hf
  generalize (findT h.ts h.asid a).1 = e at *
  have hm := allT_may hR.tr hin
  have hok := List.all_eq_true.1 hag e hin
  unfold okE at hok
  have hskip : (!e.g && e.asid != h.asid) = false := by
    rcases hg with hg | hg
    · rw [hg]; rfl
    · rw [hg]; simp
  rw [hskip, Bool.false_or] at hok
  cases hlk : lookW s cs h.ppn (vaN e.vpn) with
  | fault q => rw [hlk] at hok; cases hok
  | leaf l =>
    rw [hlk] at hok
    simp only [okL, Bool.and_eq_true, Bool.or_eq_true, beq_iff_eq, Bool.not_eq_true'] at hok
    obtain ⟨⟨⟨⟨⟨⟨⟨q1, q2⟩, q3⟩, q4⟩, q5⟩, q6⟩, q7⟩, q8⟩ := hok
    have hdiv := va_entry hm.lv ha hva
    rw [cov_vpn hm hc, ← q1] at hdiv
    have hlk2 := look_near hlk ha hdiv
    obtain ⟨_, hl⟩ := look_leaf hlk2
    have hallow : allowsF l.pt.r l.pt.w l.pt.x l.pt.u k h.priv h.sum h.mxr = true := by
      rw [q5]
      exact allows_mono (fun hx => q6.resolve_left (by rw [hx]; decide)) (fun hx => q7.resolve_left (by rw [hx]; decide)) (fun hx => q8.resolve_left (by rw [hx]; decide)) hal
    have hpa : (ptN (wordN s cs l.pl)).a = l.pt.a ∧ (ptN (wordN s cs l.pl)).d = l.pt.d := by
      obtain ⟨g, hgg⟩ := hl.pt
      rw [hgg]
      exact ⟨rfl, rfl⟩
    refine ⟨l, ?_, ?_, ?_⟩
    · unfold walkR
      rw [hlk2]
      simp only
      rw [if_pos hallow]
    · refine mark_same hM hl.low (by rw [hpa.1]; exact q3) fun hk => ?_
      rw [hpa.2]
      refine q4.resolve_left ?_
      have hkk : k = 2 := beq_iff_eq.1 hk
      rw [hkk] at hk2
      have : e.d = true := by simpa using hk2
      rw [this]
      decide
    · show l.pt.ppn * 4096 + a % szN l.lv = e.ppn * 4096 + a % szN e.lv
      rw [q1, q2]
theorem lead_flat {h : Ht} {s a : Nat} {k : Int} {cs : List Cl} (hR : RH h) (hM : RM s cs) (ha : a < 18446744073709551616) (hag : agreesB h s cs = true) : (leadH h s cs k a).to? = (leadH (bareH h) s cs k a).to? ∧ (leadH h s cs k a).flt = (leadH (bareH h) s cs k a).flt := by
  unfold leadH
  by_cases hm : h.mode ≠ 8
  · rw [if_pos hm, if_pos (show (bareH h).mode ≠ 8 from hm)]
    exact ⟨rfl, rfl⟩
  rw [if_neg hm, if_neg (show ¬ (bareH h).mode ≠ 8 from hm)]
  cases hva : isVaB a with
  | false => rw [if_pos rfl, if_pos rfl]; exact ⟨rfl, rfl⟩
  | true =>
    rw [if_neg (show ¬ true = false by decide), if_neg (show ¬ true = false by decide), if_neg (show ¬ hitH (bareH h) k a = true by rw [bare_hit]; decide)]
    show _ = (match walkR s cs h.ppn a k h.priv h.sum h.mxr with | .fault q => Ld.fault q | .leaf l => Ld.to _ _ _).to? ∧ _ = (match walkR s cs h.ppn a k h.priv h.sum h.mxr with | .fault q => Ld.fault q | .leaf l => Ld.to _ _ _).flt
    by_cases hh : hitH h k a = true
    · rw [if_pos hh]
      obtain ⟨l, h1, h2, h3⟩ := hit_walk hR hM ha hva hag hh
      rw [h1]
      simp only [Ld.to?, Ld.flt]
      rw [h2, h3]
      exact ⟨rfl, trivial⟩
    · rw [if_neg hh]
      cases walkR s cs h.ppn a k h.priv h.sum h.mxr <;> exact ⟨rfl, rfl⟩
theorem access_flat {h : Ht} {s a z v : Nat} {k : Int} {cs : List Cl} (hR : RH h) (hM : RM s cs) (ha : a < 18446744073709551616) (hag : agreesB h s cs = true) : (accessH h s cs k a z v).2 = (accessH (bareH h) s cs k a z v).2 := by
  obtain ⟨h1, h2⟩ := lead_flat (k := k) hR hM ha hag
  unfold accessH
  split
  · rfl
  · generalize leadH h s cs k a = x at h1 h2
    generalize leadH (bareH h) s cs k a = y at h1 h2
    cases x with
    | fault q =>
      cases y with
      | fault q' => simp only [Ld.flt] at h2; subst h2; rfl
      | to h' cs' pl => cases h1
    | to h' cs' pl =>
      cases y with
      | fault q' => cases h1
      | to h'' cs'' pl' =>
        simp only [Ld.to?, Option.some.injEq, Prod.mk.injEq] at h1
        obtain ⟨rfl, rfl⟩ := h1
        simp only [touchH]
        split
        · split <;> rfl
        · rfl
theorem used_eq {ts : List SetD} {n a : Nat} (h : (findT ts n a).2.2.2 = true) : ∃ (j k : Nat) (s : SetD), ts[j]? = some s ∧ k < 4 ∧ usedT ts n a = ts.set j (s.use k) := by
  obtain ⟨l, j, k, s, _, hs, _, hk, _, _, hE⟩ := findT_use h
  refine ⟨j, k, s, hs, hk, ?_⟩
  rw [usedT, hE]
  simp only
  rw [hs]
  rfl
theorem hit_ok {h : Ht} {k : Int} {a : Nat} (hh : hitH h k a = true) : (findT h.ts h.asid a).2.2.2 = true := by
  simp only [hitH, Bool.and_eq_true] at hh
  exact hh.1.1
structure Same6 (h x : Ht) : Prop where
  mode : x.mode = h.mode
  asid : x.asid = h.asid
  ppn : x.ppn = h.ppn
  priv : x.priv = h.priv
  sum : x.sum = h.sum
  mxr : x.mxr = h.mxr
theorem Same6.self {h : Ht} : Same6 h h := ⟨rfl, rfl, rfl, rfl, rfl, rfl⟩
theorem Same6.bare {h : Ht} : Same6 h (bareH h) := ⟨rfl, rfl, rfl, rfl, rfl, rfl⟩
theorem Same6.trans {h x y : Ht} (p : Same6 h x) (q : Same6 x y) : Same6 h y := ⟨q.mode.trans p.mode, q.asid.trans p.asid, q.ppn.trans p.ppn, q.priv.trans p.priv, q.sum.trans p.sum, q.mxr.trans p.mxr⟩
theorem lead_ok {h h' : Ht} {s pl a : Nat} {k : Int} {cs cs' : List Cl} (hR : RH h) (hM : RM s cs) (hO : COk cs) (e : leadH h s cs k a = .to h' cs' pl) :
    RH h' ∧ RM s cs' ∧ COk cs' ∧ cs'.length ≤ cs.length + 1 ∧ Same6 h h' ∧ h'.ts.length = h.ts.length := by
  unfold leadH at e
  split at e
  · cases e; exact ⟨hR, hM, hO, by omega, .self, rfl⟩
  split at e
  · cases e
  split at e
  · rename_i hh
    cases e
    obtain ⟨j, kw, sj, hs, hk, hE⟩ := used_eq (hit_ok hh)
    refine ⟨⟨?_, hR.satp, hR.priv⟩, hM, hO, by omega, ⟨rfl, rfl, rfl, rfl, rfl, rfl⟩, ?_⟩
    · show TR (usedT h.ts h.asid a)
      rw [hE]
      exact hR.tr.use hs hk
    · show (usedT h.ts h.asid a).length = _
      rw [hE, List.length_set]
  split at e
  · cases e
  · rename_i l hw
    cases e
    have hl := (look_leaf (walkR_leaf hw)).2
    have hml := hl.mark (d := k == 2) hM.asc
    have hmc := cok_mark (d := k == 2) hM hO hl.low
    have hasid := (mayS_lt hR.satp).1
    exact ⟨⟨hR.tr.put (entryOf_ok hmc hml hasid) (entryOf_may hmc hml hasid), hR.satp, hR.priv⟩, hM.mark hl.low, hmc, len_mark, ⟨rfl, rfl, rfl, rfl, rfl, rfl⟩, putT_len⟩
end Go.Proofs.YtobdkhjaipoliaaGreatDoor.Sx
