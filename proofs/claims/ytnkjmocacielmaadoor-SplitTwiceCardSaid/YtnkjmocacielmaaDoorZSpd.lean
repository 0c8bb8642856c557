/-
 Layer 20: the way down, made: contracts.
-/
import Derived.Test.YtnkjmocacielmaaDoorZSpc
namespace Go.Proofs.YtnkjmocacielmaaDoor.Sx
open Go
set_option linter.unusedVariables false
set_option linter.unusedSimpArgs false
set_option maxRecDepth 100000
theorem leafless {p : Pt} (h : p.link = true) : p.leaf = false := by
 obtain ⟨v, r, w, x, u, g, a, d, rsw, ppn, high⟩ := p
 cases v <;> cases r <;> cases x <;> simp_all [Pt.link, Pt.leaf]
theorem link_con {n : Nat} : Cn gAll 30 [u n] [(lkP n).dv] := by
 refine con rfl rfl split_link_c split_link_p rfl ?_
 unfold split_link_ir
 simp only [lv_cons, lv_nil, app_cons, app_nil]
 exact wp_return rfl rfl
abbrev spotZ : DV := (true, U 0 :: I (0 : Nat) :: Pt.zero.ds)
def dwM (b a : Nat) (cs : List Cl) (l t x : Nat) : List Cl := putM (clrF cs (b + x)) (t * 512 + ixN a l) (wdN (lkP (b + x)))
def downS (s b a w : Nat) : Nat → List Cl → Nat → Nat → Nat × List Cl × Nat × Nat
 | 0, cs, f, t => (0, cs, f, t)
 | l + 1, cs, f, t => if l + 1 ≤ w then (0, cs, f, t) else if (ptA s cs t a (l + 1)).leaf = true then (6, cs, f, t) else if (ptA s cs t a (l + 1)).v = true then downS s b a w l cs f (ptA s cs t a (l + 1)).ppn else
  match takeN f with
  | none => (8, cs, f, t)
  | some x => downS s b a w l (dwM b a cs (l + 1) t x) (setN f x 1 0) (b + x)
def resD (s b : Nat) (m : Int) (a w : Nat) (cs0 : List Cl) (f0 : Nat) (r : Nat × List Cl × Nat × Nat) : List DV :=
 if r.1 = 0 then [md 2 s r.2.1, plD b m r.2.2.1, spotD s r.2.1 a (w, r.2.2.2), i (0 : Nat)] else [md 2 s cs0, plD b m f0, spotZ, i (r.1 : Nat)]
theorem down_reach {s b a w f : Nat} {cs : List Cl} : ∀ {l t : Nat}, downS s b a w l cs f t = downS s b a w (reachN s cs a w l t).1 cs f (reachN s cs a w l t).2
 | 0, t => rfl
 | l + 1, t => by
  by_cases hc : w < l + 1 ∧ lnkE s cs t (l + 1) (ixN a (l + 1)) = true
  ·have e : reachN s cs a w (l + 1) t = reachN s cs a w l (ptA s cs t a (l + 1)).ppn := by rw [reach_succ, if_pos hc]; rfl
   have hk := hc.2
   change lnkB (ptA s cs t a (l + 1)) _ = true at hk
   rw [lnkB, Bool.and_eq_true] at hk
   have hv : (ptA s cs t a (l + 1)).v = true := by
    have := hk.1
    simp only [Pt.link, Bool.and_eq_true] at this
    exact this.1.1
   rw [e, downS, if_neg (by omega), if_neg (by rw [leafless hk.1]; decide), if_pos hv]
   exact down_reach
  ·rw [reach_succ, if_neg hc]
theorem dw_step {s b f l t a w x : Nat} {m : Int} {cs : List Cl} (h : WayOk s b f m cs a l t) {r : Nat × Nat} (hr : reachN s cs a w l t = r) (h0 : w < r.1) (hx : (x : Int) < m) (hfx : f.testBit x = true) :
 reachN s (dwM b a cs r.1 r.2 x) a w l t = (r.1 - 1, b + x) ∧ WayOk s b (setN f x 1 0) m (dwM b a cs r.1 r.2 x) a l t ∧ ptN (entN s (dwM b a cs r.1 r.2 x) r.2 (ixN a r.1)) = lkP (b + x) ∧ (dwM b a cs r.1 r.2 x).length ≤ cs.length + 1 := by
 have hlow : r.2 < s / 4096 := h.low _ (path_pre.subset (hr ▸ reach_path (s := s) (a := a) (w := w) (cs := cs) (l := l) (t := t)))
 have hix := ixN_lt (a := a) (l := r.1)
 have he := h.rm.even
 have hm := h.rm.most
 have hc := clrF_rm (fr := b + x) h.rm
 have hcl := clrF_len (fr := b + x) h.rm.asc
 have hln := len_put (cs := clrF cs (b + x)) (p := r.2 * 512 + ixN a r.1) (v := wdN (lkP (b + x)))
 obtain ⟨h1, h2, h3⟩ := way_step (cs' := dwM b a cs r.1 r.2 x) (g := fun _ => 0) h hr h0 hx hfx (hc.put (by omega)) (cok_put hc.asc (clrF_cok h.rm.asc h.cok) (by omega) wdN_lt) (fun t' j hj => by
  rw [dwM, ent_put hc hlow ixN_lt hj, ent_clr h.rm.asc hj]) (fun j hj => by rw [ptN_zero]; rfl) (.inl (by rw [ptN_zero]; rfl))
 exact ⟨h1, h2, h3, by unfold dwM; omega⟩
theorem down_con {s b f t l a w : Nat} {m : Int} {cs : List Cl} (h : WayOk s b f m cs a l t) (ha : a < 18446744073709551616) (hlen : cs.length ≤ 5000) (hw : w ≤ l) :
 Cn gAll 10 [md 2 s cs, plD b m f, u t, i l, u a, i w] (resD s b m a w cs f (downS s b a w l cs f t)) := by
 have hl2 := h.le
 have ht := h.len0
 have hmost := h.rm.most
 refine con rfl rfl split_Down_c split_Down_p rfl ?_
 unfold split_Down_ir
 simp only [lv_cons, lv_nil, app_cons, app_nil]
 obtain ⟨D0, hD0⟩ : ∃ D0, D0 = downS s b a w l cs f t := ⟨_, rfl⟩
 rw [← hD0]
 rw [down_reach] at hD0
 refine wp_rounds (fun k ds => ∃ (d : D) (cs' : List Cl) (f' : Nat), ds = [d, U s, .sl 2 (crs cs'), U b, I m, U f'] ∧ WayOk s b f' m cs' a l t ∧ D0 = downS s b a w (reachN s cs' a w l t).1 cs' f' (reachN s cs' a w l t).2 ∧ (reachN s cs' a w l t).1 + 1 ≤ k ∧ cs'.length + (reachN s cs' a w l t).1 ≤ 6000) 3 rfl ⟨_, cs, f, rfl, h, hD0, by have := (reach_mem (s := s) (a := a) (w := w) (cs := cs) (l := l) (t := t)).2; omega, by have := (reach_mem (s := s) (a := a) (w := w) (cs := cs) (l := l) (t := t)).2; omega⟩ ?_
  (fun es hes => by obtain ⟨_, _, _, _, _, _, h1, _⟩ := hes; omega)
 rintro k es Q ⟨d, cs', f', rfl, h', hD, hk, hln⟩ hQ
 simp only [lv_cons, lv_nil, app_cons, app_nil]
 refine wp_call rfl (reach_con (s := s) (t := t) (a := a) (l := l) (want := w) h'.rm.asc h'.cok (by omega) ha hl2 (by omega) (by omega)) rfl ?_
 have hwl := reach_low (s := s) (a := a) (w := w) (cs := cs') (l := l) (t := t) hw
 have hpath := path_pre.subset (reach_path (s := s) (a := a) (w := w) (cs := cs') (l := l) (t := t))
 have hrl := (reach_mem (s := s) (a := a) (w := w) (cs := cs') (l := l) (t := t)).2
 obtain ⟨r, hr⟩ : ∃ r, r = reachN s cs' a w l t := ⟨_, rfl⟩
 rw [← hr] at hD hk hln hwl hpath hrl ⊢
 have hlow := h'.low _ hpath
 have hstop := fun h0 => h'.stop hr.symm h0
 obtain ⟨p, hp⟩ : ∃ p, p = ptA s cs' r.2 a r.1 := ⟨_, rfl⟩
 rw [← hp] at hstop
 rw [spotD, ← hp]
 simp only [lv_cons, lv_nil, Pt.ds, Lf.ds, app_cons, app_nil]
 refine wp_lt (d := .b (r.1 == w)) (cmp_e (e_eql rfl rfl) (by rw [Bool.eq_iff_iff, beq_iff_eq, beq_iff_eq]; omega)) ?_
 simp only [lv_cons, lv_nil, app_cons, app_nil]
 refine wp_ite rfl (fun he => ?_) (fun he => ?_)
 ·have he : r.1 = w := by simpa using he
  refine wp_return rfl ?_
  have hD' : D0 = (0, cs', f', r.2) := by
   rw [hD]
   cases hr1 : r.1 with
   | zero => rfl
   | succ n => rw [downS, if_pos (by omega)]
  rw [resD, hD', if_pos rfl, spotD, ← he, ← hp]
  rfl
 ·have he : w < r.1 := by have : ¬ r.1 = w := by simpa using he
                          omega
  obtain ⟨hv, hlk, hbd⟩ := hstop he
  obtain ⟨n, hn⟩ : ∃ n, r.1 = n + 1 := ⟨r.1 - 1, by omega⟩
  rw [hn, downS, if_neg (by omega), ← hn, ← hp] at hD
  refine wp_ite rfl (fun hpv => ?_) (fun hpv => ?_)
  ·rw [← hv, if_pos hpv] at hD
   refine wp_return rfl ?_
   rw [resD, hD]
   rfl
  ·rw [← hv, if_neg (by rw [hpv]; decide), if_neg (by rw [hpv]; decide)] at hD
   rcases take_cases h'.pool with ⟨rfl, htk⟩ | ⟨x, htk, hx, hfx, hmin⟩
   ·refine wp_call rfl fresh_none rfl ?_
    simp only [lv_cons, lv_nil, app_cons, app_nil]
    refine wp_lt (d := (.b true)) rfl ?_
    simp only [lv_cons, lv_nil, app_cons, app_nil]
    refine wp_ite (t := true) rfl (fun _ => ?_) (fun h => by cases h)
    rw [htk] at hD
    refine wp_return rfl ?_
    rw [resD, hD]
    rfl
   ·rw [htk] at hD
    refine wp_call rfl (fresh_some h'.pool hx hfx hmin h'.rm.asc (by omega)) rfl ?_
    simp only [lv_cons, lv_nil, app_cons, app_nil]
    refine wp_lt (d := (.b false)) rfl ?_
    simp only [lv_cons, lv_nil, app_cons, app_nil]
    refine wp_ite (t := false) rfl (fun h => by cases h) (fun _ => ?_)
    obtain ⟨g1, g2, g3, g4⟩ := dw_step h' hr.symm he hx hfx
    have hcl := clrF_len (fr := b + x) h'.rm.asc
    have hhi := h'.pool.hi
    have hbs := h'.pool.bs
    refine wp_call rfl (link_con (n := b + x)) rfl ?_
    simp only [lv_cons, lv_nil, Pt.ds, Lf.ds, app_cons, app_nil]
    refine wp_call rfl (with_con (q := p) (clrF_rm h'.rm) (clrF_cok h'.rm.asc h'.cok) (by omega) ha (by omega) hlow (lkP_may (by omega))) rfl ?_
    simp only [lv_cons, lv_nil, app_cons, app_nil]
    refine wp_cont rfl rfl (hQ _ ⟨_, dwM b a cs' r.1 r.2 x, setN f' x 1 0, rfl, g2, ?_, by rw [g1]; simp only; omega, by rw [g1]; simp only; omega⟩)
    rw [g1, hD]
    simp only [hn, Nat.add_sub_cancel]
theorem refDownS_con {s b f t l a w : Nat} {m : Int} {cs : List Cl} (h : WayOk s b f m cs a l t) (ha : a < 18446744073709551616) (hlen : cs.length ≤ 5000) (hw : w ≤ l) :
 Cn gAll 11 [md 2 s cs, plD b m f, u t, i l, u a, i w] (resD s b m a w cs f (downS s b a w l cs f t)) := by
 have hl2 := h.le
 have ht := h.len0
 have hmost := h.rm.most
 refine con rfl rfl atlasref20_Down_c atlasref20_Down_p rfl ?_
 unfold atlasref20_Down_ir
 simp only [lv_cons, lv_nil, app_cons, app_nil]
 obtain ⟨D0, hD0⟩ : ∃ D0, D0 = downS s b a w l cs f t := ⟨_, rfl⟩
 rw [← hD0]
 refine wp_rounds (fun k ds => ∃ (d : D) (cs' : List Cl) (f' at' l' : Nat), ds = [d, U at', I l', U s, .sl 2 (crs cs'), U b, I m, U f'] ∧ WayOk s b f' m cs' a l' at' ∧ D0 = downS s b a w l' cs' f' at' ∧ l' + 1 ≤ k ∧ cs'.length + l' ≤ 6000 ∧ w ≤ l') 3 rfl ⟨_, cs, f, t, l, rfl, h, hD0, by omega, by omega, hw⟩ ?_
  (fun es hes => by obtain ⟨_, _, _, _, _, _, _, _, h1, _⟩ := hes; omega)
 rintro k es Q ⟨d, cs', f', at', l', rfl, h', hD, hk, hln, hwl⟩ hQ
 have hl2' := h'.le
 have hlow := h'.len0
 have hix := ixN_lt (a := a) (l := l')
 simp only [lv_cons, lv_nil, app_cons, app_nil]
 refine wp_lt (d := .b (decide (w < l'))) (cmp_e (e_gtr rfl rfl) (by rw [Bool.eq_iff_iff, decide_eq_true_eq, decide_eq_true_eq]; omega)) ?_
 simp only [lv_cons, lv_nil, app_cons, app_nil]
 refine wp_ite rfl (fun he => ?_) (fun he => ?_)
 ·have he := of_decide_eq_true he
  obtain ⟨n, rfl⟩ : ∃ n, l' = n + 1 := ⟨l' - 1, by omega⟩
  refine wp_call rfl (refIndex05_con ha hl2') rfl ?_
  simp only [lv_cons, lv_nil, app_cons, app_nil]
  refine wp_call rfl (refAt_con (s := s) (t := at') (j := ixN a (n + 1)) h'.rm.asc h'.cok (by omega) (by omega)) rfl ?_
  obtain ⟨p, hp⟩ : ∃ p, p = ptA s cs' at' a (n + 1) := ⟨_, rfl⟩
  have hpt : ptN (entN s cs' at' (ixN a (n + 1))) = p := hp.symm
  have hmay : p.May := by rw [hp]; exact ptN_may (wordN_lt h'.cok)
  rw [hpt]
  rw [downS, if_neg (by omega), ← hp] at hD
  simp only [lv_cons, lv_nil, Pt.ds, Lf.ds, app_cons, app_nil]
  refine wp_call rfl (refLeaf_con (p := p)) rfl ?_
  simp only [lv_cons, lv_nil, app_cons, app_nil]
  refine wp_ite rfl (fun hlf => ?_) (fun hlf => ?_)
  ·rw [if_pos hlf] at hD
   refine wp_return rfl ?_
   rw [resD, hD]
   rfl
  rw [if_neg (by rw [hlf]; decide)] at hD
  refine wp_lt (d := .b (!p.v)) (not_e rfl) ?_
  simp only [lv_cons, lv_nil, app_cons, app_nil]
  refine wp_ite rfl (fun hpv => ?_) (fun hpv => ?_)
  ·have hpv : p.v = false := by simpa using hpv
   rw [if_neg (by rw [hpv]; decide)] at hD
   have hlk0 : p.link = false := by rw [Pt.link, hpv]; rfl
   have hr : reachN s cs' a 0 (n + 1) at' = (n + 1, at') := by
    rw [reach_succ, if_neg (fun hc => by
     have := hc.2
     rw [lnkE, hpt, lnk_of_link hlk0] at this
     cases this)]
   rcases take_cases h'.pool with ⟨rfl, htk⟩ | ⟨x, htk, hx, hfx, hmin⟩
   ·refine wp_call rfl (refFresh_none h'.pool) rfl ?_
    simp only [lv_cons, lv_nil, app_cons, app_nil]
    refine wp_lt (d := (.b true)) rfl ?_
    simp only [lv_cons, lv_nil, app_cons, app_nil]
    refine wp_ite (t := true) rfl (fun _ => ?_) (fun h => by cases h)
    rw [htk] at hD
    refine wp_return rfl ?_
    rw [resD, hD]
    rfl
   ·rw [htk] at hD
    refine wp_call rfl (refFresh_some h'.pool hx hfx hmin h'.rm.asc (fun c hc => by have := h'.rm.low c hc; omega) (by omega)) rfl ?_
    simp only [lv_cons, lv_nil, app_cons, app_nil]
    refine wp_lt (d := (.b false)) rfl ?_
    simp only [lv_cons, lv_nil, app_cons, app_nil]
    refine wp_ite (t := false) rfl (fun h => by cases h) (fun _ => ?_)
    obtain ⟨g1, g2, g3, g4⟩ := dw_step h' hr (by simp) hx hfx
    have hcl := clrF_len (fr := b + x) h'.rm.asc
    have hhi := h'.pool.hi
    have hbs := h'.pool.bs
    refine wp_call rfl (refWith_con (q := ⟨true, false, false, false, false, false, false, false, 0, b + x, 0⟩) (p := lkP (b + x)) (clrF_rm h'.rm) (by omega) ha hl2' hlow (lkP_may (by omega))) rfl ?_
    simp only [lv_cons, lv_nil, app_cons, app_nil]
    refine wp_lt (d := I (n : Nat)) ((i_sub (a := ((n + 1 : Nat) : Int)) (b := 1) rfl rfl (by omega) (by omega)).trans (by rw [show ((n + 1 : Nat) : Int) - 1 = ((n : Nat) : Int) by omega])) ?_
    simp only [lv_cons, lv_nil, app_cons, app_nil]
    have hk2 : lnkE s (dwM b a cs' (n + 1) at' x) at' (n + 1) (ixN a (n + 1)) = true := by
     have := lkP_lnk (fr := b + x) (l := n + 1) (by omega)
     rw [← g3] at this
     exact this
    have g5 := g2.tail hk2
    rw [g3] at g5
    exact wp_cont rfl rfl (hQ _ ⟨_, dwM b a cs' (n + 1) at' x, setN f' x 1 0, b + x, n, rfl, g5, hD, by omega, by simp only at g4; omega, by omega⟩)
  ·have hpv : p.v = true := by simpa using hpv
   rw [if_pos hpv] at hD
   have hlink : p.link = true := by
    simp only [Pt.leaf, Pt.link, hpv, Bool.true_and, Bool.or_eq_false_iff] at hlf ⊢
    rw [hlf.1, hlf.2]
    rfl
   have hk2 : lnkE s cs' at' (n + 1) (ixN a (n + 1)) = true := by
    cases hkk : lnkE s cs' at' (n + 1) (ixN a (n + 1)) with
    | true => rfl
    | false =>
     have hr : reachN s cs' a 0 (n + 1) at' = (n + 1, at') := by rw [reach_succ, if_neg (fun hc => by rw [hkk] at hc; cases hc.2)]
     have := (h'.stop hr (by simp)).2.1
     rw [← hp, hlink] at this
     cases this
   have g5 := h'.tail hk2
   rw [hpt] at g5
   refine wp_lt (d := I (n : Nat)) ((i_sub (a := ((n + 1 : Nat) : Int)) (b := 1) rfl rfl (by omega) (by omega)).trans (by rw [show ((n + 1 : Nat) : Int) - 1 = ((n : Nat) : Int) by omega])) ?_
   simp only [lv_cons, lv_nil, app_cons, app_nil]
   exact wp_cont rfl rfl (hQ _ ⟨_, cs', f', p.ppn, n, rfl, g5, hD, by omega, by omega, by omega⟩)
 ·have he := of_decide_eq_false he
  obtain rfl : w = l' := by omega
  refine wp_call rfl (refIndex05_con ha hl2') rfl ?_
  simp only [lv_cons, lv_nil, app_cons, app_nil]
  refine wp_call rfl (refAt_con (s := s) (t := at') (j := ixN a w) h'.rm.asc h'.cok (by omega) (by omega)) rfl ?_
  have hD' : D0 = (0, cs', f', at') := by
   rw [hD]
   cases w with
   | zero => rfl
   | succ n => rw [downS, if_pos (by omega)]
  refine wp_return rfl ?_
  rw [resD, hD', if_pos rfl, spotD]
  rfl
end Go.Proofs.YtnkjmocacielmaaDoor.Sx
