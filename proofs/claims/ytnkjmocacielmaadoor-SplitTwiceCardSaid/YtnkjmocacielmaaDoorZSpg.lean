/-
 Layer 20: splitting down to a level: contracts, and what they come to.
-/
import Derived.Test.YtnkjmocacielmaaDoorZSpf
import Derived.Test.YtnkjmocacielmaaDoorZTabk
namespace Go.Proofs.YtnkjmocacielmaaDoor.Sx
open Go
set_option linter.unusedVariables false
set_option linter.unusedSimpArgs false
set_option maxRecDepth 100000
def toS (s b a w : Nat) : Nat → List Cl → Nat → Nat → Nat × List Cl × Nat × (Nat × Nat)
 | 0, cs, f, t => (0, cs, f, (0, t))
 | l + 1, cs, f, t => if l + 1 ≤ w then (0, cs, f, (l + 1, t)) else if lnkE s cs t (l + 1) (ixN a (l + 1)) = true then toS s b a w l cs f (ptA s cs t a (l + 1)).ppn else
  if (ptA s cs t a (l + 1)).leaf = true then
   match takeN f with
   | none => (8, cs, f, (l + 1, t))
   | some x => toS s b a w l (lfM b a cs (l + 1) t x (ptA s cs t a (l + 1))) (setN f x 1 0) (b + x)
  else (0, cs, f, (l + 1, t))
def resT (s b : Nat) (m : Int) (a : Nat) (cs0 : List Cl) (f0 : Nat) (r : Nat × List Cl × Nat × (Nat × Nat)) : List DV :=
 if r.1 = 0 then [md 2 s r.2.1, plD b m r.2.2.1, spotD s r.2.1 a r.2.2.2, i (0 : Nat)] else [md 2 s cs0, plD b m f0, spotZ, i (r.1 : Nat)]
theorem to_reach {s b a w f : Nat} {cs : List Cl} : ∀ {l t : Nat}, toS s b a w l cs f t = toS s b a w (reachN s cs a w l t).1 cs f (reachN s cs a w l t).2
 | 0, t => rfl
 | l + 1, t => by
  by_cases hc : w < l + 1 ∧ lnkE s cs t (l + 1) (ixN a (l + 1)) = true
  ·have e : reachN s cs a w (l + 1) t = reachN s cs a w l (ptA s cs t a (l + 1)).ppn := by rw [reach_succ, if_pos hc]; rfl
   rw [e, toS, if_neg (by omega), if_pos hc.2]
   exact to_reach
  ·rw [reach_succ, if_neg hc]
theorem WayOk.spl {s b f l t a w : Nat} {m : Int} {cs : List Cl} (h : WayOk s b f m cs a l t) {r : Nat × Nat} (hr : reachN s cs a w l t = r) (h0 : w < r.1) (hlf : (ptA s cs r.2 a r.1).leaf = true) : SplOk (ptA s cs r.2 a r.1) r.1 := by
 have hl2 : r.1 ≤ 2 := by
  have := (reach_mem (s := s) (a := a) (w := w) (cs := cs) (l := l) (t := t)).2
  rw [hr] at this
  have := h.le
  omega
 exact ⟨by omega, hl2, ptN_may (wordN_lt h.cok), hlf, (h.stop hr h0).2.2 hlf⟩
theorem to_con {s b f t l a w : Nat} {m : Int} {cs : List Cl} (h : WayOk s b f m cs a l t) (ha : a < 18446744073709551616) (hlen : cs.length ≤ 4600) (hw : w ≤ l) :
 Cn gAll 13 [md 2 s cs, plD b m f, u t, i l, u a, i w] (resT s b m a cs f (toS s b a w l cs f t)) := by
 have hl2 := h.le
 have ht := h.len0
 have hmost := h.rm.most
 refine con rfl rfl split_To_c split_To_p rfl ?_
 unfold split_To_ir
 simp only [lv_cons, lv_nil, app_cons, app_nil]
 obtain ⟨D0, hD0⟩ : ∃ D0, D0 = toS s b a w l cs f t := ⟨_, rfl⟩
 rw [← hD0]
 rw [to_reach] at hD0
 refine wp_rounds (fun k ds => ∃ (d : D) (cs' : List Cl) (f' : Nat), ds = [d, U s, .sl 2 (crs cs'), U b, I m, U f'] ∧ WayOk s b f' m cs' a l t ∧ D0 = toS s b a w (reachN s cs' a w l t).1 cs' f' (reachN s cs' a w l t).2 ∧ (reachN s cs' a w l t).1 + 1 ≤ k ∧ cs'.length + 600 * (reachN s cs' a w l t).1 ≤ 5800) 3 rfl ⟨_, cs, f, rfl, h, hD0, by have := (reach_mem (s := s) (a := a) (w := w) (cs := cs) (l := l) (t := t)).2; omega, by have := (reach_mem (s := s) (a := a) (w := w) (cs := cs) (l := l) (t := t)).2; omega⟩ ?_
  (fun es hes => by obtain ⟨_, _, _, _, _, _, h1, _⟩ := hes; omega)
 rintro k es Q ⟨d, cs', f', rfl, h', hD, hk, hln⟩ hQ
 simp only [lv_cons, lv_nil, app_cons, app_nil]
 refine wp_call rfl (reach_con (s := s) (t := t) (a := a) (l := l) (want := w) h'.rm.asc h'.cok (by omega) ha hl2 (by omega) (by omega)) rfl ?_
 have hwl := reach_low (s := s) (a := a) (w := w) (cs := cs') (l := l) (t := t) hw
 have hpath := path_pre.subset (reach_path (s := s) (a := a) (w := w) (cs := cs') (l := l) (t := t))
 have hrl := (reach_mem (s := s) (a := a) (w := w) (cs := cs') (l := l) (t := t)).2
 have hst := fun (h0 : w < (reachN s cs' a w l t).1) => reach_stop h0
 obtain ⟨r, hr⟩ : ∃ r, r = reachN s cs' a w l t := ⟨_, rfl⟩
 rw [← hr] at hD hk hln hwl hpath hrl hst ⊢
 have hlow := h'.low _ hpath
 obtain ⟨p, hp⟩ : ∃ p, p = ptA s cs' r.2 a r.1 := ⟨_, rfl⟩
 rw [spotD, ← hp]
 simp only [lv_cons, lv_nil, Pt.ds, Lf.ds, app_cons, app_nil]
 refine wp_lt (d := .b (r.1 == w)) (cmp_e (e_eql rfl rfl) (by rw [Bool.eq_iff_iff, beq_iff_eq, beq_iff_eq]; omega)) ?_
 simp only [lv_cons, lv_nil, app_cons, app_nil]
 refine wp_ite rfl (fun he => ?_) (fun he => ?_)
 ·have he : r.1 = w := by simpa using he
  refine wp_return rfl ?_
  have hD' : D0 = (0, cs', f', r) := by
   rw [hD]
   cases hr1 : r.1 with
   | zero => rw [toS, ← hr1]
   | succ n => rw [toS, if_pos (by omega), ← hr1]
  rw [resT, hD', if_pos rfl, spotD, ← hp]
  rfl
 ·have he : w < r.1 := by
   have : ¬ r.1 = w := by simpa using he
   omega
  obtain ⟨n, hn⟩ : ∃ n, r.1 = n + 1 := ⟨r.1 - 1, by omega⟩
  have hst := hst he
  rw [hn, toS, if_neg (by omega), ← hn, if_neg (by rw [hst]; decide), ← hp] at hD
  refine wp_call rfl (pteLeaf_con (p := p)) rfl ?_
  simp only [lv_cons, lv_nil, app_cons, app_nil]
  refine wp_lt (d := .b (!p.leaf)) (not_e rfl) ?_
  simp only [lv_cons, lv_nil, app_cons, app_nil]
  refine wp_ite rfl (fun hlf => ?_) (fun hlf => ?_)
  ·have hlf : p.leaf = false := by simpa using hlf
   rw [if_neg (by rw [hlf]; decide)] at hD
   refine wp_return rfl ?_
   rw [resT, hD, if_pos rfl, spotD, ← hp]
   rfl
  ·have hlf : p.leaf = true := by simpa using hlf
   rw [if_pos hlf] at hD
   have hspl := h'.spl hr.symm he (by rw [← hp]; exact hlf)
   rw [← hp] at hspl
   have hcon := leaf_con (s := s) (b := b) (f := f') (t := r.2) (l := r.1) (a := a) (m := m) (p := p) h'.rm h'.cok h'.pool h'.room hlow hspl ha (by omega)
   rw [resL] at hcon
   rcases take_cases h'.pool with ⟨rfl, htk⟩ | ⟨x, htk, hx, hfx, hmin⟩
   ·rw [htk] at hD hcon
    refine wp_call rfl hcon rfl ?_
    simp only [lv_cons, lv_nil, app_cons, app_nil]
    refine wp_lt (d := (.b true)) rfl ?_
    simp only [lv_cons, lv_nil, app_cons, app_nil]
    refine wp_ite (t := true) rfl (fun _ => ?_) (fun h => by cases h)
    refine wp_return rfl ?_
    rw [resT, hD]
    rfl
   ·rw [htk] at hD hcon
    obtain ⟨g1, g2, g4⟩ := lf_step h' hr.symm he hx hfx (by rw [← hp]; exact hspl)
    rw [← hp] at g1 g2 g4
    refine wp_call rfl hcon rfl ?_
    simp only [lv_cons, lv_nil, app_cons, app_nil]
    refine wp_lt (d := (.b false)) rfl ?_
    simp only [lv_cons, lv_nil, app_cons, app_nil]
    refine wp_ite (t := false) rfl (fun h => by cases h) (fun _ => ?_)
    refine wp_cont rfl rfl (hQ _ ⟨_, lfM b a cs' r.1 r.2 x p, setN f' x 1 0, rfl, g2, ?_, by rw [g1]; simp only; omega, by rw [g1]; simp only; omega⟩)
    rw [g1, hD]
    simp only [hn, Nat.add_sub_cancel]
theorem refToS_con {s b f t l a w : Nat} {m : Int} {cs : List Cl} (h : WayOk s b f m cs a l t) (ha : a < 18446744073709551616) (hlen : cs.length ≤ 4600) (hw : w ≤ l) :
 Cn gAll 14 [md 2 s cs, plD b m f, u t, i l, u a, i w] (resT s b m a cs f (toS s b a w l cs f t)) := by
 have hl2 := h.le
 have ht := h.len0
 have hmost := h.rm.most
 refine con rfl rfl atlasref20_To_c atlasref20_To_p rfl ?_
 unfold atlasref20_To_ir
 simp only [lv_cons, lv_nil, app_cons, app_nil]
 obtain ⟨D0, hD0⟩ : ∃ D0, D0 = toS s b a w l cs f t := ⟨_, rfl⟩
 rw [← hD0]
 rw [to_reach] at hD0
 refine wp_rounds (fun k ds => ∃ (d : D) (cs' : List Cl) (f' : Nat), ds = [d, U s, .sl 2 (crs cs'), U b, I m, U f'] ∧ WayOk s b f' m cs' a l t ∧ D0 = toS s b a w (reachN s cs' a w l t).1 cs' f' (reachN s cs' a w l t).2 ∧ (reachN s cs' a w l t).1 + 1 ≤ k ∧ cs'.length + 600 * (reachN s cs' a w l t).1 ≤ 5800) 3 rfl ⟨_, cs, f, rfl, h, hD0, by have := (reach_mem (s := s) (a := a) (w := w) (cs := cs) (l := l) (t := t)).2; omega, by have := (reach_mem (s := s) (a := a) (w := w) (cs := cs) (l := l) (t := t)).2; omega⟩ ?_
  (fun es hes => by obtain ⟨_, _, _, _, _, _, h1, _⟩ := hes; omega)
 rintro k es Q ⟨d, cs', f', rfl, h', hD, hk, hln⟩ hQ
 simp only [lv_cons, lv_nil, app_cons, app_nil]
 refine wp_call rfl (refReach_con (s := s) (a := a) (want := w) h'.rm.asc h'.cok (by omega) ha (by omega) l t hl2 (by omega)) rfl ?_
 have hwl := reach_low (s := s) (a := a) (w := w) (cs := cs') (l := l) (t := t) hw
 have hpath := path_pre.subset (reach_path (s := s) (a := a) (w := w) (cs := cs') (l := l) (t := t))
 have hrl := (reach_mem (s := s) (a := a) (w := w) (cs := cs') (l := l) (t := t)).2
 have hst := fun (h0 : w < (reachN s cs' a w l t).1) => reach_stop h0
 obtain ⟨r, hr⟩ : ∃ r, r = reachN s cs' a w l t := ⟨_, rfl⟩
 rw [← hr] at hD hk hln hwl hpath hrl hst ⊢
 have hlow := h'.low _ hpath
 obtain ⟨p, hp⟩ : ∃ p, p = ptA s cs' r.2 a r.1 := ⟨_, rfl⟩
 rw [spotD, ← hp]
 simp only [lv_cons, lv_nil, Pt.ds, Lf.ds, app_cons, app_nil]
 refine wp_lt (d := .b (r.1 == w)) (cmp_e (e_eql rfl rfl) (by rw [Bool.eq_iff_iff, beq_iff_eq, beq_iff_eq]; omega)) ?_
 simp only [lv_cons, lv_nil, app_cons, app_nil]
 refine wp_ite rfl (fun he => ?_) (fun he => ?_)
 ·have he : r.1 = w := by simpa using he
  refine wp_return rfl ?_
  have hD' : D0 = (0, cs', f', r) := by
   rw [hD]
   cases hr1 : r.1 with
   | zero => rw [toS, ← hr1]
   | succ n => rw [toS, if_pos (by omega), ← hr1]
  rw [resT, hD', if_pos rfl, spotD, ← hp]
  rfl
 ·have he : w < r.1 := by
   have : ¬ r.1 = w := by simpa using he
   omega
  obtain ⟨n, hn⟩ : ∃ n, r.1 = n + 1 := ⟨r.1 - 1, by omega⟩
  have hst := hst he
  rw [hn, toS, if_neg (by omega), ← hn, if_neg (by rw [hst]; decide), ← hp] at hD
  refine wp_call rfl (refLeaf_con (p := p)) rfl ?_
  simp only [lv_cons, lv_nil, app_cons, app_nil]
  refine wp_lt (d := .b (!p.leaf)) (not_e rfl) ?_
  simp only [lv_cons, lv_nil, app_cons, app_nil]
  refine wp_ite rfl (fun hlf => ?_) (fun hlf => ?_)
  ·have hlf : p.leaf = false := by simpa using hlf
   rw [if_neg (by rw [hlf]; decide)] at hD
   refine wp_return rfl ?_
   rw [resT, hD, if_pos rfl, spotD, ← hp]
   rfl
  ·have hlf : p.leaf = true := by simpa using hlf
   rw [if_pos hlf] at hD
   have hspl := h'.spl hr.symm he (by rw [← hp]; exact hlf)
   rw [← hp] at hspl
   have hcon := refLeafS_con (s := s) (b := b) (f := f') (t := r.2) (l := r.1) (a := a) (m := m) (p := p) h'.rm h'.cok h'.pool h'.room hlow hspl ha (by omega)
   rw [resL] at hcon
   rcases take_cases h'.pool with ⟨rfl, htk⟩ | ⟨x, htk, hx, hfx, hmin⟩
   ·rw [htk] at hD hcon
    refine wp_call rfl hcon rfl ?_
    simp only [lv_cons, lv_nil, app_cons, app_nil]
    refine wp_lt (d := (.b true)) rfl ?_
    simp only [lv_cons, lv_nil, app_cons, app_nil]
    refine wp_ite (t := true) rfl (fun _ => ?_) (fun h => by cases h)
    refine wp_return rfl ?_
    rw [resT, hD]
    rfl
   ·rw [htk] at hD hcon
    obtain ⟨g1, g2, g4⟩ := lf_step h' hr.symm he hx hfx (by rw [← hp]; exact hspl)
    rw [← hp] at g1 g2 g4
    refine wp_call rfl hcon rfl ?_
    simp only [lv_cons, lv_nil, app_cons, app_nil]
    refine wp_lt (d := (.b false)) rfl ?_
    simp only [lv_cons, lv_nil, app_cons, app_nil]
    refine wp_ite (t := false) rfl (fun h => by cases h) (fun _ => ?_)
    refine wp_cont rfl rfl (hQ _ ⟨_, lfM b a cs' r.1 r.2 x p, setN f' x 1 0, rfl, g2, ?_, by rw [g1]; simp only; omega, by rw [g1]; simp only; omega⟩)
    rw [g1, hD]
    simp only [hn, Nat.add_sub_cancel]
theorem to_end {s b f t l a w : Nat} {m : Int} {cs : List Cl} (h : WayOk s b f m cs a l t) (hlen : cs.length ≤ 1500) (he : (toS s b a w l cs f t).1 = 0) :
 WayOk s b (toS s b a w l cs f t).2.2.1 m (toS s b a w l cs f t).2.1 a l t ∧ reachN s (toS s b a w l cs f t).2.1 a w l t = (toS s b a w l cs f t).2.2.2 ∧ (toS s b a w l cs f t).2.1.length ≤ 4600 ∧
  (w < (toS s b a w l cs f t).2.2.2.1 → (ptA s (toS s b a w l cs f t).2.1 (toS s b a w l cs f t).2.2.2.2 a (toS s b a w l cs f t).2.2.2.1).leaf = false) := by
 have key : ∀ (n : Nat) (cs : List Cl) (f : Nat), WayOk s b f m cs a l t → (reachN s cs a w l t).1 = n → cs.length + 600 * n ≤ 4600 → (toS s b a w (reachN s cs a w l t).1 cs f (reachN s cs a w l t).2).1 = 0 →
  WayOk s b (toS s b a w (reachN s cs a w l t).1 cs f (reachN s cs a w l t).2).2.2.1 m (toS s b a w (reachN s cs a w l t).1 cs f (reachN s cs a w l t).2).2.1 a l t ∧ reachN s (toS s b a w (reachN s cs a w l t).1 cs f (reachN s cs a w l t).2).2.1 a w l t = (toS s b a w (reachN s cs a w l t).1 cs f (reachN s cs a w l t).2).2.2.2 ∧ (toS s b a w (reachN s cs a w l t).1 cs f (reachN s cs a w l t).2).2.1.length ≤ 4600 ∧
  (w < (toS s b a w (reachN s cs a w l t).1 cs f (reachN s cs a w l t).2).2.2.2.1 → (ptA s (toS s b a w (reachN s cs a w l t).1 cs f (reachN s cs a w l t).2).2.1 (toS s b a w (reachN s cs a w l t).1 cs f (reachN s cs a w l t).2).2.2.2.2 a (toS s b a w (reachN s cs a w l t).1 cs f (reachN s cs a w l t).2).2.2.2.1).leaf = false) := by
  intro n
  induction n with
  | zero =>
   intro cs f h hn hl he
   obtain ⟨r, hr⟩ : ∃ r, r = reachN s cs a w l t := ⟨_, rfl⟩
   rw [← hr] at hn he ⊢
   obtain ⟨r1, r2⟩ := r
   simp only at hn
   subst hn
   exact ⟨h, hr.symm, by simp only [toS]; omega, fun h => absurd h (Nat.not_lt_zero _)⟩
  | succ n ih =>
   intro cs f h hn hl he
   have hst := fun (h0 : w < (reachN s cs a w l t).1) => reach_stop h0
   obtain ⟨r, hr⟩ : ∃ r, r = reachN s cs a w l t := ⟨_, rfl⟩
   rw [← hr] at hn he hst ⊢
   obtain ⟨r1, r2⟩ := r
   simp only at hn he hst ⊢
   subst hn
   by_cases hw : n + 1 ≤ w
   ·rw [toS, if_pos hw]
    exact ⟨h, hr.symm, by simp only; omega, fun h => by simp only at h; omega⟩
   ·have hk := hst (by omega)
    have hnk : ¬ lnkE s cs r2 (n + 1) (ixN a (n + 1)) = true := by rw [hk]; decide
    rw [toS, if_neg hw, if_neg hnk] at he ⊢
    by_cases hlf : (ptA s cs r2 a (n + 1)).leaf = true
    ·rw [if_pos hlf] at he ⊢
     rcases take_cases h.pool with ⟨rfl, htk⟩ | ⟨x, htk, hx, hfx, hmin⟩
     ·rw [htk] at he
      cases he
     ·rw [htk] at he ⊢
      obtain ⟨g1, g2, g4⟩ := lf_step h hr.symm (show w < n + 1 by omega) hx hfx (h.spl hr.symm (show w < n + 1 by omega) hlf)
      simp only at g1 g2 g4
      have := ih (lfM b a cs (n + 1) r2 x (ptA s cs r2 a (n + 1))) (setN f x 1 0) g2 (by rw [g1]; rfl) (by omega)
      rw [g1] at this
      exact this he
    ·rw [if_neg hlf]
     exact ⟨h, hr.symm, by simp only; omega, fun _ => by simpa using hlf⟩
 have hrl := (reach_mem (s := s) (a := a) (w := w) (cs := cs) (l := l) (t := t)).2
 have hle := h.le
 rw [to_reach] at he ⊢
 exact key _ cs f h rfl (by omega) he
theorem to_again {s b a w l : Nat} {cs : List Cl} {f t : Nat} {r : Nat × Nat} (hr : reachN s cs a w l t = r) (hlf : w < r.1 → (ptA s cs r.2 a r.1).leaf = false) : toS s b a w l cs f t = (0, cs, f, r) := by
 have hst := fun (h0 : w < (reachN s cs a w l t).1) => reach_stop h0
 rw [to_reach, hr]
 rw [hr] at hst
 obtain ⟨r1, r2⟩ := r
 cases r1 with
 | zero => rfl
 | succ n =>
  simp only at hlf hst ⊢
  by_cases hw : n + 1 ≤ w
  ·rw [toS, if_pos hw]
  ·rw [toS, if_neg hw, if_neg (by rw [hst (by omega)]; decide), if_neg (by rw [hlf (by omega)]; decide)]
theorem to_halves {s b a w : Nat} : ∀ {l : Nat} {cs : List Cl} {f t : Nat}, (toS s b a w l cs f t).1 = 0 → toS s b a 0 l cs f t = toS s b a 0 (toS s b a w l cs f t).2.2.2.1 (toS s b a w l cs f t).2.1 (toS s b a w l cs f t).2.2.1 (toS s b a w l cs f t).2.2.2.2
 | 0, cs, f, t, h => rfl
 | l + 1, cs, f, t, h => by
  by_cases hw : l + 1 ≤ w
  ·have e : toS s b a w (l + 1) cs f t = (0, cs, f, (l + 1, t)) := by rw [toS, if_pos hw]
   rw [e]
  ·by_cases hk : lnkE s cs t (l + 1) (ixN a (l + 1)) = true
   ·have e : toS s b a w (l + 1) cs f t = toS s b a w l cs f (ptA s cs t a (l + 1)).ppn := by rw [toS, if_neg hw, if_pos hk]
    rw [e] at h ⊢
    rw [show toS s b a 0 (l + 1) cs f t = toS s b a 0 l cs f (ptA s cs t a (l + 1)).ppn by rw [toS, if_neg (by omega), if_pos hk]]
    exact to_halves h
   ·by_cases hlf : (ptA s cs t a (l + 1)).leaf = true
    ·cases htk : takeN f with
     | none =>
      have e : toS s b a w (l + 1) cs f t = (8, cs, f, (l + 1, t)) := by rw [toS, if_neg hw, if_neg hk, if_pos hlf, htk]
      rw [e] at h
      cases h
     | some x =>
      have e : toS s b a w (l + 1) cs f t = toS s b a w l (lfM b a cs (l + 1) t x (ptA s cs t a (l + 1))) (setN f x 1 0) (b + x) := by rw [toS, if_neg hw, if_neg hk, if_pos hlf, htk]
      rw [e] at h ⊢
      rw [show toS s b a 0 (l + 1) cs f t = toS s b a 0 l (lfM b a cs (l + 1) t x (ptA s cs t a (l + 1))) (setN f x 1 0) (b + x) by rw [toS, if_neg (by omega), if_neg hk, if_pos hlf, htk]]
      exact to_halves h
    ·have e : toS s b a w (l + 1) cs f t = (0, cs, f, (l + 1, t)) := by rw [toS, if_neg hw, if_neg hk, if_neg hlf]
     rw [e]
theorem to_lower {s b a w l : Nat} {cs : List Cl} {f t : Nat} : toS s b a 0 l cs f t = toS s b a 0 (reachN s cs a w l t).1 cs f (reachN s cs a w l t).2 := by
 rw [to_reach (l := l), reach_on (w := w), ← to_reach]
end Go.Proofs.YtnkjmocacielmaaDoor.Sx
