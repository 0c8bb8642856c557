/-
 Layer 20: a way pruned: the walks.
-/
import Derived.Test.YtnkjmocacielmaaDoorZSph
namespace Go.Proofs.YtnkjmocacielmaaDoor.Sx
open Go
set_option linter.unusedVariables false
set_option linter.unusedSimpArgs false
set_option maxRecDepth 100000
abbrev resP (s b : Nat) (m : Int) (r : List Cl × Nat) : List DV := [md 2 s r.1, plD b m r.2]
theorem prune_con {s b f t l a : Nat} {m : Int} {cs : List Cl} (hO : PrOk s b m (cs, f)) (hF : PruF s b m cs f a l t) (ht : t < s / 4096) (hl : l ≤ 2) (ha : a < 18446744073709551616) :
 Cn gAll 19 [md 2 s cs, plD b m f, u t, i l, u a] (resP s b m (prunS s b a l cs f t)) := by
 have hmost := hO.rm.most
 refine con rfl rfl split_Prune_c split_Prune_p rfl ?_
 unfold split_Prune_ir
 simp only [lv_cons, lv_nil, app_cons, app_nil]
 obtain rfl | rfl | rfl : l = 0 ∨ l = 1 ∨ l = 2 := by omega
 ·refine wp_call rfl (reach_con (s := s) (t := t) (a := a) (l := 0) (want := 0) hO.rm.asc hO.cok (by have := hO.len; simp only at this; omega) ha (by omega) (by omega) (by omega)) rfl ?_
  rw [reach_self, spotD]
  simp only
  obtain ⟨p, hp⟩ : ∃ p, p = ptA s cs t a 0 := ⟨_, rfl⟩
  rw [← hp]
  simp only [lv_cons, lv_nil, Pt.ds, Lf.ds, app_cons, app_nil]
  refine wp_call rfl (pteLink_con (p := p)) rfl ?_
  simp only [lv_cons, lv_nil, app_cons, app_nil]
  refine wp_lt (d := .b (!p.link)) (not_e rfl) ?_
  simp only [lv_cons, lv_nil, app_cons, app_nil]
  have hk : p.link = false := by rw [hp]; exact hF
  rw [hk]
  refine wp_ite (t := true) rfl (fun _ => ?_) (fun h => by cases h)
  exact wp_return rfl rfl
 ·obtain ⟨h1, h2⟩ := hF
  refine wp_call rfl (reach_con (s := s) (t := t) (a := a) (l := 1) (want := 1) hO.rm.asc hO.cok (by have := hO.len; simp only at this; omega) ha (by omega) (by omega) (by omega)) rfl ?_
  rw [reach_self, spotD]
  simp only
  obtain ⟨p, hp⟩ : ∃ p, p = ptA s cs t a 1 := ⟨_, rfl⟩
  rw [← hp]
  simp only [lv_cons, lv_nil, Pt.ds, Lf.ds, app_cons, app_nil]
  refine wp_call rfl (pteLink_con (p := p)) rfl ?_
  simp only [lv_cons, lv_nil, app_cons, app_nil]
  refine wp_lt (d := .b (!p.link)) (not_e rfl) ?_
  simp only [lv_cons, lv_nil, app_cons, app_nil]
  rw [← hp] at h1 h2
  cases hk : p.link with
  | false =>
   refine wp_ite (t := true) rfl (fun _ => ?_) (fun h => by cases h)
   have hnl : ¬ lnkE s cs t 1 (ixN a 1) = true := fun h => by
    have : lnkB (ptA s cs t a 1) _ = true := h
    rw [← hp, lnkB, hk] at this
    cases this
   refine wp_return rfl ?_
   rw [prunS, if_neg hnl]
  | true =>
   refine wp_ite (t := false) rfl (fun h => by cases h) (fun _ => ?_)
   have hlk := h1 hk
   obtain ⟨f0, f1, f2⟩ := h2 hlk
   have hbd : p.bad ((1 : Nat) : Int) = false := by
    have : lnkB (ptA s cs t a 1) _ = true := hlk
    rw [← hp, lnkB, Bool.and_eq_true, Bool.not_eq_true'] at this
    exact this.2
   have hE : prunS s b a 1 cs f t = pruQ b a (cs, f) 1 t p.ppn := by rw [prunS, if_pos hlk, hp]; rfl
   rw [hE]
   have hq := f1.q1
   refine wp_call rfl (pteBad_con (p := p) (l := (1 : Nat)) (lv_of (by decide))) rfl ?_
   rw [hbd]
   simp only [lv_cons, lv_nil, app_cons, app_nil]
   refine wp_ite (t := false) rfl (fun h => by cases h) (fun _ => ?_)
   refine wp_lt (d := I (0 : Nat)) ((i_sub (a := 1) (b := 1) rfl rfl (by omega) (by omega)).trans rfl) ?_
   simp only [lv_cons, lv_nil, app_cons, app_nil]
   refine wp_call rfl (reach_con (s := s) (t := p.ppn) (a := a) (l := 0) (want := 0) hO.rm.asc hO.cok (by have := hO.len; simp only at this; omega) ha (by omega) (by omega) (by omega)) rfl ?_
   rw [reach_self, spotD]
   simp only
   obtain ⟨p0, hp0⟩ : ∃ p0, p0 = ptA s cs p.ppn a 0 := ⟨_, rfl⟩
   rw [← hp0]
   simp only [lv_cons, lv_nil, Pt.ds, Lf.ds, app_cons, app_nil]
   refine wp_call rfl (pteLink_con (p := p0)) rfl ?_
   simp only [lv_cons, lv_nil, app_cons, app_nil]
   refine wp_lt (d := .b (!p0.link)) (not_e rfl) ?_
   simp only [lv_cons, lv_nil, app_cons, app_nil]
   have hk0 : p0.link = false := by rw [hp0]; exact f0
   rw [hk0]
   refine wp_ite (t := true) rfl (fun _ => ?_) (fun h => by cases h)
   change BelOk s b m (cs, f) t 1 p.ppn at f1
   refine wp_call rfl f1.empty rfl ?_
   simp only [lv_cons, lv_nil, app_cons, app_nil]
   refine wp_ite rfl (fun he => ?_) (fun he => ?_)
   ·refine wp_call rfl f1.back rfl ?_
    simp only [lv_cons, lv_nil, app_cons, app_nil]
    refine wp_call rfl (f1.wth (p := p) ha) rfl ?_
    simp only [lv_cons, lv_nil, app_cons, app_nil]
    rw [pru_yes he]
    exact wp_return rfl rfl
   ·rw [pru_no he]
    exact wp_return rfl rfl
 ·obtain ⟨h1, h2⟩ := hF
  refine wp_call rfl (reach_con (s := s) (t := t) (a := a) (l := 2) (want := 2) hO.rm.asc hO.cok (by have := hO.len; simp only at this; omega) ha (by omega) (by omega) (by omega)) rfl ?_
  rw [reach_self, spotD]
  simp only
  obtain ⟨p, hp⟩ : ∃ p, p = ptA s cs t a 2 := ⟨_, rfl⟩
  rw [← hp]
  simp only [lv_cons, lv_nil, Pt.ds, Lf.ds, app_cons, app_nil]
  refine wp_call rfl (pteLink_con (p := p)) rfl ?_
  simp only [lv_cons, lv_nil, app_cons, app_nil]
  refine wp_lt (d := .b (!p.link)) (not_e rfl) ?_
  simp only [lv_cons, lv_nil, app_cons, app_nil]
  rw [← hp] at h1 h2
  cases hk : p.link with
  | false =>
   refine wp_ite (t := true) rfl (fun _ => ?_) (fun h => by cases h)
   have hnl : ¬ lnkE s cs t 2 (ixN a 2) = true := fun h => by
    have : lnkB (ptA s cs t a 2) _ = true := h
    rw [← hp, lnkB, hk] at this
    cases this
   refine wp_return rfl ?_
   rw [prunS, if_neg hnl]
  | true =>
   refine wp_ite (t := false) rfl (fun h => by cases h) (fun _ => ?_)
   have hlk := h1 hk
   obtain ⟨⟨g1, g2⟩, f1, f2⟩ := h2 hlk
   have hbd : p.bad ((2 : Nat) : Int) = false := by
    have : lnkB (ptA s cs t a 2) _ = true := hlk
    rw [← hp, lnkB, Bool.and_eq_true, Bool.not_eq_true'] at this
    exact this.2
   have hE : prunS s b a 2 cs f t = pruQ b a (prunS s b a 1 cs f p.ppn) 2 t p.ppn := by rw [prunS, if_pos hlk, hp]
   rw [hE]
   have hq := f1.q1
   refine wp_call rfl (pteBad_con (p := p) (l := (2 : Nat)) (lv_of (by decide))) rfl ?_
   rw [hbd]
   simp only [lv_cons, lv_nil, app_cons, app_nil]
   refine wp_ite (t := false) rfl (fun h => by cases h) (fun _ => ?_)
   refine wp_lt (d := I (1 : Nat)) ((i_sub (a := 2) (b := 1) rfl rfl (by omega) (by omega)).trans rfl) ?_
   simp only [lv_cons, lv_nil, app_cons, app_nil]
   refine wp_call rfl (reach_con (s := s) (t := p.ppn) (a := a) (l := 1) (want := 1) hO.rm.asc hO.cok (by have := hO.len; simp only at this; omega) ha (by omega) (by omega) (by omega)) rfl ?_
   rw [reach_self, spotD]
   simp only
   obtain ⟨p1, hp1⟩ : ∃ p1, p1 = ptA s cs p.ppn a 1 := ⟨_, rfl⟩
   rw [← hp1]
   simp only [lv_cons, lv_nil, Pt.ds, Lf.ds, app_cons, app_nil]
   refine wp_call rfl (pteLink_con (p := p1)) rfl ?_
   simp only [lv_cons, lv_nil, app_cons, app_nil]
   refine wp_lt (d := .b (!p1.link)) (not_e rfl) ?_
   simp only [lv_cons, lv_nil, app_cons, app_nil]
   rw [← hp1] at g1 g2
   cases hk1 : p1.link with
   | false =>
    refine wp_ite (t := true) rfl (fun _ => ?_) (fun h => by cases h)
    have hnl : ¬ lnkE s cs p.ppn 1 (ixN a 1) = true := fun h => by
     have : lnkB (ptA s cs p.ppn a 1) _ = true := h
     rw [← hp1, lnkB, hk1] at this
     cases this
    have hE1 : prunS s b a 1 cs f p.ppn = (cs, f) := by rw [prunS, if_neg hnl]
    rw [hE1] at f1 ⊢
    refine wp_call rfl f1.empty rfl ?_
    simp only [lv_cons, lv_nil, app_cons, app_nil]
    refine wp_ite rfl (fun he => ?_) (fun he => ?_)
    ·refine wp_call rfl f1.back rfl ?_
     simp only [lv_cons, lv_nil, app_cons, app_nil]
     refine wp_call rfl (f1.wth (p := p) ha) rfl ?_
     simp only [lv_cons, lv_nil, app_cons, app_nil]
     rw [pru_yes he]
     exact wp_return rfl rfl
    ·rw [pru_no he]
     exact wp_return rfl rfl
   | true =>
    refine wp_ite (t := false) rfl (fun h => by cases h) (fun _ => ?_)
    have hlk1 := g1 hk1
    obtain ⟨e0, e1, e2⟩ := g2 hlk1
    have hbd1 : p1.bad ((1 : Nat) : Int) = false := by
     have : lnkB (ptA s cs p.ppn a 1) _ = true := hlk1
     rw [← hp1, lnkB, Bool.and_eq_true, Bool.not_eq_true'] at this
     exact this.2
    have hE1 : prunS s b a 1 cs f p.ppn = pruQ b a (cs, f) 1 p.ppn p1.ppn := by rw [prunS, if_pos hlk1, hp1]; rfl
    rw [hE1] at f1 ⊢
    change BelOk s b m (cs, f) p.ppn 1 p1.ppn at e1
    have hq1 := e1.q1
    refine wp_call rfl (pteBad_con (p := p1) (l := (1 : Nat)) (lv_of (by decide))) rfl ?_
    rw [hbd1]
    simp only [lv_cons, lv_nil, app_cons, app_nil]
    refine wp_ite (t := false) rfl (fun h => by cases h) (fun _ => ?_)
    refine wp_lt (d := I (0 : Nat)) ((i_sub (a := 1) (b := 1) rfl rfl (by omega) (by omega)).trans rfl) ?_
    simp only [lv_cons, lv_nil, app_cons, app_nil]
    refine wp_call rfl (reach_con (s := s) (t := p1.ppn) (a := a) (l := 0) (want := 0) hO.rm.asc hO.cok (by have := hO.len; simp only at this; omega) ha (by omega) (by omega) (by omega)) rfl ?_
    rw [reach_self, spotD]
    simp only
    obtain ⟨p0, hp0⟩ : ∃ p0, p0 = ptA s cs p1.ppn a 0 := ⟨_, rfl⟩
    rw [← hp0]
    simp only [lv_cons, lv_nil, Pt.ds, Lf.ds, app_cons, app_nil]
    refine wp_call rfl (pteLink_con (p := p0)) rfl ?_
    simp only [lv_cons, lv_nil, app_cons, app_nil]
    refine wp_lt (d := .b (!p0.link)) (not_e rfl) ?_
    simp only [lv_cons, lv_nil, app_cons, app_nil]
    have hk0 : p0.link = false := by rw [hp0]; exact e0
    rw [hk0]
    refine wp_ite (t := true) rfl (fun _ => ?_) (fun h => by cases h)
    refine wp_call rfl e1.empty rfl ?_
    simp only [lv_cons, lv_nil, app_cons, app_nil]
    refine wp_ite rfl (fun he => ?_) (fun he => ?_)
    ·rw [pru_yes he] at f1 ⊢
     refine wp_call rfl e1.back rfl ?_
     simp only [lv_cons, lv_nil, app_cons, app_nil]
     refine wp_call rfl (e1.wth (p := p1) ha) rfl ?_
     simp only [lv_cons, lv_nil, app_cons, app_nil]
     refine wp_call rfl f1.empty rfl ?_
     simp only [lv_cons, lv_nil, app_cons, app_nil]
     refine wp_ite rfl (fun he => ?_) (fun he => ?_)
     ·refine wp_call rfl f1.back rfl ?_
      simp only [lv_cons, lv_nil, app_cons, app_nil]
      refine wp_call rfl (f1.wth (p := p) ha) rfl ?_
      simp only [lv_cons, lv_nil, app_cons, app_nil]
      rw [pru_yes he]
      exact wp_return rfl rfl
     ·rw [pru_no he]
      exact wp_return rfl rfl
    ·rw [pru_no he] at f1 ⊢
     refine wp_call rfl f1.empty rfl ?_
     simp only [lv_cons, lv_nil, app_cons, app_nil]
     refine wp_ite rfl (fun he => ?_) (fun he => ?_)
     ·refine wp_call rfl f1.back rfl ?_
      simp only [lv_cons, lv_nil, app_cons, app_nil]
      refine wp_call rfl (f1.wth (p := p) ha) rfl ?_
      simp only [lv_cons, lv_nil, app_cons, app_nil]
      rw [pru_yes he]
      exact wp_return rfl rfl
     ·rw [pru_no he]
      exact wp_return rfl rfl
abbrev stP (s b : Nat) (m : Int) (k : Nat) (r : List Cl × Nat) : List D := [I k, U s, .sl 2 (crs r.1), U b, I m, U r.2]
theorem refPruneS_con {s b f t l a : Nat} {m : Int} {cs : List Cl} (hO : PrOk s b m (cs, f)) (hO1 : PrOk s b m (prunS s b a l cs f t)) (hF : PruF s b m cs f a l t) (ht : t < s / 4096) (hl : l ≤ 2) (ha : a < 18446744073709551616) :
 Cn gAll 20 [md 2 s cs, plD b m f, u t, i l, u a] (resP s b m (prunS s b a l cs f t)) := by
 have hmost := hO.rm.most
 refine con rfl rfl atlasref20_Prune_c atlasref20_Prune_p rfl ?_
 unfold atlasref20_Prune_ir
 simp only [lv_cons, lv_nil, app_cons, app_nil]
 obtain rfl | rfl | rfl : l = 0 ∨ l = 1 ∨ l = 2 := by omega
 ·refine wp_rounds (fun k ds => k = 1 ∧ ds = stP s b m 0 (cs, f)) 1 rfl ⟨rfl, rfl⟩ ?_ (fun es hes => by cases hes.1)
  rintro k es Q ⟨_, rfl⟩ hQ
  simp only [lv_cons, lv_nil, app_cons, app_nil]
  refine wp_lt (d := .b false) (cmp_e (e_lss rfl rfl) (by decide)) ?_
  simp only [lv_cons, lv_nil, app_cons, app_nil]
  refine wp_ite (t := false) rfl (fun h => by cases h) (fun _ => ?_)
  exact wp_return rfl rfl
 ·obtain ⟨h1, h2⟩ := hF
  obtain ⟨p, hp⟩ : ∃ p, p = ptA s cs t a 1 := ⟨_, rfl⟩
  refine wp_rounds (fun k ds => (k = 2 ∧ ds = stP s b m 0 (cs, f)) ∨ (k = 1 ∧ ds = stP s b m 1 (prunS s b a 1 cs f t))) 2 rfl (.inl ⟨rfl, rfl⟩) ?_ (fun es hes => by rcases hes with h | h <;> cases h.1)
  rintro k es Q (⟨hk, rfl⟩ | ⟨hk, rfl⟩) hQ
  ·obtain rfl : k = 1 := by omega
   simp only [lv_cons, lv_nil, app_cons, app_nil]
   refine wp_lt (d := .b true) (cmp_e (e_lss rfl rfl) (by decide)) ?_
   simp only [lv_cons, lv_nil, app_cons, app_nil]
   refine wp_ite (t := true) rfl (fun _ => ?_) (fun h => by cases h)
   refine wp_lt (d := I (0 + 1 : Nat)) ((i_add (a := (0 : Nat)) (b := 1) rfl rfl (by omega) (by omega)).trans rfl) ?_
   simp only [lv_cons, lv_nil, app_cons, app_nil]
   refine wp_call rfl (refReach_con (s := s) (a := a) (want := 0 + 1) hO.rm.asc hO.cok (Nat.le_trans hO.len (by decide)) ha (by omega) 1 t (by omega) (by omega)) rfl ?_
   rw [reach_self, spotD]
   simp only
   rw [← hp] at h1 h2 ⊢
   simp only [lv_cons, lv_nil, Pt.ds, Lf.ds, app_cons, app_nil]
   refine wp_lt (d := I (0 + 1 : Nat)) ((i_add (a := (0 : Nat)) (b := 1) rfl rfl (by omega) (by omega)).trans rfl) ?_
   simp only [lv_cons, lv_nil, app_cons, app_nil]
   refine wp_lt (d := .b false) (cmp_e (e_neq rfl rfl) (by decide)) ?_
   simp only [lv_cons, lv_nil, app_cons, app_nil]
   refine wp_ite (t := false) rfl (fun h => by cases h) (fun _ => ?_)
   refine wp_call rfl (refLink_con (p := p)) rfl ?_
   simp only [lv_cons, lv_nil, app_cons, app_nil]
   refine wp_lt (d := .b (!p.link)) (not_e rfl) ?_
   simp only [lv_cons, lv_nil, app_cons, app_nil]
   cases hk : p.link with
   | false =>
    have hnl : ¬ lnkE s cs t 1 (ixN a 1) = true := fun h => by
     have : lnkB (ptA s cs t a 1) _ = true := h
     rw [← hp, lnkB, hk] at this
     cases this
    refine wp_ite (t := true) rfl (fun _ => ?_) (fun h => by cases h)
    refine wp_lt (d := I (0 + 1 : Nat)) ((i_add (a := (0 : Nat)) (b := 1) rfl rfl (by omega) (by omega)).trans rfl) ?_
    simp only [lv_cons, lv_nil, app_cons, app_nil]
    exact wp_cont rfl rfl (hQ _ (.inr ⟨rfl, by rw [prunS, if_neg hnl]⟩))
   | true =>
    have hlk := h1 hk
    obtain ⟨f0, f1, f2⟩ := h2 hlk
    have hE : prunS s b a 1 cs f t = pruQ b a (cs, f) 1 t p.ppn := by rw [prunS, if_pos hlk, hp]; rfl
    change BelOk s b m (cs, f) t 1 p.ppn at f1
    refine wp_ite (t := false) rfl (fun h => by cases h) (fun _ => ?_)
    refine wp_call rfl f1.rempty rfl ?_
    simp only [lv_cons, lv_nil, app_cons, app_nil]
    refine wp_lt (d := .b (!noneF _ _)) (not_e rfl) ?_
    simp only [lv_cons, lv_nil, app_cons, app_nil]
    cases he : noneF cs p.ppn with
    | true =>
     refine wp_ite (t := false) rfl (fun h => by cases h) (fun _ => ?_)
     refine wp_call rfl f1.rback rfl ?_
     simp only [lv_cons, lv_nil, app_cons, app_nil]
     refine wp_call rfl (f1.rwth (p := p) ha) rfl ?_
     simp only [lv_cons, lv_nil, app_cons, app_nil]
     refine wp_lt (d := I (0 + 1 : Nat)) ((i_add (a := (0 : Nat)) (b := 1) rfl rfl (by omega) (by omega)).trans rfl) ?_
     simp only [lv_cons, lv_nil, app_cons, app_nil]
     exact wp_cont rfl rfl (hQ _ (.inr ⟨rfl, by rw [hE, pru_yes he]⟩))
    | false =>
     refine wp_ite (t := true) rfl (fun _ => ?_) (fun h => by cases h)
     refine wp_lt (d := I (0 + 1 : Nat)) ((i_add (a := (0 : Nat)) (b := 1) rfl rfl (by omega) (by omega)).trans rfl) ?_
     simp only [lv_cons, lv_nil, app_cons, app_nil]
     exact wp_cont rfl rfl (hQ _ (.inr ⟨rfl, by rw [hE, pru_no he]⟩))
  ·simp only [lv_cons, lv_nil, app_cons, app_nil]
   refine wp_lt (d := .b false) (cmp_e (e_lss rfl rfl) (by decide)) ?_
   simp only [lv_cons, lv_nil, app_cons, app_nil]
   refine wp_ite (t := false) rfl (fun h => by cases h) (fun _ => ?_)
   exact wp_return rfl rfl
 ·obtain ⟨h1, h2⟩ := hF
  obtain ⟨p, hp⟩ : ∃ p, p = ptA s cs t a 2 := ⟨_, rfl⟩
  by_cases hlk : lnkE s cs t 2 (ixN a 2) = true
  ·obtain ⟨⟨g1, g2⟩, f1, f2⟩ := h2 hlk
   have hE : prunS s b a 2 cs f t = pruQ b a (prunS s b a 1 cs f p.ppn) 2 t p.ppn := by rw [prunS, if_pos hlk, hp]
   have hk : p.link = true := by
    have : lnkB (ptA s cs t a 2) _ = true := hlk
    rw [← hp, lnkB, Bool.and_eq_true] at this
    exact this.1
   have hO2 := f1.ok
   rw [← hp] at g1 g2 f1 f2 hO2
   obtain ⟨p1, hp1⟩ : ∃ p1, p1 = ptA s cs p.ppn a 1 := ⟨_, rfl⟩
   rw [← hp1] at g1 g2
   obtain ⟨R, hR⟩ : ∃ R, R = prunS s b a 1 cs f p.ppn := ⟨_, rfl⟩
   rw [hE, ← hR]
   refine wp_rounds (fun k ds => (k = 3 ∧ ds = stP s b m 0 (cs, f)) ∨ (k = 2 ∧ ds = stP s b m 1 R) ∨ (k = 1 ∧ ds = stP s b m 2 (pruQ b a R 2 t p.ppn))) 3 rfl (.inl ⟨rfl, rfl⟩) ?_ (fun es hes => by rcases hes with h | h | h <;> cases h.1)
   rintro k es Q (⟨hkk, rfl⟩ | ⟨hkk, rfl⟩ | ⟨hkk, rfl⟩) hQ
   ·obtain rfl : k = 2 := by omega
    simp only [lv_cons, lv_nil, app_cons, app_nil]
    refine wp_lt (d := .b true) (cmp_e (e_lss rfl rfl) (by decide)) ?_
    simp only [lv_cons, lv_nil, app_cons, app_nil]
    refine wp_ite (t := true) rfl (fun _ => ?_) (fun h => by cases h)
    refine wp_lt (d := I (0 + 1 : Nat)) ((i_add (a := (0 : Nat)) (b := 1) rfl rfl (by omega) (by omega)).trans rfl) ?_
    simp only [lv_cons, lv_nil, app_cons, app_nil]
    refine wp_call rfl (refReach_con (s := s) (a := a) (want := 0 + 1) hO.rm.asc hO.cok (Nat.le_trans hO.len (by decide)) ha (by omega) 2 t (by omega) (by omega)) rfl ?_
    have hr : reachN s cs a (0 + 1) 2 t = (1, p.ppn) := by rw [reach_succ, if_pos ⟨by decide, hlk⟩, show (ptN (entN s cs t (ixN a (1 + 1)))).ppn = p.ppn by rw [hp]; rfl, reach_self]
    rw [hr, spotD]
    simp only
    rw [← hp1]
    simp only [lv_cons, lv_nil, Pt.ds, Lf.ds, app_cons, app_nil]
    refine wp_lt (d := I (0 + 1 : Nat)) ((i_add (a := (0 : Nat)) (b := 1) rfl rfl (by omega) (by omega)).trans rfl) ?_
    simp only [lv_cons, lv_nil, app_cons, app_nil]
    refine wp_lt (d := .b false) (cmp_e (e_neq rfl rfl) (by decide)) ?_
    simp only [lv_cons, lv_nil, app_cons, app_nil]
    refine wp_ite (t := false) rfl (fun h => by cases h) (fun _ => ?_)
    refine wp_call rfl (refLink_con (p := p1)) rfl ?_
    simp only [lv_cons, lv_nil, app_cons, app_nil]
    refine wp_lt (d := .b (!p1.link)) (not_e rfl) ?_
    simp only [lv_cons, lv_nil, app_cons, app_nil]
    cases hk1 : p1.link with
    | false =>
     have hnl : ¬ lnkE s cs p.ppn 1 (ixN a 1) = true := fun h => by
      have : lnkB (ptA s cs p.ppn a 1) _ = true := h
      rw [← hp1, lnkB, hk1] at this
      cases this
     refine wp_ite (t := true) rfl (fun _ => ?_) (fun h => by cases h)
     refine wp_lt (d := I (0 + 1 : Nat)) ((i_add (a := (0 : Nat)) (b := 1) rfl rfl (by omega) (by omega)).trans rfl) ?_
     simp only [lv_cons, lv_nil, app_cons, app_nil]
     exact wp_cont rfl rfl (hQ _ (.inr (.inl ⟨rfl, by rw [hR, prunS, if_neg hnl]⟩)))
    | true =>
     have hlk1 := g1 hk1
     obtain ⟨e0, e1, e2⟩ := g2 hlk1
     have hE1 : prunS s b a 1 cs f p.ppn = pruQ b a (cs, f) 1 p.ppn p1.ppn := by rw [prunS, if_pos hlk1, hp1]; rfl
     change BelOk s b m (cs, f) p.ppn 1 p1.ppn at e1
     refine wp_ite (t := false) rfl (fun h => by cases h) (fun _ => ?_)
     refine wp_call rfl e1.rempty rfl ?_
     simp only [lv_cons, lv_nil, app_cons, app_nil]
     refine wp_lt (d := .b (!noneF _ _)) (not_e rfl) ?_
     simp only [lv_cons, lv_nil, app_cons, app_nil]
     cases he : noneF cs p1.ppn with
     | true =>
      refine wp_ite (t := false) rfl (fun h => by cases h) (fun _ => ?_)
      refine wp_call rfl e1.rback rfl ?_
      simp only [lv_cons, lv_nil, app_cons, app_nil]
      refine wp_call rfl (e1.rwth (p := p1) ha) rfl ?_
      simp only [lv_cons, lv_nil, app_cons, app_nil]
      refine wp_lt (d := I (0 + 1 : Nat)) ((i_add (a := (0 : Nat)) (b := 1) rfl rfl (by omega) (by omega)).trans rfl) ?_
      simp only [lv_cons, lv_nil, app_cons, app_nil]
      exact wp_cont rfl rfl (hQ _ (.inr (.inl ⟨rfl, by rw [hR, hE1, pru_yes he]⟩)))
     | false =>
      refine wp_ite (t := true) rfl (fun _ => ?_) (fun h => by cases h)
      refine wp_lt (d := I (0 + 1 : Nat)) ((i_add (a := (0 : Nat)) (b := 1) rfl rfl (by omega) (by omega)).trans rfl) ?_
      simp only [lv_cons, lv_nil, app_cons, app_nil]
      exact wp_cont rfl rfl (hQ _ (.inr (.inl ⟨rfl, by rw [hR, hE1, pru_no he]⟩)))
   ·obtain rfl : k = 1 := by omega
    rw [← hR] at f1 f2 hO2
    obtain ⟨cs1, f1'⟩ := R
    simp only [lv_cons, lv_nil, app_cons, app_nil]
    refine wp_lt (d := .b true) (cmp_e (e_lss rfl rfl) (by decide)) ?_
    simp only [lv_cons, lv_nil, app_cons, app_nil]
    refine wp_ite (t := true) rfl (fun _ => ?_) (fun h => by cases h)
    refine wp_lt (d := I (1 + 1 : Nat)) ((i_add (a := (1 : Nat)) (b := 1) rfl rfl (by omega) (by omega)).trans rfl) ?_
    simp only [lv_cons, lv_nil, app_cons, app_nil]
    refine wp_call rfl (refReach_con (s := s) (a := a) (want := 1 + 1) hO2.rm.asc hO2.cok (Nat.le_trans hO2.len (by decide)) ha (by omega) 2 t (by omega) (by omega)) rfl ?_
    rw [reach_self, spotD]
    simp only at f2 ⊢
    rw [f2]
    simp only [lv_cons, lv_nil, Pt.ds, Lf.ds, app_cons, app_nil]
    refine wp_lt (d := I (1 + 1 : Nat)) ((i_add (a := (1 : Nat)) (b := 1) rfl rfl (by omega) (by omega)).trans rfl) ?_
    simp only [lv_cons, lv_nil, app_cons, app_nil]
    refine wp_lt (d := .b false) (cmp_e (e_neq rfl rfl) (by decide)) ?_
    simp only [lv_cons, lv_nil, app_cons, app_nil]
    refine wp_ite (t := false) rfl (fun h => by cases h) (fun _ => ?_)
    refine wp_call rfl (refLink_con (p := p)) rfl ?_
    simp only [lv_cons, lv_nil, app_cons, app_nil]
    refine wp_lt (d := .b (!p.link)) (not_e rfl) ?_
    simp only [lv_cons, lv_nil, app_cons, app_nil]
    rw [hk]
    refine wp_ite (t := false) rfl (fun h => by cases h) (fun _ => ?_)
    refine wp_call rfl f1.rempty rfl ?_
    simp only [lv_cons, lv_nil, app_cons, app_nil]
    refine wp_lt (d := .b (!noneF _ _)) (not_e rfl) ?_
    simp only [lv_cons, lv_nil, app_cons, app_nil]
    cases he : noneF cs1 p.ppn with
    | true =>
     refine wp_ite (t := false) rfl (fun h => by cases h) (fun _ => ?_)
     refine wp_call rfl f1.rback rfl ?_
     simp only [lv_cons, lv_nil, app_cons, app_nil]
     refine wp_call rfl (f1.rwth (p := p) ha) rfl ?_
     simp only [lv_cons, lv_nil, app_cons, app_nil]
     refine wp_lt (d := I (1 + 1 : Nat)) ((i_add (a := (1 : Nat)) (b := 1) rfl rfl (by omega) (by omega)).trans rfl) ?_
     simp only [lv_cons, lv_nil, app_cons, app_nil]
     exact wp_cont rfl rfl (hQ _ (.inr (.inr ⟨rfl, by rw [pru_yes he]⟩)))
    | false =>
     refine wp_ite (t := true) rfl (fun _ => ?_) (fun h => by cases h)
     refine wp_lt (d := I (1 + 1 : Nat)) ((i_add (a := (1 : Nat)) (b := 1) rfl rfl (by omega) (by omega)).trans rfl) ?_
     simp only [lv_cons, lv_nil, app_cons, app_nil]
     exact wp_cont rfl rfl (hQ _ (.inr (.inr ⟨rfl, by rw [pru_no he]⟩)))
   ·simp only [lv_cons, lv_nil, app_cons, app_nil]
    refine wp_lt (d := .b false) (cmp_e (e_lss rfl rfl) (by decide)) ?_
    simp only [lv_cons, lv_nil, app_cons, app_nil]
    refine wp_ite (t := false) rfl (fun h => by cases h) (fun _ => ?_)
    exact wp_return rfl rfl
  ·have hE : prunS s b a 2 cs f t = (cs, f) := by rw [prunS, if_neg hlk]
   have hk : p.link = false := by
    cases hk : p.link with
    | false => rfl
    | true => exact absurd (h1 (by rw [← hp]; exact hk)) hlk
   rw [hE]
   refine wp_rounds (fun k ds => (k = 3 ∧ ds = stP s b m 0 (cs, f)) ∨ (k = 2 ∧ ds = stP s b m 1 (cs, f)) ∨ (k = 1 ∧ ds = stP s b m 2 (cs, f))) 3 rfl (.inl ⟨rfl, rfl⟩) ?_ (fun es hes => by rcases hes with h | h | h <;> cases h.1)
   rintro k es Q (⟨hkk, rfl⟩ | ⟨hkk, rfl⟩ | ⟨hkk, rfl⟩) hQ
   ·obtain rfl : k = 2 := by omega
    simp only [lv_cons, lv_nil, app_cons, app_nil]
    refine wp_lt (d := .b true) (cmp_e (e_lss rfl rfl) (by decide)) ?_
    simp only [lv_cons, lv_nil, app_cons, app_nil]
    refine wp_ite (t := true) rfl (fun _ => ?_) (fun h => by cases h)
    refine wp_lt (d := I (0 + 1 : Nat)) ((i_add (a := (0 : Nat)) (b := 1) rfl rfl (by omega) (by omega)).trans rfl) ?_
    simp only [lv_cons, lv_nil, app_cons, app_nil]
    refine wp_call rfl (refReach_con (s := s) (a := a) (want := 0 + 1) hO.rm.asc hO.cok (Nat.le_trans hO.len (by decide)) ha (by omega) 2 t (by omega) (by omega)) rfl ?_
    have hr : reachN s cs a (0 + 1) 2 t = (2, t) := by rw [reach_succ, if_neg (fun h => hlk h.2)]
    rw [hr, spotD]
    simp only
    rw [← hp]
    simp only [lv_cons, lv_nil, Pt.ds, Lf.ds, app_cons, app_nil]
    refine wp_lt (d := I (0 + 1 : Nat)) ((i_add (a := (0 : Nat)) (b := 1) rfl rfl (by omega) (by omega)).trans rfl) ?_
    simp only [lv_cons, lv_nil, app_cons, app_nil]
    refine wp_lt (d := .b true) (cmp_e (e_neq rfl rfl) (by decide)) ?_
    simp only [lv_cons, lv_nil, app_cons, app_nil]
    refine wp_ite (t := true) rfl (fun _ => ?_) (fun h => by cases h)
    refine wp_lt (d := I (0 + 1 : Nat)) ((i_add (a := (0 : Nat)) (b := 1) rfl rfl (by omega) (by omega)).trans rfl) ?_
    simp only [lv_cons, lv_nil, app_cons, app_nil]
    exact wp_cont rfl rfl (hQ _ (.inr (.inl ⟨rfl, rfl⟩)))
   ·obtain rfl : k = 1 := by omega
    simp only [lv_cons, lv_nil, app_cons, app_nil]
    refine wp_lt (d := .b true) (cmp_e (e_lss rfl rfl) (by decide)) ?_
    simp only [lv_cons, lv_nil, app_cons, app_nil]
    refine wp_ite (t := true) rfl (fun _ => ?_) (fun h => by cases h)
    refine wp_lt (d := I (1 + 1 : Nat)) ((i_add (a := (1 : Nat)) (b := 1) rfl rfl (by omega) (by omega)).trans rfl) ?_
    simp only [lv_cons, lv_nil, app_cons, app_nil]
    refine wp_call rfl (refReach_con (s := s) (a := a) (want := 1 + 1) hO.rm.asc hO.cok (Nat.le_trans hO.len (by decide)) ha (by omega) 2 t (by omega) (by omega)) rfl ?_
    rw [reach_self, spotD]
    simp only
    rw [← hp]
    simp only [lv_cons, lv_nil, Pt.ds, Lf.ds, app_cons, app_nil]
    refine wp_lt (d := I (1 + 1 : Nat)) ((i_add (a := (1 : Nat)) (b := 1) rfl rfl (by omega) (by omega)).trans rfl) ?_
    simp only [lv_cons, lv_nil, app_cons, app_nil]
    refine wp_lt (d := .b false) (cmp_e (e_neq rfl rfl) (by decide)) ?_
    simp only [lv_cons, lv_nil, app_cons, app_nil]
    refine wp_ite (t := false) rfl (fun h => by cases h) (fun _ => ?_)
    refine wp_call rfl (refLink_con (p := p)) rfl ?_
    simp only [lv_cons, lv_nil, app_cons, app_nil]
    refine wp_lt (d := .b (!p.link)) (not_e rfl) ?_
    simp only [lv_cons, lv_nil, app_cons, app_nil]
    rw [hk]
    refine wp_ite (t := true) rfl (fun _ => ?_) (fun h => by cases h)
    refine wp_lt (d := I (1 + 1 : Nat)) ((i_add (a := (1 : Nat)) (b := 1) rfl rfl (by omega) (by omega)).trans rfl) ?_
    simp only [lv_cons, lv_nil, app_cons, app_nil]
    exact wp_cont rfl rfl (hQ _ (.inr (.inr ⟨rfl, rfl⟩)))
   ·simp only [lv_cons, lv_nil, app_cons, app_nil]
    refine wp_lt (d := .b false) (cmp_e (e_lss rfl rfl) (by decide)) ?_
    simp only [lv_cons, lv_nil, app_cons, app_nil]
    refine wp_ite (t := false) rfl (fun h => by cases h) (fun _ => ?_)
    exact wp_return rfl rfl
end Go.Proofs.YtnkjmocacielmaaDoor.Sx
