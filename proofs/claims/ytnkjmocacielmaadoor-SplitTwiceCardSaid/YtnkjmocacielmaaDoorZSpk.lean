/-
 Layer 20: the laws.
-/
import Derived.Test.YtnkjmocacielmaaDoorZSpj
namespace Go.Proofs.YtnkjmocacielmaaDoor.Sx
open Go
set_option linter.unusedVariables false
set_option linter.unusedSimpArgs false
set_option maxRecDepth 100000
theorem not_id' : (!true) = false := rfl
theorem down_len {s b a w : Nat} {m : Int} : ∀ {l f t n : Nat} {cs : List Cl}, WayOk s b f m cs a l t → cs.length + l ≤ n → (downS s b a w l cs f t).2.1.length ≤ n
 | 0, f, t, n, cs, h, hn => by rw [downS]; exact hn
 | l + 1, f, t, n, cs, h, hn => by
  rw [downS]
  split
  ·simp only; omega
  split
  ·simp only; omega
  rename_i hw hlf
  split
  ·rename_i hv
   have hlink : (ptA s cs t a (l + 1)).link = true := by
    have hlf : (ptA s cs t a (l + 1)).leaf = false := by simpa using hlf
    simp only [Pt.leaf, Pt.link, hv, Bool.true_and, Bool.or_eq_false_iff] at hlf ⊢
    rw [hlf.1, hlf.2]
    rfl
   have hk2 : lnkE s cs t (l + 1) (ixN a (l + 1)) = true := by
    cases hkk : lnkE s cs t (l + 1) (ixN a (l + 1)) with
    | true => rfl
    | false =>
     have hr : reachN s cs a 0 (l + 1) t = (l + 1, t) := by rw [reach_succ, if_neg (fun hc => by rw [hkk] at hc; cases hc.2)]
     have := (h.stop hr (by simp)).2.1
     rw [hlink] at this
     cases this
   exact down_len (h.tail hk2) (by omega)
  ·rename_i hv
   have hv : (ptA s cs t a (l + 1)).v = false := by simpa using hv
   have hlk0 : (ptA s cs t a (l + 1)).link = false := by rw [Pt.link, hv]; rfl
   have hr : reachN s cs a 0 (l + 1) t = (l + 1, t) := by
    rw [reach_succ, if_neg (fun hc => by
     have := hc.2
     rw [lnkE] at this
     change lnkB (ptA s cs t a (l + 1)) _ = true at this
     rw [lnk_of_link hlk0] at this
     cases this)]
   rcases take_cases h.pool with ⟨_, htk⟩ | ⟨x, htk, hx, hfx, _⟩
   ·rw [htk]; simp only; omega
   ·rw [htk]
    obtain ⟨g1, g2, g3, g4⟩ := dw_step h hr (by simp) hx hfx
    have hk2 : lnkE s (dwM b a cs (l + 1) t x) t (l + 1) (ixN a (l + 1)) = true := by
     have := lkP_lnk (fr := b + x) (l := l + 1) (by omega)
     rw [← g3] at this
     exact this
    have g5 := g2.tail hk2
    rw [g3] at g5
    exact down_len g5 (by simp only at g4; omega)
theorem resD_form {s b f t l a w : Nat} {m : Int} {cs : List Cl} (h : WayOk s b f m cs a l t) (hlen : cs.length ≤ 1500) : ∃ (c : List Cl) (x t' l' : Nat) (p : Pt) (y : Nat), resD s b m a w cs f (downS s b a w l cs f t) = [md 2 s c, plD b m x, (true, U t' :: I (l' : Nat) :: p.ds), i (y : Nat)] ∧ c.length ≤ 6000 := by
 have hl2 := h.le
 have hd := down_len (w := w) (n := 2000) h (by omega)
 unfold resD
 split
 ·exact ⟨_, _, _, _, _, 0, rfl, by omega⟩
 ·exact ⟨cs, f, 0, 0, Pt.zero, _, rfl, by omega⟩
theorem resT_form {s b f t l a w : Nat} {m : Int} {cs : List Cl} (h : WayOk s b f m cs a l t) (hlen : cs.length ≤ 1500) : ∃ (c : List Cl) (x t' l' : Nat) (p : Pt) (y : Nat), resT s b m a cs f (toS s b a w l cs f t) = [md 2 s c, plD b m x, (true, U t' :: I (l' : Nat) :: p.ds), i (y : Nat)] ∧ c.length ≤ 6000 := by
 unfold resT
 split
 ·rename_i h0
  have hd := (to_end h hlen h0).2.2.1
  exact ⟨_, _, _, _, _, 0, rfl, by omega⟩
 ·exact ⟨cs, f, 0, 0, Pt.zero, _, rfl, by omega⟩
theorem SplitPrunes_con {s b f t a : Nat} {m lv : Int} {cs : List Cl} (hs : s < 18446744073709551616) (hO : COk cs) (hlx : cs.length < 9223372036854775808) (hb : b < 18446744073709551616) (hfr : f < 18446744073709551616) (hm0 : -9223372036854775808 ≤ m) (hm1 : m < 9223372036854775808) (ht : t < 18446744073709551616) (h0 : -9223372036854775808 ≤ lv) (h1 : lv < 9223372036854775808) (ha : a < 18446744073709551616) :
 Cn gAll 4 [md 2 s cs, plD b m f, u t, i lv, u a] [bb true] := by
 refine con rfl rfl atlaslaw20_SplitPrunes_c atlaslaw20_SplitPrunes_p rfl ?_
 unfold atlaslaw20_SplitPrunes_ir
 simp only [lv_cons, lv_nil, app_cons, app_nil]
 refine wp_call rfl awake20_con rfl ?_
 simp only [lv_cons, lv_nil, app_cons, app_nil]
 refine wp_lt (d := (.b false)) rfl ?_
 simp only [lv_cons, lv_nil, app_cons, app_nil]
 refine wp_ite (t := false) rfl (fun h => by cases h) (fun _ => ?_)
 obtain ⟨v, hf, hb'⟩ := few20_con (cs := cs) (lv := lv) hs hO hb hfr hm0 hm1 ht h0 h1 hlx
 refine wp_call rfl hf rfl ?_
 simp only [lv_cons, lv_nil, app_cons, app_nil]
 refine wp_lt (not_e rfl) ?_
 simp only [lv_cons, lv_nil, app_cons, app_nil]
 refine wp_ite rfl (fun hc => ?_) (fun hc => ?_)
 ·refine wp_call rfl awake20_con rfl ?_
  simp only [lv_cons, lv_nil, app_cons, app_nil]
  exact wp_return rfl rfl
 obtain ⟨l, hS⟩ := hb' (by simpa using hc)
 clear hf hb' hc
 refine wp_call rfl (isVa_con (a := a)) rfl ?_
 simp only [lv_cons, lv_nil, app_cons, app_nil]
 refine wp_lt (not_e rfl) ?_
 simp only [lv_cons, lv_nil, app_cons, app_nil]
 refine wp_ite rfl (fun hc => ?_) (fun hc => ?_)
 ·refine wp_call rfl awake20_con rfl ?_
  simp only [lv_cons, lv_nil, app_cons, app_nil]
  exact wp_return rfl rfl
 clear hc
 obtain rfl := hS.eq
 obtain ⟨p1, p2, p3, p4⟩ := hS.pru (a := a) hO
 have hhd := hS.tree.head
 refine wp_call rfl (prune_con p1 p2 hhd hS.le ha) rfl ?_
 simp only [lv_cons, lv_nil, app_cons, app_nil]
 refine wp_call rfl (refPruneS_con p1 p3 p2 hhd hS.le ha) rfl ?_
 simp only [lv_cons, lv_nil, app_cons, app_nil]
 refine wp_call rfl (sameM_con (s := s) (.inl rfl) (.inl rfl) (by have := p3.len; omega)) rfl ?_
 simp only [lv_cons, lv_nil, app_cons, app_nil]
 refine wp_ite (t := true) rfl (fun _ => ?_) (fun h => by cases h)
 refine wp_lt (d := .b true) (ite_t (eqs_i rfl rfl) (ite_t (eqs_i rfl rfl) (ite_t (eqs_i rfl rfl) rfl))) ?_
 exact wp_return rfl rfl
theorem SplitKeeps_con {s b f t a q : Nat} {m lv : Int} {cs : List Cl} (hs : s < 18446744073709551616) (hO : COk cs) (hlx : cs.length < 9223372036854775808) (hb : b < 18446744073709551616) (hfr : f < 18446744073709551616) (hm0 : -9223372036854775808 ≤ m) (hm1 : m < 9223372036854775808) (ht : t < 18446744073709551616) (h0 : -9223372036854775808 ≤ lv) (h1 : lv < 9223372036854775808) (ha : a < 18446744073709551616) (hq : q < 256) :
 Cn gAll 5 [md 2 s cs, plD b m f, u t, i lv, u a, (false, [.i .u8 (q : Int)])] [bb true] := by
 refine con rfl rfl atlaslaw20_SplitKeeps_c atlaslaw20_SplitKeeps_p rfl ?_
 unfold atlaslaw20_SplitKeeps_ir
 simp only [lv_cons, lv_nil, app_cons, app_nil]
 refine wp_call rfl awake20_con rfl ?_
 simp only [lv_cons, lv_nil, app_cons, app_nil]
 refine wp_lt (d := (.b false)) rfl ?_
 simp only [lv_cons, lv_nil, app_cons, app_nil]
 refine wp_ite (t := false) rfl (fun h => by cases h) (fun _ => ?_)
 obtain ⟨v, hf, hb'⟩ := few20_con (cs := cs) (lv := lv) hs hO hb hfr hm0 hm1 ht h0 h1 hlx
 refine wp_call rfl hf rfl ?_
 simp only [lv_cons, lv_nil, app_cons, app_nil]
 refine wp_lt (not_e rfl) ?_
 simp only [lv_cons, lv_nil, app_cons, app_nil]
 refine wp_ite rfl (fun hc => ?_) (fun hc => ?_)
 ·refine wp_call rfl awake20_con rfl ?_
  simp only [lv_cons, lv_nil, app_cons, app_nil]
  exact wp_return rfl rfl
 obtain ⟨l, hS⟩ := hb' (by simpa using hc)
 clear hf hb' hc
 refine wp_call rfl (isVa_con (a := a)) rfl ?_
 simp only [lv_cons, lv_nil, app_cons, app_nil]
 refine wp_lt (not_e rfl) ?_
 simp only [lv_cons, lv_nil, app_cons, app_nil]
 refine wp_ite rfl (fun hc => ?_) (fun hc => ?_)
 ·refine wp_call rfl awake20_con rfl ?_
  simp only [lv_cons, lv_nil, app_cons, app_nil]
  exact wp_return rfl rfl
 clear hc
 obtain rfl := hS.eq
 have hl2 := hS.le
 have hlen := hS.len
 obtain ⟨p1, p2, p3, p4⟩ := hS.pru (a := a) hO
 have hhd := hS.tree.head
 have hW := hS.way (a := a) hO
 refine wp_chk (row_room (own_cells (.inl rfl) rfl) (by omega)) ?_
 refine wp_lt (own_cells (cs := cs) (k := 2) (.inl rfl) rfl) ?_
 simp only [lv_cons, lv_nil, app_cons, app_nil]
 refine wp_lt (cv_i (n := (q : Int)) rfl (by omega) (by omega)) ?_
 simp only [lv_cons, lv_nil, app_cons, app_nil]
 refine wp_lt (d := I (l + 1 : Nat)) ((i_add (a := (l : Int)) (b := 1) rfl rfl (by omega) (by omega)).trans (by rw [Int.natCast_add]; rfl)) ?_
 simp only [lv_cons, lv_nil, app_cons, app_nil]
 refine wp_lt (i_rem (a := q) (b := l + 1) rfl rfl (by omega)) ?_
 simp only [lv_cons, lv_nil, app_cons, app_nil]
 have hwl : q % (l + 1) ≤ l := Nat.le_of_lt_succ (Nat.mod_lt q (Nat.succ_pos l))
 generalize q % (l + 1) = w at hwl ⊢
 obtain ⟨c1, x1, t1, l1, q1, y1, e1, n1⟩ := resD_form (w := w) hW hlen
 have d1 := down_con hW ha (by omega) hwl
 rw [e1] at d1
 obtain ⟨c2, x2, t2, l2, q2, y2, e2, n2⟩ := resT_form (w := w) hW hlen
 have d2 := to_con hW ha (by omega) hwl
 rw [e2] at d2
 refine wp_call rfl d1 rfl ?_
 simp only [lv_cons, lv_nil, Pt.ds, Lf.ds, app_cons, app_nil]
 refine wp_call rfl d2 rfl ?_
 simp only [lv_cons, lv_nil, Pt.ds, Lf.ds, app_cons, app_nil]
 refine wp_call rfl (prune_con p1 p2 hhd hl2 ha) rfl ?_
 simp only [lv_cons, lv_nil, app_cons, app_nil]
 refine wp_call rfl (sameM_con (s := s) (.inl rfl) (.inl rfl) (by omega)) rfl ?_
 simp only [lv_cons, lv_nil, app_cons, app_nil]
 exact wp_return rfl rfl
theorem SplitDoes_con {s b f t a q : Nat} {m lv : Int} {cs : List Cl} (hs : s < 18446744073709551616) (hO : COk cs) (hlx : cs.length < 9223372036854775808) (hb : b < 18446744073709551616) (hfr : f < 18446744073709551616) (hm0 : -9223372036854775808 ≤ m) (hm1 : m < 9223372036854775808) (ht : t < 18446744073709551616) (h0 : -9223372036854775808 ≤ lv) (h1 : lv < 9223372036854775808) (ha : a < 18446744073709551616) (hq : q < 256) :
 Cn gAll 3 [md 2 s cs, plD b m f, u t, i lv, u a, (false, [.i .u8 (q : Int)])] [bb true] := by
 refine con rfl rfl atlaslaw20_SplitDoes_c atlaslaw20_SplitDoes_p rfl ?_
 unfold atlaslaw20_SplitDoes_ir
 simp only [lv_cons, lv_nil, app_cons, app_nil]
 refine wp_call rfl awake20_con rfl ?_
 simp only [lv_cons, lv_nil, app_cons, app_nil]
 refine wp_lt (d := (.b false)) rfl ?_
 simp only [lv_cons, lv_nil, app_cons, app_nil]
 refine wp_ite (t := false) rfl (fun h => by cases h) (fun _ => ?_)
 obtain ⟨v, hf, hb'⟩ := few20_con (cs := cs) (lv := lv) hs hO hb hfr hm0 hm1 ht h0 h1 hlx
 refine wp_call rfl hf rfl ?_
 simp only [lv_cons, lv_nil, app_cons, app_nil]
 refine wp_lt (not_e rfl) ?_
 simp only [lv_cons, lv_nil, app_cons, app_nil]
 refine wp_ite rfl (fun hc => ?_) (fun hc => ?_)
 ·refine wp_call rfl awake20_con rfl ?_
  simp only [lv_cons, lv_nil, app_cons, app_nil]
  exact wp_return rfl rfl
 obtain ⟨l, hS⟩ := hb' (by simpa using hc)
 clear hf hb' hc
 refine wp_call rfl (isVa_con (a := a)) rfl ?_
 simp only [lv_cons, lv_nil, app_cons, app_nil]
 refine wp_lt (not_e rfl) ?_
 simp only [lv_cons, lv_nil, app_cons, app_nil]
 refine wp_ite rfl (fun hc => ?_) (fun hc => ?_)
 ·refine wp_call rfl awake20_con rfl ?_
  simp only [lv_cons, lv_nil, app_cons, app_nil]
  exact wp_return rfl rfl
 clear hc
 obtain rfl := hS.eq
 have hl2 := hS.le
 have hlen := hS.len
 have hhd := hS.tree.head
 have hmost := hS.rm.most
 have hW := hS.way (a := a) hO
 refine wp_lt (cv_i (n := (q : Int)) rfl (by omega) (by omega)) ?_
 simp only [lv_cons, lv_nil, app_cons, app_nil]
 refine wp_lt (d := I (l + 1 : Nat)) ((i_add (a := (l : Int)) (b := 1) rfl rfl (by omega) (by omega)).trans (by rw [Int.natCast_add]; rfl)) ?_
 simp only [lv_cons, lv_nil, app_cons, app_nil]
 refine wp_lt (i_rem (a := q) (b := l + 1) rfl rfl (by omega)) ?_
 simp only [lv_cons, lv_nil, app_cons, app_nil]
 have hwl : q % (l + 1) ≤ l := Nat.le_of_lt_succ (Nat.mod_lt q (Nat.succ_pos l))
 generalize q % (l + 1) = w at hwl ⊢
 obtain ⟨c1, x1, t1, l1, q1, y1, e1, n1⟩ := resD_form (w := w) hW hlen
 have d1 := down_con hW ha (by omega) hwl
 have g1 := refDownS_con hW ha (by omega) hwl
 rw [e1] at d1 g1
 obtain ⟨c2, x2, t2, l2, q2, y2, e2, n2⟩ := resT_form (w := w) hW hlen
 have d2 := to_con hW ha (by omega) hwl
 have g2 := refToS_con hW ha (by omega) hwl
 rw [e2] at d2 g2
 refine wp_call rfl d1 rfl ?_
 simp only [lv_cons, lv_nil, Pt.ds, Lf.ds, app_cons, app_nil]
 refine wp_call rfl g1 rfl ?_
 simp only [lv_cons, lv_nil, Pt.ds, Lf.ds, app_cons, app_nil]
 refine wp_call rfl (sameM_con (s := s) (.inl rfl) (.inl rfl) (by omega)) rfl ?_
 simp only [lv_cons, lv_nil, app_cons, app_nil]
 refine wp_lt (d := (.b false)) rfl ?_
 simp only [lv_cons, lv_nil, app_cons, app_nil]
 refine wp_ite (t := false) rfl (fun h => by cases h) (fun _ => ?_)
 refine wp_lt (d := .b false) (cmp_e (not_e (ite_t (eqs_i rfl rfl) (ite_t (eqs_i rfl rfl) (ite_t (eqs_i rfl rfl) rfl)))) not_id') ?_
 simp only [lv_cons, lv_nil, app_cons, app_nil]
 refine wp_ite (t := false) rfl (fun h => by cases h) (fun _ => ?_)
 refine wp_lt (d := .b false) (cmp_e (not_e (ite_t (eqs_i rfl rfl) (ite_t (eqs_i rfl rfl) (ite_t (eqs_b rfl rfl) (ite_t (eqs_b rfl rfl) (ite_t (eqs_b rfl rfl) (ite_t (eqs_b rfl rfl) (ite_t (eqs_b rfl rfl) (ite_t (eqs_b rfl rfl) (ite_t (eqs_b rfl rfl) (ite_t (eqs_b rfl rfl) (ite_t (eqs_i rfl rfl) (ite_t (eqs_i rfl rfl) (ite_t (eqs_i rfl rfl) rfl)))))))))))))) not_id') ?_
 simp only [lv_cons, lv_nil, app_cons, app_nil]
 refine wp_ite (t := false) rfl (fun h => by cases h) (fun _ => ?_)
 refine wp_lt (d := .b false) (cmp_e (e_neq rfl rfl) (bne_self_eq_false _)) ?_
 simp only [lv_cons, lv_nil, app_cons, app_nil]
 refine wp_ite (t := false) rfl (fun h => by cases h) (fun _ => ?_)
 refine wp_call rfl d2 rfl ?_
 simp only [lv_cons, lv_nil, Pt.ds, Lf.ds, app_cons, app_nil]
 refine wp_call rfl g2 rfl ?_
 simp only [lv_cons, lv_nil, Pt.ds, Lf.ds, app_cons, app_nil]
 refine wp_call rfl (sameM_con (s := s) (.inl rfl) (.inl rfl) (by omega)) rfl ?_
 simp only [lv_cons, lv_nil, app_cons, app_nil]
 refine wp_lt (d := (.b false)) rfl ?_
 simp only [lv_cons, lv_nil, app_cons, app_nil]
 refine wp_ite (t := false) rfl (fun h => by cases h) (fun _ => ?_)
 refine wp_lt (d := .b false) (cmp_e (not_e (ite_t (eqs_i rfl rfl) (ite_t (eqs_i rfl rfl) (ite_t (eqs_i rfl rfl) rfl)))) not_id') ?_
 simp only [lv_cons, lv_nil, app_cons, app_nil]
 refine wp_ite (t := false) rfl (fun h => by cases h) (fun _ => ?_)
 refine wp_lt (d := .b false) (cmp_e (not_e (ite_t (eqs_i rfl rfl) (ite_t (eqs_i rfl rfl) (ite_t (eqs_b rfl rfl) (ite_t (eqs_b rfl rfl) (ite_t (eqs_b rfl rfl) (ite_t (eqs_b rfl rfl) (ite_t (eqs_b rfl rfl) (ite_t (eqs_b rfl rfl) (ite_t (eqs_b rfl rfl) (ite_t (eqs_b rfl rfl) (ite_t (eqs_i rfl rfl) (ite_t (eqs_i rfl rfl) (ite_t (eqs_i rfl rfl) rfl)))))))))))))) not_id') ?_
 simp only [lv_cons, lv_nil, app_cons, app_nil]
 refine wp_ite (t := false) rfl (fun h => by cases h) (fun _ => ?_)
 refine wp_lt (d := .b false) (cmp_e (e_neq rfl rfl) (bne_self_eq_false _)) ?_
 simp only [lv_cons, lv_nil, app_cons, app_nil]
 refine wp_ite (t := false) rfl (fun h => by cases h) (fun _ => ?_)
 refine wp_call rfl (refReach_con (s := s) (a := a) (want := 0) hS.rm.asc hO (by omega) ha (by omega) l t hl2 (by omega)) rfl ?_
 have hrp := reach_path (s := s) (a := a) (w := 0) (cs := cs) (l := l) (t := t)
 have hrl := (reach_mem (s := s) (a := a) (w := 0) (cs := cs) (l := l) (t := t)).2
 obtain ⟨r, hr⟩ : ∃ r, r = reachN s cs a 0 l t := ⟨_, rfl⟩
 rw [← hr] at hrp hrl ⊢
 have hlow := hW.low _ hrp
 have hspl := fun (h0 : 0 < r.1) h => hW.spl hr.symm h0 h
 obtain ⟨p, hp⟩ : ∃ p, p = ptA s cs r.2 a r.1 := ⟨_, rfl⟩
 rw [← hp] at hspl
 rw [spotD, ← hp]
 simp only [lv_cons, lv_nil, Pt.ds, Lf.ds, app_cons, app_nil]
 refine wp_lt (d := .b (r.1 == 0)) (cmp_e (e_eql rfl rfl) (by rw [Bool.eq_iff_iff, beq_iff_eq, beq_iff_eq]; omega)) ?_
 simp only [lv_cons, lv_nil, app_cons, app_nil]
 refine wp_ite rfl (fun _ => wp_return rfl rfl) (fun h0 => ?_)
 have h0 : 0 < r.1 := by
  have : ¬ r.1 = 0 := by simpa using h0
  omega
 refine wp_call rfl (refLeaf_con (p := p)) rfl ?_
 simp only [lv_cons, lv_nil, app_cons, app_nil]
 refine wp_lt (d := .b (!p.leaf)) (not_e rfl) ?_
 simp only [lv_cons, lv_nil, app_cons, app_nil]
 refine wp_ite rfl (fun _ => wp_return rfl rfl) (fun hlf => ?_)
 have hspl := hspl h0 (by simpa using hlf)
 have k1 := leaf_con (s := s) (b := b) (f := f) (t := r.2) (l := r.1) (a := a) (m := m) (p := p) hS.rm hO hS.pool hS.room hlow hspl ha (by omega)
 have k2 := refLeafS_con (s := s) (b := b) (f := f) (t := r.2) (l := r.1) (a := a) (m := m) (p := p) hS.rm hO hS.pool hS.room hlow hspl ha (by omega)
 obtain ⟨c3, x3, y3, e3, n3⟩ : ∃ (c : List Cl) (x y : Nat), resL s b m a cs f r.1 r.2 p = [md 2 s c, plD b m x, i (y : Nat)] ∧ c.length ≤ 6000 := by
  unfold resL
  rcases take_cases hS.pool with ⟨_, htk⟩ | ⟨x, htk, hx, hfx, _⟩
  ·rw [htk]
   exact ⟨cs, f, 8, rfl, by omega⟩
  ·rw [htk]
   obtain ⟨_, _, i3⟩ := lf_step hW hr.symm h0 hx hfx (by rw [← hp]; exact hspl)
   rw [← hp] at i3
   exact ⟨_, _, 0, rfl, by omega⟩
 rw [e3] at k1 k2
 simp only [Pt.ds] at k1 k2
 refine wp_call rfl k1 rfl ?_
 simp only [lv_cons, lv_nil, Pt.ds, Lf.ds, app_cons, app_nil]
 refine wp_call rfl k2 rfl ?_
 simp only [lv_cons, lv_nil, Pt.ds, Lf.ds, app_cons, app_nil]
 refine wp_call rfl (sameM_con (s := s) (.inl rfl) (.inl rfl) (by omega)) rfl ?_
 simp only [lv_cons, lv_nil, app_cons, app_nil]
 refine wp_ite (t := true) rfl (fun _ => ?_) (fun h => by cases h)
 refine wp_lt (d := .b true) (ite_t (eqs_i rfl rfl) (ite_t (eqs_i rfl rfl) (ite_t (eqs_i rfl rfl) rfl))) ?_
 simp only [lv_cons, lv_nil, app_cons, app_nil]
 refine wp_ite (t := true) rfl (fun _ => ?_) (fun h => by cases h)
 exact wp_lt (d := .b true) (cmp_e (e_eql rfl rfl) (beq_self_eq_true _)) (wp_return rfl rfl)
theorem SplitTwice_con {s b f t a q : Nat} {m : Int} {cs : List Cl} (hs : s < 18446744073709551616) (hO : COk cs) (hlx : cs.length < 9223372036854775808) (hb : b < 18446744073709551616) (hfr : f < 18446744073709551616) (hm0 : -9223372036854775808 ≤ m) (hm1 : m < 9223372036854775808) (ht : t < 18446744073709551616) (ha : a < 18446744073709551616) (hq : q < 256) :
 Cn gAll 6 [md 2 s cs, plD b m f, u t, u a, (false, [.i .u8 (q : Int)])] [bb true] := by
 refine con rfl rfl atlaslaw20_SplitTwice_c atlaslaw20_SplitTwice_p rfl ?_
 unfold atlaslaw20_SplitTwice_ir
 simp only [lv_cons, lv_nil, app_cons, app_nil]
 refine wp_call rfl awake20_con rfl ?_
 simp only [lv_cons, lv_nil, app_cons, app_nil]
 refine wp_lt (d := (.b false)) rfl ?_
 simp only [lv_cons, lv_nil, app_cons, app_nil]
 refine wp_ite (t := false) rfl (fun h => by cases h) (fun _ => ?_)
 obtain ⟨v, hf, hb'⟩ := few20_con (cs := cs) (lv := 2) hs hO hb hfr hm0 hm1 ht (by decide) (by decide) hlx
 refine wp_call rfl hf rfl ?_
 simp only [lv_cons, lv_nil, app_cons, app_nil]
 refine wp_lt (not_e rfl) ?_
 simp only [lv_cons, lv_nil, app_cons, app_nil]
 refine wp_ite rfl (fun hc => ?_) (fun hc => ?_)
 ·refine wp_call rfl awake20_con rfl ?_
  simp only [lv_cons, lv_nil, app_cons, app_nil]
  exact wp_return rfl rfl
 obtain ⟨l, hS⟩ := hb' (by simpa using hc)
 clear hf hb' hc
 refine wp_call rfl (isVa_con (a := a)) rfl ?_
 simp only [lv_cons, lv_nil, app_cons, app_nil]
 refine wp_lt (not_e rfl) ?_
 simp only [lv_cons, lv_nil, app_cons, app_nil]
 refine wp_ite rfl (fun hc => ?_) (fun hc => ?_)
 ·refine wp_call rfl awake20_con rfl ?_
  simp only [lv_cons, lv_nil, app_cons, app_nil]
  exact wp_return rfl rfl
 clear hc
 obtain rfl : l = 2 := by have := hS.eq; omega
 have hlen := hS.len
 have hhd := hS.tree.head
 have hmost := hS.rm.most
 have hW := hS.way (a := a) hO
 refine wp_lt (cv_i (n := (q : Int)) rfl (by omega) (by omega)) ?_
 simp only [lv_cons, lv_nil, app_cons, app_nil]
 refine wp_lt (i_rem (a := q) (b := 3) rfl rfl (by omega)) ?_
 simp only [lv_cons, lv_nil, app_cons, app_nil]
 have hwl : q % 3 ≤ 2 := Nat.le_of_lt_succ (Nat.mod_lt q (by decide))
 generalize q % 3 = w at hwl ⊢
 have d1 := to_con hW ha (by omega) hwl
 have d4 := to_con hW ha (by omega) (show 0 ≤ 2 by omega)
 have e1 := fun h => to_end (w := w) hW hlen h
 have e4 := fun h => to_end (w := 0) hW hlen h
 have hh := to_halves (s := s) (b := b) (a := a) (w := w) (l := 2) (cs := cs) (f := f) (t := t)
 obtain ⟨T, hT⟩ : ∃ T, T = toS s b a w 2 cs f t := ⟨_, rfl⟩
 rw [← hT] at d1 e1 hh
 by_cases hT0 : T.1 = 0
 case neg =>
  rw [resT, if_neg hT0] at d1
  refine wp_call rfl d1 rfl ?_
  simp only [lv_cons, lv_nil, Pt.ds, Lf.ds, app_cons, app_nil]
  refine wp_lt (d := .b true) (cmp_e (e_neq rfl rfl) (by rw [bne_iff_ne]; omega)) ?_
  simp only [lv_cons, lv_nil, app_cons, app_nil]
  refine wp_ite (t := true) rfl (fun _ => ?_) (fun h => by cases h)
  exact wp_return rfl rfl
 obtain ⟨g1, g2, g3, g4⟩ := e1 hT0
 have hh2 := hh hT0
 clear hh
 rw [resT, if_pos hT0] at d1
 obtain ⟨T0, c, x, r⟩ := T
 simp only at hT0 d1 g1 g2 g3 g4 hh2
 subst hT0
 have d2 := to_con g1 ha g3 hwl
 rw [to_again g2 g4, resT, if_pos rfl] at d2
 have d3 := to_con g1 ha g3 (show 0 ≤ 2 by omega)
 have hV : toS s b a 0 2 cs f t = toS s b a 0 2 c x t := by rw [to_lower (w := w) (cs := c), g2]; exact hh2
 rw [hV] at d4 e4
 obtain ⟨V, hVe⟩ : ∃ V, V = toS s b a 0 2 c x t := ⟨_, rfl⟩
 rw [← hVe] at d3 d4 e4
 rw [spotD] at d1 d2
 obtain ⟨p, hp⟩ : ∃ p, p = ptA s c r.2 a r.1 := ⟨_, rfl⟩
 rw [← hp] at d1 d2
 refine wp_call rfl d1 rfl ?_
 simp only [lv_cons, lv_nil, Pt.ds, Lf.ds, app_cons, app_nil]
 refine wp_lt (d := (.b false)) rfl ?_
 simp only [lv_cons, lv_nil, app_cons, app_nil]
 refine wp_ite (t := false) rfl (fun h => by cases h) (fun _ => ?_)
 refine wp_call rfl d2 rfl ?_
 simp only [lv_cons, lv_nil, Pt.ds, Lf.ds, app_cons, app_nil]
 refine wp_lt (d := (.b false)) rfl ?_
 simp only [lv_cons, lv_nil, app_cons, app_nil]
 refine wp_ite (t := false) rfl (fun h => by cases h) (fun _ => ?_)
 refine wp_call rfl (sameM_con (s := s) (.inl rfl) (.inl rfl) (by omega)) rfl ?_
 simp only [lv_cons, lv_nil, app_cons, app_nil]
 refine wp_lt (d := (.b false)) rfl ?_
 simp only [lv_cons, lv_nil, app_cons, app_nil]
 refine wp_ite (t := false) rfl (fun h => by cases h) (fun _ => ?_)
 refine wp_lt (d := .b false) (cmp_e (not_e (ite_t (eqs_i rfl rfl) (ite_t (eqs_i rfl rfl) (ite_t (eqs_i rfl rfl) rfl)))) not_id') ?_
 simp only [lv_cons, lv_nil, app_cons, app_nil]
 refine wp_ite (t := false) rfl (fun h => by cases h) (fun _ => ?_)
 refine wp_lt (d := .b false) (cmp_e (not_e (ite_t (eqs_i rfl rfl) (ite_t (eqs_i rfl rfl) (ite_t (eqs_b rfl rfl) (ite_t (eqs_b rfl rfl) (ite_t (eqs_b rfl rfl) (ite_t (eqs_b rfl rfl) (ite_t (eqs_b rfl rfl) (ite_t (eqs_b rfl rfl) (ite_t (eqs_b rfl rfl) (ite_t (eqs_b rfl rfl) (ite_t (eqs_i rfl rfl) (ite_t (eqs_i rfl rfl) (ite_t (eqs_i rfl rfl) rfl)))))))))))))) not_id') ?_
 simp only [lv_cons, lv_nil, app_cons, app_nil]
 refine wp_ite (t := false) rfl (fun h => by cases h) (fun _ => ?_)
 by_cases hV0 : V.1 = 0
 ·obtain ⟨k1, k2, k3, k4⟩ := e4 hV0
  rw [resT, if_pos hV0, spotD] at d3 d4
  obtain ⟨p2, hp2⟩ : ∃ p2, p2 = ptA s V.2.1 V.2.2.2.2 a V.2.2.2.1 := ⟨_, rfl⟩
  rw [← hp2] at d3 d4
  refine wp_call rfl d3 rfl ?_
  simp only [lv_cons, lv_nil, Pt.ds, Lf.ds, app_cons, app_nil]
  refine wp_call rfl d4 rfl ?_
  simp only [lv_cons, lv_nil, Pt.ds, Lf.ds, app_cons, app_nil]
  refine wp_lt (d := .b true) (cmp_e (e_eql rfl rfl) (beq_self_eq_true _)) ?_
  simp only [lv_cons, lv_nil, app_cons, app_nil]
  refine wp_ite (t := true) rfl (fun _ => ?_) (fun h => by cases h)
  refine wp_lt (d := (.b false)) rfl ?_
  simp only [lv_cons, lv_nil, app_cons, app_nil]
  refine wp_ite (t := false) rfl (fun h => by cases h) (fun _ => ?_)
  refine wp_lt (d := .b true) (ite_t (eqs_i rfl rfl) (ite_t (eqs_i rfl rfl) (ite_t (eqs_i rfl rfl) rfl))) ?_
  simp only [lv_cons, lv_nil, app_cons, app_nil]
  refine wp_ite (t := true) rfl (fun _ => ?_) (fun h => by cases h)
  refine wp_lt (d := .b true) (cmp_e (e_eql rfl rfl) (beq_self_eq_true _)) ?_
  simp only [lv_cons, lv_nil, app_cons, app_nil]
  refine wp_ite (t := true) rfl (fun _ => ?_) (fun h => by cases h)
  refine wp_call rfl (sameM_con (s := s) (.inl rfl) (.inl rfl) (by omega)) rfl ?_
  simp only [lv_cons, lv_nil, app_cons, app_nil]
  refine wp_ite (t := true) rfl (fun _ => ?_) (fun h => by cases h)
  have hpg := refTPages_con (s := s) k1.rm.asc k1.cok (by omega) 2 t 0 (by omega) (by omega) (by decide)
  refine wp_call rfl hpg rfl ?_
  simp only [lv_cons, lv_nil, app_cons, app_nil]
  refine wp_call rfl hpg rfl ?_
  simp only [lv_cons, lv_nil, app_cons, app_nil]
  have hpl := pgL_len (s := s) (cs := V.2.1) (l := 2) (t := t) (b := 0)
  have hrl := roomP_le (l := 2) (by omega)
  refine wp_call rfl (pgSame_con (by omega)) rfl ?_
  simp only [lv_cons, lv_nil, app_cons, app_nil]
  exact wp_return rfl rfl
 ·rw [resT, if_neg hV0] at d3 d4
  refine wp_call rfl d3 rfl ?_
  simp only [lv_cons, lv_nil, Pt.ds, Lf.ds, app_cons, app_nil]
  refine wp_call rfl d4 rfl ?_
  simp only [lv_cons, lv_nil, Pt.ds, Lf.ds, app_cons, app_nil]
  refine wp_lt (d := .b true) (cmp_e (e_eql rfl rfl) (beq_self_eq_true _)) ?_
  simp only [lv_cons, lv_nil, app_cons, app_nil]
  refine wp_ite (t := true) rfl (fun _ => ?_) (fun h => by cases h)
  refine wp_lt (d := .b true) (cmp_e (e_neq rfl rfl) (by rw [bne_iff_ne]; omega)) ?_
  simp only [lv_cons, lv_nil, app_cons, app_nil]
  refine wp_ite (t := true) rfl (fun _ => ?_) (fun h => by cases h)
  exact wp_return rfl rfl
end Go.Proofs.YtnkjmocacielmaaDoor.Sx
