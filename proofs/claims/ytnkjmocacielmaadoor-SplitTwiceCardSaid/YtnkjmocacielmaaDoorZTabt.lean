/-
 Layer 19: trees of tables: contracts.
-/
import Derived.Test.YtnkjmocacielmaaDoorZTabp
namespace Go.Proofs.YtnkjmocacielmaaDoor.Sx
open Go
set_option linter.unusedVariables false
set_option linter.unusedSimpArgs false
set_option maxRecDepth 100000
def clrF (cs : List Cl) (fr : Nat) : List Cl := clrM cs (fr * 512) ((fr + 1) * 512)
theorem clear_con {s fr : Nat} {cs : List Cl} (hs : Asc cs) (hl : cs.length ≤ 1000000) (hf : fr < 1073741824) : Cn gAll 60 [md 2 s cs, u fr] [md 2 s (clrF cs fr)] := by
 refine con rfl rfl table_clear_c table_clear_p rfl ?_
 unfold table_clear_ir
 simp only [lv_cons, lv_nil, app_cons, app_nil]
 refine wp_lt (u_mul (b := 4096) rfl rfl (by omega)) ?_
 simp only [lv_cons, lv_nil, app_cons, app_nil]
 have h := memClear_con (k := 2) (s := s) (a := fr * 4096) (b := 4096) (.inl rfl) hs hl (by omega)
 rw [show fr * 4096 / 8 = fr * 512 by omega, show (fr * 4096 + 4096) / 8 = (fr + 1) * 512 by omega] at h
 refine wp_call rfl h rfl ?_
 simp only [lv_cons, lv_nil, app_cons, app_nil]
 exact wp_return rfl rfl
theorem kept_clr {cs : List Cl} {fr : Nat} (hs : Asc cs) : cs.filter (keptB (4096 * fr) 4096) = clrF cs fr := by
 unfold clrF
 rw [clr_filter hs (by omega)]
 refine List.filter_congr fun c _ => ?_
 unfold keptB
 rw [Bool.eq_iff_iff]
 simp only [Bool.or_eq_true, decide_eq_true_eq]
 omega
theorem refClearF_con {s fr : Nat} {cs : List Cl} (hs : Asc cs) (hc : ∀ c ∈ cs, c.1 < 1152921504606846976) (hl : cs.length ≤ 900000) (hf : fr < 1073741824) : Cn gAll 67 [md 2 s cs, u (4096 * fr), u 4096] [md 2 s (clrF cs fr)] := by
 rw [← kept_clr hs]
 exact refClear_con (.inl rfl) hc hl (by omega)
theorem fresh_none {b s : Nat} {m : Int} {cs : List Cl} : Cn gAll 28 [md 2 s cs, plD b m 0] [md 2 s cs, plD b m 0, u 0, i 8] := by
 refine con rfl rfl table_Fresh_c table_Fresh_p rfl ?_
 unfold table_Fresh_ir
 simp only [lv_cons, lv_nil, app_cons, app_nil]
 refine wp_call rfl poolTake_none rfl ?_
 simp only [lv_cons, lv_nil, app_cons, app_nil]
 refine wp_lt (d := (.b true)) rfl ?_
 simp only [lv_cons, lv_nil, app_cons, app_nil]
 refine wp_ite (t := true) rfl (fun _ => ?_) (fun h => by cases h)
 exact wp_return rfl rfl
theorem fresh_some {b f x s : Nat} {m : Int} {cs : List Cl} (h : PoolOk b m f) (hx : (x : Int) < m) (h1 : f.testBit x = true) (h2 : ∀ j, j < x → f.testBit j = false) (hs : Asc cs) (hl : cs.length ≤ 1000000) :
 Cn gAll 28 [md 2 s cs, plD b m f] [md 2 s (clrF cs (b + x)), plD b m (setN f x 1 0), u (b + x), i 0] := by
 have hhi := h.hi
 have hbs := h.bs
 refine con rfl rfl table_Fresh_c table_Fresh_p rfl ?_
 unfold table_Fresh_ir
 simp only [lv_cons, lv_nil, app_cons, app_nil]
 refine wp_call rfl (poolTake_some h hx h1 h2) rfl ?_
 simp only [lv_cons, lv_nil, app_cons, app_nil]
 refine wp_lt (d := (.b false)) rfl ?_
 simp only [lv_cons, lv_nil, app_cons, app_nil]
 refine wp_ite (t := false) rfl (fun h => by cases h) (fun _ => ?_)
 refine wp_call rfl (clear_con hs hl (by omega)) rfl ?_
 simp only [lv_cons, lv_nil, app_cons, app_nil]
 exact wp_return rfl rfl
theorem refFresh_none {b s : Nat} {m : Int} {cs : List Cl} (h : PoolOk b m 0) : Cn gAll 33 [md 2 s cs, plD b m 0] [md 2 s cs, plD b m 0, u 0, i 8] := by
 refine con rfl rfl atlasref19_Fresh_c atlasref19_Fresh_p rfl ?_
 unfold atlasref19_Fresh_ir
 simp only [lv_cons, lv_nil, app_cons, app_nil]
 refine wp_call rfl (refTake_none h) rfl ?_
 simp only [lv_cons, lv_nil, app_cons, app_nil]
 refine wp_lt (d := (.b true)) rfl ?_
 simp only [lv_cons, lv_nil, app_cons, app_nil]
 refine wp_ite (t := true) rfl (fun _ => ?_) (fun h => by cases h)
 exact wp_return rfl rfl
theorem refFresh_some {b f x s : Nat} {m : Int} {cs : List Cl} (h : PoolOk b m f) (hx : (x : Int) < m) (h1 : f.testBit x = true) (h2 : ∀ j, j < x → f.testBit j = false) (hs : Asc cs) (hc : ∀ c ∈ cs, c.1 < 1152921504606846976) (hl : cs.length ≤ 900000) :
 Cn gAll 33 [md 2 s cs, plD b m f] [md 2 s (clrF cs (b + x)), plD b m (setN f x 1 0), u (b + x), i 0] := by
 have hhi := h.hi
 have hbs := h.bs
 refine con rfl rfl atlasref19_Fresh_c atlasref19_Fresh_p rfl ?_
 unfold atlasref19_Fresh_ir
 simp only [lv_cons, lv_nil, app_cons, app_nil]
 refine wp_call rfl (refTake_some h hx h1 h2) rfl ?_
 simp only [lv_cons, lv_nil, app_cons, app_nil]
 refine wp_lt (d := (.b false)) rfl ?_
 simp only [lv_cons, lv_nil, app_cons, app_nil]
 refine wp_ite (t := false) rfl (fun h => by cases h) (fun _ => ?_)
 refine wp_lt (u_mul (a := 4096) rfl rfl (by omega)) ?_
 simp only [lv_cons, lv_nil, app_cons, app_nil]
 refine wp_call rfl (refClearF_con hs hc hl (by omega)) rfl ?_
 simp only [lv_cons, lv_nil, app_cons, app_nil]
 exact wp_return rfl rfl
theorem isP_lt {b f fr : Nat} {m : Int} (h : PoolOk b m f) (hi : isP b m f fr = true) : fr < 1073741824 := by
 have hhi := h.hi
 have hbs := h.bs
 simp only [isP, Bool.and_eq_true, decide_eq_true_eq] at hi
 omega
theorem back_con {b f fr s : Nat} {m : Int} {cs : List Cl} (h : PoolOk b m f) (hi : isP b m f fr = true) (hs : Asc cs) (hl : cs.length ≤ 1000000) :
 Cn gAll 88 [md 2 s cs, plD b m f, u fr] [md 2 s (clrF cs fr), plD b m (setN f (fr - b) 1 1)] := by
 have hfr := isP_lt h hi
 refine con rfl rfl table_Back_c table_Back_p rfl ?_
 unfold table_Back_ir
 simp only [lv_cons, lv_nil, app_cons, app_nil]
 refine wp_call rfl (poolGive_con h (by omega) hi) rfl ?_
 simp only [lv_cons, lv_nil, app_cons, app_nil]
 refine wp_call rfl (clear_con hs hl hfr) rfl ?_
 simp only [lv_cons, lv_nil, app_cons, app_nil]
 exact wp_return rfl rfl
theorem refBack_con {b f fr s : Nat} {m : Int} {cs : List Cl} (h : PoolOk b m f) (hi : isP b m f fr = true) (hs : Asc cs) (hc : ∀ c ∈ cs, c.1 < 1152921504606846976) (hl : cs.length ≤ 900000) :
 Cn gAll 43 [md 2 s cs, plD b m f, u fr] [md 2 s (clrF cs fr), plD b m (setN f (fr - b) 1 1)] := by
 have hfr := isP_lt h hi
 refine con rfl rfl atlasref19_Back_c atlasref19_Back_p rfl ?_
 unfold atlasref19_Back_ir
 simp only [lv_cons, lv_nil, app_cons, app_nil]
 refine wp_call rfl (refGive_con h (by omega) hi) rfl ?_
 simp only [lv_cons, lv_nil, app_cons, app_nil]
 refine wp_lt (u_mul (a := 4096) rfl rfl (by omega)) ?_
 simp only [lv_cons, lv_nil, app_cons, app_nil]
 refine wp_call rfl (refClearF_con hs hc hl hfr) rfl ?_
 simp only [lv_cons, lv_nil, app_cons, app_nil]
 exact wp_return rfl rfl
theorem at_con {s t j : Nat} {cs : List Cl} (hs : Asc cs) (hC : COk cs) (hl : cs.length ≤ 1000000) (ht : t * 4096 + j * 8 < 18446744073709551616) : Cn gAll 56 [md 2 s cs, u t, i j] [(ptN (entN s cs t j)).dv] := by
 refine con rfl rfl table_at_c table_at_p rfl ?_
 unfold table_at_ir
 simp only [lv_cons, lv_nil, app_cons, app_nil]
 refine wp_call rfl (place_con ht) rfl ?_
 simp only [lv_cons, lv_nil, app_cons, app_nil]
 refine wp_call rfl (memWord_con (.inl rfl) hs (by omega) ht) rfl ?_
 simp only [lv_cons, lv_nil, app_cons, app_nil]
 refine wp_call rfl (pteGet_con (wordN_lt hC)) rfl ?_
 simp only [lv_cons, lv_nil, Pt.ds, Lf.ds, app_cons, app_nil]
 exact wp_return rfl rfl
theorem refAt_con {s t j : Nat} {cs : List Cl} (hs : Asc cs) (hC : COk cs) (hl : cs.length ≤ 1000000) (ht : t * 4096 + j * 8 < 18446744073709551616) : Cn gAll 31 [md 2 s cs, u t, i j] [(ptN (entN s cs t j)).dv] := by
 refine con rfl rfl atlasref19_At_c atlasref19_At_p rfl ?_
 unfold atlasref19_At_ir
 simp only [lv_cons, lv_nil, app_cons, app_nil]
 refine wp_lt (u_mul (a := 4096) rfl rfl (by omega)) ?_
 simp only [lv_cons, lv_nil, app_cons, app_nil]
 refine wp_lt (cv_u rfl (by omega)) ?_
 simp only [lv_cons, lv_nil, app_cons, app_nil]
 refine wp_lt (u_mul (a := 8) rfl rfl (by omega)) ?_
 simp only [lv_cons, lv_nil, app_cons, app_nil]
 refine wp_lt (u_add rfl rfl (by omega)) ?_
 simp only [lv_cons, lv_nil, app_cons, app_nil]
 rw [show 4096 * t + 8 * j = t * 4096 + j * 8 by omega]
 refine wp_call rfl (refWord_con (.inl rfl) hs (by omega) ht) rfl ?_
 simp only [lv_cons, lv_nil, app_cons, app_nil]
 refine wp_call rfl (refGet06_con (wordN_lt hC)) rfl ?_
 simp only [lv_cons, lv_nil, Pt.ds, Lf.ds, app_cons, app_nil]
 exact wp_return rfl rfl
def lnkB (p : Pt) (l : Int) : Bool := p.link && !p.bad l
theorem links_con {p : Pt} {l : Int} (hl : Lv l) : Cn gAll 58 [p.dv, i l] [bb (lnkB p l)] := by
 refine con rfl rfl table_links_c table_links_p rfl ?_
 unfold table_links_ir
 simp only [lv_cons, lv_nil, Pt.ds, Lf.ds, app_cons, app_nil]
 refine wp_call rfl (pteLink_con (p := p)) rfl ?_
 simp only [lv_cons, lv_nil, app_cons, app_nil]
 refine wp_ite rfl (fun h => ?_) (fun h => ?_)
 ·refine wp_call rfl (pteBad_con (p := p) hl) rfl ?_
  simp only [lv_cons, lv_nil, app_cons, app_nil]
  refine wp_lt (not_e rfl) ?_
  simp only [lv_cons, lv_nil, app_cons, app_nil]
  refine wp_return rfl (bb_eq ?_)
  rw [lnkB, h, Bool.true_and]
 ·refine wp_return rfl (bb_eq ?_)
  rw [lnkB, h, Bool.false_and]
theorem refLinks_con {p : Pt} {l : Int} (hl : Lv l) : Cn gAll 35 [p.dv, i l] [bb (lnkB p l)] := by
 refine con rfl rfl atlasref19_Links_c atlasref19_Links_p rfl ?_
 unfold atlasref19_Links_ir
 simp only [lv_cons, lv_nil, Pt.ds, Lf.ds, app_cons, app_nil]
 refine wp_call rfl (refLink_con (p := p)) rfl ?_
 simp only [lv_cons, lv_nil, app_cons, app_nil]
 refine wp_ite rfl (fun h => ?_) (fun h => ?_)
 ·refine wp_call rfl (refBad_con (p := p) hl) rfl ?_
  simp only [lv_cons, lv_nil, app_cons, app_nil]
  refine wp_lt (not_e rfl) ?_
  simp only [lv_cons, lv_nil, app_cons, app_nil]
  refine wp_return rfl (bb_eq ?_)
  rw [lnkB, h, Bool.true_and]
 ·refine wp_return rfl (bb_eq ?_)
  rw [lnkB, h, Bool.false_and]
def ixN (a l : Nat) : Nat := a / szN l % 512
def ptA (s : Nat) (cs : List Cl) (t a l : Nat) : Pt := ptN (entN s cs t (ixN a l))
def reachN (s : Nat) (cs : List Cl) (a want : Nat) : Nat → Nat → Nat × Nat
 | 0, t => (0, t)
 | l + 1, t => if want < l + 1 ∧ lnkB (ptA s cs t a (l + 1)) ((l + 1 : Nat) : Int) = true then reachN s cs a want l (ptA s cs t a (l + 1)).ppn else (l + 1, t)
def spotD (s : Nat) (cs : List Cl) (a : Nat) (r : Nat × Nat) : DV := (true, U r.2 :: I r.1 :: (ptA s cs r.2 a r.1).ds)
theorem reachN_eq {s a want l t : Nat} {cs : List Cl} : reachN s cs a want l t = if want < l ∧ lnkB (ptA s cs t a l) (l : Int) = true then reachN s cs a want (l - 1) (ptA s cs t a l).ppn else (l, t) := by
 cases l with
 | zero => rw [if_neg (by omega)]; rfl
 | succ l => rfl
theorem ixN_lt {a l : Nat} : ixN a l < 512 := Nat.mod_lt _ (by decide)
theorem reach_con {s t a l want : Nat} {cs : List Cl} (hs : Asc cs) (hC : COk cs) (hl : cs.length ≤ 1000000) (ha : a < 18446744073709551616) (hlv : l ≤ 2) (ht : t < 17592186044416) (hw : want ≤ 2) :
 Cn gAll 27 [md 2 s cs, u t, i l, u a, i want] [spotD s cs a (reachN s cs a want l t)] := by
 refine con rfl rfl table_Reach_c table_Reach_p rfl ?_
 unfold table_Reach_ir
 simp only [lv_cons, lv_nil, app_cons, app_nil]
 obtain ⟨R0, hR0⟩ : ∃ R0, R0 = reachN s cs a want l t := ⟨_, rfl⟩
 rw [← hR0]
 refine wp_rounds (fun m ds => ∃ (l t : Nat) (p : Pt), ds = U t :: I l :: p.ds ∧ R0 = reachN s cs a want l t ∧ l + 1 ≤ m ∧ l ≤ 2 ∧ t < 17592186044416) 3 (ds := U t :: I l :: Pt.zero.ds) rfl ⟨l, t, Pt.zero, rfl, hR0, by omega, hlv, ht⟩ ?_
  (fun es hes => by obtain ⟨_, _, _, _, _, h1, h2⟩ := hes; omega)
 clear hR0 hlv ht
 rintro m es Q ⟨l', t', p, rfl, hinv, hm, hlv, ht⟩ hQ
 simp only [Pt.ds]
 simp only [lv_cons, lv_nil, app_cons, app_nil]
 refine wp_call rfl (index_con ha hlv) rfl ?_
 simp only [lv_cons, lv_nil, app_cons, app_nil]
 have hix := ixN_lt (a := a) (l := l')
 refine wp_call rfl (at_con (t := t') (j := ixN a l') hs hC hl (by omega)) rfl ?_
 have hppn : (ptA s cs t' a l').ppn < 17592186044416 := (ptN_may (wordN_lt hC)).2.1
 rw [reachN_eq] at hinv
 have hpt : ptN (entN s cs t' (ixN a l')) = ptA s cs t' a l' := rfl
 rw [hpt]
 obtain ⟨q, hq⟩ : ∃ q, q = ptA s cs t' a l' := ⟨_, rfl⟩
 have hend : R0 = (l', t') → [(true, [U t', I l', .b q.v, .b q.r, .b q.w, .b q.x, .b q.u, .b q.g, .b q.a, .b q.d, U q.rsw, U q.ppn, U q.high])] = [spotD s cs a R0] := fun h => by
  rw [h, spotD, ← hq]
  rfl
 rw [← hq] at hinv hppn ⊢
 simp only [lv_cons, lv_nil, Pt.ds, Lf.ds, app_cons, app_nil]
 refine wp_lt (d := .b (decide ((l' : Int) > want))) (e_gtr rfl rfl) ?_
 simp only [lv_cons, lv_nil, app_cons, app_nil]
 refine wp_ite rfl (fun hc => ?_) (fun hc => ?_)
 ·have hc := of_decide_eq_true hc
  refine wp_call rfl (links_con (p := q) (lv_of hlv)) rfl ?_
  simp only [lv_cons, lv_nil, app_cons, app_nil]
  refine wp_ite rfl (fun hk => ?_) (fun hk => ?_)
  ·refine wp_lt (d := I (l' - 1 : Nat)) ((i_sub (a := (l' : Int)) (b := 1) rfl rfl (by omega) (by omega)).trans (by rw [show (l' : Int) - 1 = ((l' - 1 : Nat) : Int) by omega])) ?_
   simp only [lv_cons, lv_nil, app_cons, app_nil]
   rw [if_pos ⟨by omega, hk⟩] at hinv
   exact wp_cont rfl rfl (hQ _ ⟨l' - 1, q.ppn, q, rfl, hinv, by omega, by omega, hppn⟩)
  ·rw [if_neg (fun h => by rw [h.2] at hk; cases hk)] at hinv
   exact wp_return rfl (hend hinv)
 ·have hc := of_decide_eq_false hc
  rw [if_neg (fun h => by omega)] at hinv
  exact wp_return rfl (hend hinv)
theorem with_con {s t a l : Nat} {cs : List Cl} {p q : Pt} (hR : RM s cs) (hC : COk cs) (hl : cs.length ≤ 1000000) (ha : a < 18446744073709551616) (hlv : l ≤ 2) (ht : t < s / 4096) (hp : p.May) :
 Cn gAll 29 [md 2 s cs, (true, U t :: I l :: q.ds), u a, p.dv] [md 2 s (putM cs (t * 512 + ixN a l) (wdN p))] := by
 have hmost := hR.most
 have hix := ixN_lt (a := a) (l := l)
 refine con rfl rfl table_With_c table_With_p rfl ?_
 unfold table_With_ir
 simp only [Pt.ds]
 simp only [lv_cons, lv_nil, Pt.ds, Lf.ds, app_cons, app_nil]
 refine wp_call rfl (ptePut_con hp) rfl ?_
 simp only [lv_cons, lv_nil, app_cons, app_nil]
 refine wp_call rfl (index_con ha hlv) rfl ?_
 simp only [lv_cons, lv_nil, app_cons, app_nil]
 refine wp_call rfl (place_con (t := t) (i := ixN a l) (by omega)) rfl ?_
 simp only [lv_cons, lv_nil, app_cons, app_nil]
 have h8 : (t * 4096 + ixN a l * 8) % 8 = 0 := by omega
 have hlt : t * 4096 + ixN a l * 8 < s := by omega
 have hw := (show Sz 8 from .inr (.inr (.inr rfl))).wrong h8 hlt
 have hst := memStore_ok (k := 2) (n := 8) (v := wdN p) (.inl rfl) hR.asc hC hl (show t * 4096 + ixN a l * 8 < 18446744073709551616 by omega) wdN_lt (by decide) hw
 rw [store8 h8 wdN_lt, show (t * 4096 + ixN a l * 8) / 8 = t * 512 + ixN a l by omega] at hst
 refine wp_call rfl hst rfl ?_
 simp only [lv_cons, lv_nil, app_cons, app_nil]
 exact wp_return rfl rfl
theorem empty_con {s t : Nat} {cs : List Cl} (hs : Asc cs) (hC : COk cs) (hl : cs.length ≤ 1000000) (ht : t < 17592186044416) : Cn gAll 87 [md 2 s cs, u t] [bb (idxE s cs t 512).isEmpty] := by
 refine con rfl rfl table_Empty_c table_Empty_p rfl ?_
 unfold table_Empty_ir
 simp only [lv_cons, lv_nil, app_cons, app_nil]
 refine wp_call rfl (ent_con (s := s) (t := t) hs hC hl (by omega)) rfl ?_
 simp only [lv_cons, lv_nil, app_cons, app_nil]
 refine wp_rounds (fun m ds => m = 1 ∧ ds = [I 0]) 1 rfl ⟨rfl, rfl⟩ ?_ (fun es hes => by cases hes.1)
 rintro m es Q ⟨hm, rfl⟩ hQ
 simp only [lv_cons, lv_nil, app_cons, app_nil]
 have hlen : (rowsE19 s cs t).length = (idxE s cs t 512).length := List.length_map ..
 refine wp_ite (t := !(idxE s cs t 512).isEmpty) (cmp_e (e_lss rfl (len_is rfl hlen)) ?_) (fun hc => ?_) (fun hc => ?_)
 ·cases h : idxE s cs t 512 with
  | nil => rfl
  | cons x l => simp
 ·refine wp_return rfl (bb_eq ?_)
  simpa using hc.symm
 ·refine wp_return rfl (bb_eq ?_)
  simpa using hc.symm
def lnkE (s : Nat) (cs : List Cl) (t l i : Nat) : Bool := lnkB (ptN (entN s cs t i)) (l : Int)
def framesN (s : Nat) (cs : List Cl) : Nat → Nat → List Nat
 | 0, t => [t]
 | l + 1, t => t :: (List.range 512).flatMap fun i => if lnkE s cs t (l + 1) i = true then framesN s cs l (ptN (entN s cs t i)).ppn else []
theorem lnk_low {p : Pt} : lnkB p 0 = false := by
 unfold lnkB
 cases h : p.bad 0 with
 | true => simp
 | false => rw [Pt.link_low h]; rfl
theorem framesN_eq {s l t : Nat} {cs : List Cl} : framesN s cs l t = t :: (List.range 512).flatMap fun i => if lnkE s cs t l i = true then framesN s cs (l - 1) (ptN (entN s cs t i)).ppn else [] := by
 cases l with
 | zero =>
  have : ∀ i, (if lnkE s cs t 0 i = true then framesN s cs (0 - 1) (ptN (entN s cs t i)).ppn else []) = ([] : List Nat) := fun i => by
   rw [lnkE, show (((0 : Nat) : Int)) = 0 from rfl, lnk_low]; rfl
  simp only [this]
  simp [framesN]
 | succ l => rfl
theorem ptN_zero : ptN 0 = Pt.zero := by rfl
theorem flat_len {α β : Type} {f : α → List β} {b : Nat} : ∀ {l : List α}, (∀ x ∈ l, (f x).length ≤ b) → (l.flatMap f).length ≤ l.length * b
 | [], _ => by simp
 | x :: l, h => by
  rw [List.flatMap_cons, List.length_append, List.length_cons, Nat.add_mul, Nat.one_mul]
  have h1 := h x (List.mem_cons_self ..)
  have h2 := flat_len (l := l) (f := f) (b := b) fun y hy => h y (List.mem_cons_of_mem _ hy)
  omega
def roomF : Nat → Nat
 | 0 => 1
 | l + 1 => 1 + 512 * roomF l
theorem frames_len {s : Nat} {cs : List Cl} : ∀ {l t : Nat}, (framesN s cs l t).length ≤ roomF l
 | 0, t => by simp [framesN, roomF]
 | l + 1, t => by
  rw [framesN_eq, List.length_cons, roomF, Nat.add_sub_cancel]
  have := flat_len (l := List.range 512) (b := roomF l) (f := fun i => if lnkE s cs t (l + 1) i = true then framesN s cs l (ptN (entN s cs t i)).ppn else []) fun x _ => by
   split
   ·exact frames_len
   ·simp
  rw [List.length_range] at this
  omega
theorem roomF_le {l : Nat} (h : l ≤ 2) : roomF l ≤ 300000 := by
 rcases l with _ | _ | _ | l <;> first | decide | omega
abbrev fD (l : List Nat) : List (List D) := l.map fun f => [U f]
end Go.Proofs.YtnkjmocacielmaaDoor.Sx
