/-
 Layer 20: a leaf split, and splitting down to a level: contracts.
-/
import Derived.Test.YtnkjmocacielmaaDoorZSpe
namespace Go.Proofs.YtnkjmocacielmaaDoor.Sx
open Go
set_option linter.unusedVariables false
set_option linter.unusedSimpArgs false
set_option maxRecDepth 100000
def resL (s b : Nat) (m : Int) (a : Nat) (cs : List Cl) (f l t : Nat) (p : Pt) : List DV := match takeN f with
 | none => [md 2 s cs, plD b m f, i (8 : Nat)]
 | some x => [md 2 s (lfM b a cs l t x p), plD b m (setN f x 1 0), i (0 : Nat)]
theorem base_ix {a l j : Nat} (h1 : 1 ≤ l) (h2 : l ≤ 2) (hj : j < 512) (ha : a < 18446744073709551616) : ixN (a - a % szN (l : Int) + j * szN ((l - 1 : Nat) : Int)) (l - 1) = j ∧ a - a % szN (l : Int) + j * szN ((l - 1 : Nat) : Int) < 18446744073709551616 ∧ j * szN ((l - 1 : Nat) : Int) / 4096 = j * pgN ((l - 1 : Nat) : Int) ∧ j * szN ((l - 1 : Nat) : Int) < 1073741824 := by
 unfold ixN
 obtain rfl | rfl : l = 1 ∨ l = 2 := by omega
 ·simp only [show szN ((1 : Nat) : Int) = 2097152 from rfl, show szN ((1 - 1 : Nat) : Int) = 4096 from rfl, show pgN ((1 - 1 : Nat) : Int) = 1 from rfl]
  omega
 ·simp only [show szN ((2 : Nat) : Int) = 1073741824 from rfl, show szN ((2 - 1 : Nat) : Int) = 2097152 from rfl, show pgN ((2 - 1 : Nat) : Int) = 512 from rfl]
  omega
theorem leaf_con {s b f t l a : Nat} {m : Int} {cs : List Cl} {p : Pt} (hR : RM s cs) (hC : COk cs) (hP : PoolOk b m f) (hroom : ((b : Int) + m) * 4096 ≤ s) (ht : t < s / 4096) (hp : SplOk p l) (ha : a < 18446744073709551616) (hlen : cs.length ≤ 6000) :
 Cn gAll 17 [md 2 s cs, plD b m f, (true, U t :: I l :: p.ds), u a] (resL s b m a cs f l t p) := by
 have hl1 := hp.l1
 have hl2 := hp.l2
 have hmost := hR.most
 have hbs := hP.bs
 have hhi := hP.hi
 have hmay := hp.may
 refine con rfl rfl split_Leaf_c split_Leaf_p rfl ?_
 unfold split_Leaf_ir
 simp only [Pt.ds]
 simp only [lv_cons, lv_nil, Pt.ds, Lf.ds, app_cons, app_nil]
 rw [resL]
 rcases take_cases hP with ⟨rfl, htk⟩ | ⟨x, htk, hx, hfx, hmin⟩
 ·rw [htk]
  refine wp_call rfl fresh_none rfl ?_
  simp only [lv_cons, lv_nil, app_cons, app_nil]
  refine wp_lt (d := (.b true)) rfl ?_
  simp only [lv_cons, lv_nil, app_cons, app_nil]
  refine wp_ite (t := true) rfl (fun _ => ?_) (fun h => by cases h)
  exact wp_return rfl rfl
 rw [htk]
 refine wp_call rfl (fresh_some hP hx hfx hmin hR.asc (by omega)) rfl ?_
 simp only [lv_cons, lv_nil, app_cons, app_nil]
 refine wp_lt (d := (.b false)) rfl ?_
 simp only [lv_cons, lv_nil, app_cons, app_nil]
 refine wp_ite (t := false) rfl (fun h => by cases h) (fun _ => ?_)
 have hcR := clrF_rm (fr := b + x) hR
 have hcl := clrF_len (fr := b + x) hR.asc
 have hrow := row_ok (s := s) (fr := b + x) (g := gP p l) hcR (clrF_cok hR.asc hC) (by omega) (clr_far hR.asc) (fun j hj => ⟨(hp.gP hj).1, (hp.gP hj).2.1⟩)
 have hnext := fun n (hn : n < 512) => row_next (c := clrF cs (b + x)) (fr := b + x) (n := n) (g := gP p l) (hrow n (by omega)).rm.asc (clr_far hR.asc) hn (hp.gP hn).1
 have hz := row_zero (c := clrF cs (b + x)) (fr := b + x) (g := gP p l) hcR.asc
 obtain ⟨C, hCe⟩ : ∃ C, C = rowC (clrF cs (b + x)) (b + x) (gP p l) := ⟨_, rfl⟩
 rw [← hCe] at hz
 refine wp_call rfl (base_con ha (lv_of hl2)) rfl ?_
 simp only [lv_cons, lv_nil, app_cons, app_nil]
 refine wp_rounds (fun k ds => ∃ (n v : Nat), ds = [U n, U s, .sl 2 (crs (C n)), U v] ∧ n + k = 513 ∧ n ≤ 512) 513 (ds := [U 0, U s, .sl 2 (crs (clrF cs (b + x))), U p.ppn]) rfl ⟨0, p.ppn, by rw [hz], by omega, by omega⟩ ?_
  (fun es hes => by obtain ⟨n, _, _, h1, h2⟩ := hes; omega)
 rintro k es Q ⟨n, v, rfl, hk, hn⟩ hQ
 simp only [lv_cons, lv_nil, app_cons, app_nil]
 refine wp_lt (d := .b (decide (n < 512))) (cmp_e (e_lss rfl rfl) (by rw [Bool.eq_iff_iff, decide_eq_true_eq, decide_eq_true_eq]; omega)) ?_
 simp only [lv_cons, lv_nil, app_cons, app_nil]
 obtain ⟨r1, r2, r3, r4⟩ := hrow n hn
 have hfit : (rowC (clrF cs (b + x)) (b + x) (gP p l) n).length ≤ 7000 := by omega
 refine wp_ite rfl (fun hc => ?_) (fun hc => ?_)
 ·have hc := of_decide_eq_true hc
  obtain ⟨b1, b2, b3, b4⟩ := base_ix (a := a) hl1 hl2 hc ha
  have hpp := hp.ppn hc
  refine wp_lt (d := I (l - 1 : Nat)) ((i_sub (a := (l : Int)) (b := 1) rfl rfl (by omega) (by omega)).trans (by rw [show (l : Int) - 1 = ((l - 1 : Nat) : Int) by omega])) ?_
  simp only [lv_cons, lv_nil, app_cons, app_nil]
  refine wp_call rfl (vaSize_con (lv_of (show l - 1 ≤ 2 by omega))) rfl ?_
  simp only [lv_cons, lv_nil, app_cons, app_nil]
  refine wp_lt (u_mul rfl rfl (by omega)) ?_
  simp only [lv_cons, lv_nil, app_cons, app_nil]
  refine wp_lt (u_quo (b := 4096) rfl rfl (by omega) (by omega)) ?_
  rw [b3]
  simp only [lv_cons, lv_nil, app_cons, app_nil]
  refine wp_lt (u_add rfl rfl (by omega)) ?_
  simp only [lv_cons, lv_nil, app_cons, app_nil]
  refine wp_lt (d := I (l - 1 : Nat)) ((i_sub (a := (l : Int)) (b := 1) rfl rfl (by omega) (by omega)).trans (by rw [show (l : Int) - 1 = ((l - 1 : Nat) : Int) by omega])) ?_
  simp only [lv_cons, lv_nil, app_cons, app_nil]
  refine wp_lt (d := I (l - 1 : Nat)) ((i_sub (a := (l : Int)) (b := 1) rfl rfl (by omega) (by omega)).trans (by rw [show (l : Int) - 1 = ((l - 1 : Nat) : Int) by omega])) ?_
  simp only [lv_cons, lv_nil, app_cons, app_nil]
  refine wp_call rfl (vaSize_con (lv_of (show l - 1 ≤ 2 by omega))) rfl ?_
  simp only [lv_cons, lv_nil, app_cons, app_nil]
  refine wp_lt (u_mul rfl rfl (by omega)) ?_
  simp only [lv_cons, lv_nil, app_cons, app_nil]
  refine wp_lt (u_add rfl rfl b2) ?_
  simp only [lv_cons, lv_nil, app_cons, app_nil]
  have hwith := with_con (s := s) (t := b + x) (l := l - 1) (a := a - a % szN (l : Int) + n * szN ((l - 1 : Nat) : Int)) (p := partP p l n) (q := Pt.zero) r1 r2 (by omega) b2 (by omega) (by omega) (hp.part hc).1
  rw [b1, show wdN (partP p l n) = gP p l n from rfl, hnext n hc, ← hCe] at hwith
  refine wp_call rfl hwith rfl ?_
  simp only [lv_cons, lv_nil, app_cons, app_nil]
  refine wp_lt (u_add (b := 1) rfl rfl (by omega)) ?_
  simp only [lv_cons, lv_nil, app_cons, app_nil]
  exact wp_cont rfl rfl (hQ _ ⟨n + 1, _, rfl, by omega, by omega⟩)
 ·have hc := of_decide_eq_false hc
  obtain rfl : n = 512 := by omega
  refine wp_call rfl (link_con (n := b + x)) rfl ?_
  simp only [lv_cons, lv_nil, Pt.ds, Lf.ds, app_cons, app_nil]
  have hwith := with_con (s := s) (t := t) (l := l) (a := a) (p := lkP (b + x)) (q := p) r1 r2 (by omega) ha hl2 ht (lkP_may (by omega))
  rw [← hCe] at hwith
  refine wp_call rfl hwith rfl ?_
  simp only [lv_cons, lv_nil, app_cons, app_nil]
  refine wp_return rfl ?_
  rw [hCe]
  rfl
theorem rows_e {ρ : List D} {x y : Ex} {k : Nat} {A B : List Cl} (hx : x.eval ρ = some (.sl k (crs A))) (hk : Kd k A) (hy : y.eval ρ = some (.sl 2 (crs B))) (hB : B ≠ []) : (Ex.app 2 x y).eval ρ = some (.sl 2 (crs (A ++ B))) := by
 rw [crs_app]
 refine app_e hx hy ?_ ?_
 ·rcases hk with h | ⟨h, rfl⟩
  ·exact .inl h
  ·exact .inr ⟨h, rfl⟩
 ·cases B with
  | nil => exact absurd rfl hB
  | cons c r => simp
theorem refLeafS_con {s b f t l a : Nat} {m : Int} {cs : List Cl} {p : Pt} (hR : RM s cs) (hC : COk cs) (hP : PoolOk b m f) (hroom : ((b : Int) + m) * 4096 ≤ s) (ht : t < s / 4096) (hp : SplOk p l) (ha : a < 18446744073709551616) (hlen : cs.length ≤ 6000) :
 Cn gAll 18 [md 2 s cs, plD b m f, (true, U t :: I l :: p.ds), u a] (resL s b m a cs f l t p) := by
 have hl1 := hp.l1
 have hl2 := hp.l2
 have hmost := hR.most
 have hbs := hP.bs
 have hhi := hP.hi
 have hmay := hp.may
 refine con rfl rfl atlasref20_Leaf_c atlasref20_Leaf_p rfl ?_
 unfold atlasref20_Leaf_ir
 simp only [Pt.ds]
 simp only [lv_cons, lv_nil, Pt.ds, Lf.ds, app_cons, app_nil]
 rw [resL]
 rcases take_cases hP with ⟨rfl, htk⟩ | ⟨x, htk, hx, hfx, hmin⟩
 ·rw [htk]
  refine wp_call rfl (refFresh_none hP) rfl ?_
  simp only [lv_cons, lv_nil, app_cons, app_nil]
  refine wp_lt (d := (.b true)) rfl ?_
  simp only [lv_cons, lv_nil, app_cons, app_nil]
  refine wp_ite (t := true) rfl (fun _ => ?_) (fun h => by cases h)
  exact wp_return rfl rfl
 rw [htk]
 refine wp_call rfl (refFresh_some hP hx hfx hmin hR.asc (fun c hc => by have := hR.low c hc; omega) (by omega)) rfl ?_
 simp only [lv_cons, lv_nil, app_cons, app_nil]
 refine wp_lt (d := (.b false)) rfl ?_
 simp only [lv_cons, lv_nil, app_cons, app_nil]
 refine wp_ite (t := false) rfl (fun h => by cases h) (fun _ => ?_)
 have hcR := clrF_rm (fr := b + x) hR
 have hcl := clrF_len (fr := b + x) hR.asc
 obtain ⟨r1, r2, r3, r4⟩ := row_ok (s := s) (fr := b + x) (g := gP p l) hcR (clrF_cok hR.asc hC) (by omega) (clr_far hR.asc) (fun j hj => ⟨(hp.gP hj).1, (hp.gP hj).2.1⟩) 512 (Nat.le_refl _)
 have hres : putM (rowC (clrF cs (b + x)) (b + x) (gP p l) 512) (t * 512 + ixN a l) (wdN (lkP (b + x))) = lfM b a cs l t x p := rfl
 have hlc : ∀ c ∈ clrF cs (b + x), c.1 < 18446744073709551616 := fun c hc => by have := hcR.low c hc; omega
 obtain ⟨C, hCe⟩ : ∃ C, C = clrF cs (b + x) := ⟨_, rfl⟩
 have hrl : (rowL (b + x) (gP p l) 512).length = 512 := by rw [rowL, List.length_map, List.length_range]
 refine wp_rounds (fun k ds => ∃ (n kk : Nat), ds = [U n, .sl kk (crs (rowL (b + x) (gP p l) n))] ∧ Kd kk (rowL (b + x) (gP p l) n) ∧ n + k = 513 ∧ n ≤ 512) 513 (ds := [U 0, .sl 0 []]) rfl ⟨0, 0, rfl, .inr ⟨rfl, rfl⟩, by omega, by omega⟩ ?_
  (fun es hes => by obtain ⟨n, _, _, _, h1, h2⟩ := hes; omega)
 rintro k es Q ⟨n, kk, rfl, hkk, hk, hn⟩ hQ
 simp only [lv_cons, lv_nil, app_cons, app_nil]
 refine wp_lt (d := .b (decide (n < 512))) (cmp_e (e_lss rfl rfl) (by rw [Bool.eq_iff_iff, decide_eq_true_eq, decide_eq_true_eq]; omega)) ?_
 simp only [lv_cons, lv_nil, app_cons, app_nil]
 refine wp_ite rfl (fun hc => ?_) (fun hc => ?_)
 ·have hc := of_decide_eq_true hc
  obtain ⟨b1, b2, b3, b4⟩ := base_ix (a := a) hl1 hl2 hc ha
  have hpp := hp.ppn hc
  refine wp_lt (d := I (l - 1 : Nat)) ((i_sub (a := (l : Int)) (b := 1) rfl rfl (by omega) (by omega)).trans (by rw [show (l : Int) - 1 = ((l - 1 : Nat) : Int) by omega])) ?_
  simp only [lv_cons, lv_nil, app_cons, app_nil]
  refine wp_call rfl (refPages_con (lv_of (show l - 1 ≤ 2 by omega))) rfl ?_
  simp only [lv_cons, lv_nil, app_cons, app_nil]
  refine wp_lt (u_mul rfl rfl (by omega)) ?_
  simp only [lv_cons, lv_nil, app_cons, app_nil]
  refine wp_lt (u_add rfl rfl (by omega)) ?_
  simp only [lv_cons, lv_nil, app_cons, app_nil]
  refine wp_lt (u_mul (a := 512) rfl rfl (by omega)) ?_
  simp only [lv_cons, lv_nil, app_cons, app_nil]
  refine wp_lt (u_add rfl rfl (by omega)) ?_
  simp only [lv_cons, lv_nil, app_cons, app_nil]
  refine wp_call rfl (ref06Put_con (p := partP p l n) (hp.part hc).1) rfl ?_
  rw [Nat.mul_comm 512 (b + x), show wdN (partP p l n) = gP p l n from rfl]
  simp only [lv_cons, lv_nil, app_cons, app_nil]
  have hcell : ∀ ρ : List D, ρ[35]? = some (U ((b + x) * 512 + n)) → ρ[36]? = some (U (gP p l n)) → Ex.evals ρ [.v 35, .v 36] = some (crow ((b + x) * 512 + n, gP p l n)) := fun ρ h1 h2 => by
   simp only [Ex.evals, Ex.eval, h1, h2]
  have hnx := rowL_succ (fr := b + x) (n := n) (g := gP p l)
  have hln2 : (rowL (b + x) (gP p l) (n + 1)).length = n + 1 := by rw [rowL, List.length_map, List.length_range]
  rw [hnx] at hln2
  refine wp_chk (row_room (more_e rfl hkk (hcell _ rfl rfl)) (by omega)) ?_
  refine wp_lt (u_add (b := 1) rfl rfl (by omega)) ?_
  simp only [lv_cons, lv_nil, app_cons, app_nil]
  refine wp_cont rfl (es_cons rfl (evs_one (more_e rfl hkk (hcell _ rfl rfl)))) (hQ _ ⟨n + 1, 2, by rw [hnx], .inl rfl, by omega, by omega⟩)
 have hc := of_decide_eq_false hc
 obtain rfl : n = 512 := by omega
 have hk2 : kk = 2 := hkk.two (by rw [hrl]; decide)
 subst hk2
 clear hkk hQ hc hn hk
 have hne : rowL (b + x) (gP p l) 512 ≠ [] := fun e => by rw [e] at hrl; cases hrl
 obtain ⟨R, hRe⟩ : ∃ R, R = rowL (b + x) (gP p l) 512 := ⟨_, rfl⟩
 rw [← hRe] at hrl hne ⊢
 rw [← hCe] at hcR hcl hlc ⊢
 have hasc := hcR.asc
 have hql := lowN_le (cs := C) (a := (b + x) * 512)
 have hfin : rowC C (b + x) (gP p l) 512 = C.take (lowN C ((b + x) * 512)) ++ (R ++ C.drop (lowN C ((b + x) * 512))) := by
  rw [rowC, take_low hasc, drop_low hasc, hRe]
 rw [← hCe, hfin] at hres
 rw [← hCe] at r1 r3
 rw [hfin] at r1 r3
 obtain ⟨q, hq⟩ : ∃ q, q = lowN C ((b + x) * 512) := ⟨_, rfl⟩
 have hlow := fun (j : Nat) (c : Cl) (h : C[j]? = some c) => low_iff (a := (b + x) * 512) hasc h
 rw [← hq] at hres r1 r3 hql hlow
 clear hfin
 have hOl : ∀ n, n ≤ C.length → q < n → (C.take q ++ (R ++ (C.take n).drop q)).length = n + 512 := fun n h1 h2 => by
  simp only [List.length_append, List.length_drop, List.length_take, hrl]
  omega
 refine wp_rounds (fun k ds => ∃ (n kk : Nat) (O : List Cl), ds = [.b (decide (q < n)), I n, .sl kk (crs O)] ∧ Kd kk O ∧ O = (if q < n then C.take q ++ (R ++ (C.take n).drop q) else C.take n) ∧ n + k = C.length + 1 ∧ n ≤ C.length) (C.length + 1) (ds := [.b false, I (0 : Nat), .sl 0 []]) rfl ⟨0, 0, [], by rw [decide_eq_false (by omega)]; rfl, .inr ⟨rfl, rfl⟩, by rw [if_neg (by omega)]; rfl, by omega, by omega⟩ ?_
  (fun es hes => by obtain ⟨n, _, _, _, _, _, h1, h2⟩ := hes; omega)
 rintro k es Q ⟨n, kk, O, rfl, hkk, hO, hk, hn⟩ hQ
 have hOlen : O.length ≤ n + 512 := by
  rw [hO]
  split
  ·rename_i h; rw [hOl n hn h]; omega
  ·rw [List.length_take]; omega
 simp only [lv_cons, lv_nil, app_cons, app_nil]
 refine wp_lt (len_is (L := C.length) rfl crs_len) ?_
 simp only [lv_cons, lv_nil, app_cons, app_nil]
 refine wp_lt (d := .b (decide (n < C.length))) (cmp_e (e_lss rfl rfl) (by rw [Bool.eq_iff_iff, decide_eq_true_eq, decide_eq_true_eq]; omega)) ?_
 simp only [lv_cons, lv_nil, app_cons, app_nil]
 refine wp_ite rfl (fun hc => ?_) (fun hc => ?_)
 ·have hc := of_decide_eq_true hc
  obtain ⟨c, hcc⟩ : ∃ c, C[n]? = some c := ⟨_, List.getElem?_eq_getElem (by omega)⟩
  have hcr := crow_of hcc
  have hcm := hlc c (List.mem_of_getElem? hcc)
  have htk : C.take (n + 1) = C.take n ++ [c] := take_one hcc
  have hlt := hlow n c hcc
  have hinb : n < (crs C).length := by rw [crs_len]; exact hc
  refine wp_lt (d := .b (!decide (q < n))) (not_e rfl) ?_
  simp only [lv_cons, lv_nil, app_cons, app_nil]
  refine wp_ite rfl (fun h1 => ?_) (fun h1 => ?_)
  ·have h1 : ¬ q < n := by simpa using h1
   rw [if_neg h1] at hO
   refine wp_chk (inb_t rfl rfl hinb) ?_
   refine wp_lt (u_mul (a := 512) rfl rfl (by omega)) ?_
   rw [Nat.mul_comm 512 (b + x)]
   simp only [lv_cons, lv_nil, app_cons, app_nil]
   refine wp_lt (d := .b (decide ((b + x) * 512 ≤ c.1))) (cmp_e (e_geq (idx_e rfl rfl hcr rfl) rfl) (by rw [Bool.eq_iff_iff, decide_eq_true_eq, decide_eq_true_eq]; omega)) ?_
   simp only [lv_cons, lv_nil, app_cons, app_nil]
   refine wp_ite rfl (fun h2 => ?_) (fun h2 => ?_)
   ·have h2 := of_decide_eq_true h2
    obtain rfl : n = q := by omega
    have e1 : ∀ ρ : List D, ρ[32]? = some (.sl kk (crs O)) → ρ[28]? = some (.sl 2 (crs R)) → (Ex.app 2 (.v 32) (.v 28)).eval ρ = some (.sl 2 (crs (O ++ R))) := fun ρ g1 g2 => rows_e (by simpa [Ex.eval] using g1) hkk (by simpa [Ex.eval] using g2) hne
    refine wp_chk (row_room (e1 _ rfl rfl) (by rw [List.length_append]; omega)) ?_
    refine wp_chk (inb_t rfl rfl hinb) ?_
    refine wp_chk (row_room (more_e (e1 _ rfl rfl) (.inl rfl) (row_e (k := 2) rfl rfl hcc)) (by rw [List.length_append, List.length_append, List.length_singleton]; omega)) ?_
    refine wp_lt (d := I (n + 1 : Nat)) ((i_add (a := (n : Int)) (b := 1) rfl rfl (by omega) (by omega)).trans (by rw [Int.natCast_add]; rfl)) ?_
    simp only [lv_cons, lv_nil, app_cons, app_nil]
    refine wp_cont rfl (es_cons rfl (es_cons rfl (evs_one (more_e (e1 _ rfl rfl) (.inl rfl) (row_e (k := 2) rfl rfl hcc))))) (hQ _ ⟨n + 1, 2, _, by rw [decide_eq_true (by omega)], .inl rfl, ?_, by omega, by omega⟩)
    rw [if_pos (by omega), hO, htk, List.drop_append_of_le_length (by rw [List.length_take]; omega), List.drop_eq_nil_of_le (by rw [List.length_take]; omega)]
    simp
   ·have h2 := of_decide_eq_false h2
    refine wp_chk (inb_t rfl rfl hinb) ?_
    refine wp_chk (row_room (more_e rfl hkk (row_e (k := 2) rfl rfl hcc)) (by rw [List.length_append, List.length_singleton]; omega)) ?_
    refine wp_lt (d := I (n + 1 : Nat)) ((i_add (a := (n : Int)) (b := 1) rfl rfl (by omega) (by omega)).trans (by rw [Int.natCast_add]; rfl)) ?_
    simp only [lv_cons, lv_nil, app_cons, app_nil]
    refine wp_cont rfl (es_cons rfl (es_cons rfl (evs_one (more_e rfl hkk (row_e (k := 2) rfl rfl hcc))))) (hQ _ ⟨n + 1, 2, _, by rw [decide_eq_false h1, decide_eq_false (by omega)], .inl rfl, ?_, by omega, by omega⟩)
    rw [if_neg (by omega), hO, htk]
  ·have h1 : q < n := by simpa using h1
   rw [if_pos h1] at hO
   refine wp_chk (inb_t rfl rfl hinb) ?_
   refine wp_chk (row_room (more_e rfl hkk (row_e (k := 2) rfl rfl hcc)) (by rw [List.length_append, List.length_singleton]; omega)) ?_
   refine wp_lt (d := I (n + 1 : Nat)) ((i_add (a := (n : Int)) (b := 1) rfl rfl (by omega) (by omega)).trans (by rw [Int.natCast_add]; rfl)) ?_
   simp only [lv_cons, lv_nil, app_cons, app_nil]
   refine wp_cont rfl (es_cons rfl (es_cons rfl (evs_one (more_e rfl hkk (row_e (k := 2) rfl rfl hcc))))) (hQ _ ⟨n + 1, 2, _, by rw [decide_eq_true h1, decide_eq_true (by omega)], .inl rfl, ?_, by omega, by omega⟩)
   rw [if_pos (by omega), hO, htk, List.drop_append_of_le_length (by rw [List.length_take]; omega)]
   simp only [List.append_assoc]
 ·have hc := of_decide_eq_false hc
  obtain rfl : n = C.length := by omega
  rw [List.take_length] at hO
  refine wp_lt (d := .b (!decide (q < C.length))) (not_e rfl) ?_
  simp only [lv_cons, lv_nil, app_cons, app_nil]
  refine wp_ite rfl (fun h1 => ?_) (fun h1 => ?_)
  ·have h1 : ¬ q < C.length := by simpa using h1
   rw [if_neg h1] at hO
   have e1 : ∀ ρ : List D, ρ[32]? = some (.sl kk (crs O)) → ρ[28]? = some (.sl 2 (crs R)) → (Ex.app 2 (.v 32) (.v 28)).eval ρ = some (.sl 2 (crs (O ++ R))) := fun ρ g1 g2 => rows_e (by simpa [Ex.eval] using g1) hkk (by simpa [Ex.eval] using g2) hne
   have e2 : O ++ R = C.take q ++ (R ++ C.drop q) := by
    rw [hO, List.take_of_length_le (by omega), List.drop_eq_nil_of_le (by omega), List.append_nil]
   refine wp_chk (row_room (e1 _ rfl rfl) (by rw [List.length_append]; omega)) ?_
   have hwith := refWith_con (s := s) (t := t) (l := l) (a := a) (p := lkP (b + x)) (q := p) r1 (by omega) ha hl2 ht (lkP_may (by omega))
   rw [hres] at hwith
   refine wp_call (evs_cons (es_cons rfl (evs_one (e1 _ rfl rfl))) rfl) (by rw [e2]; exact hwith) rfl ?_
   simp only [lv_cons, lv_nil, app_cons, app_nil]
   exact wp_return rfl rfl
  ·have h1 : q < C.length := by simpa using h1
   rw [if_pos h1] at hO
   have hk2 : kk = 2 := hkk.two (by rw [hO, List.length_append, List.length_append]; omega)
   subst hk2
   have hwith := refWith_con (s := s) (t := t) (l := l) (a := a) (p := lkP (b + x)) (q := p) r1 (by omega) ha hl2 ht (lkP_may (by omega))
   rw [hres, ← hO] at hwith
   refine wp_call rfl hwith rfl ?_
   simp only [lv_cons, lv_nil, app_cons, app_nil]
   exact wp_return rfl rfl
end Go.Proofs.YtnkjmocacielmaaDoor.Sx
