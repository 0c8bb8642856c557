/-
 Layer 19: TableKeeps.
-/
import Derived.Test.YtnkjmocacielmaaDoorZTabx
import Derived.Test.YtnkjmocacielmaaDoorZIrTc
namespace Go.Proofs.YtnkjmocacielmaaDoor.Sx
open Go
set_option linter.unusedVariables false
set_option linter.unusedSimpArgs false
set_option maxRecDepth 100000
theorem refVaOf_con {n : Nat} (hn : n < 18446744073709551616) : Cn gAll 46 [u n] [u (vaN n)] := by
 refine con rfl rfl atlasref05_Of_c atlasref05_Of_p rfl ?_
 unfold atlasref05_Of_ir
 simp only [lv_cons, lv_nil, app_cons, app_nil]
 refine wp_lt (u_rem (b := 134217728) rfl rfl (by decide)) ?_
 simp only [lv_cons, lv_nil, app_cons, app_nil]
 refine wp_lt (u_mul (b := 4096) rfl rfl (by omega)) ?_
 simp only [lv_cons, lv_nil, app_cons, app_nil]
 refine wp_call rfl (refSign_con (w := n % 134217728 * 4096) (n := 39) (by omega) (by decide) (by decide)) rfl ?_
 simp only [lv_cons, lv_nil, app_cons, app_nil]
 exact wp_return rfl rfl
theorem refReach_con {s a want : Nat} {cs : List Cl} (hs : Asc cs) (hC : COk cs) (hl : cs.length ≤ 1000000) (ha : a < 18446744073709551616) (hw : want ≤ 2) : ∀ (l t : Nat), l ≤ 2 → t < 17592186044416 →
 Cn gAll 15 [md 2 s cs, u t, i l, u a, i want] [spotD s cs a (reachN s cs a want l t)] := by
 intro l
 induction l using Nat.strongRecOn with
 | ind l ih =>
 intro t hlv ht
 refine con rfl rfl atlasref19_Reach_c atlasref19_Reach_p rfl ?_
 unfold atlasref19_Reach_ir
 simp only [lv_cons, lv_nil, app_cons, app_nil]
 refine wp_call rfl (refIndex05_con ha hlv) rfl ?_
 simp only [lv_cons, lv_nil, app_cons, app_nil]
 have hix := ixN_lt (a := a) (l := l)
 refine wp_call rfl (refAt_con (t := t) (j := ixN a l) hs hC hl (by omega)) rfl ?_
 have hppn : (ptA s cs t a l).ppn < 17592186044416 := (ptN_may (wordN_lt hC)).2.1
 have hinv := reachN_eq (s := s) (a := a) (want := want) (l := l) (t := t) (cs := cs)
 have hpt : ptN (entN s cs t (ixN a l)) = ptA s cs t a l := rfl
 rw [hpt]
 obtain ⟨q, hq⟩ : ∃ q, q = ptA s cs t a l := ⟨_, rfl⟩
 have hend : reachN s cs a want l t = (l, t) → [(true, [U t, I l, .b q.v, .b q.r, .b q.w, .b q.x, .b q.u, .b q.g, .b q.a, .b q.d, U q.rsw, U q.ppn, U q.high])] = [spotD s cs a (reachN s cs a want l t)] := fun h => by
  rw [h, spotD, ← hq]
  rfl
 rw [← hq] at hinv hppn ⊢
 simp only [lv_cons, lv_nil, Pt.ds, Lf.ds, app_cons, app_nil]
 refine wp_lt (d := .b (decide ((l : Int) > want))) (e_gtr rfl rfl) ?_
 simp only [lv_cons, lv_nil, app_cons, app_nil]
 refine wp_ite rfl (fun hc => ?_) (fun hc => ?_)
 ·have hc := of_decide_eq_true hc
  refine wp_call rfl (refLinks_con (p := q) (lv_of hlv)) rfl ?_
  simp only [lv_cons, lv_nil, app_cons, app_nil]
  refine wp_ite rfl (fun hk => ?_) (fun hk => ?_)
  ·refine wp_lt (d := I (l - 1 : Nat)) ((i_sub (a := (l : Int)) (b := 1) rfl rfl (by omega) (by omega)).trans (by rw [show (l : Int) - 1 = ((l - 1 : Nat) : Int) by omega])) ?_
   simp only [lv_cons, lv_nil, app_cons, app_nil]
   rw [if_pos ⟨by omega, hk⟩] at hinv
   rw [hinv]
   have hsub := ih (l - 1) (by omega) q.ppn (by omega) hppn
   generalize reachN s cs a want (l - 1) q.ppn = r at hsub ⊢
   unfold spotD at hsub ⊢
   generalize ptA s cs r.2 a r.1 = z at hsub ⊢
   refine wp_call rfl hsub rfl ?_
   simp only [lv_cons, lv_nil, Pt.ds, Lf.ds, app_cons, app_nil]
   exact wp_return rfl rfl
  ·rw [if_neg (fun h => by rw [h.2] at hk; cases hk)] at hinv
   exact wp_return rfl (hend hinv)
 ·have hc := of_decide_eq_false hc
  rw [if_neg (fun h => by omega)] at hinv
  exact wp_return rfl (hend hinv)
theorem refTPages_con {s : Nat} {cs : List Cl} (hs : Asc cs) (hC : COk cs) (hl : cs.length ≤ 1000000) : ∀ (l t b : Nat), l ≤ 2 → t < 17592186044416 → b + 512 * szN (l : Int) ≤ 549755813888 → Cn gAll 22 [md 2 s cs, u t, i l, u b] [(false, [slP ((pgL s cs l t b).map pgD)])] := by
 intro l
 induction l using Nat.strongRecOn with
 | ind l ih =>
 intro t b hlv ht hb
 refine con rfl rfl atlasref19_Pages_c atlasref19_Pages_p rfl ?_
 unfold atlasref19_Pages_ir
 simp only [lv_cons, lv_nil, app_cons, app_nil]
 have hroom := pgL_len (s := s) (cs := cs) (l := l) (t := t) (b := b)
 have hr2 := roomP_le hlv
 have hpg := pgL_eq (s := s) (l := l) (t := t) (b := b) (cs := cs)
 refine wp_rounds (fun m ds => ∃ n : Nat, ds = [I n, slP (((List.range n).flatMap (pgE s cs l t b)).map pgD)] ∧ n + m = 513 ∧ n ≤ 512) 513 (ds := [I (0 : Nat), slP []]) rfl ⟨0, rfl, by omega, by omega⟩ ?_
  (fun es hes => by obtain ⟨n, _, h1, h2⟩ := hes; omega)
 rintro m es Q ⟨n, rfl, hm, hn⟩ hQ
 simp only [lv_cons, lv_nil, app_cons, app_nil]
 refine wp_lt (d := .b (decide ((n : Int) < 512))) (e_lss rfl rfl) ?_
 simp only [lv_cons, lv_nil, app_cons, app_nil]
 refine wp_ite rfl (fun hc => ?_) (fun hc => ?_)
 ·have hc := of_decide_eq_true hc
  have hn512 : n < 512 := by omega
  have htk : (List.range (n + 1)).flatMap (pgE s cs l t b) = (List.range n).flatMap (pgE s cs l t b) ++ pgE s cs l t b n := by
   rw [List.range_succ]
   simp [List.flatMap_append]
  have hlen2 : ((List.range (n + 1)).flatMap (pgE s cs l t b)).length ≤ 134217728 := by
   have h1 : ((List.range (n + 1)).flatMap (pgE s cs l t b)).length ≤ ((List.range 512).flatMap (pgE s cs l t b)).length := by
    have e : List.range 512 = List.range (n + 1) ++ (List.range (511 - n)).map (n + 1 + ·) := by rw [← List.range_add, show n + 1 + (511 - n) = 512 by omega]
    rw [e, List.flatMap_append, List.length_append]
    omega
   rw [hpg] at hroom
   omega
  refine wp_call rfl (refAt_con (s := s) (t := t) (j := n) hs hC hl (by omega)) rfl ?_
  obtain ⟨q, hq⟩ : ∃ q, q = ptN (entN s cs t n) := ⟨_, rfl⟩
  have hmay : q.May := by rw [hq]; exact ptN_may (wordN_lt hC)
  have hppn : q.ppn < 17592186044416 := hmay.2.1
  have hE : pgE s cs l t b n = if q.bad (l : Int) = true then [] else if q.leaf = true then [(b + n * szN (l : Int), l, q)] else pgL s cs (l - 1) q.ppn (b + n * szN (l : Int)) := by rw [hq]; rfl
  rw [← hq]
  simp only [lv_cons, lv_nil, Pt.ds, Lf.ds, app_cons, app_nil]
  have hpos := szN_pos (l := (l : Int))
  have hjz : n * szN (l : Int) + szN (l : Int) ≤ 512 * szN (l : Int) := by
   rw [show n * szN (l : Int) + szN (l : Int) = (n + 1) * szN (l : Int) by rw [Nat.add_mul, Nat.one_mul]]
   exact Nat.mul_le_mul_right _ (by omega)
  refine wp_lt (cv_u rfl (by omega)) ?_
  simp only [lv_cons, lv_nil, app_cons, app_nil]
  refine wp_call rfl (refSize_con (lv_of hlv)) rfl ?_
  simp only [lv_cons, lv_nil, app_cons, app_nil]
  refine wp_lt (u_mul rfl rfl (by omega)) ?_
  simp only [lv_cons, lv_nil, app_cons, app_nil]
  refine wp_lt (u_add rfl rfl (by omega)) ?_
  simp only [lv_cons, lv_nil, app_cons, app_nil]
  refine wp_call rfl (refBad_con (p := q) (lv_of hlv)) rfl ?_
  simp only [lv_cons, lv_nil, app_cons, app_nil]
  refine wp_ite rfl (fun hbd => ?_) (fun hbd => ?_)
  ·rw [if_pos hbd] at hE
   refine wp_lt (i_add (a := (n : Int)) (b := 1) rfl rfl (by omega) (by omega)) ?_
   simp only [lv_cons, lv_nil, app_cons, app_nil]
   refine wp_cont rfl rfl (hQ _ ⟨n + 1, ?_, by omega, by omega⟩)
   rw [htk, hE, List.append_nil]
   rfl
  rw [if_neg (by rw [hbd]; decide)] at hE
  refine wp_call rfl (refLeaf_con (p := q)) rfl ?_
  simp only [lv_cons, lv_nil, app_cons, app_nil]
  refine wp_ite rfl (fun hlf => ?_) (fun hlf => ?_)
  ·rw [if_pos hlf] at hE
   refine wp_call rfl (refNumber_con (a := b + n * szN (l : Int)) (by omega)) rfl ?_
   simp only [lv_cons, lv_nil, app_cons, app_nil]
   refine wp_call rfl (refVaOf_con (by omega)) rfl ?_
   rw [show (b + n * szN (l : Int)) / 4096 % 134217728 = (b + n * szN (l : Int)) / 4096 by omega]
   simp only [lv_cons, lv_nil, app_cons, app_nil]
   refine wp_lt (u_mul (a := 4096) rfl rfl (by omega)) ?_
   simp only [lv_cons, lv_nil, app_cons, app_nil]
   refine wp_call rfl (refPerm_con (p := q)) rfl ?_
   simp only [lv_cons, lv_nil, app_cons, app_nil]
   rw [Nat.mul_comm 4096 q.ppn]
   have happ := app_p (ρ := [U s, .sl 2 (crs cs), U t, I l, U b, I n, slP (((List.range n).flatMap (pgE s cs l t b)).map pgD), .b (decide ((n : Int) < 512)), .b q.v, .b q.r, .b q.w, .b q.x, .b q.u, .b q.g, .b q.a, .b q.d, U q.rsw, U q.ppn, U q.high, U n, U (szN (l : Int)), U (n * szN (l : Int)), U (b + n * szN (l : Int)), .b (q.bad (l : Int)), .b q.leaf, U ((b + n * szN (l : Int)) / 4096), U (vaN ((b + n * szN (l : Int)) / 4096)), U (q.ppn * 4096), .b q.r, .b q.w, .b q.x, .b q.u]) (x := .v 6) (y := .one ([.v 26, .v 27, .v 3] ++ vr 28 4 ++ [.v 15])) (a := ((List.range n).flatMap (pgE s cs l t b)).map pgD) (b := [pgD (b + n * szN (l : Int), l, q)]) rfl (one_p rfl rfl)
   rw [show ((List.range n).flatMap (pgE s cs l t b)).map pgD ++ [pgD (b + n * szN (l : Int), l, q)] = ((List.range (n + 1)).flatMap (pgE s cs l t b)).map pgD by rw [htk, hE, List.map_append]; rfl] at happ
   refine wp_chk (room_p happ (by rw [List.length_map]; omega)) ?_
   refine wp_lt (i_add (a := (n : Int)) (b := 1) rfl rfl (by omega) (by omega)) ?_
   simp only [lv_cons, lv_nil, app_cons, app_nil]
   have happ2 := app_p (ρ := [U s, .sl 2 (crs cs), U t, I l, U b, I n, slP (((List.range n).flatMap (pgE s cs l t b)).map pgD), .b (decide ((n : Int) < 512)), .b q.v, .b q.r, .b q.w, .b q.x, .b q.u, .b q.g, .b q.a, .b q.d, U q.rsw, U q.ppn, U q.high, U n, U (szN (l : Int)), U (n * szN (l : Int)), U (b + n * szN (l : Int)), .b (q.bad (l : Int)), .b q.leaf, U ((b + n * szN (l : Int)) / 4096), U (vaN ((b + n * szN (l : Int)) / 4096)), U (q.ppn * 4096), .b q.r, .b q.w, .b q.x, .b q.u, I ((n : Int) + 1)]) (x := .v 6) (y := .one ([.v 26, .v 27, .v 3] ++ vr 28 4 ++ [.v 15])) (a := ((List.range n).flatMap (pgE s cs l t b)).map pgD) (b := [pgD (b + n * szN (l : Int), l, q)]) rfl (one_p rfl rfl)
   rw [show ((List.range n).flatMap (pgE s cs l t b)).map pgD ++ [pgD (b + n * szN (l : Int), l, q)] = ((List.range (n + 1)).flatMap (pgE s cs l t b)).map pgD by rw [htk, hE, List.map_append]; rfl] at happ2
   exact wp_cont rfl (es_cons rfl (evs_one happ2)) (hQ _ ⟨n + 1, rfl, by omega, by omega⟩)
  ·rw [if_neg (by rw [hlf]; decide)] at hE
   have hl0 : l ≠ 0 := fun h => by
    subst h
    rw [Pt.leaf_of hbd (Pt.link_low hbd)] at hlf
    cases hlf
   refine wp_lt (d := I (l - 1 : Nat)) ((i_sub (a := (l : Int)) (b := 1) rfl rfl (by omega) (by omega)).trans (by rw [show (l : Int) - 1 = ((l - 1 : Nat) : Int) by omega])) ?_
   simp only [lv_cons, lv_nil, app_cons, app_nil]
   have hsz : 512 * szN ((l - 1 : Nat) : Int) = szN (l : Int) := by
    obtain rfl | rfl : l = 1 ∨ l = 2 := by omega
    ·rfl
    ·rfl
   refine wp_call rfl (ih (l - 1) (by omega) q.ppn (b + n * szN (l : Int)) (by omega) hppn (by rw [hsz]; omega)) rfl ?_
   simp only [lv_cons, lv_nil, app_cons, app_nil]
   have happ : ∀ ρ : List D, ρ[6]? = some (slP (((List.range n).flatMap (pgE s cs l t b)).map pgD)) → ρ[26]? = some (slP ((pgL s cs (l - 1) q.ppn (b + n * szN (l : Int))).map pgD)) → (Ex.app 8 (.v 6) (.v 26)).eval ρ = some (slP (((List.range (n + 1)).flatMap (pgE s cs l t b)).map pgD)) := fun ρ h1 h2 => by
    rw [app_p (x := .v 6) (y := .v 26) (by simpa [Ex.eval] using h1) (by simpa [Ex.eval] using h2), ← List.map_append, htk, hE]
   refine wp_chk (room_p (happ _ rfl rfl) (by rw [List.length_map]; omega)) ?_
   refine wp_lt (i_add (a := (n : Int)) (b := 1) rfl rfl (by omega) (by omega)) ?_
   simp only [lv_cons, lv_nil, app_cons, app_nil]
   exact wp_cont rfl (es_cons rfl (evs_one (happ _ rfl rfl))) (hQ _ ⟨n + 1, rfl, by omega, by omega⟩)
 ·have hc := of_decide_eq_false hc
  obtain rfl : n = 512 := by omega
  refine wp_return rfl ?_
  rw [hpg]
theorem pgSame_con {l : List Pg} (hl : l.length < 9223372036854775808) : Cn gAll 21 [(false, [slP (l.map pgD)]), (false, [slP (l.map pgD)])] [bb true] := by
 refine con rfl rfl atlasref19_Same_c atlasref19_Same_p rfl ?_
 unfold atlasref19_Same_ir
 simp only [lv_cons, lv_nil, app_cons, app_nil]
 have hlen : (l.map pgD).length = l.length := List.length_map ..
 refine wp_lt (len_is rfl hlen) ?_
 simp only [lv_cons, lv_nil, app_cons, app_nil]
 refine wp_lt (len_is rfl hlen) ?_
 simp only [lv_cons, lv_nil, app_cons, app_nil]
 refine wp_lt (d := .b false) (cmp_e rfl (bne_self_eq_false _)) ?_
 simp only [lv_cons, lv_nil, app_cons, app_nil]
 refine wp_ite (t := false) rfl (fun h => by cases h) (fun _ => ?_)
 refine wp_rounds (fun m ds => ∃ (t : Bool) (n : Nat), ds = [.b t, I n] ∧ n + m = l.length + 1 ∧ n ≤ l.length) (l.length + 1) rfl ⟨_, 0, rfl, by omega, by omega⟩ ?_
  (fun es hes => by obtain ⟨_, n, _, h1, h2⟩ := hes; omega)
 rintro m es Q ⟨t, n, rfl, hm, hn⟩ hQ
 simp only [lv_cons, lv_nil, app_cons, app_nil]
 refine wp_lt (len_is rfl hlen) ?_
 simp only [lv_cons, lv_nil, app_cons, app_nil]
 refine wp_lt rfl ?_
 simp only [lv_cons, lv_nil, app_cons, app_nil]
 refine wp_ite rfl (fun hc => ?_) (fun hc => ?_)
 ·have hc := of_decide_eq_true hc
  obtain ⟨c, hcs⟩ : ∃ c, l[n]? = some c := ⟨_, List.getElem?_eq_getElem (by omega)⟩
  have hrow : (l.map pgD)[n]? = some (pgD c) := by rw [List.getElem?_map, hcs]; rfl
  have hsl : slP (l.map pgD) = .sl 8 (l.map pgD) := by
   unfold slP
   rw [if_neg]
   intro h
   rw [List.isEmpty_iff] at h
   rw [h] at hrow
   cases hrow
  rw [hsl]
  refine wp_chk (inb_t rfl rfl (by rw [hlen]; omega)) ?_
  refine wp_chk (inb_t rfl rfl (by rw [hlen]; omega)) ?_
  refine wp_lt (d := .b false) (not_e (t := true) (ite_t (eqs_i (idx_e rfl rfl hrow rfl) (idx_e rfl rfl hrow rfl)) (ite_t (eqs_i (idx_e rfl rfl hrow rfl) (idx_e rfl rfl hrow rfl)) (ite_t (eqs_i (idx_e rfl rfl hrow rfl) (idx_e rfl rfl hrow rfl)) (ite_t (eqs_b (idx_e rfl rfl hrow rfl) (idx_e rfl rfl hrow rfl)) (ite_t (eqs_b (idx_e rfl rfl hrow rfl) (idx_e rfl rfl hrow rfl)) (ite_t (eqs_b (idx_e rfl rfl hrow rfl) (idx_e rfl rfl hrow rfl)) (ite_t (eqs_b (idx_e rfl rfl hrow rfl) (idx_e rfl rfl hrow rfl)) (ite_t (eqs_b (idx_e rfl rfl hrow rfl) (idx_e rfl rfl hrow rfl)) rfl))))))))) ?_
  simp only [lv_cons, lv_nil, app_cons, app_nil]
  refine wp_ite (t := false) rfl (fun h => by cases h) (fun _ => ?_)
  refine wp_lt (i_add (a := (n : Int)) (b := 1) rfl rfl (by omega) (by omega)) ?_
  simp only [lv_cons, lv_nil, app_cons, app_nil]
  exact wp_cont rfl rfl (hQ _ ⟨_, n + 1, rfl, by omega, by omega⟩)
 ·exact wp_return rfl rfl
end Go.Proofs.YtnkjmocacielmaaDoor.Sx
