/-
  Layer 19: a tree's pages: contract.
-/
import Derived.Test.YtnlilhpkjlodjaaDoorYTabt
namespace Go.Proofs.YtnlilhpkjlodjaaDoor.Sx
open Go
set_option linter.unusedVariables false
set_option linter.unusedSimpArgs false
set_option maxRecDepth 100000
def vaN (n : Nat) : Nat := signN (n % 134217728 * 4096) 39
theorem set_va {n : Nat} : setN 0 12 27 n = n % 134217728 * 4096 := by
  refine Nat.eq_of_testBit_eq fun i => ?_
  rw [setN_testBit, show (4096 : Nat) = 2 ^ 12 from rfl, Nat.testBit_mul_two_pow, show (134217728 : Nat) = 2 ^ 27 from rfl, Nat.testBit_mod_two_pow]
  by_cases h1 : 12 ≤ i
  · by_cases h2 : i < 39
    · rw [if_pos (by omega), decide_eq_true (by omega), decide_eq_true (show i - 12 < 27 by omega), decide_eq_true (show i ≥ 12 from h1)]
      simp
    · rw [if_neg (by omega), decide_eq_false (show ¬ i - 12 < 27 by omega)]
      simp
  · rw [if_neg (by omega), decide_eq_false (show ¬ i ≥ 12 from h1)]
    simp
theorem vaOf_con {n : Nat} (hn : n < 18446744073709551616) : Cn gAll 51 [u n] [u (vaN n)] := by
  refine con rfl rfl va_Of_c va_Of_p rfl ?_
  unfold va_Of_ir
  refine wp_call rfl (bitsSet_con (a := 0) (lo := 12) (w := 27) (v := n) (by decide) hn (by decide) (by decide)) rfl ?_
  rw [set_va]
  simp only [lv_cons, lv_nil, app_cons, app_nil]
  refine wp_call rfl (bitsSign_con (a := n % 134217728 * 4096) (n := 39) (by omega) (by decide) (by decide)) rfl ?_
  simp only [lv_cons, lv_nil, app_cons, app_nil]
  exact wp_return rfl rfl
abbrev Pg := Nat × Nat × Pt
def pgD (x : Pg) : List D := [U (vaN (x.1 / 4096)), U (x.2.2.ppn * 4096), I x.2.1, .b x.2.2.r, .b x.2.2.w, .b x.2.2.x, .b x.2.2.u, .b x.2.2.d]
def pgL (s : Nat) (cs : List Cl) : Nat → Nat → Nat → List Pg
  | 0, t, b => (List.range 512).flatMap fun j => if (ptN (entN s cs t j)).bad ((0 : Nat) : Int) = true then [] else if (ptN (entN s cs t j)).leaf = true then [(b + j * szN ((0 : Nat) : Int), 0, ptN (entN s cs t j))] else []
  | l + 1, t, b => (List.range 512).flatMap fun j => if (ptN (entN s cs t j)).bad ((l + 1 : Nat) : Int) = true then [] else if (ptN (entN s cs t j)).leaf = true then [(b + j * szN ((l + 1 : Nat) : Int), l + 1, ptN (entN s cs t j))] else pgL s cs l (ptN (entN s cs t j)).ppn (b + j * szN ((l + 1 : Nat) : Int))
def pgE (s : Nat) (cs : List Cl) (l t b j : Nat) : List Pg := if (ptN (entN s cs t j)).bad (l : Int) = true then [] else if (ptN (entN s cs t j)).leaf = true then [(b + j * szN (l : Int), l, ptN (entN s cs t j))] else pgL s cs (l - 1) (ptN (entN s cs t j)).ppn (b + j * szN (l : Int))
theorem pgL_eq {s l t b : Nat} {cs : List Cl} : pgL s cs l t b = (List.range 512).flatMap (pgE s cs l t b) := by
  cases l with
  | zero =>
    unfold pgL
    refine congrArg (fun f => List.flatMap f (List.range 512)) (funext fun j => ?_)
    unfold pgE
    split
    · rfl
    · rename_i hb
      have hb : (ptN (entN s cs t j)).bad ((0 : Nat) : Int) = false := by simpa using hb
      rw [if_pos (Pt.leaf_of hb (Pt.link_low hb)), if_pos (Pt.leaf_of hb (Pt.link_low hb))]
  | succ l => rfl
theorem bad_zero {l : Int} : (ptN 0).bad l = true := by rw [ptN_zero]; rfl
theorem pgL_idx {s l t b : Nat} {cs : List Cl} : pgL s cs l t b = (idxE s cs t 512).flatMap (pgE s cs l t b) := by
  rw [pgL_eq]
  unfold idxE
  rw [flat_filter fun i hi => ?_]
  have h0 : entN s cs t i = 0 := by simpa using hi
  unfold pgE
  rw [h0, bad_zero]
  rfl
def roomP : Nat → Nat
  | 0 => 512
  | l + 1 => 512 * roomP l
theorem roomP_pos {l : Nat} : 1 ≤ roomP l := by
  induction l with
  | zero => decide
  | succ l ih => rw [roomP]; omega
theorem pgL_len {s : Nat} {cs : List Cl} : ∀ {l t b : Nat}, (pgL s cs l t b).length ≤ roomP l
  | 0, t, b => by
    rw [pgL_eq]
    have := flat_len (l := List.range 512) (b := 1) (f := pgE s cs 0 t b) fun j _ => by
      unfold pgE
      split
      · simp
      · rename_i hb
        have hb : (ptN (entN s cs t j)).bad ((0 : Nat) : Int) = false := by simpa using hb
        rw [if_pos (Pt.leaf_of hb (Pt.link_low hb))]
        simp
    rw [List.length_range] at this
    exact this
  | l + 1, t, b => by
    rw [pgL_eq, roomP]
    have := flat_len (l := List.range 512) (b := roomP l) (f := pgE s cs (l + 1) t b) fun j _ => by
      unfold pgE
      split
      · simp
      · split
        · exact roomP_pos
        · exact pgL_len
    rw [List.length_range] at this
    exact this
theorem roomP_le {l : Nat} (h : l ≤ 2) : roomP l ≤ 134217728 := by
  rcases l with _ | _ | _ | l <;> first | decide | omega
def slP (rows : List (List D)) : D := .sl (if rows.isEmpty then 0 else 8) rows
theorem app_p {ρ : List D} {x y : Ex} {a b : List (List D)} (hx : x.eval ρ = some (slP a)) (hy : y.eval ρ = some (slP b)) : (Ex.app 8 x y).eval ρ = some (slP (a ++ b)) := by
  simp only [Ex.eval, hx, hy, slP, appD]
  cases a <;> cases b <;> simp
theorem one_p {ρ : List D} {xs : List Ex} {ds : List D} (h : Ex.evals ρ xs = some ds) (hn : ds.length = 8) : (Ex.one xs).eval ρ = some (slP [ds]) := one_e h hn
theorem room_p {ρ : List D} {x : Ex} {b : Nat} {rows : List (List D)} (hx : x.eval ρ = some (slP rows)) (h : rows.length * b ≤ 2 ^ 40) : (Ex.room (.len x) b).eval ρ = some (.b true) := room_t hx h
theorem pages_wp {s : Nat} {cs : List Cl} (hs : Asc cs) (hC : COk cs) (hl : cs.length ≤ 1000000) (l : Nat) (ih : ∀ l', l' < l → ∀ (t b : Nat), l' ≤ 2 → t < 17592186044416 → b + 512 * szN (l' : Int) ≤ 549755813888 → Cn gAll 21 [md 2 s cs, u t, i l', u b] [(false, [slP ((pgL s cs l' t b).map pgD)])])
    (t b : Nat) (hlv : l ≤ 2) (ht : t < 17592186044416) (hb : b + 512 * szN (l : Int) ≤ 549755813888) : IR.wp (Cn gAll) (fun r => r = [(false, [slP ((pgL s cs l t b).map pgD)])]) table_Pages_ir [] (leavesOf [md 2 s cs, u t, i l, u b]) := by
  unfold table_Pages_ir
  simp only [lv_cons, lv_nil, app_cons, app_nil]
  refine wp_call rfl (ent_con (s := s) (t := t) hs hC hl (by omega)) rfl ?_
  simp only [lv_cons, lv_nil, app_cons, app_nil]
  have hlen : (rowsE19 s cs t).length = (idxE s cs t 512).length := List.length_map ..
  have h512 := idxE_len (s := s) (cs := cs) (t := t) (n := 512)
  have hroom := pgL_len (s := s) (cs := cs) (l := l) (t := t) (b := b)
  have hr2 := roomP_le hlv
  have hpg := pgL_idx (s := s) (l := l) (t := t) (b := b) (cs := cs)
  refine wp_rounds (fun m ds => ∃ n : Nat, ds = [slP ((((idxE s cs t 512).take n).flatMap (pgE s cs l t b)).map pgD), I n] ∧ n + m = (idxE s cs t 512).length + 1 ∧ n ≤ (idxE s cs t 512).length) ((idxE s cs t 512).length + 1) (ds := [slP [], I (0 : Nat)]) rfl ⟨0, rfl, by omega, by omega⟩ ?_
    (fun es hes => by obtain ⟨n, _, h1, h2⟩ := hes; omega)
  rintro m es Q ⟨n, rfl, hm, hn⟩ hQ
  simp only [lv_cons, lv_nil, app_cons, app_nil]
  refine wp_ite (t := decide ((n : Int) < (idxE s cs t 512).length)) (e_lss rfl (len_is rfl hlen)) (fun hc => ?_) (fun hc => ?_)
  · have hc := of_decide_eq_true hc
    obtain ⟨j, hj⟩ : ∃ j, (idxE s cs t 512)[n]? = some j := ⟨_, List.getElem?_eq_getElem (by omega)⟩
    have hrow := rowE_at hj
    have hj512 := idxE_lt hj
    have htk : ((idxE s cs t 512).take (n + 1)).flatMap (pgE s cs l t b) = ((idxE s cs t 512).take n).flatMap (pgE s cs l t b) ++ pgE s cs l t b j := by
      rw [List.take_add_one, hj]
      simp [List.flatMap_append]
    have hlen2 : (((idxE s cs t 512).take (n + 1)).flatMap (pgE s cs l t b)).length ≤ 134217728 := by
      have h1 : (((idxE s cs t 512).take (n + 1)).flatMap (pgE s cs l t b)).length ≤ ((idxE s cs t 512).flatMap (pgE s cs l t b)).length := by
        conv => rhs; rw [← List.take_append_drop (n + 1) (idxE s cs t 512)]
        rw [List.flatMap_append, List.length_append]
        omega
      rw [hpg] at hroom
      omega
    have hnext : I ((n : Int) + 1) = I ((n + 1 : Nat) : Int) := rfl
    obtain ⟨q, hq⟩ : ∃ q, q = ptN (entN s cs t j) := ⟨_, rfl⟩
    have hmay : q.May := by rw [hq]; exact ptN_may (wordN_lt hC)
    have hppn : q.ppn < 17592186044416 := hmay.2.1
    have hE : pgE s cs l t b j = if q.bad (l : Int) = true then [] else if q.leaf = true then [(b + j * szN (l : Int), l, q)] else pgL s cs (l - 1) q.ppn (b + j * szN (l : Int)) := by rw [hq]; rfl
    rw [rowE, ← hq] at hrow
    simp only [Pt.ds] at hrow
    have hpos := szN_pos (l := (l : Int))
    have hjz : j * szN (l : Int) + szN (l : Int) ≤ 512 * szN (l : Int) := by
      rw [show j * szN (l : Int) + szN (l : Int) = (j + 1) * szN (l : Int) by rw [Nat.add_mul, Nat.one_mul]]
      exact Nat.mul_le_mul_right _ (by omega)
    refine wp_lt (cv_u (idx_e rfl rfl hrow rfl) (by omega)) ?_
    simp only [lv_cons, lv_nil, app_cons, app_nil]
    refine wp_call rfl (vaSize_con (lv_of hlv)) rfl ?_
    simp only [lv_cons, lv_nil, app_cons, app_nil]
    refine wp_lt (u_mul rfl rfl (by omega)) ?_
    simp only [lv_cons, lv_nil, app_cons, app_nil]
    refine wp_lt (u_add rfl rfl (by omega)) ?_
    simp only [lv_cons, lv_nil, app_cons, app_nil]
    refine wp_call (az := [q.dv, i l]) (evs_cons (evals_idr rfl rfl hrow 11 1 (Nat.le_refl 12)) (evs_cons (evs_one rfl) rfl)) (pteBad_con (p := q) (lv_of hlv)) rfl ?_
    simp only [lv_cons, lv_nil, app_cons, app_nil]
    refine wp_ite rfl (fun hbd => ?_) (fun hbd => ?_)
    · rw [if_pos hbd] at hE
      refine wp_cont rfl (es_cons rfl (evs_one (i_add (a := (n : Int)) (b := 1) rfl rfl (by omega) (by omega)))) (hQ _ ⟨n + 1, ?_, by omega, by omega⟩)
      rw [htk, hE, List.append_nil]
      rfl
    rw [if_neg (by rw [hbd]; decide)] at hE
    refine wp_call (az := [q.dv]) (evs_cons (evals_idr rfl rfl hrow 11 1 (Nat.le_refl 12)) rfl) (pteLeaf_con (p := q)) rfl ?_
    simp only [lv_cons, lv_nil, app_cons, app_nil]
    refine wp_ite rfl (fun hlf => ?_) (fun hlf => ?_)
    · rw [if_pos hlf] at hE
      refine wp_call rfl (number_con (a := b + j * szN (l : Int)) (by omega)) rfl ?_
      simp only [lv_cons, lv_nil, app_cons, app_nil]
      refine wp_call rfl (vaOf_con (by omega)) rfl ?_
      rw [show (b + j * szN (l : Int)) / 4096 % 134217728 = (b + j * szN (l : Int)) / 4096 by omega]
      simp only [lv_cons, lv_nil, app_cons, app_nil]
      refine wp_lt (u_mul (b := 4096) (idx_e rfl rfl hrow rfl) rfl (by omega)) ?_
      simp only [lv_cons, lv_nil, app_cons, app_nil]
      refine wp_call (az := [q.dv]) (evs_cons (evals_idr rfl rfl hrow 11 1 (Nat.le_refl 12)) rfl) (ptePerm_con (p := q)) rfl ?_
      simp only [lv_cons, lv_nil, app_cons, app_nil]
      have happ := app_p (ρ := [U s, .sl 2 (crs cs), U t, I l, U b, .sl 12 (rowsE19 s cs t), slP ((((idxE s cs t 512).take n).flatMap (pgE s cs l t b)).map pgD), I n, U j, U (szN (l : Int)), U (j * szN (l : Int)), U (b + j * szN (l : Int)), .b (q.bad (l : Int)), .b q.leaf, U ((b + j * szN (l : Int)) / 4096), U (vaN ((b + j * szN (l : Int)) / 4096)), U (q.ppn * 4096), .b q.r, .b q.w, .b q.x, .b q.u]) (x := .v 6) (y := .one ([.v 15, .v 16, .v 3] ++ vr 17 4 ++ [.idx (.v 5) (.v 7) 8])) (a := (((idxE s cs t 512).take n).flatMap (pgE s cs l t b)).map pgD) (b := [pgD (b + j * szN (l : Int), l, q)]) rfl
        (one_p (es_cons rfl (es_cons rfl (es_cons rfl (es_cons rfl (es_cons rfl (es_cons rfl (es_cons rfl (evs_one (idx_e rfl rfl hrow rfl)))))))) ) rfl)
      rw [show (((idxE s cs t 512).take n).flatMap (pgE s cs l t b)).map pgD ++ [pgD (b + j * szN (l : Int), l, q)] = (((idxE s cs t 512).take (n + 1)).flatMap (pgE s cs l t b)).map pgD by rw [htk, hE, List.map_append]; rfl] at happ
      refine wp_chk (room_p happ (by rw [List.length_map]; omega)) ?_
      exact wp_cont rfl (es_cons happ (evs_one (i_add (a := (n : Int)) (b := 1) rfl rfl (by omega) (by omega)))) (hQ _ ⟨n + 1, rfl, by omega, by omega⟩)
    · rw [if_neg (by rw [hlf]; decide)] at hE
      have hl0 : l ≠ 0 := fun h => by
        subst h
        rw [Pt.leaf_of hbd (Pt.link_low hbd)] at hlf
        cases hlf
      refine wp_lt (d := I (l - 1 : Nat)) ((i_sub (a := (l : Int)) (b := 1) rfl rfl (by omega) (by omega)).trans (by rw [show (l : Int) - 1 = ((l - 1 : Nat) : Int) by omega])) ?_
      simp only [lv_cons, lv_nil, app_cons, app_nil]
      have hsz : 512 * szN ((l - 1 : Nat) : Int) = szN (l : Int) := by
        obtain rfl | rfl : l = 1 ∨ l = 2 := by omega
        · rfl
        · rfl
      refine wp_call (az := [md 2 s cs, u q.ppn, i (l - 1 : Nat), u (b + j * szN (l : Int))]) (evs_cons rfl (evs_cons (evs_one (idx_e rfl rfl hrow rfl)) (evs_cons (evs_one rfl) (evs_cons (evs_one rfl) rfl)))) (ih (l - 1) (by omega) q.ppn (b + j * szN (l : Int)) (by omega) hppn (by rw [hsz]; omega)) rfl ?_
      simp only [lv_cons, lv_nil, app_cons, app_nil]
      have happ := app_p (ρ := [U s, .sl 2 (crs cs), U t, I l, U b, .sl 12 (rowsE19 s cs t), slP ((((idxE s cs t 512).take n).flatMap (pgE s cs l t b)).map pgD), I n, U j, U (szN (l : Int)), U (j * szN (l : Int)), U (b + j * szN (l : Int)), .b (q.bad (l : Int)), .b q.leaf, I (l - 1 : Nat), slP ((pgL s cs (l - 1) q.ppn (b + j * szN (l : Int))).map pgD)]) (x := .v 6) (y := .v 15) (a := (((idxE s cs t 512).take n).flatMap (pgE s cs l t b)).map pgD) (b := (pgL s cs (l - 1) q.ppn (b + j * szN (l : Int))).map pgD) rfl rfl
      rw [show (((idxE s cs t 512).take n).flatMap (pgE s cs l t b)).map pgD ++ (pgL s cs (l - 1) q.ppn (b + j * szN (l : Int))).map pgD = (((idxE s cs t 512).take (n + 1)).flatMap (pgE s cs l t b)).map pgD by rw [htk, hE, List.map_append]] at happ
      refine wp_chk (room_p happ (by rw [List.length_map]; omega)) ?_
      exact wp_cont rfl (es_cons happ (evs_one (i_add (a := (n : Int)) (b := 1) rfl rfl (by omega) (by omega)))) (hQ _ ⟨n + 1, rfl, by omega, by omega⟩)
  · have hc := of_decide_eq_false hc
    obtain rfl : n = (idxE s cs t 512).length := by omega
    refine wp_return rfl ?_
    rw [hpg, List.take_length]
theorem pages_con {s : Nat} {cs : List Cl} (hs : Asc cs) (hC : COk cs) (hl : cs.length ≤ 1000000) : ∀ (l t b : Nat), l ≤ 2 → t < 17592186044416 → b + 512 * szN (l : Int) ≤ 549755813888 → Cn gAll 21 [md 2 s cs, u t, i l, u b] [(false, [slP ((pgL s cs l t b).map pgD)])] := by
  intro l
  induction l using Nat.strongRecOn with
  | ind l ih => exact fun t b hlv ht hb => con rfl rfl table_Pages_c table_Pages_p rfl (pages_wp hs hC hl l ih t b hlv ht hb)
end Go.Proofs.YtnlilhpkjlodjaaDoor.Sx
