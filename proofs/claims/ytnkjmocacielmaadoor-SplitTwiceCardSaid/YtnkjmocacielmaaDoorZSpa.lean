/-
 Layer 20: contracts of the reference's small functions: entries put, tables that are empty, trees that fit.
-/
import Derived.Test.YtnkjmocacielmaaDoorZTabx
import Derived.Test.YtnkjmocacielmaaDoorZIrSp
namespace Go.Proofs.YtnkjmocacielmaaDoor.Sx
open Go
set_option linter.unusedVariables false
set_option linter.unusedSimpArgs false
set_option maxRecDepth 100000
abbrev bitsP (p : Pt) : List Bool := [p.v, p.r, p.w, p.x, p.u, p.g, p.a, p.d]
theorem wdN_sum {p : Pt} (h : p.May) : wdN p = 2 ^ 54 * p.high + (2 ^ 10 * p.ppn + (2 ^ 8 * p.rsw + ofB (bitsP p))) := by
 obtain ⟨h1, h2, h3⟩ := h
 have h8 := ofB_lt (bitsP p)
 have h8' : ofB (bitsP p) < 2 ^ 8 := h8
 have h10 : 2 ^ 8 * p.rsw + ofB (bitsP p) < 2 ^ 10 := by omega
 have h54 : 2 ^ 10 * p.ppn + (2 ^ 8 * p.rsw + ofB (bitsP p)) < 2 ^ 54 := by omega
 refine Nat.eq_of_testBit_eq fun i => ?_
 rw [wdN, setN_testBit, setN_testBit, setN_testBit, Nat.testBit_two_pow_mul_add _ h54, Nat.testBit_two_pow_mul_add _ h10, Nat.testBit_two_pow_mul_add _ h8']
 by_cases h64 : i < 64
 ·rw [decide_eq_true h64, Bool.true_and, Bool.true_and, Bool.true_and]
  by_cases c1 : i < 54
  ·rw [if_neg (by omega), if_pos c1]
   by_cases c2 : i < 10
   ·rw [if_neg (by omega), if_pos c2]
    by_cases c3 : i < 8
    ·rw [if_neg (by omega), if_pos c3]
    ·rw [if_pos (by omega), if_neg c3]
   ·rw [if_pos (by omega), if_neg c2]
  ·rw [if_pos (by omega), if_neg c1]
 ·rw [decide_eq_false h64, Bool.false_and, if_neg (by omega)]
  exact (testBit_lt64 (show p.high < 18446744073709551616 by omega) (by omega : 64 ≤ i - 54 + 54) |> fun _ => by
   refine (Nat.testBit_lt_two_pow (Nat.lt_of_lt_of_le (show p.high < 2 ^ 10 by omega) (Nat.pow_le_pow_right (by decide) (by omega)))).symm)
theorem sum_next {l : List Bool} {n : Nat} (h : n < l.length) : ofB (l.take (n + 1)) = ofB (l.take n) + (l[n]).toNat * 2 ^ n := by
 induction l generalizing n with
 | nil => simp at h
 | cons b r ih =>
  cases n with
  | zero => simp [ofB]
  | succ n =>
   simp only [List.take_succ_cons, ofB, List.getElem_cons_succ]
   rw [ih (by simpa using h), Nat.pow_succ, Nat.mul_add, Nat.add_assoc, Nat.mul_left_comm, Nat.mul_comm 2 (2 ^ n)]
theorem ref06Put_con {p : Pt} (hp : p.May) : Cn gAll 39 [p.dv] [u (wdN p)] := by
 have hsum := wdN_sum hp
 have hlt := wdN_lt (p := p)
 obtain ⟨h1, h2, h3⟩ := hp
 refine con rfl rfl atlasref06_Put_c atlasref06_Put_p rfl ?_
 unfold atlasref06_Put_ir
 simp only [lv_cons, lv_nil, Pt.ds, Lf.ds, app_cons, app_nil]
 refine wp_lt (u_mul (a := 256) rfl rfl (by omega)) ?_
 simp only [lv_cons, lv_nil, app_cons, app_nil]
 refine wp_lt (u_mul (a := 1024) rfl rfl (by omega)) ?_
 simp only [lv_cons, lv_nil, app_cons, app_nil]
 refine wp_lt (u_add rfl rfl (by omega)) ?_
 simp only [lv_cons, lv_nil, app_cons, app_nil]
 refine wp_lt (u_mul (a := 18014398509481984) rfl rfl (by omega)) ?_
 simp only [lv_cons, lv_nil, app_cons, app_nil]
 refine wp_lt (u_add rfl rfl (by omega)) ?_
 simp only [lv_cons, lv_nil, app_cons, app_nil]
 obtain ⟨T, hT⟩ : ∃ T, T = 256 * p.rsw + 1024 * p.ppn + 18014398509481984 * p.high := ⟨_, rfl⟩
 rw [← hT]
 have hW : wdN p = T + ofB (bitsP p) := by rw [hsum, hT]; omega
 have hofl : ∀ n, n ≤ 8 → ofB ((bitsP p).take n) ≤ ofB (bitsP p) ∧ ofB ((bitsP p).take n) < 2 ^ n := by
  intro n hn
  refine ⟨?_, ?_⟩
  ·have hall : ∀ k, n + k ≤ 8 → ofB ((bitsP p).take n) ≤ ofB ((bitsP p).take (n + k)) := by
    intro k
    induction k with
    | zero => exact fun _ => Nat.le_refl _
    | succ k ih =>
     intro hk
     have := sum_next (l := bitsP p) (n := n + k) (by show n + k < 8; omega)
     have := ih (by omega)
     rw [show n + (k + 1) = n + k + 1 by omega]
     omega
   have := hall (8 - n) (by omega)
   rw [show n + (8 - n) = 8 by omega] at this
   exact this
  ·have := ofB_lt ((bitsP p).take n)
   rwa [List.length_take, show min n (bitsP p).length = n from Nat.min_eq_left hn] at this
 clear hT hsum
 have hrow : ∀ (ρ : List D), ρ[0]? = some (.b p.v) → ρ[1]? = some (.b p.r) → ρ[2]? = some (.b p.w) → ρ[3]? = some (.b p.x) → ρ[4]? = some (.b p.u) → ρ[5]? = some (.b p.g) → ρ[6]? = some (.b p.a) → ρ[7]? = some (.b p.d) →
  (Ex.cat (.one [.v 0]) (.cat (.one [.v 1]) (.cat (.one [.v 2]) (.cat (.one [.v 3]) (.cat (.one [.v 4]) (.cat (.one [.v 5]) (.cat (.one [.v 6]) (.one [.v 7])))))))).eval ρ = some (.sl 1 ((bitsP p).map fun b => [.b b])) := fun ρ h0 h1 h2 h3 h4 h5 h6 h7 => by
  simp [Ex.eval, Ex.evals, h0, h1, h2, h3, h4, h5, h6, h7, catD]
 refine wp_rounds (fun k ds => ∃ n : Nat, ds = [U (T + ofB ((bitsP p).take n)), U (2 ^ n), I n] ∧ n + k = 9 ∧ n ≤ 8) 9 (ds := [U T, U 1, I (0 : Nat)]) rfl ⟨0, rfl, rfl, by omega⟩ ?_
  (fun es hes => by obtain ⟨n, _, h, h'⟩ := hes; omega)
 rintro k es Q ⟨n, rfl, hk, hn⟩ hQ
 simp only [lv_cons, lv_nil, app_cons, app_nil]
 refine wp_lt (d := .b (decide ((n : Int) < 8))) (e_lss rfl rfl) ?_
 simp only [lv_cons, lv_nil, app_cons, app_nil]
 refine wp_ite rfl (fun hc => ?_) (fun hc => ?_)
 ·have hc := of_decide_eq_true hc
  have hn8 : n < 8 := by omega
  obtain ⟨b, hb⟩ : ∃ b, (bitsP p)[n]? = some b := ⟨_, List.getElem?_eq_getElem (by show n < 8; omega)⟩
  have hr : ((bitsP p).map fun b => [D.b b])[n]? = some [D.b b] := by rw [List.getElem?_map, hb]; rfl
  have hbe : (bitsP p)[n]'(by show n < 8; omega) = b := by
   rw [List.getElem?_eq_getElem (by show n < 8; omega)] at hb
   exact Option.some.inj hb
  have hnx := sum_next (l := bitsP p) (n := n) (by show n < 8; omega)
  rw [hbe] at hnx
  have hpw : 2 ^ n ≤ 128 := Nat.pow_le_pow_right (by decide) (show n ≤ 7 by omega)
  have hpn : 2 ^ (n + 1) = 2 * 2 ^ n := by rw [Nat.pow_succ, Nat.mul_comm]
  have hle := (hofl (n + 1) (by omega)).1
  refine wp_chk (inb_t (hrow _ rfl rfl rfl rfl rfl rfl rfl rfl) rfl (by simpa using hn8)) ?_
  refine wp_chk (inb_t (hrow _ rfl rfl rfl rfl rfl rfl rfl rfl) rfl (by simpa using hn8)) ?_
  refine wp_ite (t := b) (idx_e (hrow _ rfl rfl rfl rfl rfl rfl rfl rfl) rfl hr rfl) (fun ht => ?_) (fun ht => ?_)
  ·subst ht
   rw [show (true.toNat * 2 ^ n) = 2 ^ n by rw [Bool.toNat_true, Nat.one_mul]] at hnx
   refine wp_lt (u_add rfl rfl (by omega)) ?_
   simp only [lv_cons, lv_nil, app_cons, app_nil]
   refine wp_lt (u_mul (a := 2) rfl rfl (by omega)) ?_
   simp only [lv_cons, lv_nil, app_cons, app_nil]
   refine wp_lt (d := I (n + 1 : Nat)) ((i_add (a := (n : Int)) (b := 1) rfl rfl (by omega) (by omega)).trans (by rw [Int.natCast_add]; rfl)) ?_
   simp only [lv_cons, lv_nil, app_cons, app_nil]
   refine wp_cont rfl rfl (hQ _ ⟨n + 1, ?_, by omega, by omega⟩)
   rw [hnx, hpn, Nat.add_assoc]
  ·subst ht
   rw [show (false.toNat * 2 ^ n) = 0 by rw [Bool.toNat_false, Nat.zero_mul]] at hnx
   refine wp_lt (u_mul (a := 2) rfl rfl (by omega)) ?_
   simp only [lv_cons, lv_nil, app_cons, app_nil]
   refine wp_lt (d := I (n + 1 : Nat)) ((i_add (a := (n : Int)) (b := 1) rfl rfl (by omega) (by omega)).trans (by rw [Int.natCast_add]; rfl)) ?_
   simp only [lv_cons, lv_nil, app_cons, app_nil]
   refine wp_cont rfl rfl (hQ _ ⟨n + 1, ?_, by omega, by omega⟩)
   rw [hnx, hpn]
   rfl
 ·have hc := of_decide_eq_false hc
  obtain rfl : n = 8 := by omega
  refine wp_return rfl ?_
  rw [hW]
  rfl
theorem refWith_con {s t a l : Nat} {cs : List Cl} {p q : Pt} (hR : RM s cs) (hl : cs.length ≤ 400000) (ha : a < 18446744073709551616) (hlv : l ≤ 2) (ht : t < s / 4096) (hp : p.May) :
 Cn gAll 23 [md 2 s cs, (true, U t :: I l :: q.ds), u a, p.dv] [md 2 s (putM cs (t * 512 + ixN a l) (wdN p))] := by
 have hmost := hR.most
 have hix := ixN_lt (a := a) (l := l)
 refine con rfl rfl atlasref19_With_c atlasref19_With_p rfl ?_
 unfold atlasref19_With_ir
 simp only [Pt.ds]
 simp only [lv_cons, lv_nil, Pt.ds, Lf.ds, app_cons, app_nil]
 refine wp_lt (u_mul (a := 512) rfl rfl (by omega)) ?_
 simp only [lv_cons, lv_nil, app_cons, app_nil]
 refine wp_call rfl (refIndex05_con ha hlv) rfl ?_
 simp only [lv_cons, lv_nil, app_cons, app_nil]
 refine wp_lt (cv_u (n := ixN a l) rfl (by omega)) ?_
 simp only [lv_cons, lv_nil, app_cons, app_nil]
 refine wp_lt (u_add rfl rfl (by omega)) ?_
 simp only [lv_cons, lv_nil, app_cons, app_nil]
 refine wp_call rfl (ref06Put_con hp) rfl ?_
 simp only [lv_cons, lv_nil, app_cons, app_nil]
 refine wp_call rfl (refSet_con (k := 2) (s := s) (p := 512 * t + ixN a l) (v := wdN p) (.inl rfl) hR.asc hl) rfl ?_
 rw [Nat.mul_comm 512 t]
 simp only [lv_cons, lv_nil, app_cons, app_nil]
 exact wp_return rfl rfl
def noneF (cs : List Cl) (t : Nat) : Bool := cs.all fun c => c.1 / 512 != t
theorem refEmpty_con {s t : Nat} {cs : List Cl} (hC : COk cs) (hl : cs.length ≤ 1000000) : Cn gAll 42 [md 2 s cs, u t] [bb (noneF cs t)] := by
 refine con rfl rfl atlasref19_Empty_c atlasref19_Empty_p rfl ?_
 unfold atlasref19_Empty_ir
 simp only [lv_cons, lv_nil, app_cons, app_nil]
 have hcl := crs_len (cs := cs)
 refine wp_rounds (fun m ds => ∃ (b : Bool) (n : Nat), ds = [.b b, I n] ∧ n + m = cs.length + 1 ∧ n ≤ cs.length ∧ noneF (cs.take n) t = true) (cs.length + 1) rfl ⟨_, 0, rfl, by omega, by omega, rfl⟩ ?_
  (fun es hes => by obtain ⟨_, n, _, h1, h2, _⟩ := hes; omega)
 rintro m es Q ⟨b, n, rfl, hm, hn, hh⟩ hQ
 simp only [lv_cons, lv_nil, app_cons, app_nil]
 refine wp_lt (len_is rfl hcl) ?_
 simp only [lv_cons, lv_nil, app_cons, app_nil]
 refine wp_lt (d := .b (decide ((n : Int) < cs.length))) (e_lss rfl rfl) ?_
 simp only [lv_cons, lv_nil, app_cons, app_nil]
 refine wp_ite rfl (fun hc => ?_) (fun hc => ?_)
 ·have hc := of_decide_eq_true hc
  have hnl : n < cs.length := by omega
  obtain ⟨c, hcs⟩ : ∃ c, cs[n]? = some c := ⟨_, List.getElem?_eq_getElem hnl⟩
  have hrow := crow_of hcs
  have hmem := List.mem_of_getElem? hcs
  have hco := hC c hmem
  refine wp_chk (inb_t rfl rfl (by rw [hcl]; exact hnl)) ?_
  refine wp_lt (u_quo (b := 512) (idx_e rfl rfl hrow rfl) rfl (by omega) (by omega)) ?_
  simp only [lv_cons, lv_nil, app_cons, app_nil]
  refine wp_lt (d := .b (c.1 / 512 == t)) (cmp_e (e_eql rfl rfl) (by rw [Bool.eq_iff_iff, beq_iff_eq, beq_iff_eq]; omega)) ?_
  simp only [lv_cons, lv_nil, app_cons, app_nil]
  refine wp_ite rfl (fun he => ?_) (fun he => ?_)
  ·refine wp_return rfl (bb_eq ?_)
   refine (List.all_eq_false.2 ⟨c, hmem, by simpa using he⟩).symm
  ·refine wp_lt (d := I (n + 1 : Nat)) ((i_add (a := (n : Int)) (b := 1) rfl rfl (by omega) (by omega)).trans (by rw [Int.natCast_add]; rfl)) ?_
   simp only [lv_cons, lv_nil, app_cons, app_nil]
   refine wp_cont rfl rfl (hQ _ ⟨_, n + 1, rfl, by omega, by omega, ?_⟩)
   rw [List.take_add_one, hcs]
   unfold noneF at hh ⊢
   simp only [List.all_append, hh, Bool.true_and]
   simpa using he
 ·have hc := of_decide_eq_false hc
  obtain rfl : n = cs.length := by omega
  rw [List.take_length] at hh
  exact wp_return rfl (bb_eq hh.symm)
theorem none_empty {s t : Nat} {cs : List Cl} (hR : RM s cs) (ht : t < s / 4096) : noneF cs t = (idxE s cs t 512).isEmpty := by
 have hev := hR.even
 rw [Bool.eq_iff_iff, List.isEmpty_iff, idxE, List.filter_eq_nil_iff, noneF, List.all_eq_true]
 have hent : ∀ j, j < 512 → entN s cs t j = lookN cs (t * 512 + j) := fun j hj => by
  rw [entN, word_in (by omega), show (t * 4096 + j * 8) / 8 = t * 512 + j by omega]
 constructor
 ·intro h j hj
  have hj := List.mem_range.1 hj
  rw [hent j hj]
  rw [look_non fun c hc => ?_]
  ·decide
  ·have := h c hc
   simp only [bne_iff_ne, ne_eq] at this
   omega
 ·intro h c hc
  simp only [bne_iff_ne, ne_eq]
  intro he
  have h1 := h (c.1 % 512) (List.mem_range.2 (Nat.mod_lt _ (by decide)))
  rw [hent _ (Nat.mod_lt _ (by decide)), show t * 512 + c.1 % 512 = c.1 by omega, look_mem (v := c.2) hR.asc hc] at h1
  exact h1 (by simpa using hR.nz c hc)
def inP (b : Nat) (m : Int) (fr : Nat) : Bool := decide (b ≤ fr) && decide ((fr : Int) < b + m)
theorem inPool_con {b f fr : Nat} {m : Int} (h : PoolOk b m f) : Cn gAll 55 [plD b m f, u fr] [bb (inP b m fr)] := by
 obtain ⟨M, rfl⟩ := Int.eq_ofNat_of_zero_le h.lo
 have hhi := h.hi
 have hbs := h.bs
 refine con rfl rfl atlasref20_InPool_c atlasref20_InPool_p rfl ?_
 unfold atlasref20_InPool_ir
 simp only [lv_cons, lv_nil, app_cons, app_nil]
 refine wp_lt (d := .b (decide (b ≤ fr))) (cmp_e (e_geq rfl rfl) (by rw [Bool.eq_iff_iff, decide_eq_true_eq, decide_eq_true_eq]; omega)) ?_
 simp only [lv_cons, lv_nil, app_cons, app_nil]
 refine wp_ite rfl (fun hc => ?_) (fun hc => ?_)
 ·refine wp_lt (cv_u rfl (by omega)) ?_
  simp only [lv_cons, lv_nil, app_cons, app_nil]
  refine wp_lt (u_add rfl rfl (by omega)) ?_
  simp only [lv_cons, lv_nil, app_cons, app_nil]
  refine wp_lt (d := .b (decide ((fr : Int) < b + (M : Nat)))) (cmp_e (e_lss rfl rfl) (by rw [Bool.eq_iff_iff, decide_eq_true_eq, decide_eq_true_eq]; omega)) ?_
  simp only [lv_cons, lv_nil, app_cons, app_nil]
  refine wp_return rfl (bb_eq ?_)
  rw [inP, hc, Bool.true_and]
 ·refine wp_return rfl (bb_eq ?_)
  rw [inP, hc, Bool.false_and]
def Pt.isZ (p : Pt) : Bool := (p.v == false) && ((p.r == false) && ((p.w == false) && ((p.x == false) && ((p.u == false) && ((p.g == false) && ((p.a == false) && ((p.d == false) && (((p.rsw : Int) == 0) && (((p.ppn : Int) == 0) && (((p.high : Int) == 0) && true))))))))))
theorem Pt.isZ_zero {p : Pt} : p.isZ = true ↔ p = Pt.zero := by
 obtain ⟨v, r, w, x, u, g, a, d, rsw, ppn, high⟩ := p
 simp [Pt.isZ, Pt.zero]
def clE (g : Nat → Bool) (s : Nat) (cs : List Cl) (l t j : Nat) : Bool := (ptN (entN s cs t j)).isZ || (!(ptN (entN s cs t j)).bad (l : Int) && (!(ptN (entN s cs t j)).link || g (ptN (entN s cs t j)).ppn))
def cleanN (s : Nat) (cs : List Cl) : Nat → Nat → Bool
 | 0, t => (List.range 512).all (clE (fun _ => false) s cs 0 t)
 | l + 1, t => (List.range 512).all (clE (cleanN s cs l) s cs (l + 1) t)
def cleanG (s : Nat) (cs : List Cl) : Nat → Nat → Bool
 | 0 => fun _ => false
 | l + 1 => cleanN s cs l
theorem cleanN_eq {s l t : Nat} {cs : List Cl} : cleanN s cs l t = (List.range 512).all (clE (cleanG s cs l) s cs l t) := by cases l <;> rfl
theorem refClean_con {s : Nat} {cs : List Cl} (hs : Asc cs) (hC : COk cs) (hl : cs.length ≤ 1000000) : ∀ (l t : Nat), l ≤ 2 → t < 17592186044416 → Cn gAll 54 [md 2 s cs, u t, i l] [bb (cleanN s cs l t)] := by
 intro l
 induction l using Nat.strongRecOn with
 | ind l ih =>
 intro t hlv ht
 refine con rfl rfl atlasref20_clean_c atlasref20_clean_p rfl ?_
 unfold atlasref20_clean_ir
 simp only [lv_cons, lv_nil, app_cons, app_nil]
 refine wp_rounds (fun m ds => ∃ (b : Bool) (n : Nat), ds = [.b b, I n] ∧ n + m = 513 ∧ n ≤ 512 ∧ ∀ j, j < n → clE (cleanG s cs l) s cs l t j = true) 513 rfl ⟨_, 0, rfl, by omega, by omega, fun j hj => by omega⟩ ?_
  (fun es hes => by obtain ⟨_, n, _, h1, h2, _⟩ := hes; omega)
 rintro m es Q ⟨b, n, rfl, hm, hn, hh⟩ hQ
 simp only [lv_cons, lv_nil, app_cons, app_nil]
 refine wp_lt (d := .b (decide ((n : Int) < 512))) (e_lss rfl rfl) ?_
 simp only [lv_cons, lv_nil, app_cons, app_nil]
 refine wp_ite rfl (fun hc => ?_) (fun hc => ?_)
 ·have hc := of_decide_eq_true hc
  refine wp_call rfl (refAt_con (s := s) (t := t) (j := n) hs hC hl (by omega)) rfl ?_
  obtain ⟨q, hq⟩ : ∃ q, q = ptN (entN s cs t n) := ⟨_, rfl⟩
  have hmay : q.May := by rw [hq]; exact ptN_may (wordN_lt hC)
  have hE : clE (cleanG s cs l) s cs l t n = (q.isZ || (!q.bad (l : Int) && (!q.link || cleanG s cs l q.ppn))) := by rw [hq]; rfl
  rw [← hq]
  clear hq
  have hgo : clE (cleanG s cs l) s cs l t n = true → ∀ j, j < n + 1 → clE (cleanG s cs l) s cs l t j = true := fun h j hj => by
   by_cases he : j = n
   ·rw [he]; exact h
   ·exact hh j (by omega)
  have hstop : clE (cleanG s cs l) s cs l t n = false → cleanN s cs l t = false := fun h => by
   rw [cleanN_eq]
   exact List.all_eq_false.2 ⟨n, List.mem_range.2 (by omega), by rw [h]; decide⟩
  simp only [lv_cons, lv_nil, Pt.ds, Lf.ds, app_cons, app_nil]
  refine wp_lt (d := .b q.isZ) (ite_bb (eqt_b rfl rfl) (ite_bb (eqt_b rfl rfl) (ite_bb (eqt_b rfl rfl) (ite_bb (eqt_b rfl rfl) (ite_bb (eqt_b rfl rfl) (ite_bb (eqt_b rfl rfl) (ite_bb (eqt_b rfl rfl) (ite_bb (eqt_b rfl rfl) (ite_bb (eqt_i rfl rfl) (ite_bb (eqt_i rfl rfl) (ite_bb (eqt_i rfl rfl) rfl))))))))))) ?_
  simp only [lv_cons, lv_nil, app_cons, app_nil]
  refine wp_ite rfl (fun hz => ?_) (fun hz => ?_)
  ·refine wp_lt (d := I (n + 1 : Nat)) ((i_add (a := (n : Int)) (b := 1) rfl rfl (by omega) (by omega)).trans (by rw [Int.natCast_add]; rfl)) ?_
   simp only [lv_cons, lv_nil, app_cons, app_nil]
   exact wp_cont rfl rfl (hQ _ ⟨_, n + 1, rfl, by omega, by omega, hgo (by rw [hE, hz]; rfl)⟩)
  refine wp_call rfl (refBad_con (p := q) (lv_of hlv)) rfl ?_
  simp only [lv_cons, lv_nil, app_cons, app_nil]
  refine wp_ite rfl (fun hbd => ?_) (fun hbd => ?_)
  ·exact wp_return rfl (bb_eq (hstop (by rw [hE, hz, hbd]; rfl)).symm)
  refine wp_call rfl (refLink_con (p := q)) rfl ?_
  simp only [lv_cons, lv_nil, app_cons, app_nil]
  refine wp_ite rfl (fun hlk => ?_) (fun hlk => ?_)
  ·have hl0 : l ≠ 0 := fun h => by
    subst h
    rw [Pt.link_low hbd] at hlk
    cases hlk
   refine wp_lt (d := I (l - 1 : Nat)) ((i_sub (a := (l : Int)) (b := 1) rfl rfl (by omega) (by omega)).trans (by rw [show (l : Int) - 1 = ((l - 1 : Nat) : Int) by omega])) ?_
   simp only [lv_cons, lv_nil, app_cons, app_nil]
   refine wp_call rfl (ih (l - 1) (by omega) q.ppn (by omega) hmay.2.1) rfl ?_
   simp only [lv_cons, lv_nil, app_cons, app_nil]
   have hG : cleanG s cs l q.ppn = cleanN s cs (l - 1) q.ppn := by
    cases l with
    | zero => exact absurd rfl hl0
    | succ l => rfl
   rw [hG, hlk, hbd, hz] at hE
   refine wp_lt (d := .b (!cleanN s cs (l - 1) q.ppn)) (not_e rfl) ?_
   simp only [lv_cons, lv_nil, app_cons, app_nil]
   refine wp_ite rfl (fun h => ?_) (fun h => ?_)
   ·refine wp_return rfl (bb_eq (hstop ?_).symm)
    rw [hE]
    simpa using h
   ·refine wp_lt (d := I (n + 1 : Nat)) ((i_add (a := (n : Int)) (b := 1) rfl rfl (by omega) (by omega)).trans (by rw [Int.natCast_add]; rfl)) ?_
    simp only [lv_cons, lv_nil, app_cons, app_nil]
    refine wp_cont rfl rfl (hQ _ ⟨_, n + 1, rfl, by omega, by omega, hgo ?_⟩)
    rw [hE]
    simpa using h
  ·refine wp_lt (d := I (n + 1 : Nat)) ((i_add (a := (n : Int)) (b := 1) rfl rfl (by omega) (by omega)).trans (by rw [Int.natCast_add]; rfl)) ?_
   simp only [lv_cons, lv_nil, app_cons, app_nil]
   exact wp_cont rfl rfl (hQ _ ⟨_, n + 1, rfl, by omega, by omega, hgo (by rw [hE, hlk, hbd]; simp)⟩)
 ·have hc := of_decide_eq_false hc
  obtain rfl : n = 512 := by omega
  refine wp_return rfl (bb_eq ?_)
  rw [cleanN_eq]
  exact (List.all_eq_true.2 fun j hj => hh j (List.mem_range.1 hj)).symm
theorem refFrames_con {s : Nat} {cs : List Cl} (hs : Asc cs) (hC : COk cs) (hl : cs.length ≤ 1000000) : ∀ (l t : Nat), l ≤ 2 → t < 17592186044416 → Cn gAll 26 [md 2 s cs, u t, i l] [(false, [.sl 1 (fD (framesN s cs l t))])] := by
 intro l
 induction l using Nat.strongRecOn with
 | ind l ih =>
 intro t hlv ht
 refine con rfl rfl atlasref19_Frames_c atlasref19_Frames_p rfl ?_
 unfold atlasref19_Frames_ir
 simp only [lv_cons, lv_nil, app_cons, app_nil]
 have hroom := frames_len (s := s) (cs := cs) (l := l) (t := t)
 have hr2 := roomF_le hlv
 have hfr := frames_frE (s := s) (l := l) (t := t) (cs := cs)
 refine wp_rounds (fun m ds => ∃ n : Nat, ds = [I n, .sl 1 (fD (t :: (List.range n).flatMap (frE s cs t l)))] ∧ n + m = 513 ∧ n ≤ 512) 513 (ds := [I (0 : Nat), .sl 1 (fD [t])]) rfl ⟨0, rfl, by omega, by omega⟩ ?_
  (fun es hes => by obtain ⟨n, _, h1, h2⟩ := hes; omega)
 rintro m es Q ⟨n, rfl, hm, hn⟩ hQ
 simp only [lv_cons, lv_nil, app_cons, app_nil]
 refine wp_lt (d := .b (decide ((n : Int) < 512))) (e_lss rfl rfl) ?_
 simp only [lv_cons, lv_nil, app_cons, app_nil]
 refine wp_ite rfl (fun hc => ?_) (fun hc => ?_)
 ·have hc := of_decide_eq_true hc
  have htk : (List.range (n + 1)).flatMap (frE s cs t l) = (List.range n).flatMap (frE s cs t l) ++ frE s cs t l n := by
   rw [List.range_succ]
   simp [List.flatMap_append]
  have hlen2 : ((List.range (n + 1)).flatMap (frE s cs t l)).length ≤ 300000 := by
   have h1 : ((List.range (n + 1)).flatMap (frE s cs t l)).length ≤ ((List.range 512).flatMap (frE s cs t l)).length := by
    have e : List.range 512 = List.range (n + 1) ++ (List.range (511 - n)).map (n + 1 + ·) := by rw [← List.range_add, show n + 1 + (511 - n) = 512 by omega]
    rw [e, List.flatMap_append, List.length_append]
    omega
   rw [hfr, List.length_cons] at hroom
   omega
  refine wp_call rfl (refAt_con (s := s) (t := t) (j := n) hs hC hl (by omega)) rfl ?_
  obtain ⟨q, hq⟩ : ∃ q, q = ptN (entN s cs t n) := ⟨_, rfl⟩
  have hmay : q.May := by rw [hq]; exact ptN_may (wordN_lt hC)
  have hE : frE s cs t l n = if lnkB q (l : Int) = true then framesN s cs (l - 1) q.ppn else [] := by rw [hq]; rfl
  rw [← hq]
  clear hq
  simp only [lv_cons, lv_nil, Pt.ds, Lf.ds, app_cons, app_nil]
  refine wp_call rfl (refLinks_con (p := q) (lv_of hlv)) rfl ?_
  simp only [lv_cons, lv_nil, app_cons, app_nil]
  refine wp_ite rfl (fun hk => ?_) (fun hk => ?_)
  ·have hl0 : l ≠ 0 := fun h => by rw [h, show (((0 : Nat) : Int)) = 0 from rfl, lnk_low] at hk; cases hk
   rw [if_pos hk] at hE
   refine wp_lt (d := I (l - 1 : Nat)) ((i_sub (a := (l : Int)) (b := 1) rfl rfl (by omega) (by omega)).trans (by rw [show (l : Int) - 1 = ((l - 1 : Nat) : Int) by omega])) ?_
   simp only [lv_cons, lv_nil, app_cons, app_nil]
   refine wp_call rfl (ih (l - 1) (by omega) q.ppn (by omega) hmay.2.1) rfl ?_
   simp only [lv_cons, lv_nil, app_cons, app_nil]
   have happ : fD (t :: (List.range n).flatMap (frE s cs t l)) ++ fD (framesN s cs (l - 1) q.ppn) = fD (t :: (List.range (n + 1)).flatMap (frE s cs t l)) := by
    rw [htk, hE, ← List.map_append, List.cons_append]
   refine wp_chk (room_t (app_any rfl rfl) (by rw [happ, List.length_map, List.length_cons]; omega)) ?_
   refine wp_lt (d := I (n + 1 : Nat)) ((i_add (a := (n : Int)) (b := 1) rfl rfl (by omega) (by omega)).trans (by rw [Int.natCast_add]; rfl)) ?_
   simp only [lv_cons, lv_nil, app_cons, app_nil]
   exact wp_cont rfl (es_cons rfl (evs_one (app_any rfl rfl))) (hQ _ ⟨n + 1, by rw [happ], by omega, by omega⟩)
  ·rw [if_neg (by rw [hk]; decide)] at hE
   refine wp_lt (d := I (n + 1 : Nat)) ((i_add (a := (n : Int)) (b := 1) rfl rfl (by omega) (by omega)).trans (by rw [Int.natCast_add]; rfl)) ?_
   simp only [lv_cons, lv_nil, app_cons, app_nil]
   exact wp_cont rfl rfl (hQ _ ⟨n + 1, by rw [htk, hE, List.append_nil], by omega, by omega⟩)
 ·have hc := of_decide_eq_false hc
  obtain rfl : n = 512 := by omega
  refine wp_return rfl ?_
  rw [hfr]
end Go.Proofs.YtnkjmocacielmaaDoor.Sx
