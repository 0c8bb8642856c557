/-
  Layer 19: TablePages.
-/
import Derived.Test.YtnlilhpkjlodjaaDoorZTabq
namespace Go.Proofs.YtnlilhpkjlodjaaDoor.Sx
open Go
set_option linter.unusedVariables false
set_option linter.unusedSimpArgs false
set_option maxRecDepth 100000
theorem refFits_con {a l : Nat} (hl : l ≤ 2) (hva : isVaB a = true) (h : a % szN (l : Int) = 0) : Cn gAll 22 [u a, i l] [bb true] := by
  refine con rfl rfl atlasref05_Fits_c atlasref05_Fits_p rfl ?_
  unfold atlasref05_Fits_ir
  simp only [lv_cons, lv_nil, app_cons, app_nil]
  have hi := isVa_con (a := a)
  rw [show decide (a < 274877906944 ∨ 18446743798831644672 ≤ a) = true from hva] at hi
  refine wp_call rfl hi rfl ?_
  simp only [lv_cons, lv_nil, app_cons, app_nil]
  refine wp_ite (t := true) rfl (fun _ => ?_) (fun h => by cases h)
  refine wp_call rfl (refOffset_con (a := a) (lv_of hl)) rfl ?_
  rw [h]
  simp only [lv_cons, lv_nil, app_cons, app_nil]
  refine wp_lt (d := .b true) rfl ?_
  simp only [lv_cons, lv_nil, app_cons, app_nil]
  exact wp_return rfl rfl
def coverB (va : Nat) (x : Pg) : Bool := decide (exN x.1 ≤ va) && decide (va ≤ exN x.1 + szN (x.2.1 : Int) - 1)
def hitB (va : Nat) (l : List Pg) : Bool := l.any (coverB va)
theorem hit_succ {va n : Nat} {l : List Pg} {x : Pg} (h : l[n]? = some x) : hitB va (l.take (n + 1)) = (hitB va (l.take n) || coverB va x) := by
  unfold hitB
  rw [List.take_add_one, h, List.any_append]
  simp
theorem pw_get {α : Type} {R : α → α → Prop} {l : List α} (h : l.Pairwise R) {k n : Nat} {x y : α} (hkn : k < n) (hk : l[k]? = some x) (hn : l[n]? = some y) : R x y := by
  obtain ⟨h1, rfl⟩ := List.getElem?_eq_some_iff.1 hk
  obtain ⟨h2, rfl⟩ := List.getElem?_eq_some_iff.1 hn
  exact List.pairwise_iff_getElem.1 h k n h1 h2 hkn
theorem u_addw {ρ : List D} {x y : Ex} {a b : Nat} (hx : x.eval ρ = some (U a)) (hy : y.eval ρ = some (U b)) : (Ex.bin .add x y).eval ρ = some (U ((a + b) % 18446744073709551616)) := by
  have : IntKind.u64.wrap ((a : Int) + b) = (((a + b) % 18446744073709551616 : Nat) : Int) := by rw [wrapU64]; omega
  simp [Ex.eval, hx, hy, binD, this]
theorem u_sub1w {ρ : List D} {x : Ex} {c : Nat} (hx : x.eval ρ = some (U (c % 18446744073709551616))) (h1 : 1 ≤ c) (h2 : c ≤ 18446744073709551616) : (Ex.bin .sub x (.c (.i .u64 1))).eval ρ = some (U (c - 1)) := by
  have : IntKind.u64.wrap ((c : Int) % 18446744073709551616 - 1) = ((c - 1 : Nat) : Int) := by rw [wrapU64]; omega
  simp [Ex.eval, hx, binD, this]
theorem TablePages_con {s top va : Nat} {cs : List Cl} (hs : s < 18446744073709551616) (hO : COk cs) (htop : top < 18446744073709551616) (hva : va < 18446744073709551616) :
    Cn gAll 4 [md 2 s cs, u top, u va] [bb true] := by
  refine con rfl rfl atlaslaw19_TablePages_c atlaslaw19_TablePages_p rfl ?_
  unfold atlaslaw19_TablePages_ir
  simp only [lv_cons, lv_nil, app_cons, app_nil]
  refine wp_call rfl awake19_con rfl ?_
  simp only [lv_cons, lv_nil, app_cons, app_nil]
  refine wp_lt (d := (.b false)) rfl ?_
  simp only [lv_cons, lv_nil, app_cons, app_nil]
  refine wp_ite (t := false) rfl (fun h => by cases h) (fun _ => ?_)
  obtain ⟨b, hf, hb⟩ := fits19_con (cs := cs) (lv := 2) hs hO htop (by decide) (by decide)
  refine wp_call rfl hf rfl ?_
  simp only [lv_cons, lv_nil, app_cons, app_nil]
  refine wp_lt (not_e rfl) ?_
  simp only [lv_cons, lv_nil, app_cons, app_nil]
  refine wp_ite rfl (fun hc => ?_) (fun hc => ?_)
  · refine wp_call rfl awake19_con rfl ?_
    simp only [lv_cons, lv_nil, app_cons, app_nil]
    exact wp_return rfl rfl
  obtain ⟨l, hF⟩ := hb (by simpa using hc)
  obtain rfl : l = 2 := by have := hF.eq; omega
  clear hf hb
  refine wp_call rfl (isVa_con (a := va)) rfl ?_
  simp only [lv_cons, lv_nil, app_cons, app_nil]
  refine wp_lt (not_e rfl) ?_
  simp only [lv_cons, lv_nil, app_cons, app_nil]
  refine wp_ite rfl (fun hc => ?_) (fun hc => ?_)
  · refine wp_call rfl awake19_con rfl ?_
    simp only [lv_cons, lv_nil, app_cons, app_nil]
    exact wp_return rfl rfl
  have hvb : isVaB va = true := by
    have hc : (!isVaB va) = false := hc
    simpa using hc
  have hRM := hF.rm
  have hl := hF.len
  have hpg := pages_con (s := s) hRM.asc hO (by omega) 2 top 0 (by decide) hF.t44 (by decide)
  have hroom := pgL_len (s := s) (cs := cs) (l := 2) (t := top) (b := 0)
  have hroom2 := roomP_le (l := 2) (by decide)
  have hok := page_at (s := s) (t := top) (b := 0) hO (l := 2) (by decide) hF.tree.low (by decide) (by decide)
  have hord0 := pages_order (s := s) (t := top) (b := 0) hO (l := 2) (by decide) hF.tree.low (by decide) (by decide)
  have hpage : ∀ x ∈ pgL s cs 2 top 0, x.2.1 ≤ 2 ∧ 4096 ≤ szN (x.2.1 : Int) ∧ exN x.1 + szN (x.2.1 : Int) ≤ 18446744073709551616 ∧ vaN (x.1 / 4096) = exN x.1 ∧ (x.1 < 274877906944 ∧ x.1 + szN (x.2.1 : Int) ≤ 274877906944 ∨ 274877906944 ≤ x.1 ∧ x.1 + szN (x.2.1 : Int) ≤ 549755813888) := by
    intro x hx
    have h := hok x hx
    have h1 := h.lv
    have h2 := h.hi
    have h3 := h.al
    rw [sz2] at h2
    have e : x.1 + szN (x.2.1 : Int) ≤ 549755813888 := by omega
    have h4 : 4096 ≤ szN (x.2.1 : Int) ∧ (x.1 < 274877906944 ∧ x.1 + szN (x.2.1 : Int) ≤ 274877906944 ∨ 274877906944 ≤ x.1 ∧ x.1 + szN (x.2.1 : Int) ≤ 549755813888) ∧ x.1 % 4096 = 0 := by
      rcases lv3 h1 with e1 | e1 | e1
      · rw [e1, sz0] at h3 e ⊢; omega
      · rw [e1, sz1] at h3 e ⊢; omega
      · rw [e1, sz2] at h3 e ⊢; omega
    refine ⟨h1, h4.1, ?_, vaN_ex (by omega) h4.2.2, h4.2.1⟩
    unfold exN
    split <;> omega
  have hord : ∀ (k n : Nat) (x y : Pg), k < n → (pgL s cs 2 top 0)[k]? = some x → (pgL s cs 2 top 0)[n]? = some y → exN x.1 + szN (x.2.1 : Int) ≤ exN y.1 := by
    intro k n x y hkn hx hy
    have h := pw_get hord0 hkn hx hy
    obtain ⟨_, _, _, _, h1⟩ := hpage x (List.mem_of_getElem? hx)
    obtain ⟨_, _, _, _, h2⟩ := hpage y (List.mem_of_getElem? hy)
    unfold apartP at h
    unfold exN
    split <;> split <;> omega
  refine wp_call rfl hpg rfl ?_
  simp only [lv_cons, lv_nil, app_cons, app_nil]
  have hlen : ((pgL s cs 2 top 0).map pgD).length = (pgL s cs 2 top 0).length := List.length_map ..
  refine wp_rounds (fun m ds => ∃ (z hit : Bool) (n : Nat), ds = [.b z, .b hit, I n] ∧ n ≤ (pgL s cs 2 top 0).length ∧ n + m = (pgL s cs 2 top 0).length + 1 ∧ hit = hitB va ((pgL s cs 2 top 0).take n)) ((pgL s cs 2 top 0).length + 1) rfl ⟨_, _, 0, rfl, by omega, by omega, rfl⟩ ?_
    (fun es hes => by obtain ⟨_, _, n, _, h, h', _⟩ := hes; omega)
  rintro m es Q ⟨z, hit, n, rfl, hn, hm, hhit⟩ hQ
  simp only [lv_cons, lv_nil, app_cons, app_nil]
  refine wp_lt (len_slP rfl hlen) ?_
  simp only [lv_cons, lv_nil, app_cons, app_nil]
  refine wp_lt (e_lss rfl rfl) ?_
  simp only [lv_cons, lv_nil, app_cons, app_nil]
  refine wp_ite rfl (fun hc => ?_) (fun hc => ?_)
  · have hc := of_decide_eq_true hc
    obtain ⟨x, hx⟩ : ∃ x, (pgL s cs 2 top 0)[n]? = some x := ⟨_, List.getElem?_eq_getElem (by omega)⟩
    have hrow : ((pgL s cs 2 top 0).map pgD)[n]? = some (pgD x) := by rw [List.getElem?_map, hx]; rfl
    have hsl : slP ((pgL s cs 2 top 0).map pgD) = .sl 8 ((pgL s cs 2 top 0).map pgD) := by
      unfold slP
      rw [if_neg]
      intro h
      rw [List.isEmpty_iff] at h
      rw [h] at hrow
      cases hrow
    rw [hsl]
    have hmem := List.mem_of_getElem? hx
    have hpo := hok x hmem
    obtain ⟨x1, x2, x3, x4, x5⟩ := hpage x hmem
    have hsucc := hit_succ (va := va) hx
    have hal := hpo.al
    have hlo := hpo.lo
    have hhi := hpo.hi
    have hppn := hpo.pp
    have hwalk := hpo.walk
    obtain ⟨a, lv, p⟩ := x
    simp only at x1 x2 x3 x4 x5 hal hlo hhi hppn hwalk
    have hE : vaN (a / 4096) = exN a := x4
    rw [pgD] at hrow
    simp only [hE] at hrow
    have ha39 : a < 549755813888 := by omega
    have hexm := exN_mod ha39
    have hexal : exN a % szN (lv : Int) = 0 := by
      unfold exN
      rcases lv3 x1 with rfl | rfl | rfl
      · rw [sz0] at *; split <;> omega
      · rw [sz1] at *; split <;> omega
      · rw [sz2] at *; split <;> omega
    have hexv : isVaB (exN a) = true ∧ isVaB (exN a + szN (lv : Int) - 1) = true ∧ (exN a + szN (lv : Int) - 1) % 549755813888 = a + szN (lv : Int) - 1 := by
      unfold isVaB exN
      simp only [decide_eq_true_eq]
      split <;> omega
    have hsame : exN a / szN (lv : Int) = (exN a + szN (lv : Int) - 1) / szN (lv : Int) := by
      rcases lv3 x1 with rfl | rfl | rfl
      · rw [sz0] at *; omega
      · rw [sz1] at *; omega
      · rw [sz2] at *; omega
    obtain ⟨pl, g', hdn⟩ := hwalk (exN a) false (by omega) (by omega)
    have hlk1 : lookW s cs top (exN a) = .leaf ⟨lv, pl, { p with g := g' }⟩ := by rw [lookW, if_pos hexv.1]; exact hdn
    have hlk2 := look_near hlk1 (b := exN a + szN (lv : Int) - 1) (by omega) hsame
    have hl1 := refLook_con (k := 2) (s := s) (t := top) (a := exN a) (kd := 1) (.inl rfl) hRM hO (by omega) hF.t44 (by omega) (.inr (.inl rfl))
    have hl2 := refLook_con (k := 2) (s := s) (t := top) (a := exN a + szN (lv : Int) - 1) (kd := 1) (.inl rfl) hRM hO (by omega) hF.t44 (by omega) (.inr (.inl rfl))
    rw [hlk1] at hl1
    rw [hlk2] at hl2
    simp only [Lk.rs] at hl1 hl2
    refine wp_chk (inb_t rfl rfl (by rw [hlen]; omega)) ?_
    refine wp_lt (d := .b false) (cmp_e (e_lss (idx_e rfl rfl hrow rfl) rfl) (decide_eq_false (by omega))) ?_
    simp only [lv_cons, lv_nil, app_cons, app_nil]
    refine wp_ite (t := false) rfl (fun h => by cases h) (fun _ => ?_)
    refine wp_lt (d := .b false) (cmp_e (e_gtr (idx_e rfl rfl hrow rfl) rfl) (decide_eq_false (by omega))) ?_
    simp only [lv_cons, lv_nil, app_cons, app_nil]
    refine wp_ite (t := false) rfl (fun h => by cases h) (fun _ => ?_)
    refine wp_call (az := [u (exN a), i lv]) (evs_cons (evs_one (idx_e rfl rfl hrow rfl)) (evs_cons (evs_one (idx_e rfl rfl hrow rfl)) rfl)) (refFits_con x1 hexv.1 hexal) rfl ?_
    simp only [lv_cons, lv_nil, app_cons, app_nil]
    refine wp_lt (d := (.b false)) rfl ?_
    simp only [lv_cons, lv_nil, app_cons, app_nil]
    refine wp_ite (t := false) rfl (fun h => by cases h) (fun _ => ?_)
    refine wp_call (az := [i lv]) (evs_cons (evs_one (idx_e rfl rfl hrow rfl)) rfl) (refSize_con (lv_of x1)) rfl ?_
    simp only [lv_cons, lv_nil, app_cons, app_nil]
    refine wp_lt (u_addw (idx_e rfl rfl hrow rfl) rfl) ?_
    simp only [lv_cons, lv_nil, app_cons, app_nil]
    refine wp_lt (u_sub1w rfl (by omega) x3) ?_
    simp only [lv_cons, lv_nil, app_cons, app_nil]
    refine wp_call (az := [md 2 s cs, u top, u (exN a), i 1]) (evs_cons rfl (evs_cons rfl (evs_cons (evs_one (idx_e rfl rfl hrow rfl)) rfl))) hl1 rfl ?_
    simp only [lv_cons, lv_nil, Pt.ds, Lf.ds, app_cons, app_nil]
    refine wp_call rfl hl2 rfl ?_
    simp only [lv_cons, lv_nil, Pt.ds, Lf.ds, app_cons, app_nil]
    refine wp_ite (t := false) rfl (fun h => by cases h) (fun _ => ?_)
    refine wp_ite (t := false) rfl (fun h => by cases h) (fun _ => ?_)
    refine wp_lt (d := .b false) (not_e (t := true) ?_) ?_
    · repeat' first | refine ite_t (eqs_b rfl rfl) ?_ | refine ite_t (eqs_i rfl rfl) ?_ | exact rfl
    simp only [lv_cons, lv_nil, app_cons, app_nil]
    refine wp_ite (t := false) rfl (fun h => by cases h) (fun _ => ?_)
    refine wp_lt (d := .b false) (cmp_e (e_neq rfl (idx_e rfl rfl hrow rfl)) (bne_self_eq_false _)) ?_
    simp only [lv_cons, lv_nil, app_cons, app_nil]
    refine wp_ite (t := false) rfl (fun h => by cases h) (fun _ => ?_)
    have hph := refPhys_con (l := ⟨lv, pl, { p with g := g' }⟩) (a := exN a) hppn x1
    unfold physN at hph
    simp only [hexal, Nat.add_zero] at hph
    refine wp_call (az := [(⟨lv, pl, { p with g := g' }⟩ : Lf).dv, u (exN a)]) (evs_cons rfl (evs_cons (evs_one (idx_e rfl rfl hrow rfl)) rfl)) hph rfl ?_
    simp only [lv_cons, lv_nil, app_cons, app_nil]
    refine wp_lt (d := .b false) (cmp_e (e_neq rfl (idx_e rfl rfl hrow rfl)) (bne_self_eq_false _)) ?_
    simp only [lv_cons, lv_nil, app_cons, app_nil]
    refine wp_ite (t := false) rfl (fun h => by cases h) (fun _ => ?_)
    refine wp_call rfl (refPerm_con (p := { p with g := g' })) rfl ?_
    simp only [lv_cons, lv_nil, app_cons, app_nil]
    refine wp_lt (d := .b false) (not_e (t := true) (ite_t (eqs_b rfl (idx_e rfl rfl hrow rfl)) (ite_t (eqs_b rfl (idx_e rfl rfl hrow rfl)) (ite_t (eqs_b rfl (idx_e rfl rfl hrow rfl)) (ite_t (eqs_b rfl (idx_e rfl rfl hrow rfl)) rfl))))) ?_
    simp only [lv_cons, lv_nil, app_cons, app_nil]
    refine wp_ite (t := false) rfl (fun h => by cases h) (fun _ => ?_)
    refine wp_lt (d := .b false) (not_e (t := true) (eqs_b rfl (idx_e rfl rfl hrow rfl))) ?_
    simp only [lv_cons, lv_nil, app_cons, app_nil]
    refine wp_ite (t := false) rfl (fun h => by cases h) (fun _ => ?_)
    refine wp_ite rfl (fun hh => ?_) (fun hh => ?_)
    · refine wp_rounds (fun m ds => ∃ (z : Bool) (k : Nat), ds = [.b z, I k] ∧ k ≤ n ∧ k + m = n + 1) (n + 1) rfl ⟨_, 0, rfl, by omega, by omega⟩ ?_ (fun es hes => by obtain ⟨_, k, _, h, h'⟩ := hes; omega)
      rintro m2 es Q2 ⟨z, k, rfl, hkn, hm2⟩ hQ2
      simp only [lv_cons, lv_nil, app_cons, app_nil]
      refine wp_lt (e_lss rfl rfl) ?_
      simp only [lv_cons, lv_nil, app_cons, app_nil]
      refine wp_ite rfl (fun hc2 => ?_) (fun hc2 => ?_)
      · have hc2 := of_decide_eq_true hc2
        obtain ⟨w, hw⟩ : ∃ w, (pgL s cs 2 top 0)[k]? = some w := ⟨_, List.getElem?_eq_getElem (by omega)⟩
        have hroww : ((pgL s cs 2 top 0).map pgD)[k]? = some (pgD w) := by rw [List.getElem?_map, hw]; rfl
        obtain ⟨w1, w2, w3, w4, w5⟩ := hpage w (List.mem_of_getElem? hw)
        obtain ⟨wa, wl, wp⟩ := w
        simp only at w1 w2 w3 w4 w5
        have hE1 : vaN (wa / 4096) = exN wa := w4
        rw [pgD] at hroww
        simp only [hE1] at hroww
        have hapart := hord k n _ _ (by omega) hw hx
        simp only at hapart
        refine wp_chk (inb_t rfl rfl (by rw [hlen]; omega)) ?_
        refine wp_lt (e_leq (idx_e rfl rfl hroww rfl) rfl) ?_
        simp only [lv_cons, lv_nil, app_cons, app_nil]
        refine wp_ite rfl (fun hc3 => ?_) (fun hc3 => ?_)
        · refine wp_chk (inb_t rfl rfl (by rw [hlen]; omega)) ?_
          refine wp_chk (inb_t rfl rfl (by rw [hlen]; omega)) ?_
          refine wp_call (az := [i wl]) (evs_cons (evs_one (idx_e rfl rfl hroww rfl)) rfl) (refSize_con (lv_of w1)) rfl ?_
          simp only [lv_cons, lv_nil, app_cons, app_nil]
          refine wp_lt (u_addw (idx_e rfl rfl hroww rfl) rfl) ?_
          simp only [lv_cons, lv_nil, app_cons, app_nil]
          refine wp_lt (u_sub1w rfl (by omega) w3) ?_
          simp only [lv_cons, lv_nil, app_cons, app_nil]
          refine wp_lt (d := .b false) (cmp_e (e_leq (idx_e rfl rfl hrow rfl) rfl) (decide_eq_false (by omega))) ?_
          simp only [lv_cons, lv_nil, app_cons, app_nil]
          refine wp_ite (t := false) rfl (fun h => by cases h) (fun _ => ?_)
          refine wp_lt (i_add (a := (k : Int)) (b := 1) rfl rfl (by omega) (by omega)) ?_
          simp only [lv_cons, lv_nil, app_cons, app_nil]
          exact wp_cont rfl rfl (hQ2 _ ⟨_, k + 1, rfl, by omega, by omega⟩)
        · refine wp_lt (i_add (a := (k : Int)) (b := 1) rfl rfl (by omega) (by omega)) ?_
          simp only [lv_cons, lv_nil, app_cons, app_nil]
          exact wp_cont rfl rfl (hQ2 _ ⟨_, k + 1, rfl, by omega, by omega⟩)
      · refine wp_lt (i_add (a := (n : Int)) (b := 1) rfl rfl (by omega) (by omega)) ?_
        simp only [lv_cons, lv_nil, app_cons, app_nil]
        refine wp_cont rfl rfl (hQ _ ⟨_, _, n + 1, rfl, by omega, by omega, ?_⟩)
        rw [hsucc, ← hhit, hh, Bool.true_or]
    · rw [hh] at hhit
      refine wp_lt (d := .b (decide (exN a ≤ va))) (cmp_e (e_geq rfl (idx_e rfl rfl hrow rfl)) (decide_eq_decide.2 (by omega))) ?_
      simp only [lv_cons, lv_nil, app_cons, app_nil]
      refine wp_ite rfl (fun ht1 => ?_) (fun ht1 => ?_)
      · refine wp_lt (d := .b (decide (va ≤ exN a + szN (lv : Int) - 1))) (cmp_e (e_leq rfl rfl) (decide_eq_decide.2 (by omega))) ?_
        simp only [lv_cons, lv_nil, app_cons, app_nil]
        refine wp_rounds (fun m ds => ∃ (z : Bool) (k : Nat), ds = [.b z, I k] ∧ k ≤ n ∧ k + m = n + 1) (n + 1) rfl ⟨_, 0, rfl, by omega, by omega⟩ ?_ (fun es hes => by obtain ⟨_, k, _, h, h'⟩ := hes; omega)
        rintro m2 es Q2 ⟨z, k, rfl, hkn, hm2⟩ hQ2
        simp only [lv_cons, lv_nil, app_cons, app_nil]
        refine wp_lt (e_lss rfl rfl) ?_
        simp only [lv_cons, lv_nil, app_cons, app_nil]
        refine wp_ite rfl (fun hc2 => ?_) (fun hc2 => ?_)
        · have hc2 := of_decide_eq_true hc2
          obtain ⟨w, hw⟩ : ∃ w, (pgL s cs 2 top 0)[k]? = some w := ⟨_, List.getElem?_eq_getElem (by omega)⟩
          have hroww : ((pgL s cs 2 top 0).map pgD)[k]? = some (pgD w) := by rw [List.getElem?_map, hw]; rfl
          obtain ⟨w1, w2, w3, w4, w5⟩ := hpage w (List.mem_of_getElem? hw)
          obtain ⟨wa, wl, wp⟩ := w
          simp only at w1 w2 w3 w4 w5
          have hE1 : vaN (wa / 4096) = exN wa := w4
          rw [pgD] at hroww
          simp only [hE1] at hroww
          have hapart := hord k n _ _ (by omega) hw hx
          simp only at hapart
          refine wp_chk (inb_t rfl rfl (by rw [hlen]; omega)) ?_
          refine wp_lt (e_leq (idx_e rfl rfl hroww rfl) rfl) ?_
          simp only [lv_cons, lv_nil, app_cons, app_nil]
          refine wp_ite rfl (fun hc3 => ?_) (fun hc3 => ?_)
          · refine wp_chk (inb_t rfl rfl (by rw [hlen]; omega)) ?_
            refine wp_chk (inb_t rfl rfl (by rw [hlen]; omega)) ?_
            refine wp_call (az := [i wl]) (evs_cons (evs_one (idx_e rfl rfl hroww rfl)) rfl) (refSize_con (lv_of w1)) rfl ?_
            simp only [lv_cons, lv_nil, app_cons, app_nil]
            refine wp_lt (u_addw (idx_e rfl rfl hroww rfl) rfl) ?_
            simp only [lv_cons, lv_nil, app_cons, app_nil]
            refine wp_lt (u_sub1w rfl (by omega) w3) ?_
            simp only [lv_cons, lv_nil, app_cons, app_nil]
            refine wp_lt (d := .b false) (cmp_e (e_leq (idx_e rfl rfl hrow rfl) rfl) (decide_eq_false (by omega))) ?_
            simp only [lv_cons, lv_nil, app_cons, app_nil]
            refine wp_ite (t := false) rfl (fun h => by cases h) (fun _ => ?_)
            refine wp_lt (i_add (a := (k : Int)) (b := 1) rfl rfl (by omega) (by omega)) ?_
            simp only [lv_cons, lv_nil, app_cons, app_nil]
            exact wp_cont rfl rfl (hQ2 _ ⟨_, k + 1, rfl, by omega, by omega⟩)
          · refine wp_lt (i_add (a := (k : Int)) (b := 1) rfl rfl (by omega) (by omega)) ?_
            simp only [lv_cons, lv_nil, app_cons, app_nil]
            exact wp_cont rfl rfl (hQ2 _ ⟨_, k + 1, rfl, by omega, by omega⟩)
        · refine wp_lt (i_add (a := (n : Int)) (b := 1) rfl rfl (by omega) (by omega)) ?_
          simp only [lv_cons, lv_nil, app_cons, app_nil]
          refine wp_cont rfl rfl (hQ _ ⟨_, _, n + 1, rfl, by omega, by omega, ?_⟩)
          rw [hsucc, ← hhit, Bool.false_or, coverB, ht1, Bool.true_and]
      · refine wp_rounds (fun m ds => ∃ (z : Bool) (k : Nat), ds = [.b z, I k] ∧ k ≤ n ∧ k + m = n + 1) (n + 1) rfl ⟨_, 0, rfl, by omega, by omega⟩ ?_ (fun es hes => by obtain ⟨_, k, _, h, h'⟩ := hes; omega)
        rintro m2 es Q2 ⟨z, k, rfl, hkn, hm2⟩ hQ2
        simp only [lv_cons, lv_nil, app_cons, app_nil]
        refine wp_lt (e_lss rfl rfl) ?_
        simp only [lv_cons, lv_nil, app_cons, app_nil]
        refine wp_ite rfl (fun hc2 => ?_) (fun hc2 => ?_)
        · have hc2 := of_decide_eq_true hc2
          obtain ⟨w, hw⟩ : ∃ w, (pgL s cs 2 top 0)[k]? = some w := ⟨_, List.getElem?_eq_getElem (by omega)⟩
          have hroww : ((pgL s cs 2 top 0).map pgD)[k]? = some (pgD w) := by rw [List.getElem?_map, hw]; rfl
          obtain ⟨w1, w2, w3, w4, w5⟩ := hpage w (List.mem_of_getElem? hw)
          obtain ⟨wa, wl, wp⟩ := w
          simp only at w1 w2 w3 w4 w5
          have hE1 : vaN (wa / 4096) = exN wa := w4
          rw [pgD] at hroww
          simp only [hE1] at hroww
          have hapart := hord k n _ _ (by omega) hw hx
          simp only at hapart
          refine wp_chk (inb_t rfl rfl (by rw [hlen]; omega)) ?_
          refine wp_lt (e_leq (idx_e rfl rfl hroww rfl) rfl) ?_
          simp only [lv_cons, lv_nil, app_cons, app_nil]
          refine wp_ite rfl (fun hc3 => ?_) (fun hc3 => ?_)
          · refine wp_chk (inb_t rfl rfl (by rw [hlen]; omega)) ?_
            refine wp_chk (inb_t rfl rfl (by rw [hlen]; omega)) ?_
            refine wp_call (az := [i wl]) (evs_cons (evs_one (idx_e rfl rfl hroww rfl)) rfl) (refSize_con (lv_of w1)) rfl ?_
            simp only [lv_cons, lv_nil, app_cons, app_nil]
            refine wp_lt (u_addw (idx_e rfl rfl hroww rfl) rfl) ?_
            simp only [lv_cons, lv_nil, app_cons, app_nil]
            refine wp_lt (u_sub1w rfl (by omega) w3) ?_
            simp only [lv_cons, lv_nil, app_cons, app_nil]
            refine wp_lt (d := .b false) (cmp_e (e_leq (idx_e rfl rfl hrow rfl) rfl) (decide_eq_false (by omega))) ?_
            simp only [lv_cons, lv_nil, app_cons, app_nil]
            refine wp_ite (t := false) rfl (fun h => by cases h) (fun _ => ?_)
            refine wp_lt (i_add (a := (k : Int)) (b := 1) rfl rfl (by omega) (by omega)) ?_
            simp only [lv_cons, lv_nil, app_cons, app_nil]
            exact wp_cont rfl rfl (hQ2 _ ⟨_, k + 1, rfl, by omega, by omega⟩)
          · refine wp_lt (i_add (a := (k : Int)) (b := 1) rfl rfl (by omega) (by omega)) ?_
            simp only [lv_cons, lv_nil, app_cons, app_nil]
            exact wp_cont rfl rfl (hQ2 _ ⟨_, k + 1, rfl, by omega, by omega⟩)
        · refine wp_lt (i_add (a := (n : Int)) (b := 1) rfl rfl (by omega) (by omega)) ?_
          simp only [lv_cons, lv_nil, app_cons, app_nil]
          refine wp_cont rfl rfl (hQ _ ⟨_, _, n + 1, rfl, by omega, by omega, ?_⟩)
          rw [hsucc, ← hhit, Bool.false_or, coverB, ht1, Bool.false_and]
  · have hc := of_decide_eq_false hc
    obtain rfl : n = (pgL s cs 2 top 0).length := by omega
    rw [List.take_length] at hhit
    have hlook := refLook_con (k := 2) (s := s) (t := top) (a := va) (kd := 1) (.inl rfl) hRM hO (by omega) hF.t44 hva (.inr (.inl rfl))
    have hexva := exN_va hva hvb
    cases hlk : lookW s cs top va with
    | leaf r =>
      rw [hlk] at hlook
      simp only [Lk.rs] at hlook
      have hdn : downN s cs va 2 top false = .leaf r := by rw [← hlk, lookW, if_pos hvb]
      obtain ⟨x, hx, h1, h2⟩ := pages_cover (b := 0) (by decide) (by decide) (by decide) (Nat.zero_le _) (by rw [sz2]; omega) hdn
      have hp := hpage x hx
      obtain ⟨_, _, _, _, h5⟩ := hp
      have hhit1 : hit = true := by
        rw [hhit]
        refine List.any_eq_true.2 ⟨x, hx, ?_⟩
        unfold coverB
        rw [Bool.and_eq_true, decide_eq_true_eq, decide_eq_true_eq]
        rw [← hexva]
        unfold exN
        split <;> split <;> omega
      refine wp_call rfl hlook rfl ?_
      simp only [lv_cons, lv_nil, Pt.ds, Lf.ds, app_cons, app_nil]
      rw [hhit1]
      refine wp_lt (d := .b true) rfl ?_
      simp only [lv_cons, lv_nil, app_cons, app_nil]
      exact wp_return rfl rfl
    | fault q =>
      rw [hlk] at hlook
      simp only [Lk.rs] at hlook
      have hhit1 : hit = false := by
        rw [hhit, Bool.eq_false_iff]
        intro h
        obtain ⟨x, hx, hcv⟩ := List.any_eq_true.1 h
        obtain ⟨_, _, _, _, h5⟩ := hpage x hx
        unfold coverB at hcv
        rw [Bool.and_eq_true, decide_eq_true_eq, decide_eq_true_eq] at hcv
        have hin : x.1 ≤ va % 549755813888 ∧ va % 549755813888 < x.1 + szN (x.2.1 : Int) := by
          have hv := hvb
          unfold isVaB at hv
          have hv := of_decide_eq_true hv
          unfold exN at hcv
          split at hcv <;> omega
        obtain ⟨pl, g', hdn⟩ := (hok x hx).walk va false hin.1 hin.2
        rw [lookW, if_pos hvb, hdn] at hlk
        cases hlk
      refine wp_call rfl hlook rfl ?_
      simp only [lv_cons, lv_nil, Pt.ds, Lf.ds, app_cons, app_nil]
      rw [hhit1]
      refine wp_lt (d := .b true) rfl ?_
      simp only [lv_cons, lv_nil, app_cons, app_nil]
      exact wp_return rfl rfl
end Go.Proofs.YtnlilhpkjlodjaaDoor.Sx
