/-
  Layer 10: looking: contracts.
-/
import Derived.Test.YtngpjdieelcbmaaDoorWlkc
namespace Go.Proofs.YtngpjdieelcbmaaDoor.Sx
open Go
set_option linter.unusedVariables false
set_option linter.unusedSimpArgs false
set_option maxRecDepth 100000

theorem down_eq {s a l t : Nat} {cs : List Cl} {g : Bool} : downN s cs a l t g = if s ≤ slotN t a l then .fault 2 else if (ptN (wordN s cs (slotN t a l))).bad l then .fault 3 else
    if (ptN (wordN s cs (slotN t a l))).link then downN s cs a (l - 1) (ptN (wordN s cs (slotN t a l))).ppn ((ptN (wordN s cs (slotN t a l))).g || g)
    else .leaf ⟨l, slotN t a l, { ptN (wordN s cs (slotN t a l)) with g := (ptN (wordN s cs (slotN t a l))).g || g }⟩ := by
  cases l with
  | zero =>
    have e : downN s cs a 0 t g = if s ≤ slotN t a 0 then .fault 2 else if (ptN (wordN s cs (slotN t a 0))).bad ((0 : Nat) : Int) then .fault 3 else .leaf ⟨0, slotN t a 0, { ptN (wordN s cs (slotN t a 0)) with g := (ptN (wordN s cs (slotN t a 0))).g || g }⟩ := rfl
    rw [e]
    by_cases h1 : s ≤ slotN t a 0
    · rw [if_pos h1, if_pos h1]
    · rw [if_neg h1, if_neg h1]
      by_cases h2 : (ptN (wordN s cs (slotN t a 0))).bad ((0 : Nat) : Int) = true
      · rw [if_pos h2, if_pos h2]
      · rw [if_neg h2, if_neg h2]
        have : (ptN (wordN s cs (slotN t a 0))).bad 0 = false := by simpa using h2
        rw [if_neg (by rw [Pt.link_low this]; decide)]
  | succ l => rfl
theorem slot_mod {t a l : Nat} : slotN t a l % 8 = 0 := by unfold slotN; omega
theorem slot_lt {t a l : Nat} (ht : t < 17592186044416) : slotN t a l < 144115188075855872 := by unfold slotN; omega
theorem load8 {s a : Nat} {cs : List Cl} (hO : COk cs) (h8 : a % 8 = 0) (has : a < s) : loadN s cs a 8 = wordN s cs a := by
  have := load_word (i := a) hO has
  rwa [show a / 8 * 8 = a by omega] at this
theorem slot_con {t a l : Nat} (ht : t < 17592186044416) (ha : a < 18446744073709551616) (h : l ≤ 2) : Cn gAll 27 [u t, u a, i l] [u (slotN t a l)] := by
  refine con rfl rfl walk_slot_c walk_slot_p rfl ?_
  unfold walk_slot_ir
  simp only [lv_cons, lv_nil, app_cons, app_nil]
  refine wp_lt (u_mul (b := 4096) rfl rfl (by omega)) ?_
  simp only [lv_cons, lv_nil, app_cons, app_nil]
  refine wp_call rfl (index_con ha h) rfl ?_
  simp only [lv_cons, lv_nil, app_cons, app_nil]
  refine wp_lt (cv_u rfl (by omega)) ?_
  simp only [lv_cons, lv_nil, app_cons, app_nil]
  refine wp_lt (u_mul (b := 8) rfl rfl (by omega)) ?_
  simp only [lv_cons, lv_nil, app_cons, app_nil]
  refine wp_lt (u_add rfl rfl (by omega)) ?_
  simp only [lv_cons, lv_nil, app_cons, app_nil]
  refine wp_return rfl (u_eq ?_)
  unfold slotN
  omega
theorem walkLook_con {k s t a : Nat} {kd : Int} {cs : List Cl} (hk : Kd k cs) (hR : RM s cs) (hO : COk cs) (hlen : cs.length < 4611686018427387904) (ht : t < 17592186044416) (ha : a < 18446744073709551616) (hkd : Kn kd) : Cn gAll 17 [md k s cs, u t, u a, i kd] ((lookW s cs t a).rs kd a) := by
  refine con rfl rfl walk_Look_c walk_Look_p rfl ?_
  unfold walk_Look_ir
  simp only [lv_cons, lv_nil, app_cons, app_nil]
  have hmost := hR.most
  refine wp_call rfl (vaIs_con ha) rfl ?_
  simp only [lv_cons, lv_nil, app_cons, app_nil]
  refine wp_lt rfl ?_
  simp only [lv_cons, lv_nil, app_cons, app_nil]
  refine wp_ite rfl (fun hv => ?_) (fun hv => ?_)
  · have hv : isVaB a = false := by simpa using hv
    refine wp_call rfl (page_con (a := a) hkd) rfl ?_
    simp only [lv_cons, lv_nil, app_cons, app_nil]
    refine wp_return rfl ?_
    rw [lookW, hv]
    rfl
  have hv : isVaB a = true := by simpa using hv
  have hlw : lookW s cs t a = downN s cs a 2 t false := by rw [lookW, if_pos hv]
  rw [hlw]
  clear hlw
  generalize hR0 : downN s cs a 2 t false = R0
  refine wp_rounds (fun m ds => ∃ (g : Bool) (l t : Nat), ds = [.b g, I l, U t] ∧ downN s cs a l t g = R0 ∧ l + 1 ≤ m ∧ l ≤ 2 ∧ t < 17592186044416) 3 rfl ⟨false, 2, t, rfl, hR0, by omega, by omega, ht⟩ ?_
    (fun es hes => by obtain ⟨_, _, _, _, _, h1, h2⟩ := hes; omega)
  rintro m es Q ⟨g, l, t, rfl, hinv, hm, hl, ht⟩ hQ
  simp only [lv_cons, lv_nil, app_cons, app_nil]
  refine wp_call rfl (slot_con ht ha hl) rfl ?_
  simp only [lv_cons, lv_nil, app_cons, app_nil]
  have h8 := slot_mod (t := t) (a := a) (l := l)
  have hsl := slot_lt (a := a) (l := l) ht
  by_cases hs : slotN t a l < s
  · have hw := (show Sz 8 from .inr (.inr (.inr rfl))).wrong h8 hs
    have hld := memLoad_ok (k := k) (n := 8) hk hR.asc hO hlen (show slotN t a l < 18446744073709551616 by omega) (by decide) hw
    rw [load8 hO h8 hs] at hld
    refine wp_call rfl hld rfl ?_
    simp only [lv_cons, lv_nil, app_cons, app_nil]
    refine wp_lt (d := (.b false)) rfl ?_
    simp only [lv_cons, lv_nil, app_cons, app_nil]
    refine wp_ite (t := false) rfl (fun h => by cases h) (fun _ => ?_)
    have hW := wordN_lt (s := s) (a := slotN t a l) hO
    have hppn : (ptN (wordN s cs (slotN t a l))).ppn < 17592186044416 := (ptN_may hW).2.1
    refine wp_call rfl (pteGet_con hW) rfl ?_
    generalize hp : ptN (wordN s cs (slotN t a l)) = p at hppn ⊢
    simp only [lv_cons, lv_nil, Pt.ds, Lf.ds, app_cons, app_nil]
    refine wp_ite rfl (fun hg => ?_) (fun hg => ?_)
    · refine wp_call rfl (pteBad_con (lv_of hl)) rfl ?_
      simp only [lv_cons, lv_nil, app_cons, app_nil]
      refine wp_ite rfl (fun hb => ?_) (fun hb => ?_)
      · refine wp_call rfl (page_con (a := a) hkd) rfl ?_
        simp only [lv_cons, lv_nil, app_cons, app_nil]
        refine wp_return rfl ?_
        rw [← hinv, down_eq, if_neg (by omega), hp, if_pos hb]
        rfl
      refine wp_call rfl (pteLeaf_con (p := p)) rfl ?_
      simp only [lv_cons, lv_nil, app_cons, app_nil]
      refine wp_ite rfl (fun hlf => ?_) (fun hlf => ?_)
      · have hlk : p.link = false := by
          simp only [Pt.leaf, Pt.link, Bool.and_eq_true, Bool.or_eq_true] at hlf ⊢
          rcases hlf.2 with h | h <;> simp [h]
        refine wp_return rfl ?_
        rw [← hinv, down_eq, if_neg (by omega), hp, if_neg (by rw [hb]; decide), if_neg (by rw [hlk]; decide)]
        subst hg
        simp only [Bool.or_true, Bool.or_false]
        rfl
      have hlk : p.link = true := by
        cases hk' : p.link with
        | true => rfl
        | false => rw [Pt.leaf_of hb hk'] at hlf; cases hlf
      have hl0 : l ≠ 0 := fun h => by
        subst h
        rw [Pt.link_low hb] at hlk
        cases hlk
      refine wp_lt (d := I (l - 1 : Nat)) ((i_sub (a := (l : Int)) (b := 1) rfl rfl (by omega) (by omega)).trans (by rw [show (l : Int) - 1 = ((l - 1 : Nat) : Int) by omega])) ?_
      simp only [lv_cons, lv_nil, app_cons, app_nil]
      refine wp_cont rfl rfl (hQ _ ⟨_, l - 1, p.ppn, rfl, ?_, by omega, by omega, hppn⟩)
      rw [← hinv, down_eq (l := l), if_neg (by omega), hp, if_neg (by rw [hb]; decide), if_pos hlk]
      subst hg
      simp only [Bool.or_true, Bool.or_false]
    · refine wp_call rfl (pteBad_con (lv_of hl)) rfl ?_
      simp only [lv_cons, lv_nil, app_cons, app_nil]
      refine wp_ite rfl (fun hb => ?_) (fun hb => ?_)
      · refine wp_call rfl (page_con (a := a) hkd) rfl ?_
        simp only [lv_cons, lv_nil, app_cons, app_nil]
        refine wp_return rfl ?_
        rw [← hinv, down_eq, if_neg (by omega), hp, if_pos hb]
        rfl
      refine wp_call rfl (pteLeaf_con (p := p)) rfl ?_
      simp only [lv_cons, lv_nil, app_cons, app_nil]
      refine wp_ite rfl (fun hlf => ?_) (fun hlf => ?_)
      · have hlk : p.link = false := by
          simp only [Pt.leaf, Pt.link, Bool.and_eq_true, Bool.or_eq_true] at hlf ⊢
          rcases hlf.2 with h | h <;> simp [h]
        refine wp_return rfl ?_
        rw [← hinv, down_eq, if_neg (by omega), hp, if_neg (by rw [hb]; decide), if_neg (by rw [hlk]; decide)]
        subst hg
        simp only [Bool.or_true, Bool.or_false]
        rfl
      have hlk : p.link = true := by
        cases hk' : p.link with
        | true => rfl
        | false => rw [Pt.leaf_of hb hk'] at hlf; cases hlf
      have hl0 : l ≠ 0 := fun h => by
        subst h
        rw [Pt.link_low hb] at hlk
        cases hlk
      refine wp_lt (d := I (l - 1 : Nat)) ((i_sub (a := (l : Int)) (b := 1) rfl rfl (by omega) (by omega)).trans (by rw [show (l : Int) - 1 = ((l - 1 : Nat) : Int) by omega])) ?_
      simp only [lv_cons, lv_nil, app_cons, app_nil]
      refine wp_cont rfl rfl (hQ _ ⟨_, l - 1, p.ppn, rfl, ?_, by omega, by omega, hppn⟩)
      rw [← hinv, down_eq (l := l), if_neg (by omega), hp, if_neg (by rw [hb]; decide), if_pos hlk]
      subst hg
      simp only [Bool.or_true, Bool.or_false]
  · have hw : wrongN s (slotN t a l) ((8 : Nat) : Int) = 3 := by
      unfold wrongN
      rw [if_pos (by decide), Int.toNat_natCast, if_pos h8, if_pos (by omega)]
    have hld := memLoad_bad (k := k) (s := s) (a := slotN t a l) (z := ((8 : Nat) : Int)) (cs := cs) (by omega) (by rw [hw]; decide)
    rw [hw] at hld
    refine wp_call rfl hld rfl ?_
    simp only [lv_cons, lv_nil, app_cons, app_nil]
    refine wp_lt (d := (.b true)) rfl ?_
    simp only [lv_cons, lv_nil, app_cons, app_nil]
    refine wp_ite (t := true) rfl (fun _ => ?_) (fun h => by cases h)
    refine wp_call rfl (access_con (a := a) hkd) rfl ?_
    simp only [lv_cons, lv_nil, app_cons, app_nil]
    refine wp_return rfl ?_
    rw [← hinv, down_eq, if_pos (by omega)]
    rfl
theorem Lk.rs_shape {r : Lk} {kd : Int} {a : Nat} : shapeOf (r.rs kd a) = [(true, 13), (true, 3)] := by cases r <;> rfl
end Go.Proofs.YtngpjdieelcbmaaDoor.Sx
