/-
 Layer 19: is a tree right: the reference's contract, and what it says.
-/
import Derived.Test.YtnkjmocacielmaaDoorZTaba
namespace Go.Proofs.YtnkjmocacielmaaDoor.Sx
open Go
set_option linter.unusedVariables false
set_option linter.unusedSimpArgs false
set_option maxRecDepth 100000
def rgE (g : Nat → List Nat → List Nat × Bool) (s : Nat) (cs : List Cl) (t l : Nat) (r : List Nat × Bool) (j : Nat) : List Nat × Bool :=
 if r.2 = true then (if lnkE s cs t l j = true then g (ptN (entN s cs t j)).ppn r.1 else r) else r
def rgBad (s t : Nat) (met : List Nat) : Bool := decide (s / 4096 ≤ t) || decide (64 ≤ met.length) || decide (t ∈ met)
def rgN (s : Nat) (cs : List Cl) : Nat → Nat → List Nat → List Nat × Bool
 | 0, t, met => if rgBad s t met = true then (met, false) else (List.range 512).foldl (rgE (fun _ m => (m, true)) s cs t 0) (met ++ [t], true)
 | l + 1, t, met => if rgBad s t met = true then (met, false) else (List.range 512).foldl (rgE (rgN s cs l) s cs t (l + 1)) (met ++ [t], true)
def rgG (s : Nat) (cs : List Cl) : Nat → Nat → List Nat → List Nat × Bool
 | 0 => fun _ m => (m, true)
 | l + 1 => rgN s cs l
theorem rgN_eq {s l t : Nat} {cs : List Cl} {met : List Nat} : rgN s cs l t met = if rgBad s t met = true then (met, false) else (List.range 512).foldl (rgE (rgG s cs l) s cs t l) (met ++ [t], true) := by
 cases l <;> rfl
theorem rgE_false {g : Nat → List Nat → List Nat × Bool} {s t l j : Nat} {cs : List Cl} {r : List Nat × Bool} (h : r.2 = false) : rgE g s cs t l r j = r := by
 unfold rgE
 rw [if_neg (by rw [h]; decide)]
theorem fold_false {g : Nat → List Nat → List Nat × Bool} {s t l : Nat} {cs : List Cl} : ∀ {js : List Nat} {r : List Nat × Bool}, r.2 = false → js.foldl (rgE g s cs t l) r = r
 | [], r, h => rfl
 | j :: js, r, h => by rw [List.foldl_cons, rgE_false h]; exact fold_false h
theorem fold_upto {g : Nat → List Nat → List Nat × Bool} {s t l n : Nat} {cs : List Cl} {r : List Nat × Bool} (hn : n ≤ 512) : ∃ rest : List Nat, (List.range 512).foldl (rgE g s cs t l) r = rest.foldl (rgE g s cs t l) ((List.range n).foldl (rgE g s cs t l) r) := by
 refine ⟨(List.range (512 - n)).map (n + ·), ?_⟩
 rw [← List.foldl_append, ← List.range_add, show n + (512 - n) = 512 by omega]
theorem fold_keep {g : Nat → List Nat → List Nat × Bool} {s t l : Nat} {cs : List Cl} {Pr : List Nat → Prop} (hg : ∀ p m, Pr m → Pr (g p m).1) : ∀ {js : List Nat} {r : List Nat × Bool}, Pr r.1 → Pr (js.foldl (rgE g s cs t l) r).1
 | [], r, h => h
 | j :: js, r, h => by
  rw [List.foldl_cons]
  refine fold_keep hg ?_
  unfold rgE
  split
  ·split
   ·exact hg _ _ h
   ·exact h
  ·exact h
theorem rg_keep {s : Nat} {cs : List Cl} {Pr : List Nat → Prop} (ha : ∀ (m : List Nat) (t : Nat), m.length < 64 → Pr m → Pr (m ++ [t])) : ∀ {l t : Nat} {met : List Nat}, Pr met → Pr (rgN s cs l t met).1 := by
 intro l
 induction l with
 | zero =>
  intro t met h
  rw [rgN_eq]
  split
  ·exact h
  ·rename_i hb
   simp only [rgBad, Bool.or_eq_true, decide_eq_true_eq, not_or] at hb
   exact fold_keep (fun p m h => h) (ha met t (by omega) h)
 | succ l ih =>
  intro t met h
  rw [rgN_eq]
  split
  ·exact h
  ·rename_i hb
   simp only [rgBad, Bool.or_eq_true, decide_eq_true_eq, not_or] at hb
   exact fold_keep (fun p m h => ih h) (ha met t (by omega) h)
theorem rg_ne {s l t : Nat} {cs : List Cl} {met : List Nat} (h : met ≠ []) : (rgN s cs l t met).1 ≠ [] := rg_keep (Pr := fun m => m ≠ []) (fun m t _ h => by simp) h
theorem rg_len {s l t : Nat} {cs : List Cl} {met : List Nat} (h : met.length ≤ 64) : (rgN s cs l t met).1.length ≤ 64 := rg_keep (Pr := fun m => m.length ≤ 64) (fun m t h _ => by rw [List.length_append, List.length_singleton]; omega) h
def wdF (k : Nat) (met : List Nat) : Prop := k = 1 ∨ (k = 0 ∧ met = [])
theorem refRight_con {s : Nat} {cs : List Cl} (hs : Asc cs) (hC : COk cs) (hl : cs.length ≤ 1000000) (hsz : s < 18446744073709551616) : ∀ (l t k : Nat) (met : List Nat), l ≤ 2 → t < 18446744073709551616 → wdF k met → met.length < 9223372036854775808 →
 ∃ k', wdF k' (rgN s cs l t met).1 ∧ Cn gAll 52 [md 2 s cs, u t, i l, (false, [.sl k (fD met)])] [(false, [.sl k' (fD (rgN s cs l t met).1)]), bb (rgN s cs l t met).2] := by
 intro l
 induction l using Nat.strongRecOn with
 | ind l ih =>
 intro t k met hlv ht hk hml
 have hlen : (fD met).length = met.length := List.length_map ..
 by_cases hbad : rgBad s t met = true
 ·rw [rgN_eq, if_pos hbad]
  refine ⟨k, hk, ?_⟩
  refine con rfl rfl atlasref19_Right_c atlasref19_Right_p rfl ?_
  unfold atlasref19_Right_ir
  simp only [lv_cons, lv_nil, app_cons, app_nil]
  refine wp_lt (d := .b false) (cmp_e (e_lss rfl rfl) (decide_eq_false (by omega))) ?_
  simp only [lv_cons, lv_nil, app_cons, app_nil]
  refine wp_ite (t := false) rfl (fun h => by cases h) (fun _ => ?_)
  refine wp_lt (d := .b false) (cmp_e (e_gtr rfl rfl) (decide_eq_false (by omega))) ?_
  simp only [lv_cons, lv_nil, app_cons, app_nil]
  refine wp_ite (t := false) rfl (fun h => by cases h) (fun _ => ?_)
  refine wp_lt (u_quo (b := 4096) rfl rfl (by omega) hsz) ?_
  simp only [lv_cons, lv_nil, app_cons, app_nil]
  refine wp_lt (e_geq rfl rfl) ?_
  simp only [lv_cons, lv_nil, app_cons, app_nil]
  refine wp_ite rfl (fun _ => wp_return rfl rfl) (fun h1 => ?_)
  have h1 := of_decide_eq_false h1
  refine wp_lt (len_is rfl hlen) ?_
  simp only [lv_cons, lv_nil, app_cons, app_nil]
  refine wp_lt (e_geq rfl rfl) ?_
  simp only [lv_cons, lv_nil, app_cons, app_nil]
  refine wp_ite rfl (fun _ => wp_return rfl rfl) (fun h2 => ?_)
  have h2 := of_decide_eq_false h2
  have hin : t ∈ met := by
   simp only [rgBad, Bool.or_eq_true, decide_eq_true_eq] at hbad
   rcases hbad with (h | h) | h
   ·omega
   ·omega
   ·exact h
  obtain ⟨p, hp⟩ := List.getElem?_of_mem hin
  have hpl := (List.getElem?_eq_some_iff.1 hp).1
  have hk1 : k = 1 := hk.resolve_right fun h => by rw [h.2] at hpl; exact absurd hpl (Nat.not_lt_zero _)
  subst hk1
  refine wp_rounds (fun m ds => ∃ (b : Bool) (n : Nat), ds = [.b b, I n] ∧ n ≤ p ∧ n + m = p + 1) (p + 1) rfl ⟨_, 0, rfl, by omega, by omega⟩ ?_ (fun es hes => by obtain ⟨_, n, _, h, h'⟩ := hes; omega)
  rintro m es Q ⟨b, n, rfl, hn, hm⟩ hQ
  simp only [lv_cons, lv_nil, app_cons, app_nil]
  refine wp_lt (len_is rfl hlen) ?_
  simp only [lv_cons, lv_nil, app_cons, app_nil]
  refine wp_lt (d := .b true) (cmp_e (e_lss rfl rfl) (decide_eq_true (by omega))) ?_
  simp only [lv_cons, lv_nil, app_cons, app_nil]
  refine wp_ite (t := true) rfl (fun _ => ?_) (fun h => by cases h)
  obtain ⟨c, hc⟩ : ∃ c, met[n]? = some c := ⟨_, List.getElem?_eq_getElem (by omega)⟩
  have hrow : (fD met)[n]? = some [U c] := by rw [List.getElem?_map, hc]; rfl
  refine wp_chk (inb_t rfl rfl (by rw [hlen]; omega)) ?_
  refine wp_lt (d := .b (c == t)) (cmp_e (e_eql (idx_e rfl rfl hrow rfl) rfl) (by rw [Bool.eq_iff_iff, beq_iff_eq, beq_iff_eq]; omega)) ?_
  simp only [lv_cons, lv_nil, app_cons, app_nil]
  refine wp_ite rfl (fun _ => wp_return rfl rfl) (fun hne => ?_)
  have hnp : n ≠ p := fun e => by
   rw [e, hp] at hc
   cases hc
   simp at hne
  refine wp_lt (i_add (a := (n : Int)) (b := 1) rfl rfl (by omega) (by omega)) ?_
  simp only [lv_cons, lv_nil, app_cons, app_nil]
  exact wp_cont rfl rfl (hQ _ ⟨_, n + 1, rfl, by omega, by omega⟩)
 ·have hb : rgBad s t met = false := by simpa using hbad
  simp only [rgBad, Bool.or_eq_false_iff, decide_eq_false_iff_not] at hb
  obtain ⟨⟨hb1, hb2⟩, hb3⟩ := hb
  obtain ⟨G, hG⟩ : ∃ G, G = rgG s cs l := ⟨_, rfl⟩
  have hgood : rgN s cs l t met = (List.range 512).foldl (rgE G s cs t l) (met ++ [t], true) := by rw [rgN_eq, if_neg hbad, hG]
  rw [hgood]
  refine ⟨1, .inl rfl, ?_⟩
  refine con rfl rfl atlasref19_Right_c atlasref19_Right_p rfl ?_
  unfold atlasref19_Right_ir
  simp only [lv_cons, lv_nil, app_cons, app_nil]
  refine wp_lt (d := .b false) (cmp_e (e_lss rfl rfl) (decide_eq_false (by omega))) ?_
  simp only [lv_cons, lv_nil, app_cons, app_nil]
  refine wp_ite (t := false) rfl (fun h => by cases h) (fun _ => ?_)
  refine wp_lt (d := .b false) (cmp_e (e_gtr rfl rfl) (decide_eq_false (by omega))) ?_
  simp only [lv_cons, lv_nil, app_cons, app_nil]
  refine wp_ite (t := false) rfl (fun h => by cases h) (fun _ => ?_)
  refine wp_lt (u_quo (b := 4096) rfl rfl (by omega) hsz) ?_
  simp only [lv_cons, lv_nil, app_cons, app_nil]
  refine wp_lt (d := .b false) (cmp_e (e_geq rfl rfl) (decide_eq_false (by omega))) ?_
  simp only [lv_cons, lv_nil, app_cons, app_nil]
  refine wp_ite (t := false) rfl (fun h => by cases h) (fun _ => ?_)
  refine wp_lt (len_is rfl hlen) ?_
  simp only [lv_cons, lv_nil, app_cons, app_nil]
  refine wp_lt (d := .b false) (cmp_e (e_geq rfl rfl) (decide_eq_false (by omega))) ?_
  simp only [lv_cons, lv_nil, app_cons, app_nil]
  refine wp_ite (t := false) rfl (fun h => by cases h) (fun _ => ?_)
  refine wp_rounds (fun m ds => ∃ (b : Bool) (n : Nat), ds = [.b b, I n] ∧ n ≤ met.length ∧ n + m = met.length + 1) (met.length + 1) rfl ⟨_, 0, rfl, by omega, by omega⟩ ?_ (fun es hes => by obtain ⟨_, n, _, h, h'⟩ := hes; omega)
  rintro m es Q ⟨b, n, rfl, hn, hm⟩ hQ
  simp only [lv_cons, lv_nil, app_cons, app_nil]
  refine wp_lt (len_is rfl hlen) ?_
  simp only [lv_cons, lv_nil, app_cons, app_nil]
  refine wp_lt (e_lss rfl rfl) ?_
  simp only [lv_cons, lv_nil, app_cons, app_nil]
  refine wp_ite rfl (fun hc => ?_) (fun hc => ?_)
  ·have hc := of_decide_eq_true hc
   obtain ⟨c, hcm⟩ : ∃ c, met[n]? = some c := ⟨_, List.getElem?_eq_getElem (by omega)⟩
   have hk1 : k = 1 := hk.resolve_right fun h => by rw [h.2] at hc; exact absurd hc (by simp)
   subst hk1
   have hrow : (fD met)[n]? = some [U c] := by rw [List.getElem?_map, hcm]; rfl
   refine wp_chk (inb_t rfl rfl (by rw [hlen]; omega)) ?_
   have hct : c ≠ t := fun e => hb3 (by rw [← e]; exact List.mem_of_getElem? hcm)
   refine wp_lt (d := .b false) (cmp_e (e_eql (idx_e rfl rfl hrow rfl) rfl) (by simp; omega)) ?_
   simp only [lv_cons, lv_nil, app_cons, app_nil]
   refine wp_ite (t := false) rfl (fun h => by cases h) (fun _ => ?_)
   refine wp_lt (i_add (a := (n : Int)) (b := 1) rfl rfl (by omega) (by omega)) ?_
   simp only [lv_cons, lv_nil, app_cons, app_nil]
   exact wp_cont rfl rfl (hQ _ ⟨_, n + 1, rfl, by omega, by omega⟩)
  clear hQ hc hn hm
  have happ : ∀ ρ : List D, ρ[4]? = some (.sl k (fD met)) → (Ex.app 1 (.c (.sl 1 [])) (.v 4)).eval ρ = some (.sl 1 (fD met)) := fun ρ h => by
   rcases hk with rfl | ⟨rfl, rfl⟩
   ·exact app0_e (by simpa [Ex.eval] using h)
   ·simp [Ex.eval, h, appD]
  have happ2 : ∀ ρ : List D, ρ[4]? = some (.sl k (fD met)) → ρ[2]? = some (U t) → (Ex.app 1 (.app 1 (.c (.sl 1 [])) (.v 4)) (.one [.v 2])).eval ρ = some (.sl 1 (fD (met ++ [t]))) := fun ρ h h2 => by
   have := app_any (happ ρ h) (one_e (evs_one (x := .v 2) (d := U t) (by simpa [Ex.eval] using h2)) rfl)
   rw [this, show fD (met ++ [t]) = fD met ++ [[U t]] by simp [fD]]
  refine wp_chk (room_t (happ _ rfl) (by rw [hlen]; omega)) ?_
  refine wp_chk (room_t (happ2 _ rfl rfl) (by rw [List.length_map, List.length_append, List.length_singleton]; omega)) ?_
  refine wp_rounds (fun m ds => ∃ (r : List Nat) (b : Bool) (n : Nat), ds = [.sl 1 (fD r), .b b, I n] ∧ n ≤ 512 ∧ n + m = 513 ∧ (List.range n).foldl (rgE G s cs t l) (met ++ [t], true) = (r, true) ∧ r ≠ [] ∧ r.length ≤ 64) 513 (ds := [.sl 1 (fD (met ++ [t])), .b b, I (0 : Nat)]) (es_cons (happ2 _ rfl rfl) rfl) ⟨met ++ [t], b, 0, rfl, by omega, by omega, rfl, by simp, by rw [List.length_append, List.length_singleton]; omega⟩ ?_
   (fun es hes => by obtain ⟨_, _, n, _, h, h', _⟩ := hes; omega)
  rintro m2 es Q2 ⟨r, b2, j, rfl, hj, hm, hfold, hr0, hr64⟩ hQ2
  simp only [lv_cons, lv_nil, app_cons, app_nil]
  refine wp_lt (d := .b (decide ((j : Int) < 512))) (e_lss rfl rfl) ?_
  simp only [lv_cons, lv_nil, app_cons, app_nil]
  refine wp_ite rfl (fun hc => ?_) (fun hc => ?_)
  ·have hc := of_decide_eq_true hc
   refine wp_call rfl (refAt_con (s := s) (t := t) (j := j) hs hC hl (by omega)) rfl ?_
   have hmay := ptN_may (w := entN s cs t j) (wordN_lt hC)
   have hE : (List.range (j + 1)).foldl (rgE G s cs t l) (met ++ [t], true) = if lnkE s cs t l j = true then G (ptN (entN s cs t j)).ppn r else (r, true) := by
    rw [List.range_succ, List.foldl_append, hfold]
    rfl
   rw [lnkE] at hE
   obtain ⟨q, hq⟩ : ∃ q, q = ptN (entN s cs t j) := ⟨_, rfl⟩
   rw [← hq] at hE hmay ⊢
   simp only [lv_cons, lv_nil, Pt.ds, Lf.ds, app_cons, app_nil]
   refine wp_call rfl (refLinks_con (p := q) (lv_of hlv)) rfl ?_
   simp only [lv_cons, lv_nil, app_cons, app_nil]
   refine wp_ite rfl (fun hk2 => ?_) (fun hk2 => ?_)
   ·have hl0 : l ≠ 0 := fun h => by rw [h, show (((0 : Nat) : Int)) = 0 from rfl, lnk_low] at hk2; cases hk2
    rw [if_pos hk2] at hE
    have hGl : G = rgN s cs (l - 1) := by
     rw [hG]
     cases l with
     | zero => exact absurd rfl hl0
     | succ l => rfl
    have hGq : G q.ppn r = rgN s cs (l - 1) q.ppn r := by rw [hGl]
    rw [hGq] at hE
    refine wp_lt (d := I (l - 1 : Nat)) ((i_sub (a := (l : Int)) (b := 1) rfl rfl (by omega) (by omega)).trans (by rw [show (l : Int) - 1 = ((l - 1 : Nat) : Int) by omega])) ?_
    simp only [lv_cons, lv_nil, app_cons, app_nil]
    obtain ⟨k', hk', hcon⟩ := ih (l - 1) (by omega) q.ppn 1 r (by omega) (by have := hmay.2.1; omega) (.inl rfl) (by omega)
    have hne := rg_ne (s := s) (cs := cs) (l := l - 1) (t := q.ppn) hr0
    have h64 := rg_len (s := s) (cs := cs) (l := l - 1) (t := q.ppn) hr64
    have hk1 : k' = 1 := hk'.resolve_right fun h => hne h.2
    subst hk1
    refine wp_call rfl hcon rfl ?_
    simp only [lv_cons, lv_nil, app_cons, app_nil]
    obtain ⟨rr, hrr⟩ : ∃ rr, rr = rgN s cs (l - 1) q.ppn r := ⟨_, rfl⟩
    rw [← hrr] at hE hne h64 ⊢
    obtain ⟨r2, ok⟩ := rr
    refine wp_lt (not_e rfl) ?_
    simp only [lv_cons, lv_nil, app_cons, app_nil]
    refine wp_ite rfl (fun ho => ?_) (fun ho => ?_)
    ·have ho : ok = false := by simpa using ho
     subst ho
     obtain ⟨rest, hrest⟩ := fold_upto (g := G) (s := s) (t := t) (l := l) (cs := cs) (r := (met ++ [t], true)) (show j + 1 ≤ 512 by omega)
     rw [hE, fold_false (js := rest) (r := (r2, false)) rfl] at hrest
     rw [hrest]
     exact wp_return rfl rfl
    ·have ho : ok = true := by simpa using ho
     subst ho
     refine wp_lt (i_add (a := (j : Int)) (b := 1) rfl rfl (by omega) (by omega)) ?_
     simp only [lv_cons, lv_nil, app_cons, app_nil]
     exact wp_cont rfl rfl (hQ2 _ ⟨r2, _, j + 1, rfl, by omega, by omega, hE, hne, h64⟩)
   ·rw [if_neg (by rw [hk2]; decide)] at hE
    refine wp_lt (i_add (a := (j : Int)) (b := 1) rfl rfl (by omega) (by omega)) ?_
    simp only [lv_cons, lv_nil, app_cons, app_nil]
    exact wp_cont rfl rfl (hQ2 _ ⟨r, _, j + 1, rfl, by omega, by omega, hE, hr0, hr64⟩)
  ·have hc := of_decide_eq_false hc
   obtain rfl : j = 512 := by omega
   rw [hfold]
   exact wp_return rfl rfl
def frE (s : Nat) (cs : List Cl) (t l : Nat) (j : Nat) : List Nat := if lnkE s cs t l j = true then framesN s cs (l - 1) (ptN (entN s cs t j)).ppn else []
theorem frames_frE {s l t : Nat} {cs : List Cl} : framesN s cs l t = t :: (List.range 512).flatMap (frE s cs t l) := framesN_eq
theorem rg_fold {s t l : Nat} {cs : List Cl} {G : Nat → List Nat → List Nat × Bool}
 (hG : ∀ j m, lnkE s cs t l j = true → (G (ptN (entN s cs t j)).ppn m).2 = true → (G (ptN (entN s cs t j)).ppn m).1 = m ++ framesN s cs (l - 1) (ptN (entN s cs t j)).ppn ∧ (∀ f ∈ framesN s cs (l - 1) (ptN (entN s cs t j)).ppn, f < s / 4096 ∧ f ∉ m) ∧ (framesN s cs (l - 1) (ptN (entN s cs t j)).ppn).Nodup) :
 ∀ {js r : List Nat}, (js.foldl (rgE G s cs t l) (r, true)).2 = true → (js.foldl (rgE G s cs t l) (r, true)).1 = r ++ js.flatMap (frE s cs t l) ∧ (∀ f ∈ js.flatMap (frE s cs t l), f < s / 4096 ∧ f ∉ r) ∧ (js.flatMap (frE s cs t l)).Nodup
 | [], r, _ => by simp
 | j :: js, r, h => by
  rw [List.foldl_cons] at h ⊢
  by_cases hk : lnkE s cs t l j = true
  ·have e : rgE G s cs t l (r, true) j = G (ptN (entN s cs t j)).ppn r := by unfold rgE; rw [if_pos rfl, if_pos hk]
   rw [e] at h ⊢
   have hF : frE s cs t l j = framesN s cs (l - 1) (ptN (entN s cs t j)).ppn := if_pos hk
   rw [List.flatMap_cons, hF]
   cases ho : (G (ptN (entN s cs t j)).ppn r).2 with
   | false => rw [fold_false ho, ho] at h; cases h
   | true =>
    obtain ⟨h1, h2, h3⟩ := hG j r hk ho
    have e2 : G (ptN (entN s cs t j)).ppn r = (r ++ framesN s cs (l - 1) (ptN (entN s cs t j)).ppn, true) := by rw [← h1, ← ho]
    rw [e2] at h ⊢
    obtain ⟨g1, g2, g3⟩ := rg_fold hG h
    refine ⟨by rw [g1, List.append_assoc], fun f hf => ?_, ?_⟩
    ·rcases List.mem_append.1 hf with hf | hf
     ·exact h2 f hf
     ·have := g2 f hf
      exact ⟨this.1, fun hr => this.2 (List.mem_append_left _ hr)⟩
    ·rw [List.nodup_append]
     exact ⟨h3, g3, fun a ha b hb e => (g2 b hb).2 (List.mem_append_right _ (by rw [← e]; exact ha))⟩
  ·have e : rgE G s cs t l (r, true) j = (r, true) := by unfold rgE; rw [if_pos rfl, if_neg hk]
   rw [e] at h ⊢
   have hF : frE s cs t l j = [] := if_neg hk
   rw [List.flatMap_cons, hF, List.nil_append]
   exact rg_fold hG h
theorem rg_true {s : Nat} {cs : List Cl} : ∀ {l t : Nat} {met : List Nat}, (rgN s cs l t met).2 = true → (rgN s cs l t met).1 = met ++ framesN s cs l t ∧ (∀ f ∈ framesN s cs l t, f < s / 4096 ∧ f ∉ met) ∧ (framesN s cs l t).Nodup := by
 intro l
 induction l with
 | zero =>
  intro t met h
  rw [rgN_eq] at h ⊢
  split at h
  ·cases h
  rename_i hb
  rw [if_neg hb]
  simp only [rgBad, Bool.or_eq_true, decide_eq_true_eq, not_or] at hb
  obtain ⟨h1, h2, h3⟩ := rg_fold (fun j m hk _ => by rw [lnkE, show (((0 : Nat) : Int)) = 0 from rfl, lnk_low] at hk; cases hk) h
  rw [frames_frE]
  refine ⟨by rw [h1, List.append_assoc]; rfl, fun f hf => ?_, List.nodup_cons.2 ⟨fun hm => (h2 t hm).2 (List.mem_append_right _ (List.mem_singleton_self t)), h3⟩⟩
  rcases List.mem_cons.1 hf with rfl | hf
  ·exact ⟨by omega, hb.2⟩
  ·exact ⟨(h2 f hf).1, fun hm => (h2 f hf).2 (List.mem_append_left _ hm)⟩
 | succ l ih =>
  intro t met h
  rw [rgN_eq] at h ⊢
  split at h
  ·cases h
  rename_i hb
  rw [if_neg hb]
  rw [show rgG s cs (l + 1) = rgN s cs l from rfl] at h ⊢
  simp only [rgBad, Bool.or_eq_true, decide_eq_true_eq, not_or] at hb
  obtain ⟨h1, h2, h3⟩ := rg_fold (fun j m hk ho => ih ho) h
  rw [frames_frE]
  refine ⟨by rw [h1, List.append_assoc]; rfl, fun f hf => ?_, List.nodup_cons.2 ⟨fun hm => (h2 t hm).2 (List.mem_append_right _ (List.mem_singleton_self t)), h3⟩⟩
  rcases List.mem_cons.1 hf with rfl | hf
  ·exact ⟨by omega, hb.2⟩
  ·exact ⟨(h2 f hf).1, fun hm => (h2 f hf).2 (List.mem_append_left _ hm)⟩
structure TreeOk (s : Nat) (cs : List Cl) (l t : Nat) : Prop where
 nd : (framesN s cs l t).Nodup
 low : ∀ f ∈ framesN s cs l t, f < s / 4096
structure FitOk (s : Nat) (cs : List Cl) (lv : Int) (t l : Nat) : Prop where
 eq : lv = l
 le : l ≤ 2
 rm : RM s cs
 len : cs.length ≤ 300
 tree : TreeOk s cs l t
end Go.Proofs.YtnkjmocacielmaaDoor.Sx
