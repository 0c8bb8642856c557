/-
 Layer 20: what fits.
-/
import Derived.Test.YtnkjmocacielmaaDoorZSpa
namespace Go.Proofs.YtnkjmocacielmaaDoor.Sx
open Go
set_option linter.unusedVariables false
set_option linter.unusedSimpArgs false
set_option maxRecDepth 100000
structure SpOk (s b f : Nat) (m : Int) (cs : List Cl) (lv : Int) (t l : Nat) : Prop where
 eq : lv = l
 le : l ≤ 2
 len : cs.length ≤ 1500
 rm : RM s cs
 pool : PoolOk b m f
 room : ((b : Int) + m) * 4096 ≤ s
 tree : TreeOk s cs l t
 used : ∀ fr ∈ (framesN s cs l t).tail, isP b m f fr = true
 clean : cleanN s cs l t = true
 topu : inP b m t = true → isP b m f t = true
theorem fits20_con {s b f t : Nat} {m lv : Int} {cs : List Cl} (hlen : cs.length ≤ 1500) (hs : s < 18446744073709551616) (hO : COk cs) (hb : b < 18446744073709551616) (hf : f < 18446744073709551616) (hm0 : -9223372036854775808 ≤ m) (hm1 : m < 9223372036854775808) (ht : t < 18446744073709551616) (h0 : -9223372036854775808 ≤ lv) (h1 : lv < 9223372036854775808) :
 ∃ v, Cn gAll 25 [md 2 s cs, plD b m f, u t, i lv] [bb v] ∧ (v = true → ∃ l, SpOk s b f m cs lv t l) := by
 have key : ∀ v, IR.wp (Cn gAll) (fun r => r = [bb v]) atlasref20_Fits_ir [] (leavesOf [md 2 s cs, plD b m f, u t, i lv]) → Cn gAll 25 [md 2 s cs, plD b m f, u t, i lv] [bb v] := fun v h => con rfl rfl atlasref20_Fits_c atlasref20_Fits_p rfl h
 obtain ⟨vp, hvp, hpool⟩ := rightP_con (b := b) (f := f) hf hm0 hm1
 by_cases hR : rightM s cs = true
 case neg =>
  refine ⟨false, key _ ?_, fun h => by cases h⟩
  unfold atlasref20_Fits_ir
  simp only [lv_cons, lv_nil, app_cons, app_nil]
  refine wp_call rfl (refRightM_con (.inl rfl) hs (by omega)) rfl ?_
  rw [Bool.eq_false_iff.2 hR]
  simp only [lv_cons, lv_nil, app_cons, app_nil]
  refine wp_lt (d := (.b true)) rfl ?_
  simp only [lv_cons, lv_nil, app_cons, app_nil]
  refine wp_ite (t := true) rfl (fun _ => ?_) (fun h => by cases h)
  exact wp_return rfl rfl
 have hRM := right_rm.1 hR
 cases vp with
 | false =>
  refine ⟨false, key _ ?_, fun h => by cases h⟩
  unfold atlasref20_Fits_ir
  simp only [lv_cons, lv_nil, app_cons, app_nil]
  refine wp_call rfl (refRightM_con (.inl rfl) hs (by omega)) rfl ?_
  rw [hR]
  simp only [lv_cons, lv_nil, app_cons, app_nil]
  refine wp_lt (d := (.b false)) rfl ?_
  simp only [lv_cons, lv_nil, app_cons, app_nil]
  refine wp_ite (t := false) rfl (fun h => by cases h) (fun _ => ?_)
  refine wp_call rfl hvp rfl ?_
  simp only [lv_cons, lv_nil, app_cons, app_nil]
  refine wp_lt (d := (.b true)) rfl ?_
  simp only [lv_cons, lv_nil, app_cons, app_nil]
  refine wp_ite (t := true) rfl (fun _ => ?_) (fun h => by cases h)
  exact wp_return rfl rfl
 | true =>
 have hP := hpool rfl
 obtain ⟨M, rfl⟩ := Int.eq_ofNat_of_zero_le hP.lo
 have hhi := hP.hi
 have hbs := hP.bs
 by_cases hroom : s < (b + M) * 4096
 ·refine ⟨false, key _ ?_, fun h => by cases h⟩
  unfold atlasref20_Fits_ir
  simp only [lv_cons, lv_nil, app_cons, app_nil]
  refine wp_call rfl (refRightM_con (.inl rfl) hs (by omega)) rfl ?_
  rw [hR]
  simp only [lv_cons, lv_nil, app_cons, app_nil]
  refine wp_lt (d := (.b false)) rfl ?_
  simp only [lv_cons, lv_nil, app_cons, app_nil]
  refine wp_ite (t := false) rfl (fun h => by cases h) (fun _ => ?_)
  refine wp_call rfl hvp rfl ?_
  simp only [lv_cons, lv_nil, app_cons, app_nil]
  refine wp_lt (d := (.b false)) rfl ?_
  simp only [lv_cons, lv_nil, app_cons, app_nil]
  refine wp_ite (t := false) rfl (fun h => by cases h) (fun _ => ?_)
  refine wp_lt (cv_u (n := M) rfl (by omega)) ?_
  simp only [lv_cons, lv_nil, app_cons, app_nil]
  refine wp_lt (u_add rfl rfl (by omega)) ?_
  simp only [lv_cons, lv_nil, app_cons, app_nil]
  refine wp_lt (u_mul (b := 4096) rfl rfl (by omega)) ?_
  simp only [lv_cons, lv_nil, app_cons, app_nil]
  refine wp_lt (d := .b (decide (s < (b + M) * 4096))) (cmp_e (e_gtr rfl rfl) (by rw [Bool.eq_iff_iff, decide_eq_true_eq, decide_eq_true_eq]; omega)) ?_
  simp only [lv_cons, lv_nil, app_cons, app_nil]
  rw [decide_eq_true hroom]
  refine wp_ite (t := true) rfl (fun _ => ?_) (fun h => by cases h)
  exact wp_return rfl rfl
 by_cases hlv : 0 ≤ lv ∧ lv ≤ 2
 case neg =>
  refine ⟨false, key _ ?_, fun h => by cases h⟩
  have hbad : Cn gAll 52 [md 2 s cs, u t, i lv, (false, [.sl 0 []])] [(false, [.sl 0 []]), bb false] := by
   refine con rfl rfl atlasref19_Right_c atlasref19_Right_p rfl ?_
   unfold atlasref19_Right_ir
   simp only [lv_cons, lv_nil, app_cons, app_nil]
   refine wp_lt (e_lss rfl rfl) ?_
   simp only [lv_cons, lv_nil, app_cons, app_nil]
   refine wp_ite rfl (fun _ => wp_return rfl rfl) (fun hc => ?_)
   have hc := of_decide_eq_false hc
   refine wp_lt (d := .b true) (cmp_e (e_gtr rfl rfl) (decide_eq_true (by omega))) ?_
   simp only [lv_cons, lv_nil, app_cons, app_nil]
   refine wp_ite (t := true) rfl (fun _ => ?_) (fun h => by cases h)
   exact wp_return rfl rfl
  unfold atlasref20_Fits_ir
  simp only [lv_cons, lv_nil, app_cons, app_nil]
  refine wp_call rfl (refRightM_con (.inl rfl) hs (by omega)) rfl ?_
  rw [hR]
  simp only [lv_cons, lv_nil, app_cons, app_nil]
  refine wp_lt (d := (.b false)) rfl ?_
  simp only [lv_cons, lv_nil, app_cons, app_nil]
  refine wp_ite (t := false) rfl (fun h => by cases h) (fun _ => ?_)
  refine wp_call rfl hvp rfl ?_
  simp only [lv_cons, lv_nil, app_cons, app_nil]
  refine wp_lt (d := (.b false)) rfl ?_
  simp only [lv_cons, lv_nil, app_cons, app_nil]
  refine wp_ite (t := false) rfl (fun h => by cases h) (fun _ => ?_)
  refine wp_lt (cv_u (n := M) rfl (by omega)) ?_
  simp only [lv_cons, lv_nil, app_cons, app_nil]
  refine wp_lt (u_add rfl rfl (by omega)) ?_
  simp only [lv_cons, lv_nil, app_cons, app_nil]
  refine wp_lt (u_mul (b := 4096) rfl rfl (by omega)) ?_
  simp only [lv_cons, lv_nil, app_cons, app_nil]
  refine wp_lt (d := .b (decide (s < (b + M) * 4096))) (cmp_e (e_gtr rfl rfl) (by rw [Bool.eq_iff_iff, decide_eq_true_eq, decide_eq_true_eq]; omega)) ?_
  simp only [lv_cons, lv_nil, app_cons, app_nil]
  rw [decide_eq_false hroom]
  refine wp_ite (t := false) rfl (fun h => by cases h) (fun _ => ?_)
  refine wp_call rfl hbad rfl ?_
  simp only [lv_cons, lv_nil, app_cons, app_nil]
  refine wp_lt (d := (.b true)) rfl ?_
  simp only [lv_cons, lv_nil, app_cons, app_nil]
  refine wp_ite (t := true) rfl (fun _ => ?_) (fun h => by cases h)
  exact wp_return rfl rfl
 obtain ⟨l, rfl⟩ := Int.eq_ofNat_of_zero_le hlv.1
 have hl2 : l ≤ 2 := by omega
 obtain ⟨k', hk', hcon⟩ := refRight_con (s := s) hRM.asc hO (by omega) hs l t 0 [] hl2 ht (.inr ⟨rfl, rfl⟩) (by decide)
 by_cases hok : (rgN s cs l t []).2 = true
 case neg =>
  refine ⟨false, key _ ?_, fun h => by cases h⟩
  unfold atlasref20_Fits_ir
  simp only [lv_cons, lv_nil, app_cons, app_nil]
  refine wp_call rfl (refRightM_con (.inl rfl) hs (by omega)) rfl ?_
  rw [hR]
  simp only [lv_cons, lv_nil, app_cons, app_nil]
  refine wp_lt (d := (.b false)) rfl ?_
  simp only [lv_cons, lv_nil, app_cons, app_nil]
  refine wp_ite (t := false) rfl (fun h => by cases h) (fun _ => ?_)
  refine wp_call rfl hvp rfl ?_
  simp only [lv_cons, lv_nil, app_cons, app_nil]
  refine wp_lt (d := (.b false)) rfl ?_
  simp only [lv_cons, lv_nil, app_cons, app_nil]
  refine wp_ite (t := false) rfl (fun h => by cases h) (fun _ => ?_)
  refine wp_lt (cv_u (n := M) rfl (by omega)) ?_
  simp only [lv_cons, lv_nil, app_cons, app_nil]
  refine wp_lt (u_add rfl rfl (by omega)) ?_
  simp only [lv_cons, lv_nil, app_cons, app_nil]
  refine wp_lt (u_mul (b := 4096) rfl rfl (by omega)) ?_
  simp only [lv_cons, lv_nil, app_cons, app_nil]
  refine wp_lt (d := .b (decide (s < (b + M) * 4096))) (cmp_e (e_gtr rfl rfl) (by rw [Bool.eq_iff_iff, decide_eq_true_eq, decide_eq_true_eq]; omega)) ?_
  simp only [lv_cons, lv_nil, app_cons, app_nil]
  rw [decide_eq_false hroom]
  refine wp_ite (t := false) rfl (fun h => by cases h) (fun _ => ?_)
  rw [Bool.eq_false_iff.2 hok] at hcon
  refine wp_call rfl hcon rfl ?_
  simp only [lv_cons, lv_nil, app_cons, app_nil]
  refine wp_lt (d := (.b true)) rfl ?_
  simp only [lv_cons, lv_nil, app_cons, app_nil]
  refine wp_ite (t := true) rfl (fun _ => ?_) (fun h => by cases h)
  exact wp_return rfl rfl
 obtain ⟨hrg1, hrg2, hrg3⟩ := rg_true hok
 have htree : TreeOk s cs l t := ⟨hrg3, fun f hf => (hrg2 f hf).1⟩
 have hmost := hRM.most
 have ht44 : t < 17592186044416 := by have := htree.head; omega
 rw [List.nil_append] at hrg1
 rw [hrg1] at hk' hcon
 rw [hok] at hcon
 have hfr := frames_frE (s := s) (l := l) (t := t) (cs := cs)
 have hk1 : k' = 1 := hk'.resolve_right fun h => by rw [hfr] at h; cases h.2
 subst hk1
 have hflen : (framesN s cs l t).length ≤ 64 := by
  have := rg_len (s := s) (l := l) (t := t) (cs := cs) (met := []) (by decide)
  rwa [hrg1] at this
 by_cases hall : ∀ fr ∈ (framesN s cs l t).tail, isP b (M : Nat) f fr = true
 case neg =>
  refine ⟨false, key _ ?_, fun h => by cases h⟩
  unfold atlasref20_Fits_ir
  simp only [lv_cons, lv_nil, app_cons, app_nil]
  refine wp_call rfl (refRightM_con (.inl rfl) hs (by omega)) rfl ?_
  rw [hR]
  simp only [lv_cons, lv_nil, app_cons, app_nil]
  refine wp_lt (d := (.b false)) rfl ?_
  simp only [lv_cons, lv_nil, app_cons, app_nil]
  refine wp_ite (t := false) rfl (fun h => by cases h) (fun _ => ?_)
  refine wp_call rfl hvp rfl ?_
  simp only [lv_cons, lv_nil, app_cons, app_nil]
  refine wp_lt (d := (.b false)) rfl ?_
  simp only [lv_cons, lv_nil, app_cons, app_nil]
  refine wp_ite (t := false) rfl (fun h => by cases h) (fun _ => ?_)
  refine wp_lt (cv_u (n := M) rfl (by omega)) ?_
  simp only [lv_cons, lv_nil, app_cons, app_nil]
  refine wp_lt (u_add rfl rfl (by omega)) ?_
  simp only [lv_cons, lv_nil, app_cons, app_nil]
  refine wp_lt (u_mul (b := 4096) rfl rfl (by omega)) ?_
  simp only [lv_cons, lv_nil, app_cons, app_nil]
  refine wp_lt (d := .b (decide (s < (b + M) * 4096))) (cmp_e (e_gtr rfl rfl) (by rw [Bool.eq_iff_iff, decide_eq_true_eq, decide_eq_true_eq]; omega)) ?_
  simp only [lv_cons, lv_nil, app_cons, app_nil]
  rw [decide_eq_false hroom]
  refine wp_ite (t := false) rfl (fun h => by cases h) (fun _ => ?_)
  refine wp_call rfl hcon rfl ?_
  simp only [lv_cons, lv_nil, app_cons, app_nil]
  refine wp_lt (d := (.b false)) rfl ?_
  simp only [lv_cons, lv_nil, app_cons, app_nil]
  refine wp_ite (t := false) rfl (fun h => by cases h) (fun _ => ?_)
  obtain ⟨p, hp1, hpl, hp⟩ : ∃ p, 1 ≤ p ∧ p < (framesN s cs l t).length ∧ ∀ c, (framesN s cs l t)[p]? = some c → isP b (M : Nat) f c = false := by
   refine Classical.byContradiction fun hno => hall fun fr hfr' => ?_
   obtain ⟨q, hq⟩ := List.getElem?_of_mem hfr'
   rw [List.getElem?_tail] at hq
   cases hv : isP b (M : Nat) f fr with
   | true => rfl
   | false => exact absurd ⟨q + 1, by omega, (List.getElem?_eq_some_iff.1 hq).1, fun c hc => by rw [hq] at hc; cases hc; exact hv⟩ hno
  refine wp_rounds (fun m ds => ∃ (b : Bool) (n : Nat), ds = [.b b, I n] ∧ n + m = p + 1 ∧ n ≤ p) p rfl ⟨_, 1, rfl, by omega, by omega⟩ ?_
   (fun es hes => by obtain ⟨_, n, _, h1, h2⟩ := hes; omega)
  rintro m es Q ⟨v, n, rfl, hm, hn⟩ hQ
  simp only [lv_cons, lv_nil, app_cons, app_nil]
  refine wp_lt (len_is (L := (framesN s cs l t).length) rfl (List.length_map ..)) ?_
  simp only [lv_cons, lv_nil, app_cons, app_nil]
  refine wp_lt (d := .b true) (cmp_e (e_lss rfl rfl) (decide_eq_true (by omega))) ?_
  simp only [lv_cons, lv_nil, app_cons, app_nil]
  refine wp_ite (t := true) rfl (fun _ => ?_) (fun h => by cases h)
  obtain ⟨c, hc⟩ : ∃ c, (framesN s cs l t)[n]? = some c := ⟨_, List.getElem?_eq_getElem (by omega)⟩
  have hrow : (fD (framesN s cs l t))[n]? = some [U c] := by rw [List.getElem?_map, hc]; rfl
  have hcl := htree.low c (List.mem_of_getElem? hc)
  refine wp_chk (inb_t rfl rfl (by rw [List.length_map]; omega)) ?_
  refine wp_call (az := [plD b M f, u c]) (evs_cons rfl (evs_cons (evs_one (idx_e rfl rfl hrow rfl)) rfl)) (refIsP_con hP (by omega)) rfl ?_
  simp only [lv_cons, lv_nil, app_cons, app_nil]
  refine wp_lt (d := .b (!isP b (M : Nat) f c)) (not_e rfl) ?_
  simp only [lv_cons, lv_nil, app_cons, app_nil]
  refine wp_ite rfl (fun h => wp_return rfl rfl) (fun h => ?_)
  have hnp : n ≠ p := fun e => by
   subst e
   rw [hp c hc] at h
   cases h
  refine wp_lt (d := I (n + 1 : Nat)) ((i_add (a := (n : Int)) (b := 1) rfl rfl (by omega) (by omega)).trans (by rw [Int.natCast_add]; rfl)) ?_
  simp only [lv_cons, lv_nil, app_cons, app_nil]
  exact wp_cont rfl rfl (hQ _ ⟨_, n + 1, rfl, by omega, by omega⟩)
 refine ⟨cleanN s cs l t && (!inP b (M : Nat) t || isP b (M : Nat) f t), key _ ?_, fun h => ?_⟩
 ·unfold atlasref20_Fits_ir
  simp only [lv_cons, lv_nil, app_cons, app_nil]
  refine wp_call rfl (refRightM_con (.inl rfl) hs (by omega)) rfl ?_
  rw [hR]
  simp only [lv_cons, lv_nil, app_cons, app_nil]
  refine wp_lt (d := (.b false)) rfl ?_
  simp only [lv_cons, lv_nil, app_cons, app_nil]
  refine wp_ite (t := false) rfl (fun h => by cases h) (fun _ => ?_)
  refine wp_call rfl hvp rfl ?_
  simp only [lv_cons, lv_nil, app_cons, app_nil]
  refine wp_lt (d := (.b false)) rfl ?_
  simp only [lv_cons, lv_nil, app_cons, app_nil]
  refine wp_ite (t := false) rfl (fun h => by cases h) (fun _ => ?_)
  refine wp_lt (cv_u (n := M) rfl (by omega)) ?_
  simp only [lv_cons, lv_nil, app_cons, app_nil]
  refine wp_lt (u_add rfl rfl (by omega)) ?_
  simp only [lv_cons, lv_nil, app_cons, app_nil]
  refine wp_lt (u_mul (b := 4096) rfl rfl (by omega)) ?_
  simp only [lv_cons, lv_nil, app_cons, app_nil]
  refine wp_lt (d := .b (decide (s < (b + M) * 4096))) (cmp_e (e_gtr rfl rfl) (by rw [Bool.eq_iff_iff, decide_eq_true_eq, decide_eq_true_eq]; omega)) ?_
  simp only [lv_cons, lv_nil, app_cons, app_nil]
  rw [decide_eq_false hroom]
  refine wp_ite (t := false) rfl (fun h => by cases h) (fun _ => ?_)
  refine wp_call rfl hcon rfl ?_
  simp only [lv_cons, lv_nil, app_cons, app_nil]
  refine wp_lt (d := (.b false)) rfl ?_
  simp only [lv_cons, lv_nil, app_cons, app_nil]
  refine wp_ite (t := false) rfl (fun h => by cases h) (fun _ => ?_)
  have hL : 1 ≤ (framesN s cs l t).length := by rw [hfr, List.length_cons]; omega
  refine wp_rounds (fun m ds => ∃ (b : Bool) (n : Nat), ds = [.b b, I n] ∧ n + m = (framesN s cs l t).length + 1 ∧ 1 ≤ n ∧ n ≤ (framesN s cs l t).length) (framesN s cs l t).length rfl ⟨_, 1, rfl, by omega, by omega, by omega⟩ ?_
   (fun es hes => by obtain ⟨_, n, _, h1, h2, h3⟩ := hes; omega)
  rintro k es Q ⟨v, n, rfl, hm, hn, hnL⟩ hQ
  simp only [lv_cons, lv_nil, app_cons, app_nil]
  refine wp_lt (len_is (L := (framesN s cs l t).length) rfl (List.length_map ..)) ?_
  simp only [lv_cons, lv_nil, app_cons, app_nil]
  refine wp_lt (d := .b (decide ((n : Int) < (framesN s cs l t).length))) (e_lss rfl rfl) ?_
  simp only [lv_cons, lv_nil, app_cons, app_nil]
  refine wp_ite rfl (fun hc => ?_) (fun hc => ?_)
  ·have hc := of_decide_eq_true hc
   obtain ⟨c, hcc⟩ : ∃ c, (framesN s cs l t)[n]? = some c := ⟨_, List.getElem?_eq_getElem (by omega)⟩
   have hrow : (fD (framesN s cs l t))[n]? = some [U c] := by rw [List.getElem?_map, hcc]; rfl
   have hcl := htree.low c (List.mem_of_getElem? hcc)
   have hct : c ∈ (framesN s cs l t).tail := by
    refine List.mem_of_getElem? (i := n - 1) ?_
    rw [List.getElem?_tail, show n - 1 + 1 = n by omega]
    exact hcc
   refine wp_chk (inb_t rfl rfl (by rw [List.length_map]; omega)) ?_
   refine wp_call (az := [plD b M f, u c]) (evs_cons rfl (evs_cons (evs_one (idx_e rfl rfl hrow rfl)) rfl)) (refIsP_con hP (by omega)) rfl ?_
   rw [hall c hct]
   simp only [lv_cons, lv_nil, app_cons, app_nil]
   refine wp_lt (d := (.b false)) rfl ?_
   simp only [lv_cons, lv_nil, app_cons, app_nil]
   refine wp_ite (t := false) rfl (fun h => by cases h) (fun _ => ?_)
   refine wp_lt (d := I (n + 1 : Nat)) ((i_add (a := (n : Int)) (b := 1) rfl rfl (by omega) (by omega)).trans (by rw [Int.natCast_add]; rfl)) ?_
   simp only [lv_cons, lv_nil, app_cons, app_nil]
   exact wp_cont rfl rfl (hQ _ ⟨_, n + 1, rfl, by omega, by omega, by omega⟩)
  ·refine wp_call rfl (refClean_con (s := s) hRM.asc hO (by omega) l t hl2 ht44) rfl ?_
   simp only [lv_cons, lv_nil, app_cons, app_nil]
   refine wp_ite rfl (fun hcl => ?_) (fun hcl => ?_)
   ·refine wp_call rfl (inPool_con (fr := t) hP) rfl ?_
    simp only [lv_cons, lv_nil, app_cons, app_nil]
    refine wp_lt (d := .b (!inP b (M : Nat) t)) (not_e rfl) ?_
    simp only [lv_cons, lv_nil, app_cons, app_nil]
    refine wp_ite rfl (fun hi => ?_) (fun hi => ?_)
    ·refine wp_return rfl (bb_eq ?_)
     rw [hcl, hi]
     rfl
    ·refine wp_call rfl (refIsP_con hP ht) rfl ?_
     simp only [lv_cons, lv_nil, app_cons, app_nil]
     refine wp_return rfl (bb_eq ?_)
     rw [hcl, hi]
     rfl
   ·refine wp_return rfl (bb_eq ?_)
    rw [hcl]
    rfl
 ·simp only [Bool.and_eq_true, Bool.or_eq_true, Bool.not_eq_true'] at h
  exact ⟨l, rfl, hl2, hlen, hRM, hP, by omega, htree, hall, h.1, fun hi => h.2.resolve_left (by rw [hi]; decide)⟩
theorem few20_con {s b f t : Nat} {m lv : Int} {cs : List Cl} (hs : s < 18446744073709551616) (hO : COk cs) (hb : b < 18446744073709551616) (hf : f < 18446744073709551616) (hm0 : -9223372036854775808 ≤ m) (hm1 : m < 9223372036854775808) (ht : t < 18446744073709551616) (h0 : -9223372036854775808 ≤ lv) (h1 : lv < 9223372036854775808) (hlx : cs.length < 9223372036854775808) :
 ∃ v, Cn gAll 8 [md 2 s cs, plD b m f, u t, i lv] [bb v] ∧ (v = true → ∃ l, SpOk s b f m cs lv t l) := by
 have key : ∀ v, IR.wp (Cn gAll) (fun r => r = [bb v]) atlaslaw20_few_ir [] (leavesOf [md 2 s cs, plD b m f, u t, i lv]) → Cn gAll 8 [md 2 s cs, plD b m f, u t, i lv] [bb v] := fun v h => con rfl rfl atlaslaw20_few_c atlaslaw20_few_p rfl h
 by_cases hlen : cs.length ≤ 1500
 case neg =>
  refine ⟨false, key _ ?_, fun h => by cases h⟩
  unfold atlaslaw20_few_ir
  simp only [lv_cons, lv_nil, app_cons, app_nil]
  refine wp_lt (len_is rfl crs_len) ?_
  simp only [lv_cons, lv_nil, app_cons, app_nil]
  refine wp_lt (d := .b false) (cmp_e (e_leq rfl rfl) (decide_eq_false (by omega))) ?_
  simp only [lv_cons, lv_nil, app_cons, app_nil]
  refine wp_ite (t := false) rfl (fun h => by cases h) (fun _ => ?_)
  exact wp_return rfl rfl
 obtain ⟨v, hv, hok⟩ := fits20_con hlen hs hO hb hf hm0 hm1 ht h0 h1
 cases v with
 | false =>
  refine ⟨false, key _ ?_, fun h => by cases h⟩
  unfold atlaslaw20_few_ir
  simp only [lv_cons, lv_nil, app_cons, app_nil]
  refine wp_lt (len_is rfl crs_len) ?_
  simp only [lv_cons, lv_nil, app_cons, app_nil]
  refine wp_lt (d := .b true) (cmp_e (e_leq rfl rfl) (decide_eq_true (by omega))) ?_
  simp only [lv_cons, lv_nil, app_cons, app_nil]
  refine wp_ite (t := true) rfl (fun _ => ?_) (fun h => by cases h)
  refine wp_call rfl hv rfl ?_
  simp only [lv_cons, lv_nil, app_cons, app_nil]
  refine wp_ite (t := false) rfl (fun h => by cases h) (fun _ => ?_)
  exact wp_return rfl rfl
 | true =>
  obtain ⟨l, hS⟩ := hok rfl
  obtain rfl := hS.eq
  have hhd := hS.tree.head
  have hmost := hS.rm.most
  refine ⟨decide (((framesN s cs l t).length : Int) ≤ 60), key _ ?_, fun _ => ⟨l, hS⟩⟩
  unfold atlaslaw20_few_ir
  simp only [lv_cons, lv_nil, app_cons, app_nil]
  refine wp_lt (len_is rfl crs_len) ?_
  simp only [lv_cons, lv_nil, app_cons, app_nil]
  refine wp_lt (d := .b true) (cmp_e (e_leq rfl rfl) (decide_eq_true (by omega))) ?_
  simp only [lv_cons, lv_nil, app_cons, app_nil]
  refine wp_ite (t := true) rfl (fun _ => ?_) (fun h => by cases h)
  refine wp_call rfl hv rfl ?_
  simp only [lv_cons, lv_nil, app_cons, app_nil]
  refine wp_ite (t := true) rfl (fun _ => ?_) (fun h => by cases h)
  refine wp_call rfl (refFrames_con (s := s) hS.rm.asc hO (by omega) l t hS.le (by omega)) rfl ?_
  simp only [lv_cons, lv_nil, app_cons, app_nil]
  refine wp_lt (len_is (L := (framesN s cs l t).length) rfl (List.length_map ..)) ?_
  simp only [lv_cons, lv_nil, app_cons, app_nil]
  refine wp_lt (d := .b (decide (((framesN s cs l t).length : Int) ≤ 60))) (e_leq rfl rfl) ?_
  simp only [lv_cons, lv_nil, app_cons, app_nil]
  exact wp_return rfl rfl
end Go.Proofs.YtnkjmocacielmaaDoor.Sx
