/-
  Layer 16: an access: what it computes, and the program's contract.
-/
import Derived.Test.YtobdkhjaipoliaaGreatDoorZV1
import Derived.Test.YtobdkhjaipoliaaGreatDoorZIrH
namespace Go.Proofs.YtobdkhjaipoliaaGreatDoor.Sx
open Go
set_option linter.unusedVariables false
set_option linter.unusedSimpArgs false
set_option maxRecDepth 100000
inductive Rs where
  | val (v : Nat)
  | fault (q : Nat)
def causeM (q : Nat) (k : Int) : Int := if q = 1 then (if k = 0 then 0 else if k = 1 then 4 else 6) else causeN q k
def Rs.dv (r : Rs) (k : Int) (a : Nat) : DV := match r with
  | .val v => (true, [U v, .b false, I 0, U 0])
  | .fault q => (true, [U 0, .b true, I (causeM q k), U a])
inductive Ld where
  | to (h : Ht) (cs : List Cl) (pl : Nat)
  | fault (q : Nat)
def physE (e : En) (a : Nat) : Nat := e.ppn * 4096 + a % szN e.lv
def hitH (h : Ht) (k : Int) (a : Nat) : Bool := (findT h.ts h.asid a).2.2.2 && allowsF (findT h.ts h.asid a).1.p1 (findT h.ts h.asid a).1.p2 (findT h.ts h.asid a).1.p3 (findT h.ts h.asid a).1.p4 k h.priv h.sum h.mxr && (k != 2 || (findT h.ts h.asid a).1.d)
def usedT (ts : List SetD) (n a : Nat) : List SetD := match ts[(findT ts n a).2.1]? with
  | some s => ts.set (findT ts n a).2.1 (s.use (findT ts n a).2.2.1.toNat)
  | none => ts
def leadH (h : Ht) (s : Nat) (cs : List Cl) (k : Int) (a : Nat) : Ld :=
  if h.mode ≠ 8 then .to h cs a else if isVaB a = false then .fault 3
  else if hitH h k a then .to { h with ts := usedT h.ts h.asid a } cs (physE (findT h.ts h.asid a).1 a)
  else match walkR s cs h.ppn a k h.priv h.sum h.mxr with
    | .fault q => .fault q
    | .leaf l => .to { h with ts := putT h.ts (entryOf (markL s cs l (k == 2)) a h.asid) h.vic, vic := -1 } (markM s cs l.pl (k == 2)) (physN (markL s cs l (k == 2)) a)
def touchH (h : Ht) (s : Nat) (cs : List Cl) (k : Int) (pl z v : Nat) : Ht × List Cl × Rs :=
  if wrongN s pl z = 0 then (if k = 2 then (h, storeM s cs pl z v, .val 0) else (h, cs, .val (loadN s cs pl z))) else (h, cs, .fault 2)
def accessH (h : Ht) (s : Nat) (cs : List Cl) (k : Int) (a z v : Nat) : Ht × List Cl × Rs :=
  if a % z ≠ 0 then (h, cs, .fault 1) else match leadH h s cs k a with
    | .fault q => (h, cs, .fault q)
    | .to h' cs' pl => touchH h' s cs' k pl z v
def accRs (r : Ht × List Cl × Rs) (s : Nat) (k : Int) (a : Nat) : List DV := [r.1.dv, md 2 s r.2.1, r.2.2.dv k a]
theorem odd_con {k : Int} {a : Nat} (hk : Kn k) : Cn gAll 29 [i k, u a] [fdv true (causeM 1 k) a] := by
  refine con rfl rfl cause_Odd_c cause_Odd_p rfl ?_
  rcases hk with rfl | rfl | rfl <;> exact wp_chk rfl (wp_return rfl rfl)
theorem way_con {h : Ht} {k : Int} : Cn gAll 64 [h.dv, i k] [W4 k h.priv h.sum h.mxr] := by
  refine con rfl rfl hart_Way_c hart_Way_p rfl ?_
  exact wp_return rfl rfl
theorem physE_con {e : En} {a : Nat} (he : e.May) (ha : a < 18446744073709551616) : Cn gAll 62 [e.dv, u a] [u (physE e a)] := by
  refine con rfl rfl entry_Physical_c entry_Physical_p rfl ?_
  unfold entry_Physical_ir
  have hp := he.ppn
  simp only [lv_cons, lv_nil, Pt.ds, Lf.ds, En.ds, Ht.ds, app_cons, app_nil]
  refine wp_lt (u_mul (b := 4096) rfl rfl (by omega)) ?_
  simp only [lv_cons, lv_nil, app_cons, app_nil]
  refine wp_call rfl (offset_con ha he.lv) rfl ?_
  simp only [lv_cons, lv_nil, app_cons, app_nil]
  have := Nat.mod_lt a (szN_pos (l := e.lv))
  have := szN_le (l := e.lv)
  refine wp_lt (u_add rfl rfl (by omega)) ?_
  simp only [lv_cons, lv_nil, app_cons, app_nil]
  exact wp_return rfl rfl
theorem physE_lt {e : En} {a : Nat} (he : e.May) : physE e a < 18446744073709551616 := by
  have hp := he.ppn
  have := Nat.mod_lt a (szN_pos (l := e.lv))
  have := szN_le (l := e.lv)
  unfold physE
  omega
theorem physN_lt {l : Lf} {a : Nat} (hp : l.pt.ppn < 17592186044416) : physN l a < 18446744073709551616 := by
  have := Nat.mod_lt a (szN_pos (l := (l.lv : Int)))
  have := szN_le (l := (l.lv : Int))
  unfold physN
  omega
theorem walkR_leaf {s t a : Nat} {k m : Int} {sm mx : Bool} {cs : List Cl} {l : Lf} (h : walkR s cs t a k m sm mx = .leaf l) : lookW s cs t a = .leaf l := by
  unfold walkR at h
  cases hl : lookW s cs t a with
  | fault q => rw [hl] at h; cases h
  | leaf l' =>
    rw [hl] at h
    simp only at h
    split at h
    · exact h
    · cases h
theorem walkR_fault {s t a q : Nat} {k m : Int} {sm mx : Bool} {cs : List Cl} (h : walkR s cs t a k m sm mx = .fault q) : q = 2 ∨ q = 3 := by
  unfold walkR at h
  cases hl : lookW s cs t a with
  | fault q' => rw [hl] at h; cases h; exact look_fault hl
  | leaf l' =>
    rw [hl] at h
    simp only at h
    split at h
    · cases h
    · cases h; exact .inr rfl
theorem access_H {h : Ht} {s a z v : Nat} {k : Int} {cs : List Cl} (hR : RH h) (hM : RM s cs) (hO : COk cs) (hlen : cs.length ≤ 300000) (ha : a < 18446744073709551616) (hz : Sz z) (hv : v < 18446744073709551616) (hkd : Kn k) : Cn gAll 11 [h.dv, md 2 s cs, i k, u a, i z, u v] (accRs (accessH h s cs k a z v) s k a) := by
  refine con rfl rfl hart_Access_c hart_Access_p rfl ?_
  unfold hart_Access_ir
  obtain ⟨hasid, hppn⟩ := mayS_lt hR.satp
  have hzl : z ≤ 8 := by rcases hz with h | h | h | h <;> omega
  have hzp : z ≠ 0 := by rcases hz with h | h | h | h <;> omega
  simp only [lv_cons, lv_nil, Pt.ds, Lf.ds, En.ds, Ht.ds, app_cons, app_nil]
  refine wp_lt (cv_u rfl (by omega)) ?_
  simp only [lv_cons, lv_nil, app_cons, app_nil]
  refine wp_call rfl (even_con (a := a) (b := z) hzp) rfl ?_
  simp only [lv_cons, lv_nil, app_cons, app_nil]
  refine wp_lt rfl ?_
  simp only [lv_cons, lv_nil, app_cons, app_nil]
  refine wp_ite rfl (fun hal => ?_) (fun hal => ?_)
  · have hal' : a % z ≠ 0 := by simpa using hal
    refine wp_call rfl (odd_con (a := a) hkd) rfl ?_
    simp only [lv_cons, lv_nil, app_cons, app_nil]
    refine wp_return rfl ?_
    rw [accessH, if_pos hal']
    rfl
  have hal' : ¬ a % z ≠ 0 := by simpa using hal
  have hon : Cn gAll 22 [(true, [U h.mode, U h.asid, U h.ppn])] [bb ((h.mode : Int) == 8)] := by
    refine con rfl rfl satp_On_c satp_On_p rfl ?_
    unfold satp_On_ir
    simp only [lv_cons, lv_nil, app_cons, app_nil]
    refine wp_lt (e_eql rfl rfl) ?_
    simp only [lv_cons, lv_nil, app_cons, app_nil]
    exact wp_return rfl rfl
  refine wp_call rfl hon rfl ?_
  simp only [lv_cons, lv_nil, app_cons, app_nil]
  refine wp_lt rfl ?_
  simp only [lv_cons, lv_nil, app_cons, app_nil]
  refine wp_ite rfl (fun hm => ?_) (fun hm => ?_)
  · have hm : h.mode ≠ 8 := by
      have hm : ((h.mode : Int) == 8) = false := by simpa using hm
      have := beq_eq_false_iff_ne.1 hm
      omega
    have hA : accessH h s cs k a z v = touchH h s cs k a z v := by rw [accessH, if_neg hal', leadH, if_pos hm]
    refine wp_lt (e_eql rfl rfl) ?_
    simp only [lv_cons, lv_nil, app_cons, app_nil]
    by_cases hw : wrongN s a z = 0
    · refine wp_ite rfl (fun h2 => ?_) (fun h2 => ?_)
      · have h2 : k = 2 := beq_iff_eq.1 h2
        refine wp_call rfl (memStore_ok (s := s) (a := a) (n := z) (v := v) (cs := cs) (.inl rfl) hM.asc hO (by omega) ha hv hz.ok hw) rfl ?_
        simp only [lv_cons, lv_nil, app_cons, app_nil]
        refine wp_lt (d := .b false) rfl ?_
        simp only [lv_cons, lv_nil, app_cons, app_nil]
        refine wp_ite (t := false) rfl (fun h => by cases h) (fun _ => ?_)
        refine wp_return rfl ?_
        rw [hA, touchH, if_pos hw, if_pos h2]
        rfl
      · have h2 : ¬ k = 2 := beq_eq_false_iff_ne.1 h2
        refine wp_call rfl (memLoad_ok (s := s) (a := a) (n := z) (cs := cs) (.inl rfl) hM.asc hO (by omega) ha hz.ok hw) rfl ?_
        simp only [lv_cons, lv_nil, app_cons, app_nil]
        refine wp_lt (d := .b false) rfl ?_
        simp only [lv_cons, lv_nil, app_cons, app_nil]
        refine wp_ite (t := false) rfl (fun h => by cases h) (fun _ => ?_)
        refine wp_return rfl ?_
        rw [hA, touchH, if_pos hw, if_neg h2]
        rfl
    · refine wp_ite rfl (fun h2 => ?_) (fun h2 => ?_)
      · refine wp_call rfl (memStore_bad (k := 2) (s := s) (a := a) (z := z) (v := v) (cs := cs) ha hw) rfl ?_
        simp only [lv_cons, lv_nil, app_cons, app_nil]
        refine wp_lt (d := .b true) (cmp_e (e_neq rfl rfl) (bne_iff_ne.2 hw)) ?_
        simp only [lv_cons, lv_nil, app_cons, app_nil]
        refine wp_ite (t := true) rfl (fun _ => ?_) (fun h => by cases h)
        refine wp_call rfl (access_con (a := a) hkd) rfl ?_
        simp only [lv_cons, lv_nil, app_cons, app_nil]
        refine wp_return rfl ?_
        rw [hA, touchH, if_neg hw]
        rfl
      · refine wp_call rfl (memLoad_bad (k := 2) (s := s) (a := a) (z := z) (cs := cs) ha hw) rfl ?_
        simp only [lv_cons, lv_nil, app_cons, app_nil]
        refine wp_lt (d := .b true) (cmp_e (e_neq rfl rfl) (bne_iff_ne.2 hw)) ?_
        simp only [lv_cons, lv_nil, app_cons, app_nil]
        refine wp_ite (t := true) rfl (fun _ => ?_) (fun h => by cases h)
        refine wp_call rfl (access_con (a := a) hkd) rfl ?_
        simp only [lv_cons, lv_nil, app_cons, app_nil]
        refine wp_return rfl ?_
        rw [hA, touchH, if_neg hw]
        rfl
  have hm : h.mode = 8 := by
    have hm : ((h.mode : Int) == 8) = true := by simpa using hm
    have := beq_iff_eq.1 hm
    omega
  refine wp_call rfl (vaIs_con ha) rfl ?_
  simp only [lv_cons, lv_nil, app_cons, app_nil]
  refine wp_lt rfl ?_
  simp only [lv_cons, lv_nil, app_cons, app_nil]
  refine wp_ite rfl (fun hva => ?_) (fun hva => ?_)
  · have hva : isVaB a = false := by simpa using hva
    refine wp_call rfl (page_con (a := a) hkd) rfl ?_
    simp only [lv_cons, lv_nil, app_cons, app_nil]
    refine wp_ite (t := true) rfl (fun _ => ?_) (fun h => by cases h)
    refine wp_return rfl ?_
    rw [accessH, if_neg hal', leadH, if_neg (by rw [hm]; decide), if_pos hva]
    rfl
  have hva : isVaB a = true := by simpa using hva
  have hfc := tlbFind_con (n := h.asid) hR.tr ha
  by_cases hok : (findT h.ts h.asid a).2.2.2 = true
  · obtain ⟨_, j, kw, sj, _, hsj, _, hkw, _, _, hfind⟩ := findT_use hok
    have hem : (sj.at kw).May := En.may_May (right_at (hR.tr.set hsj) kw)
    have hhit : hitH h k a = (allowsF (sj.at kw).p1 (sj.at kw).p2 (sj.at kw).p3 (sj.at kw).p4 k h.priv h.sum h.mxr && (k != 2 || (sj.at kw).d)) := by
      rw [hitH, hfind]
      simp only [Bool.true_and]
    rw [hfind] at hfc
    simp only [findV] at hfc
    obtain ⟨e, he⟩ : ∃ e, e = sj.at kw := ⟨_, rfl⟩
    rw [← he] at hem hhit hfc hfind
    refine wp_call rfl hfc rfl ?_
    simp only [lv_cons, lv_nil, Pt.ds, Lf.ds, En.ds, Ht.ds, app_cons, app_nil]
    refine wp_ite (t := true) rfl (fun _ => ?_) (fun h => by cases h)
    refine wp_call rfl (way_con (h := h) (k := k)) rfl ?_
    simp only [lv_cons, lv_nil, app_cons, app_nil]
    refine wp_call rfl (allows_con e.p1 e.p2 e.p3 e.p4 h.sum h.mxr hkd hR.priv) rfl ?_
    simp only [lv_cons, lv_nil, app_cons, app_nil]
    refine wp_ite rfl (fun h1 => ?_) (fun h1 => ?_)
    · refine wp_lt (e_neq rfl rfl) ?_
      simp only [lv_cons, lv_nil, app_cons, app_nil]
      refine wp_ite rfl (fun h2 => ?_) (fun h2 => ?_)
      · have hh : hitH h k a = true := by rw [hhit, h1, h2]; rfl
        refine wp_call rfl (tlbUse_con (k := kw) hR.tr hsj hkw) rfl ?_
        simp only [lv_cons, lv_nil, app_cons, app_nil]
        refine wp_call rfl (physE_con (e := e) hem ha) rfl ?_
        simp only [lv_cons, lv_nil, app_cons, app_nil]
        have hA : accessH h s cs k a z v = touchH { h with ts := h.ts.set j (sj.use kw) } s cs k (physE e a) z v := by
          rw [accessH, if_neg hal', leadH, if_neg (by rw [hm]; decide), if_neg (by rw [hva]; decide), if_pos hh, usedT, hfind]
          simp only
          rw [hsj]
          rfl
        refine wp_lt (e_eql rfl rfl) ?_
        simp only [lv_cons, lv_nil, app_cons, app_nil]
        by_cases hw : wrongN s (physE e a) z = 0
        · refine wp_ite rfl (fun h2 => ?_) (fun h2 => ?_)
          · have h2 : k = 2 := beq_iff_eq.1 h2
            refine wp_call rfl (memStore_ok (s := s) (a := (physE e a)) (n := z) (v := v) (cs := cs) (.inl rfl) hM.asc hO (by omega) (physE_lt hem) hv hz.ok hw) rfl ?_
            simp only [lv_cons, lv_nil, app_cons, app_nil]
            refine wp_lt (d := .b false) rfl ?_
            simp only [lv_cons, lv_nil, app_cons, app_nil]
            refine wp_ite (t := false) rfl (fun h => by cases h) (fun _ => ?_)
            refine wp_return rfl ?_
            rw [hA, touchH, if_pos hw, if_pos h2]
            rfl
          · have h2 : ¬ k = 2 := beq_eq_false_iff_ne.1 h2
            refine wp_call rfl (memLoad_ok (s := s) (a := (physE e a)) (n := z) (cs := cs) (.inl rfl) hM.asc hO (by omega) (physE_lt hem) hz.ok hw) rfl ?_
            simp only [lv_cons, lv_nil, app_cons, app_nil]
            refine wp_lt (d := .b false) rfl ?_
            simp only [lv_cons, lv_nil, app_cons, app_nil]
            refine wp_ite (t := false) rfl (fun h => by cases h) (fun _ => ?_)
            refine wp_return rfl ?_
            rw [hA, touchH, if_pos hw, if_neg h2]
            rfl
        · refine wp_ite rfl (fun h2 => ?_) (fun h2 => ?_)
          · refine wp_call rfl (memStore_bad (k := 2) (s := s) (a := (physE e a)) (z := z) (v := v) (cs := cs) (physE_lt hem) hw) rfl ?_
            simp only [lv_cons, lv_nil, app_cons, app_nil]
            refine wp_lt (d := .b true) (cmp_e (e_neq rfl rfl) (bne_iff_ne.2 hw)) ?_
            simp only [lv_cons, lv_nil, app_cons, app_nil]
            refine wp_ite (t := true) rfl (fun _ => ?_) (fun h => by cases h)
            refine wp_call rfl (access_con (a := a) hkd) rfl ?_
            simp only [lv_cons, lv_nil, app_cons, app_nil]
            refine wp_return rfl ?_
            rw [hA, touchH, if_neg hw]
            rfl
          · refine wp_call rfl (memLoad_bad (k := 2) (s := s) (a := (physE e a)) (z := z) (cs := cs) (physE_lt hem) hw) rfl ?_
            simp only [lv_cons, lv_nil, app_cons, app_nil]
            refine wp_lt (d := .b true) (cmp_e (e_neq rfl rfl) (bne_iff_ne.2 hw)) ?_
            simp only [lv_cons, lv_nil, app_cons, app_nil]
            refine wp_ite (t := true) rfl (fun _ => ?_) (fun h => by cases h)
            refine wp_call rfl (access_con (a := a) hkd) rfl ?_
            simp only [lv_cons, lv_nil, app_cons, app_nil]
            refine wp_return rfl ?_
            rw [hA, touchH, if_neg hw]
            rfl
      · refine wp_ite rfl (fun h3 => ?_) (fun h3 => ?_)
        · have hh : hitH h k a = true := by rw [hhit, h1, h3]; simp
          refine wp_call rfl (tlbUse_con (k := kw) hR.tr hsj hkw) rfl ?_
          simp only [lv_cons, lv_nil, app_cons, app_nil]
          refine wp_call rfl (physE_con (e := e) hem ha) rfl ?_
          simp only [lv_cons, lv_nil, app_cons, app_nil]
          have hA : accessH h s cs k a z v = touchH { h with ts := h.ts.set j (sj.use kw) } s cs k (physE e a) z v := by
            rw [accessH, if_neg hal', leadH, if_neg (by rw [hm]; decide), if_neg (by rw [hva]; decide), if_pos hh, usedT, hfind]
            simp only
            rw [hsj]
            rfl
          refine wp_lt (e_eql rfl rfl) ?_
          simp only [lv_cons, lv_nil, app_cons, app_nil]
          by_cases hw : wrongN s (physE e a) z = 0
          · refine wp_ite rfl (fun h2 => ?_) (fun h2 => ?_)
            · have h2 : k = 2 := beq_iff_eq.1 h2
              refine wp_call rfl (memStore_ok (s := s) (a := (physE e a)) (n := z) (v := v) (cs := cs) (.inl rfl) hM.asc hO (by omega) (physE_lt hem) hv hz.ok hw) rfl ?_
              simp only [lv_cons, lv_nil, app_cons, app_nil]
              refine wp_lt (d := .b false) rfl ?_
              simp only [lv_cons, lv_nil, app_cons, app_nil]
              refine wp_ite (t := false) rfl (fun h => by cases h) (fun _ => ?_)
              refine wp_return rfl ?_
              rw [hA, touchH, if_pos hw, if_pos h2]
              rfl
            · have h2 : ¬ k = 2 := beq_eq_false_iff_ne.1 h2
              refine wp_call rfl (memLoad_ok (s := s) (a := (physE e a)) (n := z) (cs := cs) (.inl rfl) hM.asc hO (by omega) (physE_lt hem) hz.ok hw) rfl ?_
              simp only [lv_cons, lv_nil, app_cons, app_nil]
              refine wp_lt (d := .b false) rfl ?_
              simp only [lv_cons, lv_nil, app_cons, app_nil]
              refine wp_ite (t := false) rfl (fun h => by cases h) (fun _ => ?_)
              refine wp_return rfl ?_
              rw [hA, touchH, if_pos hw, if_neg h2]
              rfl
          · refine wp_ite rfl (fun h2 => ?_) (fun h2 => ?_)
            · refine wp_call rfl (memStore_bad (k := 2) (s := s) (a := (physE e a)) (z := z) (v := v) (cs := cs) (physE_lt hem) hw) rfl ?_
              simp only [lv_cons, lv_nil, app_cons, app_nil]
              refine wp_lt (d := .b true) (cmp_e (e_neq rfl rfl) (bne_iff_ne.2 hw)) ?_
              simp only [lv_cons, lv_nil, app_cons, app_nil]
              refine wp_ite (t := true) rfl (fun _ => ?_) (fun h => by cases h)
              refine wp_call rfl (access_con (a := a) hkd) rfl ?_
              simp only [lv_cons, lv_nil, app_cons, app_nil]
              refine wp_return rfl ?_
              rw [hA, touchH, if_neg hw]
              rfl
            · refine wp_call rfl (memLoad_bad (k := 2) (s := s) (a := (physE e a)) (z := z) (cs := cs) (physE_lt hem) hw) rfl ?_
              simp only [lv_cons, lv_nil, app_cons, app_nil]
              refine wp_lt (d := .b true) (cmp_e (e_neq rfl rfl) (bne_iff_ne.2 hw)) ?_
              simp only [lv_cons, lv_nil, app_cons, app_nil]
              refine wp_ite (t := true) rfl (fun _ => ?_) (fun h => by cases h)
              refine wp_call rfl (access_con (a := a) hkd) rfl ?_
              simp only [lv_cons, lv_nil, app_cons, app_nil]
              refine wp_return rfl ?_
              rw [hA, touchH, if_neg hw]
              rfl
        · have hh : ¬ hitH h k a = true := by rw [hhit, h1, h2, h3]; decide
          refine wp_call rfl (way_con (h := h) (k := k)) rfl ?_
          simp only [lv_cons, lv_nil, app_cons, app_nil]
          have hwalk := walkWalk_con (kk := 2) (s := s) (t := h.ppn) (a := a) (k := k) (m := h.priv) (sm := h.sum) (mx := h.mxr) (.inl rfl) hM hO (by omega) hppn ha hkd hR.priv
          cases hwr : walkR s cs h.ppn a k h.priv h.sum h.mxr with
          | fault q =>
            rw [hwr] at hwalk
            simp only [walkRs] at hwalk
            have hq : causeN q k = causeM q k := by
              have := walkR_fault hwr
              unfold causeM
              rw [if_neg (by omega)]
            refine wp_call rfl hwalk rfl ?_
            simp only [lv_cons, lv_nil, Pt.ds, Lf.ds, En.ds, Ht.ds, app_cons, app_nil]
            refine wp_ite (t := true) rfl (fun _ => ?_) (fun h => by cases h)
            refine wp_ite (t := true) rfl (fun _ => ?_) (fun h => by cases h)
            refine wp_return rfl ?_
            rw [accessH, if_neg hal', leadH, if_neg (by rw [hm]; decide), if_neg (by rw [hva]; decide), if_neg hh, hwr, hq]
            rfl
          | leaf l =>
            rw [hwr] at hwalk
            simp only [walkRs] at hwalk
            have hl := (look_leaf (walkR_leaf hwr)).2
            have hml := hl.mark (d := k == 2) hM.asc
            have hmc := cok_mark (d := k == 2) hM hO hl.low
            have hmr := hM.mark (d := k == 2) hl.low
            have hmlen := len_mark (s := s) (cs := cs) (pl := l.pl) (d := k == 2)
            have hA : accessH h s cs k a z v = touchH { h with ts := putT h.ts (entryOf (markL s cs l (k == 2)) a h.asid) h.vic, vic := -1 } s (markM s cs l.pl (k == 2)) k (physN (markL s cs l (k == 2)) a) z v := by
              rw [accessH, if_neg hal', leadH, if_neg (by rw [hm]; decide), if_neg (by rw [hva]; decide), if_neg hh, hwr]
            refine wp_call rfl hwalk rfl ?_
            generalize markM s cs l.pl (k == 2) = cm at *
            generalize markL s cs l (k == 2) = lm at *
            have hmp : lm.pt.ppn < 17592186044416 := by
              obtain ⟨g, hg⟩ := hml.pt
              rw [hg]
              exact (ptN_may (wordN_lt hmc)).2.1
            simp only [lv_cons, lv_nil, Pt.ds, Lf.ds, En.ds, Ht.ds, app_cons, app_nil]
            refine wp_ite (t := false) rfl (fun h => by cases h) (fun _ => ?_)
            refine wp_call rfl (entryOf_con (l := lm) (a := a) (n := h.asid) hml.lv ha) rfl ?_
            have hem := entryOf_may (a := a) hmc hml hasid
            have heo := entryOf_ok (a := a) hmc hml hasid
            generalize entryOf lm a h.asid = en at *
            simp only [lv_cons, lv_nil, Pt.ds, Lf.ds, En.ds, Ht.ds, app_cons, app_nil]
            refine wp_call rfl (tlbPut_con (e := en) (v := h.vic) hR.tr heo hem) rfl ?_
            simp only [lv_cons, lv_nil, app_cons, app_nil]
            refine wp_call rfl (phys_con (l := lm) (a := a) hmp hml.lv ha) rfl ?_
            simp only [lv_cons, lv_nil, app_cons, app_nil]
            refine wp_lt (e_eql rfl rfl) ?_
            simp only [lv_cons, lv_nil, app_cons, app_nil]
            by_cases hw : wrongN s (physN lm a) z = 0
            · refine wp_ite rfl (fun h2 => ?_) (fun h2 => ?_)
              · have h2 : k = 2 := beq_iff_eq.1 h2
                refine wp_call rfl (memStore_ok (s := s) (a := (physN lm a)) (n := z) (v := v) (cs := cm) (.inl rfl) hmr.asc hmc (by omega) (physN_lt hmp) hv hz.ok hw) rfl ?_
                simp only [lv_cons, lv_nil, app_cons, app_nil]
                refine wp_lt (d := .b false) rfl ?_
                simp only [lv_cons, lv_nil, app_cons, app_nil]
                refine wp_ite (t := false) rfl (fun h => by cases h) (fun _ => ?_)
                refine wp_return rfl ?_
                rw [hA, touchH, if_pos hw, if_pos h2]
                rfl
              · have h2 : ¬ k = 2 := beq_eq_false_iff_ne.1 h2
                refine wp_call rfl (memLoad_ok (s := s) (a := (physN lm a)) (n := z) (cs := cm) (.inl rfl) hmr.asc hmc (by omega) (physN_lt hmp) hz.ok hw) rfl ?_
                simp only [lv_cons, lv_nil, app_cons, app_nil]
                refine wp_lt (d := .b false) rfl ?_
                simp only [lv_cons, lv_nil, app_cons, app_nil]
                refine wp_ite (t := false) rfl (fun h => by cases h) (fun _ => ?_)
                refine wp_return rfl ?_
                rw [hA, touchH, if_pos hw, if_neg h2]
                rfl
            · refine wp_ite rfl (fun h2 => ?_) (fun h2 => ?_)
              · refine wp_call rfl (memStore_bad (k := 2) (s := s) (a := (physN lm a)) (z := z) (v := v) (cs := cm) (physN_lt hmp) hw) rfl ?_
                simp only [lv_cons, lv_nil, app_cons, app_nil]
                refine wp_lt (d := .b true) (cmp_e (e_neq rfl rfl) (bne_iff_ne.2 hw)) ?_
                simp only [lv_cons, lv_nil, app_cons, app_nil]
                refine wp_ite (t := true) rfl (fun _ => ?_) (fun h => by cases h)
                refine wp_call rfl (access_con (a := a) hkd) rfl ?_
                simp only [lv_cons, lv_nil, app_cons, app_nil]
                refine wp_return rfl ?_
                rw [hA, touchH, if_neg hw]
                rfl
              · refine wp_call rfl (memLoad_bad (k := 2) (s := s) (a := (physN lm a)) (z := z) (cs := cm) (physN_lt hmp) hw) rfl ?_
                simp only [lv_cons, lv_nil, app_cons, app_nil]
                refine wp_lt (d := .b true) (cmp_e (e_neq rfl rfl) (bne_iff_ne.2 hw)) ?_
                simp only [lv_cons, lv_nil, app_cons, app_nil]
                refine wp_ite (t := true) rfl (fun _ => ?_) (fun h => by cases h)
                refine wp_call rfl (access_con (a := a) hkd) rfl ?_
                simp only [lv_cons, lv_nil, app_cons, app_nil]
                refine wp_return rfl ?_
                rw [hA, touchH, if_neg hw]
                rfl
    · have hh : ¬ hitH h k a = true := by rw [hhit, h1]; simp
      refine wp_call rfl (way_con (h := h) (k := k)) rfl ?_
      simp only [lv_cons, lv_nil, app_cons, app_nil]
      have hwalk := walkWalk_con (kk := 2) (s := s) (t := h.ppn) (a := a) (k := k) (m := h.priv) (sm := h.sum) (mx := h.mxr) (.inl rfl) hM hO (by omega) hppn ha hkd hR.priv
      cases hwr : walkR s cs h.ppn a k h.priv h.sum h.mxr with
      | fault q =>
        rw [hwr] at hwalk
        simp only [walkRs] at hwalk
        have hq : causeN q k = causeM q k := by
          have := walkR_fault hwr
          unfold causeM
          rw [if_neg (by omega)]
        refine wp_call rfl hwalk rfl ?_
        simp only [lv_cons, lv_nil, Pt.ds, Lf.ds, En.ds, Ht.ds, app_cons, app_nil]
        refine wp_ite (t := true) rfl (fun _ => ?_) (fun h => by cases h)
        refine wp_ite (t := true) rfl (fun _ => ?_) (fun h => by cases h)
        refine wp_return rfl ?_
        rw [accessH, if_neg hal', leadH, if_neg (by rw [hm]; decide), if_neg (by rw [hva]; decide), if_neg hh, hwr, hq]
        rfl
      | leaf l =>
        rw [hwr] at hwalk
        simp only [walkRs] at hwalk
        have hl := (look_leaf (walkR_leaf hwr)).2
        have hml := hl.mark (d := k == 2) hM.asc
        have hmc := cok_mark (d := k == 2) hM hO hl.low
        have hmr := hM.mark (d := k == 2) hl.low
        have hmlen := len_mark (s := s) (cs := cs) (pl := l.pl) (d := k == 2)
        have hA : accessH h s cs k a z v = touchH { h with ts := putT h.ts (entryOf (markL s cs l (k == 2)) a h.asid) h.vic, vic := -1 } s (markM s cs l.pl (k == 2)) k (physN (markL s cs l (k == 2)) a) z v := by
          rw [accessH, if_neg hal', leadH, if_neg (by rw [hm]; decide), if_neg (by rw [hva]; decide), if_neg hh, hwr]
        refine wp_call rfl hwalk rfl ?_
        generalize markM s cs l.pl (k == 2) = cm at *
        generalize markL s cs l (k == 2) = lm at *
        have hmp : lm.pt.ppn < 17592186044416 := by
          obtain ⟨g, hg⟩ := hml.pt
          rw [hg]
          exact (ptN_may (wordN_lt hmc)).2.1
        simp only [lv_cons, lv_nil, Pt.ds, Lf.ds, En.ds, Ht.ds, app_cons, app_nil]
        refine wp_ite (t := false) rfl (fun h => by cases h) (fun _ => ?_)
        refine wp_call rfl (entryOf_con (l := lm) (a := a) (n := h.asid) hml.lv ha) rfl ?_
        have hem := entryOf_may (a := a) hmc hml hasid
        have heo := entryOf_ok (a := a) hmc hml hasid
        generalize entryOf lm a h.asid = en at *
        simp only [lv_cons, lv_nil, Pt.ds, Lf.ds, En.ds, Ht.ds, app_cons, app_nil]
        refine wp_call rfl (tlbPut_con (e := en) (v := h.vic) hR.tr heo hem) rfl ?_
        simp only [lv_cons, lv_nil, app_cons, app_nil]
        refine wp_call rfl (phys_con (l := lm) (a := a) hmp hml.lv ha) rfl ?_
        simp only [lv_cons, lv_nil, app_cons, app_nil]
        refine wp_lt (e_eql rfl rfl) ?_
        simp only [lv_cons, lv_nil, app_cons, app_nil]
        by_cases hw : wrongN s (physN lm a) z = 0
        · refine wp_ite rfl (fun h2 => ?_) (fun h2 => ?_)
          · have h2 : k = 2 := beq_iff_eq.1 h2
            refine wp_call rfl (memStore_ok (s := s) (a := (physN lm a)) (n := z) (v := v) (cs := cm) (.inl rfl) hmr.asc hmc (by omega) (physN_lt hmp) hv hz.ok hw) rfl ?_
            simp only [lv_cons, lv_nil, app_cons, app_nil]
            refine wp_lt (d := .b false) rfl ?_
            simp only [lv_cons, lv_nil, app_cons, app_nil]
            refine wp_ite (t := false) rfl (fun h => by cases h) (fun _ => ?_)
            refine wp_return rfl ?_
            rw [hA, touchH, if_pos hw, if_pos h2]
            rfl
          · have h2 : ¬ k = 2 := beq_eq_false_iff_ne.1 h2
            refine wp_call rfl (memLoad_ok (s := s) (a := (physN lm a)) (n := z) (cs := cm) (.inl rfl) hmr.asc hmc (by omega) (physN_lt hmp) hz.ok hw) rfl ?_
            simp only [lv_cons, lv_nil, app_cons, app_nil]
            refine wp_lt (d := .b false) rfl ?_
            simp only [lv_cons, lv_nil, app_cons, app_nil]
            refine wp_ite (t := false) rfl (fun h => by cases h) (fun _ => ?_)
            refine wp_return rfl ?_
            rw [hA, touchH, if_pos hw, if_neg h2]
            rfl
        · refine wp_ite rfl (fun h2 => ?_) (fun h2 => ?_)
          · refine wp_call rfl (memStore_bad (k := 2) (s := s) (a := (physN lm a)) (z := z) (v := v) (cs := cm) (physN_lt hmp) hw) rfl ?_
            simp only [lv_cons, lv_nil, app_cons, app_nil]
            refine wp_lt (d := .b true) (cmp_e (e_neq rfl rfl) (bne_iff_ne.2 hw)) ?_
            simp only [lv_cons, lv_nil, app_cons, app_nil]
            refine wp_ite (t := true) rfl (fun _ => ?_) (fun h => by cases h)
            refine wp_call rfl (access_con (a := a) hkd) rfl ?_
            simp only [lv_cons, lv_nil, app_cons, app_nil]
            refine wp_return rfl ?_
            rw [hA, touchH, if_neg hw]
            rfl
          · refine wp_call rfl (memLoad_bad (k := 2) (s := s) (a := (physN lm a)) (z := z) (cs := cm) (physN_lt hmp) hw) rfl ?_
            simp only [lv_cons, lv_nil, app_cons, app_nil]
            refine wp_lt (d := .b true) (cmp_e (e_neq rfl rfl) (bne_iff_ne.2 hw)) ?_
            simp only [lv_cons, lv_nil, app_cons, app_nil]
            refine wp_ite (t := true) rfl (fun _ => ?_) (fun h => by cases h)
            refine wp_call rfl (access_con (a := a) hkd) rfl ?_
            simp only [lv_cons, lv_nil, app_cons, app_nil]
            refine wp_return rfl ?_
            rw [hA, touchH, if_neg hw]
            rfl
  · have hok : (findT h.ts h.asid a).2.2.2 = false := by simpa using hok
    have hh : ¬ hitH h k a = true := by rw [hitH, hok]; simp
    generalize findT h.ts h.asid a = f at hfc hok
    obtain ⟨fe, fj, fw, fo⟩ := f
    simp only at hok
    subst hok
    simp only [findV] at hfc
    refine wp_call rfl hfc rfl ?_
    simp only [lv_cons, lv_nil, Pt.ds, Lf.ds, En.ds, Ht.ds, app_cons, app_nil]
    refine wp_ite (t := false) rfl (fun h => by cases h) (fun _ => ?_)
    refine wp_call rfl (way_con (h := h) (k := k)) rfl ?_
    simp only [lv_cons, lv_nil, app_cons, app_nil]
    have hwalk := walkWalk_con (kk := 2) (s := s) (t := h.ppn) (a := a) (k := k) (m := h.priv) (sm := h.sum) (mx := h.mxr) (.inl rfl) hM hO (by omega) hppn ha hkd hR.priv
    cases hwr : walkR s cs h.ppn a k h.priv h.sum h.mxr with
    | fault q =>
      rw [hwr] at hwalk
      simp only [walkRs] at hwalk
      have hq : causeN q k = causeM q k := by
        have := walkR_fault hwr
        unfold causeM
        rw [if_neg (by omega)]
      refine wp_call rfl hwalk rfl ?_
      simp only [lv_cons, lv_nil, Pt.ds, Lf.ds, En.ds, Ht.ds, app_cons, app_nil]
      refine wp_ite (t := true) rfl (fun _ => ?_) (fun h => by cases h)
      refine wp_ite (t := true) rfl (fun _ => ?_) (fun h => by cases h)
      refine wp_return rfl ?_
      rw [accessH, if_neg hal', leadH, if_neg (by rw [hm]; decide), if_neg (by rw [hva]; decide), if_neg hh, hwr, hq]
      rfl
    | leaf l =>
      rw [hwr] at hwalk
      simp only [walkRs] at hwalk
      have hl := (look_leaf (walkR_leaf hwr)).2
      have hml := hl.mark (d := k == 2) hM.asc
      have hmc := cok_mark (d := k == 2) hM hO hl.low
      have hmr := hM.mark (d := k == 2) hl.low
      have hmlen := len_mark (s := s) (cs := cs) (pl := l.pl) (d := k == 2)
      have hA : accessH h s cs k a z v = touchH { h with ts := putT h.ts (entryOf (markL s cs l (k == 2)) a h.asid) h.vic, vic := -1 } s (markM s cs l.pl (k == 2)) k (physN (markL s cs l (k == 2)) a) z v := by
        rw [accessH, if_neg hal', leadH, if_neg (by rw [hm]; decide), if_neg (by rw [hva]; decide), if_neg hh, hwr]
      refine wp_call rfl hwalk rfl ?_
      generalize markM s cs l.pl (k == 2) = cm at *
      generalize markL s cs l (k == 2) = lm at *
      have hmp : lm.pt.ppn < 17592186044416 := by
        obtain ⟨g, hg⟩ := hml.pt
        rw [hg]
        exact (ptN_may (wordN_lt hmc)).2.1
      simp only [lv_cons, lv_nil, Pt.ds, Lf.ds, En.ds, Ht.ds, app_cons, app_nil]
      refine wp_ite (t := false) rfl (fun h => by cases h) (fun _ => ?_)
      refine wp_call rfl (entryOf_con (l := lm) (a := a) (n := h.asid) hml.lv ha) rfl ?_
      have hem := entryOf_may (a := a) hmc hml hasid
      have heo := entryOf_ok (a := a) hmc hml hasid
      generalize entryOf lm a h.asid = en at *
      simp only [lv_cons, lv_nil, Pt.ds, Lf.ds, En.ds, Ht.ds, app_cons, app_nil]
      refine wp_call rfl (tlbPut_con (e := en) (v := h.vic) hR.tr heo hem) rfl ?_
      simp only [lv_cons, lv_nil, app_cons, app_nil]
      refine wp_call rfl (phys_con (l := lm) (a := a) hmp hml.lv ha) rfl ?_
      simp only [lv_cons, lv_nil, app_cons, app_nil]
      refine wp_lt (e_eql rfl rfl) ?_
      simp only [lv_cons, lv_nil, app_cons, app_nil]
      by_cases hw : wrongN s (physN lm a) z = 0
      · refine wp_ite rfl (fun h2 => ?_) (fun h2 => ?_)
        · have h2 : k = 2 := beq_iff_eq.1 h2
          refine wp_call rfl (memStore_ok (s := s) (a := (physN lm a)) (n := z) (v := v) (cs := cm) (.inl rfl) hmr.asc hmc (by omega) (physN_lt hmp) hv hz.ok hw) rfl ?_
          simp only [lv_cons, lv_nil, app_cons, app_nil]
          refine wp_lt (d := .b false) rfl ?_
          simp only [lv_cons, lv_nil, app_cons, app_nil]
          refine wp_ite (t := false) rfl (fun h => by cases h) (fun _ => ?_)
          refine wp_return rfl ?_
          rw [hA, touchH, if_pos hw, if_pos h2]
          rfl
        · have h2 : ¬ k = 2 := beq_eq_false_iff_ne.1 h2
          refine wp_call rfl (memLoad_ok (s := s) (a := (physN lm a)) (n := z) (cs := cm) (.inl rfl) hmr.asc hmc (by omega) (physN_lt hmp) hz.ok hw) rfl ?_
          simp only [lv_cons, lv_nil, app_cons, app_nil]
          refine wp_lt (d := .b false) rfl ?_
          simp only [lv_cons, lv_nil, app_cons, app_nil]
          refine wp_ite (t := false) rfl (fun h => by cases h) (fun _ => ?_)
          refine wp_return rfl ?_
          rw [hA, touchH, if_pos hw, if_neg h2]
          rfl
      · refine wp_ite rfl (fun h2 => ?_) (fun h2 => ?_)
        · refine wp_call rfl (memStore_bad (k := 2) (s := s) (a := (physN lm a)) (z := z) (v := v) (cs := cm) (physN_lt hmp) hw) rfl ?_
          simp only [lv_cons, lv_nil, app_cons, app_nil]
          refine wp_lt (d := .b true) (cmp_e (e_neq rfl rfl) (bne_iff_ne.2 hw)) ?_
          simp only [lv_cons, lv_nil, app_cons, app_nil]
          refine wp_ite (t := true) rfl (fun _ => ?_) (fun h => by cases h)
          refine wp_call rfl (access_con (a := a) hkd) rfl ?_
          simp only [lv_cons, lv_nil, app_cons, app_nil]
          refine wp_return rfl ?_
          rw [hA, touchH, if_neg hw]
          rfl
        · refine wp_call rfl (memLoad_bad (k := 2) (s := s) (a := (physN lm a)) (z := z) (cs := cm) (physN_lt hmp) hw) rfl ?_
          simp only [lv_cons, lv_nil, app_cons, app_nil]
          refine wp_lt (d := .b true) (cmp_e (e_neq rfl rfl) (bne_iff_ne.2 hw)) ?_
          simp only [lv_cons, lv_nil, app_cons, app_nil]
          refine wp_ite (t := true) rfl (fun _ => ?_) (fun h => by cases h)
          refine wp_call rfl (access_con (a := a) hkd) rfl ?_
          simp only [lv_cons, lv_nil, app_cons, app_nil]
          refine wp_return rfl ?_
          rw [hA, touchH, if_neg hw]
          rfl
end Go.Proofs.YtobdkhjaipoliaaGreatDoor.Sx
