/-
  Layer 19: TableOnes.
-/
import Derived.Test.YtnlilhpkjlodjaaDoorZTabx
namespace Go.Proofs.YtnlilhpkjlodjaaDoor.Sx
open Go
set_option linter.unusedVariables false
set_option linter.unusedSimpArgs false
set_option maxRecDepth 100000
theorem flat_one {α : Type} {f g : Nat → List α} {j0 : Nat} : ∀ {n : Nat}, (∀ j, j < n → j ≠ j0 → f j = g j) → j0 < n → ((List.range n).flatMap f).length + (g j0).length = ((List.range n).flatMap g).length + (f j0).length
  | 0, _, h => by omega
  | n + 1, h, hj => by
    rw [List.range_succ, List.flatMap_append, List.flatMap_append, List.length_append, List.length_append]
    simp only [List.flatMap_cons, List.flatMap_nil, List.append_nil]
    by_cases e : j0 = n
    · have h1 : (List.range n).flatMap f = (List.range n).flatMap g := flat_congr fun x hx => h x (by have := List.mem_range.1 hx; omega) (by have := List.mem_range.1 hx; omega)
      rw [h1, e]
      omega
    · have ih := flat_one (n := n) (fun j hj hne => h j (by omega) hne) (by omega)
      have := h n (by omega) (fun e' => e e'.symm)
      rw [this]
      omega
def cntP (p : Pt) (l : Nat) : Nat := if p.bad (l : Int) = true then 0 else 1
theorem leaf_nlink {p : Pt} (h : p.link = true) : p.leaf = false := by
  simp only [Pt.link, Pt.leaf, Bool.and_eq_true, Bool.not_eq_true'] at *
  simp [h]
theorem pgE_lnk {s l t b j : Nat} {cs : List Cl} (h : lnkE s cs t l j = true) : pgE s cs l t b j = pgL s cs (l - 1) (ptN (entN s cs t j)).ppn (b + j * szN (l : Int)) := by
  simp only [lnkE, lnkB, Bool.and_eq_true, Bool.not_eq_true'] at h
  unfold pgE
  rw [if_neg (by rw [h.2]; decide), if_neg (by rw [leaf_nlink h.1]; decide)]
theorem pgE_stop {s l t b j : Nat} {cs : List Cl} (h : lnkE s cs t l j = false) : pgE s cs l t b j = if (ptN (entN s cs t j)).bad (l : Int) = true then [] else [(b + j * szN (l : Int), l, ptN (entN s cs t j))] := by
  unfold pgE
  split
  · rfl
  · rename_i hb
    have hb : (ptN (entN s cs t j)).bad (l : Int) = false := by simpa using hb
    have hk : (ptN (entN s cs t j)).link = false := by
      rw [lnkE, lnkB, hb] at h
      simpa using h
    rw [if_pos (Pt.leaf_of hb hk)]
theorem pgE_len {s l t b j : Nat} {cs : List Cl} (h : lnkE s cs t l j = false) : (pgE s cs l t b j).length = cntP (ptN (entN s cs t j)) l := by
  rw [pgE_stop h, cntP]
  split <;> rfl
theorem lnkE_low {s t j : Nat} {cs : List Cl} : lnkE s cs t 0 j = false := by rw [lnkE, show (((0 : Nat) : Int)) = 0 from rfl, lnk_low]
theorem pgE_else {s t0 j0 v l t b j : Nat} {cs : List Cl} (hR : RM s cs) (ht0 : t0 < s / 4096) (hj0 : j0 < 512) (he : entN s (putM cs (t0 * 512 + j0) v) t j = entN s cs t j) (hn : lnkE s cs t l j = true → t0 ∉ framesN s cs (l - 1) (ptN (entN s cs t j)).ppn) : pgE s (putM cs (t0 * 512 + j0) v) l t b j = pgE s cs l t b j := by
  cases hk : lnkE s cs t l j with
  | true =>
    have hk' : lnkE s (putM cs (t0 * 512 + j0) v) t l j = true := by rw [lnkE, he]; exact hk
    rw [pgE_lnk hk, pgE_lnk hk', he, else_pages hR ht0 hj0 (hn hk)]
  | false =>
    have hk' : lnkE s (putM cs (t0 * 512 + j0) v) t l j = false := by rw [lnkE, he]; exact hk
    rw [pgE_stop hk, pgE_stop hk', he]
theorem frE_else {s t0 j0 v l t j : Nat} {cs : List Cl} (hR : RM s cs) (ht0 : t0 < s / 4096) (hj0 : j0 < 512) (he : entN s (putM cs (t0 * 512 + j0) v) t j = entN s cs t j) (hn : lnkE s cs t l j = true → t0 ∉ framesN s cs (l - 1) (ptN (entN s cs t j)).ppn) : frE s (putM cs (t0 * 512 + j0) v) t l j = frE s cs t l j := by
  unfold frE
  have e : lnkE s (putM cs (t0 * 512 + j0) v) t l j = lnkE s cs t l j := by rw [lnkE, he]; rfl
  rw [e, he]
  split
  · rename_i hk
    rw [else_frames hR ht0 hj0 (hn hk)]
  · rfl
theorem put_count {s a v : Nat} {cs : List Cl} (hR : RM s cs) : ∀ {l t b : Nat}, TreeOk s cs l t → lnkB (ptN v) (((reachN s cs a 0 l t).1 : Nat) : Int) = false → (ptA s cs (reachN s cs a 0 l t).2 a (reachN s cs a 0 l t).1).link = false →
    framesN s (putM cs ((reachN s cs a 0 l t).2 * 512 + ixN a (reachN s cs a 0 l t).1) v) l t = framesN s cs l t ∧
    (pgL s (putM cs ((reachN s cs a 0 l t).2 * 512 + ixN a (reachN s cs a 0 l t).1) v) l t b).length + cntP (ptA s cs (reachN s cs a 0 l t).2 a (reachN s cs a 0 l t).1) (reachN s cs a 0 l t).1 = (pgL s cs l t b).length + cntP (ptN v) (reachN s cs a 0 l t).1 := by
  intro l
  have hstop : ∀ {l t b : Nat}, TreeOk s cs l t → reachN s cs a 0 l t = (l, t) → lnkE s cs t l (ixN a l) = false → lnkB (ptN v) (l : Int) = false → framesN s (putM cs (t * 512 + ixN a l) v) l t = framesN s cs l t ∧
      (pgL s (putM cs (t * 512 + ixN a l) v) l t b).length + cntP (ptA s cs t a l) l = (pgL s cs l t b).length + cntP (ptN v) l := by
    intro l t b hT hr hk hv
    have ht := hT.head
    have hne : ∀ j, j < 512 → lnkE s cs t l j = true → t ∉ framesN s cs (l - 1) (ptN (entN s cs t j)).ppn := fun j hj hkj => by
      cases l with
      | zero => rw [lnkE_low] at hkj; cases hkj
      | succ l => exact (hT.sub hj hkj).2
    have hentj : ∀ j, j < 512 → j ≠ ixN a l → entN s (putM cs (t * 512 + ixN a l) v) t j = entN s cs t j := fun j hj hn => by rw [ent_put hR ht ixN_lt hj, if_neg (fun e => hn e.2)]
    have hent0 : entN s (putM cs (t * 512 + ixN a l) v) t (ixN a l) = v := by rw [ent_put hR ht ixN_lt ixN_lt, if_pos ⟨rfl, rfl⟩]
    have hk' : lnkE s (putM cs (t * 512 + ixN a l) v) t l (ixN a l) = false := by rw [lnkE, hent0]; exact hv
    constructor
    · rw [frames_frE, frames_frE (cs := cs)]
      refine congrArg (t :: ·) (flat_congr fun j hj => ?_)
      have hj := List.mem_range.1 hj
      by_cases e : j = ixN a l
      · rw [e, frE, frE, hk, hk']
        rfl
      · exact frE_else hR ht ixN_lt (hentj j hj e) (hne j hj)
    · have h1 := flat_one (f := pgE s (putM cs (t * 512 + ixN a l) v) l t b) (g := pgE s cs l t b) (j0 := ixN a l) (n := 512) (fun j hj e => pgE_else hR ht ixN_lt (hentj j hj e) (hne j hj)) ixN_lt
      rw [← pgL_eq, ← pgL_eq, pgE_len hk, pgE_len hk', hent0] at h1
      exact h1
  induction l with
  | zero => intro t b hT hv hq; exact hstop hT rfl lnkE_low hv
  | succ l ih =>
    intro t b hT hv hq
    have hlow := hT.low _ (reach_mem (s := s) (a := a) (w := 0) (cs := cs) (l := l + 1) (t := t)).1
    have hrs := reach_succ (s := s) (a := a) (w := 0) (l := l) (t := t) (cs := cs)
    by_cases hk : lnkE s cs t (l + 1) (ixN a (l + 1)) = true
    · rw [if_pos ⟨by omega, hk⟩] at hrs
      obtain ⟨h1, h2⟩ := hT.sub ixN_lt hk
      have hm := (reach_mem (s := s) (a := a) (w := 0) (cs := cs) (l := l) (t := (ptN (entN s cs t (ixN a (l + 1)))).ppn)).1
      rw [hrs] at hv hq hlow ⊢
      have ih1 := fun b => ih (t := (ptN (entN s cs t (ixN a (l + 1)))).ppn) (b := b) h1 hv hq
      obtain ⟨r, hr⟩ : ∃ r, r = reachN s cs a 0 l (ptN (entN s cs t (ixN a (l + 1)))).ppn := ⟨_, rfl⟩
      rw [← hr] at ih1 hm hlow ⊢
      have hne : t ≠ r.2 := fun e => h2 (by rw [e] at hm ⊢; exact hm)
      have hent : ∀ j, j < 512 → entN s (putM cs (r.2 * 512 + ixN a r.1) v) t j = entN s cs t j := fun j hj => ent_else hR hlow ixN_lt hj hne
      have hk' : lnkE s (putM cs (r.2 * 512 + ixN a r.1) v) t (l + 1) (ixN a (l + 1)) = true := by rw [lnkE, hent _ ixN_lt]; exact hk
      have hap : ∀ j, j < 512 → j ≠ ixN a (l + 1) → lnkE s cs t (l + 1) j = true → r.2 ∉ framesN s cs (l + 1 - 1) (ptN (entN s cs t j)).ppn := fun j hj hn hkj => hT.apart ixN_lt hj (fun e => hn e.symm) hk hkj hm
      constructor
      · rw [frames_frE, frames_frE (cs := cs)]
        refine congrArg (t :: ·) (flat_congr fun j hj => ?_)
        have hj := List.mem_range.1 hj
        by_cases e : j = ixN a (l + 1)
        · rw [e, frE, frE, if_pos hk, if_pos hk', hent _ ixN_lt]
          exact (ih1 0).1
        · exact frE_else hR hlow ixN_lt (hent j hj) (hap j hj e)
      · have h3 := flat_one (f := pgE s (putM cs (r.2 * 512 + ixN a r.1) v) (l + 1) t b) (g := pgE s cs (l + 1) t b) (j0 := ixN a (l + 1)) (n := 512) (fun j hj e => pgE_else hR hlow ixN_lt (hent j hj) (hap j hj e)) ixN_lt
        rw [← pgL_eq, ← pgL_eq, pgE_lnk hk, pgE_lnk hk', hent _ ixN_lt] at h3
        have h4 := (ih1 (b + ixN a (l + 1) * szN ((l + 1 : Nat) : Int))).2
        rw [Nat.add_sub_cancel] at h3
        omega
    · rw [if_neg (fun h => hk h.2)] at hrs
      rw [hrs] at hv hq ⊢
      exact hstop hT hrs (by simpa using hk) hv
theorem refMake_con {n : Nat} {r w x u g : Bool} : Cn gAll 35 [Sx.u n, (true, [.b r, .b w, .b x, .b u]), bb g] [(⟨true, r, w, x, u, g, false, false, 0, n, 0⟩ : Pt).dv] := by
  refine con rfl rfl atlasref06_Make_c atlasref06_Make_p rfl ?_
  unfold atlasref06_Make_ir
  exact wp_return rfl rfl
theorem pg_sz {l : Nat} (h : l ≤ 2) : szN (l : Int) / 4096 = pgN (l : Int) := by rw [szN_eq]; omega
theorem leaf_ok {l n : Nat} (hl : l ≤ 2) : (⟨true, true, false, false, false, false, false, false, 0, n * pgN (l : Int), 0⟩ : Pt).bad (l : Int) = false := by
  simp [Pt.bad]
theorem len_slP {ρ : List D} {x : Ex} {rows : List (List D)} {L : Nat} (hx : x.eval ρ = some (slP rows)) (h : rows.length = L) : (Ex.len x).eval ρ = some (I L) := len_is hx h
theorem sz_most {l : Nat} (h : l ≤ 2) : szN (l : Int) ≤ 1073741824 := szN_le
theorem TableOnes_con {s top va fr : Nat} {lv : Int} {cs : List Cl} (hs : s < 18446744073709551616) (hO : COk cs) (htop : top < 18446744073709551616) (h0 : -9223372036854775808 ≤ lv) (h1 : lv < 9223372036854775808) (hva : va < 18446744073709551616) (hfr : fr < 65536) :
    Cn gAll 7 [md 2 s cs, u top, i lv, u va, (false, [.i .u16 fr])] [bb true] := by
  refine con rfl rfl atlaslaw19_TableOnes_c atlaslaw19_TableOnes_p rfl ?_
  unfold atlaslaw19_TableOnes_ir
  simp only [lv_cons, lv_nil, app_cons, app_nil]
  refine wp_call rfl awake19_con rfl ?_
  simp only [lv_cons, lv_nil, app_cons, app_nil]
  refine wp_lt (d := (.b false)) rfl ?_
  simp only [lv_cons, lv_nil, app_cons, app_nil]
  refine wp_ite (t := false) rfl (fun h => by cases h) (fun _ => ?_)
  obtain ⟨b, hf, hb⟩ := fits19_con (cs := cs) (lv := lv) hs hO htop h0 h1
  refine wp_call rfl hf rfl ?_
  simp only [lv_cons, lv_nil, app_cons, app_nil]
  refine wp_lt (not_e rfl) ?_
  simp only [lv_cons, lv_nil, app_cons, app_nil]
  refine wp_ite rfl (fun hc => ?_) (fun hc => ?_)
  · refine wp_call rfl awake19_con rfl ?_
    simp only [lv_cons, lv_nil, app_cons, app_nil]
    exact wp_return rfl rfl
  obtain ⟨l, hF⟩ := hb (by simpa using hc)
  obtain rfl := hF.eq
  clear hf hb
  refine wp_call rfl (isVa_con (a := va)) rfl ?_
  simp only [lv_cons, lv_nil, app_cons, app_nil]
  refine wp_lt (not_e rfl) ?_
  simp only [lv_cons, lv_nil, app_cons, app_nil]
  refine wp_ite rfl (fun hc => ?_) (fun hc => ?_)
  · refine wp_call rfl awake19_con rfl ?_
    simp only [lv_cons, lv_nil, app_cons, app_nil]
    exact wp_return rfl rfl
  have hRM := hF.rm
  have hl := hF.len
  have hle := hF.le
  have hr1 := reach_con (s := s) (t := top) (a := va) (l := l) (want := 0) hRM.asc hO (by omega) hva hF.le hF.t44 (by decide)
  obtain ⟨hm1, hm2⟩ := reach_mem (s := s) (a := va) (w := 0) (cs := cs) (l := l) (t := top)
  have hlow := hF.tree.low _ hm1
  have hcnt := fun v => put_count (s := s) (a := va) (v := v) (b := 0) hRM hF.tree
  have hP := fun p => putE_ok (a := va) (p := p) hF hO
  unfold putE at hP
  obtain ⟨r, hr⟩ : ∃ r, r = reachN s cs va 0 l top := ⟨_, rfl⟩
  rw [← hr] at hr1 hcnt hP hlow hm2
  unfold spotD at hr1
  obtain ⟨q, hq⟩ : ∃ q, q = ptA s cs r.2 va r.1 := ⟨_, rfl⟩
  rw [← hq] at hr1 hcnt
  refine wp_call rfl hr1 rfl ?_
  simp only [lv_cons, lv_nil, Pt.ds, Lf.ds, app_cons, app_nil]
  have hpg0 := pages_con (s := s) hRM.asc hO (by omega) l top 0 hle hF.t44 (by have := sz_most hle; omega)
  obtain ⟨n0, hn0e⟩ : ∃ n0, n0 = (pgL s cs l top 0).length := ⟨_, rfl⟩
  have hn0 : ((pgL s cs l top 0).map pgD).length = n0 := by rw [hn0e]; exact List.length_map ..
  have hroom := pgL_len (s := s) (cs := cs) (l := l) (t := top) (b := 0)
  have hroom2 := roomP_le hle
  refine wp_call rfl hpg0 rfl ?_
  simp only [lv_cons, lv_nil, app_cons, app_nil]
  refine wp_call rfl (refLink_con (p := q)) rfl ?_
  simp only [lv_cons, lv_nil, app_cons, app_nil]
  refine wp_ite rfl (fun _ => wp_return rfl rfl) (fun hlk => ?_)
  refine wp_lt (cv_u rfl (by omega)) ?_
  simp only [lv_cons, lv_nil, app_cons, app_nil]
  have hr2 : r.1 ≤ 2 := by omega
  refine wp_call rfl (refSize_con (lv_of hr2)) rfl ?_
  simp only [lv_cons, lv_nil, app_cons, app_nil]
  refine wp_lt (u_quo (b := 4096) rfl rfl (by omega) (by have := sz_most hr2; omega)) ?_
  rw [pg_sz hr2]
  simp only [lv_cons, lv_nil, app_cons, app_nil]
  have hpgn := pgN_le (l := (r.1 : Int))
  have hmul : fr * pgN (r.1 : Int) ≤ 65536 * 262144 := Nat.mul_le_mul (by omega) hpgn
  refine wp_lt (u_mul rfl rfl (by omega)) ?_
  simp only [lv_cons, lv_nil, app_cons, app_nil]
  obtain ⟨p, hpe⟩ : ∃ p : Pt, p = ⟨true, true, false, false, false, false, false, false, 0, fr * pgN (r.1 : Int), 0⟩ := ⟨_, rfl⟩
  have hmake := refMake_con (n := fr * pgN (r.1 : Int)) (r := true) (w := false) (x := false) (u := false) (g := false)
  rw [← hpe] at hmake
  refine wp_call rfl hmake rfl ?_
  simp only [lv_cons, lv_nil, Pt.ds, Lf.ds, app_cons, app_nil]
  have hp : p.May := by rw [hpe]; exact ⟨show (0 : Nat) < 4 by decide, by show fr * pgN (r.1 : Int) < 17592186044416; omega, show (0 : Nat) < 1024 by decide⟩
  have hz : Pt.zero.May := ⟨by decide, by decide, by decide⟩
  refine wp_call rfl (with_con (s := s) (t := r.2) (a := va) (l := r.1) (p := p) (q := q) hRM hO (by omega) hva hr2 hlow hp) rfl ?_
  simp only [lv_cons, lv_nil, app_cons, app_nil]
  refine wp_call rfl (with_con (s := s) (t := r.2) (a := va) (l := r.1) (p := Pt.zero) (q := q) hRM hO (by omega) hva hr2 hlow hz) rfl ?_
  simp only [lv_cons, lv_nil, app_cons, app_nil]
  have hlkp : p.link = false := by rw [hpe]; rfl
  obtain ⟨c1, c2⟩ := hcnt (wdN p) (by rw [ptN_wdN hp]; exact lnk_of_link hlkp) hlk
  obtain ⟨d1, d2⟩ := hcnt (wdN Pt.zero) (by rw [ptN_wdN hz]; rfl) hlk
  rw [ptN_wdN hp] at c2
  rw [ptN_wdN hz] at d2
  have hcp : cntP p r.1 = 1 := by rw [cntP, hpe, leaf_ok hr2]; rfl
  have hcz : cntP Pt.zero r.1 = 0 := rfl
  rw [hcp] at c2
  rw [hcz] at d2
  have hP1 := hP p
  have hP2 := hP Pt.zero
  obtain ⟨cs1, hcs1⟩ : ∃ cs1, cs1 = putM cs (r.2 * 512 + ixN va r.1) (wdN p) := ⟨_, rfl⟩
  obtain ⟨cs2, hcs2⟩ : ∃ cs2, cs2 = putM cs (r.2 * 512 + ixN va r.1) (wdN Pt.zero) := ⟨_, rfl⟩
  rw [← hcs1] at c1 c2 hP1 ⊢
  rw [← hcs2] at d1 d2 hP2 ⊢
  have hP1l := hP1.len
  have hP2l := hP2.len
  have hfr0 := frames_con (s := s) hRM.asc hO (by omega) l top hle hF.t44
  have hfr1 := frames_con (s := s) hP1.rm.asc hP1.cok (by omega) l top hle hF.t44
  have hfr2 := frames_con (s := s) hP2.rm.asc hP2.cok (by omega) l top hle hF.t44
  rw [c1] at hfr1
  rw [d1] at hfr2
  have hflen : (framesN s cs l top).length < 9223372036854775808 := by
    have := frames_len (s := s) (cs := cs) (l := l) (t := top)
    have := roomF_le hle
    omega
  obtain ⟨n1, hn1e⟩ : ∃ n1, n1 = (pgL s cs1 l top 0).length := ⟨_, rfl⟩
  obtain ⟨n2, hn2e⟩ : ∃ n2, n2 = (pgL s cs2 l top 0).length := ⟨_, rfl⟩
  rw [← hn1e, ← hn0e] at c2
  rw [← hn2e, ← hn0e] at d2
  refine wp_call rfl (refBad_con (p := q) (lv_of hr2)) rfl ?_
  simp only [lv_cons, lv_nil, app_cons, app_nil]
  refine wp_lt (not_e rfl) ?_
  simp only [lv_cons, lv_nil, app_cons, app_nil]
  refine wp_ite rfl (fun hbd => ?_) (fun hbd => ?_)
  · have hbd : q.bad (r.1 : Int) = false := by simpa using hbd
    rw [show cntP q r.1 = 1 by rw [cntP, hbd]; rfl] at c2 d2
    have hpg1 := pages_con (s := s) hP1.rm.asc hP1.cok (by omega) l top 0 hle hF.t44 (by have := sz_most hle; omega)
    have hpg2 := pages_con (s := s) hP2.rm.asc hP2.cok (by omega) l top 0 hle hF.t44 (by have := sz_most hle; omega)
    have hn1 : ((pgL s cs1 l top 0).map pgD).length = n1 := by rw [hn1e]; exact List.length_map ..
    have hn2 : ((pgL s cs2 l top 0).map pgD).length = n2 := by rw [hn2e]; exact List.length_map ..
    refine wp_call rfl hpg1 rfl ?_
    simp only [lv_cons, lv_nil, app_cons, app_nil]
    refine wp_lt (len_slP rfl hn1) ?_
    simp only [lv_cons, lv_nil, app_cons, app_nil]
    refine wp_lt (len_slP rfl hn0) ?_
    simp only [lv_cons, lv_nil, app_cons, app_nil]
    refine wp_lt (i_add (a := (n0 : Int)) (b := 1) rfl rfl (by omega) (by omega)) ?_
    simp only [lv_cons, lv_nil, app_cons, app_nil]
    refine wp_lt (i_sub (a := (n0 : Int) + 1) (b := 1) rfl rfl (by omega) (by omega)) ?_
    simp only [lv_cons, lv_nil, app_cons, app_nil]
    refine wp_lt (d := .b false) (cmp_e (e_neq rfl rfl) (by rw [show (n1 : Int) = (n0 : Int) + 1 - 1 by omega]; exact bne_self_eq_false _)) ?_
    simp only [lv_cons, lv_nil, app_cons, app_nil]
    refine wp_ite (t := false) rfl (fun h => by cases h) (fun _ => ?_)
    refine wp_call rfl hpg2 rfl ?_
    simp only [lv_cons, lv_nil, app_cons, app_nil]
    refine wp_lt (len_slP rfl hn2) ?_
    simp only [lv_cons, lv_nil, app_cons, app_nil]
    refine wp_lt (len_slP rfl hn0) ?_
    simp only [lv_cons, lv_nil, app_cons, app_nil]
    refine wp_lt (i_sub (a := (n0 : Int)) (b := 1) rfl rfl (by omega) (by omega)) ?_
    simp only [lv_cons, lv_nil, app_cons, app_nil]
    refine wp_lt (d := .b false) (cmp_e (e_neq rfl rfl) (by rw [show (n2 : Int) = (n0 : Int) - 1 by omega]; exact bne_self_eq_false _)) ?_
    simp only [lv_cons, lv_nil, app_cons, app_nil]
    refine wp_ite (t := false) rfl (fun h => by cases h) (fun _ => ?_)
    refine wp_call rfl hfr0 rfl ?_
    simp only [lv_cons, lv_nil, app_cons, app_nil]
    refine wp_call rfl hfr1 rfl ?_
    simp only [lv_cons, lv_nil, app_cons, app_nil]
    refine wp_call rfl (ints_same hflen) rfl ?_
    simp only [lv_cons, lv_nil, app_cons, app_nil]
    refine wp_ite (t := true) rfl (fun _ => ?_) (fun h => by cases h)
    refine wp_call rfl hfr2 rfl ?_
    simp only [lv_cons, lv_nil, app_cons, app_nil]
    refine wp_call rfl (ints_same hflen) rfl ?_
    simp only [lv_cons, lv_nil, app_cons, app_nil]
    exact wp_return rfl rfl
  · have hbd : q.bad (r.1 : Int) = true := by simpa using hbd
    rw [show cntP q r.1 = 0 by rw [cntP, hbd]; rfl] at c2 d2
    have hpg1 := pages_con (s := s) hP1.rm.asc hP1.cok (by omega) l top 0 hle hF.t44 (by have := sz_most hle; omega)
    have hpg2 := pages_con (s := s) hP2.rm.asc hP2.cok (by omega) l top 0 hle hF.t44 (by have := sz_most hle; omega)
    have hn1 : ((pgL s cs1 l top 0).map pgD).length = n1 := by rw [hn1e]; exact List.length_map ..
    have hn2 : ((pgL s cs2 l top 0).map pgD).length = n2 := by rw [hn2e]; exact List.length_map ..
    refine wp_call rfl hpg1 rfl ?_
    simp only [lv_cons, lv_nil, app_cons, app_nil]
    refine wp_lt (len_slP rfl hn1) ?_
    simp only [lv_cons, lv_nil, app_cons, app_nil]
    refine wp_lt (len_slP rfl hn0) ?_
    simp only [lv_cons, lv_nil, app_cons, app_nil]
    refine wp_lt (i_add (a := (n0 : Int)) (b := 1) rfl rfl (by omega) (by omega)) ?_
    simp only [lv_cons, lv_nil, app_cons, app_nil]
    refine wp_lt (i_sub (a := (n0 : Int) + 1) (b := 0) rfl rfl (by omega) (by omega)) ?_
    simp only [lv_cons, lv_nil, app_cons, app_nil]
    refine wp_lt (d := .b false) (cmp_e (e_neq rfl rfl) (by rw [show (n1 : Int) = (n0 : Int) + 1 - 0 by omega]; exact bne_self_eq_false _)) ?_
    simp only [lv_cons, lv_nil, app_cons, app_nil]
    refine wp_ite (t := false) rfl (fun h => by cases h) (fun _ => ?_)
    refine wp_call rfl hpg2 rfl ?_
    simp only [lv_cons, lv_nil, app_cons, app_nil]
    refine wp_lt (len_slP rfl hn2) ?_
    simp only [lv_cons, lv_nil, app_cons, app_nil]
    refine wp_lt (len_slP rfl hn0) ?_
    simp only [lv_cons, lv_nil, app_cons, app_nil]
    refine wp_lt (i_sub (a := (n0 : Int)) (b := 0) rfl rfl (by omega) (by omega)) ?_
    simp only [lv_cons, lv_nil, app_cons, app_nil]
    refine wp_lt (d := .b false) (cmp_e (e_neq rfl rfl) (by rw [show (n2 : Int) = (n0 : Int) - 0 by omega]; exact bne_self_eq_false _)) ?_
    simp only [lv_cons, lv_nil, app_cons, app_nil]
    refine wp_ite (t := false) rfl (fun h => by cases h) (fun _ => ?_)
    refine wp_call rfl hfr0 rfl ?_
    simp only [lv_cons, lv_nil, app_cons, app_nil]
    refine wp_call rfl hfr1 rfl ?_
    simp only [lv_cons, lv_nil, app_cons, app_nil]
    refine wp_call rfl (ints_same hflen) rfl ?_
    simp only [lv_cons, lv_nil, app_cons, app_nil]
    refine wp_ite (t := true) rfl (fun _ => ?_) (fun h => by cases h)
    refine wp_call rfl hfr2 rfl ?_
    simp only [lv_cons, lv_nil, app_cons, app_nil]
    refine wp_call rfl (ints_same hflen) rfl ?_
    simp only [lv_cons, lv_nil, app_cons, app_nil]
    exact wp_return rfl rfl
end Go.Proofs.YtnlilhpkjlodjaaDoor.Sx
