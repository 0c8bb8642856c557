/-
  Layer 16: does the buffer tell no more than the tables: plain, and the reference's contract.
-/
import Derived.Test.YtobdkhjaipoliaaGreatDoorZV1
import Derived.Test.YtobdkhjaipoliaaGreatDoorZIrVg
namespace Go.Proofs.YtobdkhjaipoliaaGreatDoor.Sx
open Go
set_option linter.unusedVariables false
set_option linter.unusedSimpArgs false
set_option maxRecDepth 100000
def vaN (n : Nat) : Nat := signN (n % 134217728 * 4096) 39
def okL (e : En) (l : Lf) : Bool := ((l.lv : Int) == e.lv) && (l.pt.ppn == e.ppn) && l.pt.a && (!e.d || l.pt.d) && (l.pt.u == e.p4) && (!e.p1 || l.pt.r) && (!e.p2 || l.pt.w) && (!e.p3 || l.pt.x)
def okE (p n : Nat) (s : Nat) (cs : List Cl) (e : En) : Bool := (!e.g && e.asid != n) || (match lookW s cs p (vaN e.vpn) with | .leaf l => okL e l | .fault _ => false)
def agreesB (h : Ht) (s : Nat) (cs : List Cl) : Bool := (allT h.ts).all (okE h.ppn h.asid s cs)
theorem refVaOf_con {n : Nat} (hn : n < 18446744073709551616) : Cn gAll 20 [u n] [u (vaN n)] := by
  refine con rfl rfl atlasref05_Of_c atlasref05_Of_p rfl ?_
  unfold atlasref05_Of_ir
  simp only [lv_cons, lv_nil, app_cons, app_nil]
  refine wp_lt (u_rem (b := 134217728) rfl rfl (by decide)) ?_
  simp only [lv_cons, lv_nil, app_cons, app_nil]
  refine wp_lt (u_mul (b := 4096) rfl rfl (by omega)) ?_
  simp only [lv_cons, lv_nil, app_cons, app_nil]
  refine wp_call rfl (refSign_con (n := 39) (by omega) (by decide) (by decide)) rfl ?_
  simp only [lv_cons, lv_nil, app_cons, app_nil]
  exact wp_return rfl rfl
theorem refAgrees_con {h : Ht} {s : Nat} {cs : List Cl} (hR : RH h) (hM : RM s cs) (hO : COk cs) (hlen : cs.length ≤ 400000) : Cn gAll 6 [h.dv, md 2 s cs] [bb (agreesB h s cs)] := by
  refine con rfl rfl atlasref16_Agrees_c atlasref16_Agrees_p rfl ?_
  unfold atlasref16_Agrees_ir
  obtain ⟨hasid, hppn⟩ := mayS_lt hR.satp
  have htl := hR.tr.len
  simp only [lv_cons, lv_nil, Pt.ds, Lf.ds, En.ds, Ht.ds, app_cons, app_nil]
  refine wp_call rfl (refAll_con (ts := h.ts) (by omega)) rfl ?_
  simp only [lv_cons, lv_nil, app_cons, app_nil]
  have hmay : ∀ e ∈ allT h.ts, e.May := fun e he => allT_may hR.tr he
  have hlt : (allT h.ts).length ≤ 64 := by have := allT_le (ts := h.ts); omega
  unfold agreesB
  have hall : ∀ (ws : List En) (n : Nat) (e : En), ws[n]? = some e → okE h.ppn h.asid s cs e = false → ws.all (okE h.ppn h.asid s cs) = false := fun ws n e he hf => by
    rw [Bool.eq_false_iff]
    intro ha
    have := List.all_eq_true.1 ha e (List.mem_of_getElem? he)
    rw [hf] at this
    cases this
  generalize allT h.ts = ws at *
  refine wp_rounds (fun m ds => ∃ (b : Bool) (n : Nat), ds = [.b b, I n] ∧ n + m = ws.length + 1 ∧ n ≤ ws.length ∧ ∀ j e, j < n → ws[j]? = some e → okE h.ppn h.asid s cs e = true) (ws.length + 1) rfl ⟨_, 0, rfl, by omega, by omega, fun j e hj => by omega⟩ ?_
    (fun es hes => by obtain ⟨_, n, _, h1, h2, _⟩ := hes; omega)
  rintro m es Q ⟨b, n, rfl, hm, hle, hh⟩ hQ
  simp only [lv_cons, lv_nil, app_cons, app_nil]
  refine wp_lt (len_is rfl (List.length_map ..)) ?_
  simp only [lv_cons, lv_nil, app_cons, app_nil]
  refine wp_lt rfl ?_
  simp only [lv_cons, lv_nil, app_cons, app_nil]
  refine wp_ite rfl (fun hc => ?_) (fun hc => ?_)
  · have hc := of_decide_eq_true hc
    have hnl : n < ws.length := by omega
    obtain ⟨e, he⟩ : ∃ e, ws[n]? = some e := ⟨_, List.getElem?_eq_getElem hnl⟩
    have hrow := rws_row he
    have hem := hmay e (List.mem_of_getElem? he)
    have hmt : mT ws.length = 11 := mT_pos (by omega)
    rw [hmt]
    refine wp_chk (inb_t rfl rfl (by rw [List.length_map]; exact hnl)) ?_
    refine wp_jn (fun es => es = [.b (!e.g && e.asid != h.asid)]) ?_ ?_
    rotate_left
    · intro Q1 hQ1
      refine wp_lt (d := .b (!e.g)) (not_e (idx_e rfl rfl hrow rfl)) ?_
      simp only [lv_cons, lv_nil, app_cons, app_nil]
      refine wp_ite rfl (fun h1 => ?_) (fun h1 => ?_)
      · refine wp_lt (e_neq (idx_e rfl rfl hrow rfl) rfl) ?_
        simp only [lv_cons, lv_nil, app_cons, app_nil]
        refine wp_cont rfl rfl (hQ1 _ ?_)
        rw [h1, Bool.true_and]
        congr 2
        rw [Bool.eq_iff_iff, bne_iff_ne, bne_iff_ne]
        omega
      · refine wp_cont rfl rfl (hQ1 _ ?_)
        rw [h1, Bool.false_and]
    rintro es rfl
    simp only [lv_cons, lv_nil, app_cons, app_nil]
    refine wp_ite rfl (fun hsk => ?_) (fun hsk => ?_)
    · refine wp_lt (i_add (a := (n : Int)) (b := 1) rfl rfl (by omega) (by omega)) ?_
      simp only [lv_cons, lv_nil, app_cons, app_nil]
      refine wp_cont rfl rfl (hQ _ ⟨b, n + 1, rfl, by omega, by omega, fun j e' hj he' => ?_⟩)
      by_cases hjn : j = n
      · subst hjn
        rw [he] at he'
        cases he'
        unfold okE
        rw [hsk, Bool.true_or]
      · exact hh j e' (by omega) he'
    have hvpn := hem.vpn
    refine wp_call (evs_cons (evs_one (idx_e rfl rfl hrow rfl)) rfl) (refVaOf_con (n := e.vpn) (by omega)) rfl ?_
    simp only [lv_cons, lv_nil, app_cons, app_nil]
    have hva : vaN e.vpn < 18446744073709551616 := signN_lt ..
    have hlook := refLook_con (k := 2) (s := s) (t := h.ppn) (a := vaN e.vpn) (kd := 1) (.inl rfl) hM hO (by omega) hppn hva (.inr (.inl rfl))
    have hok : okE h.ppn h.asid s cs e = (match lookW s cs h.ppn (vaN e.vpn) with | .leaf l => okL e l | .fault _ => false) := by
      unfold okE
      rw [hsk, Bool.false_or]
    cases hlk : lookW s cs h.ppn (vaN e.vpn) with
    | fault q =>
      rw [hlk] at hlook hok
      simp only [Lk.rs] at hlook
      refine wp_call rfl hlook rfl ?_
      simp only [lv_cons, lv_nil, Pt.ds, Lf.ds, En.ds, Ht.ds, app_cons, app_nil]
      refine wp_call rfl (refPerm_con (p := Pt.zero)) rfl ?_
      simp only [lv_cons, lv_nil, app_cons, app_nil]
      refine wp_jn (fun es => es = [.b true]) ?_ ?_
      rotate_left
      · intro Q1 hQ1
        refine wp_ite (t := true) rfl (fun _ => ?_) (fun h => by cases h)
        exact wp_cont rfl rfl (hQ1 _ rfl)
      rintro es rfl
      simp only [lv_cons, lv_nil, app_cons, app_nil]
      refine wp_ite (t := true) rfl (fun _ => ?_) (fun h => by cases h)
      exact wp_return rfl (bb_eq (hall ws n e he hok).symm)
    | leaf l =>
      rw [hlk] at hlook hok
      simp only [Lk.rs] at hlook
      simp only at hok
      refine wp_call rfl hlook rfl ?_
      simp only [lv_cons, lv_nil, Pt.ds, Lf.ds, En.ds, Ht.ds, app_cons, app_nil]
      refine wp_call rfl (refPerm_con (p := l.pt)) rfl ?_
      simp only [lv_cons, lv_nil, app_cons, app_nil]
      have i1 : (((l.lv : Int)) != e.lv) = !(((l.lv : Int)) == e.lv) := rfl
      have i2 : (((l.pt.ppn : Nat) : Int) != ((e.ppn : Nat) : Int)) = !(l.pt.ppn == e.ppn) := by
        rw [Bool.eq_iff_iff]
        simp only [bne_iff_ne, Bool.not_eq_true', beq_eq_false_iff_ne]
        omega
      refine wp_jn (fun es => es = [.b (!(((l.lv : Int) == e.lv) && (l.pt.ppn == e.ppn) && l.pt.a && (!e.d || l.pt.d) && (l.pt.u == e.p4)))]) ?_ ?_
      rotate_left
      · intro Q1 hQ1
        refine wp_ite (t := false) rfl (fun h => by cases h) (fun _ => ?_)
        refine wp_lt (e_neq rfl (idx_e rfl rfl hrow rfl)) ?_
        simp only [lv_cons, lv_nil, app_cons, app_nil]
        rw [i1]
        refine wp_ite rfl (fun h1 => ?_) (fun h1 => ?_)
        · have h1 : ((l.lv : Int) == e.lv) = false := by simpa using h1
          exact wp_cont rfl rfl (hQ1 _ (by rw [h1]; rfl))
        have h1 : ((l.lv : Int) == e.lv) = true := by simpa using h1
        refine wp_lt (e_neq rfl (idx_e rfl rfl hrow rfl)) ?_
        simp only [lv_cons, lv_nil, app_cons, app_nil]
        rw [i2]
        refine wp_ite rfl (fun h2 => ?_) (fun h2 => ?_)
        · have h2 : (l.pt.ppn == e.ppn) = false := by simpa using h2
          exact wp_cont rfl rfl (hQ1 _ (by rw [h1, h2]; rfl))
        have h2 : (l.pt.ppn == e.ppn) = true := by simpa using h2
        refine wp_lt (d := .b (!l.pt.a)) rfl ?_
        simp only [lv_cons, lv_nil, app_cons, app_nil]
        refine wp_ite rfl (fun h3 => ?_) (fun h3 => ?_)
        · have h3 : l.pt.a = false := by simpa using h3
          exact wp_cont rfl rfl (hQ1 _ (by rw [h1, h2, h3]; rfl))
        have h3 : l.pt.a = true := by simpa using h3
        refine wp_ite (idx_e rfl rfl hrow rfl) (fun h4 => ?_) (fun h4 => ?_)
        · refine wp_lt (d := .b (!l.pt.d)) rfl ?_
          simp only [lv_cons, lv_nil, app_cons, app_nil]
          refine wp_ite rfl (fun h5 => ?_) (fun h5 => ?_)
          · have h5 : l.pt.d = false := by simpa using h5
            exact wp_cont rfl rfl (hQ1 _ (by rw [h1, h2, h3, h4, h5]; rfl))
          have h5 : l.pt.d = true := by simpa using h5
          refine wp_lt (not_e (eqt_b rfl (idx_e rfl rfl hrow rfl))) ?_
          simp only [lv_cons, lv_nil, app_cons, app_nil]
          exact wp_cont rfl rfl (hQ1 _ (by rw [h1, h2, h3, h4, h5]; rfl))
        · refine wp_lt (not_e (eqt_b rfl (idx_e rfl rfl hrow rfl))) ?_
          simp only [lv_cons, lv_nil, app_cons, app_nil]
          exact wp_cont rfl rfl (hQ1 _ (by rw [h1, h2, h3, h4]; rfl))
      rintro es rfl
      simp only [lv_cons, lv_nil, app_cons, app_nil]
      refine wp_ite rfl (fun hA => ?_) (fun hA => ?_)
      · have hA : (((l.lv : Int) == e.lv) && (l.pt.ppn == e.ppn) && l.pt.a && (!e.d || l.pt.d) && (l.pt.u == e.p4)) = false := by rw [Bool.not_eq_true'] at hA; exact hA
        refine wp_return rfl (bb_eq (hall ws n e he ?_).symm)
        rw [hok, okL, hA]
        rfl
      have hA : (((l.lv : Int) == e.lv) && (l.pt.ppn == e.ppn) && l.pt.a && (!e.d || l.pt.d) && (l.pt.u == e.p4)) = true := by rw [Bool.not_eq_false'] at hA; exact hA
      refine wp_jn (fun es => es = [.b (!((!e.p1 || l.pt.r) && (!e.p2 || l.pt.w) && (!e.p3 || l.pt.x)))]) ?_ ?_
      rotate_left
      · intro Q1 hQ1
        refine wp_ite (idx_e rfl rfl hrow rfl) (fun h4 => ?_) (fun h4 => ?_)
        · refine wp_lt (d := .b (!l.pt.r)) rfl ?_
          simp only [lv_cons, lv_nil, app_cons, app_nil]
          refine wp_ite rfl (fun h5 => ?_) (fun h5 => ?_)
          · have h5 : l.pt.r = false := by simpa using h5
            exact wp_cont rfl rfl (hQ1 _ (by rw [h4, h5]; rfl))
          have h5 : l.pt.r = true := by simpa using h5
          refine wp_ite (idx_e rfl rfl hrow rfl) (fun h6 => ?_) (fun h6 => ?_)
          · refine wp_lt (d := .b (!l.pt.w)) rfl ?_
            simp only [lv_cons, lv_nil, app_cons, app_nil]
            refine wp_ite rfl (fun h7 => ?_) (fun h7 => ?_)
            · have h7 : l.pt.w = false := by simpa using h7
              exact wp_cont rfl rfl (hQ1 _ (by rw [h4, h5, h6, h7]; rfl))
            have h7 : l.pt.w = true := by simpa using h7
            refine wp_ite (idx_e rfl rfl hrow rfl) (fun h8 => ?_) (fun h8 => ?_)
            · refine wp_lt (d := .b (!l.pt.x)) rfl ?_
              simp only [lv_cons, lv_nil, app_cons, app_nil]
              exact wp_cont rfl rfl (hQ1 _ (by rw [h4, h5, h6, h7, h8]; cases l.pt.x <;> rfl))
            · exact wp_cont rfl rfl (hQ1 _ (by rw [h4, h5, h6, h7, h8]; rfl))
          · refine wp_ite (idx_e rfl rfl hrow rfl) (fun h8 => ?_) (fun h8 => ?_)
            · refine wp_lt (d := .b (!l.pt.x)) rfl ?_
              simp only [lv_cons, lv_nil, app_cons, app_nil]
              exact wp_cont rfl rfl (hQ1 _ (by rw [h4, h5, h6, h8]; cases l.pt.x <;> rfl))
            · exact wp_cont rfl rfl (hQ1 _ (by rw [h4, h5, h6, h8]; rfl))
        · refine wp_ite (idx_e rfl rfl hrow rfl) (fun h6 => ?_) (fun h6 => ?_)
          · refine wp_lt (d := .b (!l.pt.w)) rfl ?_
            simp only [lv_cons, lv_nil, app_cons, app_nil]
            refine wp_ite rfl (fun h7 => ?_) (fun h7 => ?_)
            · have h7 : l.pt.w = false := by simpa using h7
              exact wp_cont rfl rfl (hQ1 _ (by rw [h4, h6, h7]; rfl))
            have h7 : l.pt.w = true := by simpa using h7
            refine wp_ite (idx_e rfl rfl hrow rfl) (fun h8 => ?_) (fun h8 => ?_)
            · refine wp_lt (d := .b (!l.pt.x)) rfl ?_
              simp only [lv_cons, lv_nil, app_cons, app_nil]
              exact wp_cont rfl rfl (hQ1 _ (by rw [h4, h6, h7, h8]; cases l.pt.x <;> rfl))
            · exact wp_cont rfl rfl (hQ1 _ (by rw [h4, h6, h7, h8]; rfl))
          · refine wp_ite (idx_e rfl rfl hrow rfl) (fun h8 => ?_) (fun h8 => ?_)
            · refine wp_lt (d := .b (!l.pt.x)) rfl ?_
              simp only [lv_cons, lv_nil, app_cons, app_nil]
              exact wp_cont rfl rfl (hQ1 _ (by rw [h4, h6, h8]; cases l.pt.x <;> rfl))
            · exact wp_cont rfl rfl (hQ1 _ (by rw [h4, h6, h8]; rfl))
      rintro es rfl
      simp only [lv_cons, lv_nil, app_cons, app_nil]
      refine wp_ite rfl (fun hB => ?_) (fun hB => ?_)
      · have hB : ((!e.p1 || l.pt.r) && (!e.p2 || l.pt.w) && (!e.p3 || l.pt.x)) = false := by rw [Bool.not_eq_true'] at hB; exact hB
        refine wp_return rfl (bb_eq (hall ws n e he ?_).symm)
        rw [hok, okL, hA, Bool.true_and]
        exact hB
      have hB : ((!e.p1 || l.pt.r) && (!e.p2 || l.pt.w) && (!e.p3 || l.pt.x)) = true := by rw [Bool.not_eq_false'] at hB; exact hB
      refine wp_lt (i_add (a := (n : Int)) (b := 1) rfl rfl (by omega) (by omega)) ?_
      simp only [lv_cons, lv_nil, app_cons, app_nil]
      refine wp_cont rfl rfl (hQ _ ⟨b, n + 1, rfl, by omega, by omega, fun j e' hj he' => ?_⟩)
      by_cases hjn : j = n
      · subst hjn
        rw [he] at he'
        cases he'
        rw [hok, okL, hA, Bool.true_and]
        exact hB
      · exact hh j e' (by omega) he'
  · have hc := of_decide_eq_false hc
    obtain rfl : n = ws.length := by omega
    refine wp_return rfl (bb_eq ?_)
    symm
    rw [List.all_eq_true]
    intro e he
    obtain ⟨j, hj, rfl⟩ := List.getElem_of_mem he
    exact hh j _ hj (List.getElem?_eq_getElem hj)
end Go.Proofs.YtobdkhjaipoliaaGreatDoor.Sx
