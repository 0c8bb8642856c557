/-
  Layer 16: right harts, bare ones, what agrees, what the document fixes: contracts.
-/
import Derived.Test.YtmmppghdnoeheaaGreatDoorZHartc
import Derived.Test.YtmmppghdnoeheaaGreatDoorZIrVz
import Derived.Test.YtmmppghdnoeheaaGreatDoorZIrHg
import Derived.Test.YtmmppghdnoeheaaGreatDoorZIrHl
namespace Go.Proofs.YtmmppghdnoeheaaGreatDoor.Sx
open Go
set_option linter.unusedVariables false
set_option linter.unusedSimpArgs false
set_option maxRecDepth 100000
theorem con_arg {G : Glo} {f : FuncId} {az az' rs : List DV} (hf : f < eatOff) (h : Cn G f az rs) (hw : ∀ I w vs, All2 (DVR I w) az' vs → All2 (DVR I w) az vs) : Cn G f az' rs :=
  ⟨fun _ I w vs hG hi ha => h.1 hf I w vs hG hi (hw I w vs ha), fun h' => absurd h'.1 (Nat.not_le.2 hf), fun h' => absurd h' (Nat.not_le.2 (Nat.lt_trans hf (by decide)))⟩
theorem dr_nil {I : Imm} {w : World} {v : Value} {n : Nat} (h : DR I w (.sl 0 []) v) : DR I w (.sl n []) v := by
  generalize hxs : ([] : List (List D)) = xs at h
  cases h with
  | nil _ p cap hz => exact .nil n p cap fun _ => hz rfl
  | sl _ _ _ _ _ _ h0 => omega
theorem dvr_nil {I : Imm} {w : World} {v : Value} {n : Nat} {ds : List D} (h : DVR I w (true, .sl 0 [] :: ds) v) : DVR I w (true, .sl n [] :: ds) v := by
  obtain ⟨vs, rfl, h⟩ := h
  refine ⟨vs, rfl, ?_⟩
  cases h with
  | cons h1 h => exact .cons (dr_nil h1) h
theorem wk_bare {h : Ht} : WkR [(true, [.sl 0 [], U h.mode, U h.asid, U h.ppn, I h.priv, .b h.sum, .b h.mxr, I h.vic])] [(bareH h).dv] := fun I w v hv => dvr_nil hv
theorem bare_con {h : Ht} : Cn gAll 13 [h.dv] [(bareH h).dv] := by
  refine con' rfl rfl atlasref16_Bare_c atlasref16_Bare_p (fun r => r = [(true, [.sl 0 [], U h.mode, U h.asid, U h.ppn, I h.priv, .b h.sum, .b h.mxr, I h.vic])]) (fun r hr => by rw [hr]; exact wk_bare) rfl ?_
  exact wp_return rfl rfl
theorem bare_rh {h : Ht} (hR : RH h) : RH (bareH h) := ⟨newT_ok (n := 0) (by decide), hR.satp, hR.priv⟩
theorem satpMay_con {m a p : Nat} (h : mayS m a p = true) : Cn gAll 38 [(true, [U m, U a, U p])] [bb true] := by
  have hon : Cn gAll 49 [(true, [U m, U a, U p])] [bb ((m : Int) == 8)] := by
    refine con rfl rfl satp_On_c satp_On_p rfl ?_
    unfold satp_On_ir
    simp only [lv_cons, lv_nil, app_cons, app_nil]
    refine wp_lt (e_eql rfl rfl) ?_
    simp only [lv_cons, lv_nil, app_cons, app_nil]
    exact wp_return rfl rfl
  obtain ⟨ha, hp⟩ := mayS_lt h
  refine con rfl rfl satp_May_c satp_May_p rfl ?_
  unfold satp_May_ir
  simp only [lv_cons, lv_nil, app_cons, app_nil]
  refine wp_call rfl hon rfl ?_
  simp only [lv_cons, lv_nil, app_cons, app_nil]
  refine wp_lt rfl ?_
  simp only [lv_cons, lv_nil, app_cons, app_nil]
  unfold mayS at h
  refine wp_ite rfl (fun hm => ?_) (fun hm => ?_)
  · have hm : ((m : Int) == 8) = false := by simpa using hm
    have hm := beq_eq_false_iff_ne.1 hm
    split at h
    · rename_i h0
      simp only [Bool.and_eq_true, beq_iff_eq] at h
      obtain ⟨rfl, rfl⟩ := h
      subst h0
      refine wp_lt (d := .b true) rfl ?_
      simp only [lv_cons, lv_nil, app_cons, app_nil]
      exact wp_return rfl rfl
    · simp only [Bool.and_eq_true, beq_iff_eq] at h
      omega
  · refine wp_call rfl (bitsGet_con (a := p) (lo := 0) (w := 44) (by omega) (by decide) (by decide)) rfl ?_
    rw [getN_0 (by omega)]
    simp only [lv_cons, lv_nil, app_cons, app_nil]
    refine wp_lt (d := .b true) (cmp_e (e_eql rfl rfl) (beq_self_eq_true _)) ?_
    simp only [lv_cons, lv_nil, app_cons, app_nil]
    refine wp_ite (t := true) rfl (fun _ => ?_) (fun h => by cases h)
    refine wp_call rfl (bitsGet_con (a := a) (lo := 0) (w := 16) (by omega) (by decide) (by decide)) rfl ?_
    rw [getN_0 (by omega)]
    simp only [lv_cons, lv_nil, app_cons, app_nil]
    refine wp_lt (d := .b true) (cmp_e (e_eql rfl rfl) (beq_self_eq_true _)) ?_
    simp only [lv_cons, lv_nil, app_cons, app_nil]
    exact wp_return rfl rfl
theorem hartRight_con {h : Ht} (hR : RH h) : Cn gAll 16 [h.dv] [bb true] := by
  refine con rfl rfl hart_Right_c hart_Right_p rfl ?_
  unfold hart_Right_ir
  simp only [lv_cons, lv_nil, Pt.ds, Lf.ds, En.ds, Ht.ds, app_cons, app_nil]
  have hl := hR.tr.len
  refine wp_call rfl (tlbRight_con (ts := h.ts) hR.tr.ok (by omega)) rfl ?_
  rw [hR.tr.right]
  simp only [lv_cons, lv_nil, app_cons, app_nil]
  refine wp_ite (t := true) rfl (fun _ => ?_) (fun h => by cases h)
  refine wp_call rfl (satpMay_con hR.satp) rfl ?_
  simp only [lv_cons, lv_nil, app_cons, app_nil]
  refine wp_ite (t := true) rfl (fun _ => ?_) (fun h => by cases h)
  refine wp_lt (e_eql rfl rfl) ?_
  simp only [lv_cons, lv_nil, app_cons, app_nil]
  refine wp_ite rfl (fun h1 => ?_) (fun h1 => ?_)
  · exact wp_return rfl rfl
  · have h1 := beq_eq_false_iff_ne.1 h1
    have h2 : h.priv = 1 := hR.priv.resolve_left h1
    refine wp_lt (e_eql rfl rfl) ?_
    simp only [lv_cons, lv_nil, app_cons, app_nil]
    exact wp_return rfl (bb_eq (by rw [h2]; rfl))
theorem set_va {n : Nat} : setN 0 12 27 n = n % 134217728 * 4096 := by
  refine Nat.eq_of_testBit_eq fun i => ?_
  rw [setN_testBit, show (4096 : Nat) = 2 ^ 12 from rfl, Nat.testBit_mul_two_pow, show (134217728 : Nat) = 2 ^ 27 from rfl, Nat.testBit_mod_two_pow]
  by_cases h1 : 12 ≤ i
  · by_cases h2 : i < 39
    · rw [if_pos (by omega), decide_eq_true (by omega), decide_eq_true (show i - 12 < 27 by omega), decide_eq_true (show i ≥ 12 from h1)]
      simp
    · rw [if_neg (by omega), decide_eq_false (show ¬ i - 12 < 27 by omega)]
      simp
  · rw [if_neg (by omega), decide_eq_false (show ¬ i ≥ 12 from h1)]
    simp
theorem vaOf_con {n : Nat} (hn : n < 18446744073709551616) : Cn gAll 34 [u n] [u (vaN n)] := by
  refine con rfl rfl va_Of_c va_Of_p rfl ?_
  unfold va_Of_ir
  refine wp_call rfl (bitsSet_con (a := 0) (lo := 12) (w := 27) (v := n) (by decide) hn (by decide) (by decide)) rfl ?_
  rw [set_va]
  simp only [lv_cons, lv_nil, app_cons, app_nil]
  refine wp_call rfl (bitsSign_con (a := n % 134217728 * 4096) (n := 39) (by omega) (by decide) (by decide)) rfl ?_
  simp only [lv_cons, lv_nil, app_cons, app_nil]
  exact wp_return rfl rfl
def withinF (a b c d e f g h : Bool) : Bool := (!a || e) && (!b || f) && (!c || g) && (d == h)
theorem within_con (a b c d e f g h : Bool) : Cn gAll 35 [P4 a b c d, P4 e f g h] [bb (withinF a b c d e f g h)] := by
  have hh : (allB fun a => allB fun b => allB fun c => allB fun d => allB fun e => allB fun f => allB fun g => allB fun h => isV (run TIrHg 100 hart_within_ir [] [.b a, .b b, .b c, .b d, .b e, .b f, .b g, .b h]) [bb (withinF a b c d e f g h)]) = true := by kernel_rfl
  exact con_of_run TIrHg_ok rfl 100 rfl (isV_eq (allB_all (allB_all (allB_all (allB_all (allB_all (allB_all (allB_all (allB_all hh a) b) c) d) e) f) g) h))
theorem okL_eq {e : En} {l : Lf} : okL e l = (((l.lv : Int) == e.lv) && (l.pt.ppn == e.ppn) && l.pt.a && (!e.d || l.pt.d) && withinF e.p1 e.p2 e.p3 e.p4 l.pt.r l.pt.w l.pt.x l.pt.u) := by
  unfold okL withinF
  generalize ((l.lv : Int) == e.lv) = x1
  generalize (l.pt.ppn == e.ppn) = x2
  cases x1
  · rfl
  cases x2
  · rfl
  cases l.pt.a
  · rfl
  cases (!e.d || l.pt.d)
  · rfl
  cases e.p1 <;> cases e.p2 <;> cases e.p3 <;> cases e.p4 <;> cases l.pt.r <;> cases l.pt.w <;> cases l.pt.x <;> cases l.pt.u <;> rfl
theorem hartAgrees_con {h : Ht} {s : Nat} {cs : List Cl} (hR : RH h) (hM : RM s cs) (hO : COk cs) (hlen : cs.length ≤ 400000) : Cn gAll 15 [h.dv, md 2 s cs] [bb (agreesB h s cs)] := by
  refine con rfl rfl hart_Agrees_c hart_Agrees_p rfl ?_
  unfold hart_Agrees_ir
  obtain ⟨hasid, hppn⟩ := mayS_lt hR.satp
  have htl := hR.tr.len
  simp only [lv_cons, lv_nil, Pt.ds, Lf.ds, En.ds, Ht.ds, app_cons, app_nil]
  refine wp_call rfl (tlbAll_con (ts := h.ts) (by omega)) rfl ?_
  simp only [lv_cons, lv_nil, app_cons, app_nil]
  have hmt : allT h.ts ≠ [] → mT h.ts.length = 11 := fun hne => by
    refine mT_pos ?_
    have := allT_le (ts := h.ts)
    have : (allT h.ts).length ≠ 0 := fun h0 => hne (List.length_eq_zero_iff.1 h0)
    omega
  have hmay : ∀ e ∈ allT h.ts, e.May := fun e he => allT_may hR.tr he
  have hlt : (allT h.ts).length ≤ 64 := by have := allT_le (ts := h.ts); omega
  unfold agreesB
  have hall : ∀ (ws : List En) (n : Nat) (e : En), ws[n]? = some e → okE h.ppn h.asid s cs e = false → ws.all (okE h.ppn h.asid s cs) = false := fun ws n e he hf => by
    rw [Bool.eq_false_iff]
    intro ha
    have := List.all_eq_true.1 ha e (List.mem_of_getElem? he)
    rw [hf] at this
    cases this
  generalize allT h.ts = ws at *
  refine wp_lt (len_is rfl (List.length_map ..)) ?_
  simp only [lv_cons, lv_nil, app_cons, app_nil]
  refine wp_rounds (fun m ds => ∃ (b : Bool) (n : Nat), ds = [.b b, I n] ∧ n + m = ws.length + 1 ∧ n ≤ ws.length ∧ ∀ j e, j < n → ws[j]? = some e → okE h.ppn h.asid s cs e = true) (ws.length + 1) rfl ⟨_, 0, rfl, by omega, by omega, fun j e hj => by omega⟩ ?_
    (fun es hes => by obtain ⟨_, n, _, h1, h2, _⟩ := hes; omega)
  rintro m es Q ⟨b, n, rfl, hm, hle, hh⟩ hQ
  simp only [lv_cons, lv_nil, app_cons, app_nil]
  refine wp_lt (e_lss rfl rfl) ?_
  simp only [lv_cons, lv_nil, app_cons, app_nil]
  refine wp_ite rfl (fun hc => ?_) (fun hc => ?_)
  · have hc := of_decide_eq_true hc
    have hnl : n < ws.length := by omega
    obtain ⟨e, he⟩ : ∃ e, ws[n]? = some e := ⟨_, List.getElem?_eq_getElem hnl⟩
    have hrow := rws_row he
    have hem := hmay e (List.mem_of_getElem? he)
    rw [hmt (fun h0 => by rw [h0] at hnl; cases hnl)]
    refine wp_chk (inb_t rfl rfl (by rw [List.length_map]; exact hnl)) ?_
    refine wp_jn (fun es => es = [.b (!e.g && e.asid != h.asid)]) ?_ ?_
    rotate_left
    · intro Q1 hQ1
      refine wp_lt (d := .b (!e.g)) (not_e (idx_e rfl rfl hrow rfl)) ?_
      simp only [lv_cons, lv_nil, app_cons, app_nil]
      refine wp_ite rfl (fun h1 => ?_) (fun h1 => ?_)
      · refine wp_lt (e_neq (idx_e rfl rfl hrow rfl) rfl) ?_
        simp only [lv_cons, lv_nil, app_cons, app_nil]
        refine wp_cont rfl rfl (hQ1 _ ?_)
        rw [h1, Bool.true_and]
        congr 2
        rw [Bool.eq_iff_iff, bne_iff_ne, bne_iff_ne]
        omega
      · refine wp_cont rfl rfl (hQ1 _ ?_)
        rw [h1, Bool.false_and]
    rintro es rfl
    simp only [lv_cons, lv_nil, app_cons, app_nil]
    refine wp_ite rfl (fun hsk => ?_) (fun hsk => ?_)
    · refine wp_lt (i_add (a := (n : Int)) (b := 1) rfl rfl (by omega) (by omega)) ?_
      simp only [lv_cons, lv_nil, app_cons, app_nil]
      refine wp_cont rfl rfl (hQ _ ⟨b, n + 1, rfl, by omega, by omega, fun j e' hj he' => ?_⟩)
      by_cases hjn : j = n
      · subst hjn
        rw [he] at he'
        cases he'
        unfold okE
        rw [hsk, Bool.true_or]
      · exact hh j e' (by omega) he'
    have hvpn := hem.vpn
    refine wp_call (evs_cons (evs_one (idx_e rfl rfl hrow rfl)) rfl) (vaOf_con (n := e.vpn) (by omega)) rfl ?_
    simp only [lv_cons, lv_nil, app_cons, app_nil]
    have hva : vaN e.vpn < 18446744073709551616 := signN_lt ..
    have hlook := walkLook_con (k := 2) (s := s) (t := h.ppn) (a := vaN e.vpn) (kd := 1) (.inl rfl) hM hO (by omega) hppn hva (.inr (.inl rfl))
    have hok : okE h.ppn h.asid s cs e = (match lookW s cs h.ppn (vaN e.vpn) with | .leaf l => okL e l | .fault _ => false) := by
      unfold okE
      rw [hsk, Bool.false_or]
      generalize lookW s cs h.ppn (vaN e.vpn) = y
      cases y <;> rfl
    cases hlk : lookW s cs h.ppn (vaN e.vpn) with
    | fault q =>
      rw [hlk] at hlook hok
      simp only [Lk.rs] at hlook
      refine wp_call rfl hlook rfl ?_
      simp only [lv_cons, lv_nil, Pt.ds, Lf.ds, En.ds, Ht.ds, app_cons, app_nil]
      refine wp_jn (fun es => es = [.b true]) ?_ ?_
      rotate_left
      · intro Q1 hQ1
        refine wp_ite (t := true) rfl (fun _ => ?_) (fun h => by cases h)
        exact wp_cont rfl rfl (hQ1 _ rfl)
      rintro es rfl
      simp only [lv_cons, lv_nil, app_cons, app_nil]
      refine wp_ite (t := true) rfl (fun _ => ?_) (fun h => by cases h)
      exact wp_return rfl (bb_eq (hall ws n e he hok).symm)
    | leaf l =>
      rw [hlk] at hlook hok
      simp only [Lk.rs] at hlook
      simp only at hok
      refine wp_call rfl hlook rfl ?_
      simp only [lv_cons, lv_nil, Pt.ds, Lf.ds, En.ds, Ht.ds, app_cons, app_nil]
      have i1 : (((l.lv : Int)) != e.lv) = !(((l.lv : Int)) == e.lv) := rfl
      have i2 : (((l.pt.ppn : Nat) : Int) != ((e.ppn : Nat) : Int)) = !(l.pt.ppn == e.ppn) := by
        rw [Bool.eq_iff_iff]
        simp only [bne_iff_ne, Bool.not_eq_true', beq_eq_false_iff_ne]
        omega
      refine wp_jn (fun es => es = [.b (!okL e l)]) ?_ ?_
      rotate_left
      · intro Q1 hQ1
        refine wp_ite (t := false) rfl (fun h => by cases h) (fun _ => ?_)
        refine wp_lt (e_neq rfl (idx_e rfl rfl hrow rfl)) ?_
        simp only [lv_cons, lv_nil, app_cons, app_nil]
        rw [i1]
        refine wp_ite rfl (fun h1 => ?_) (fun h1 => ?_)
        · have h1 : ((l.lv : Int) == e.lv) = false := by simpa using h1
          exact wp_cont rfl rfl (hQ1 _ (by rw [okL_eq, h1]; rfl))
        have h1 : ((l.lv : Int) == e.lv) = true := by simpa using h1
        refine wp_lt (e_neq rfl (idx_e rfl rfl hrow rfl)) ?_
        simp only [lv_cons, lv_nil, app_cons, app_nil]
        rw [i2]
        refine wp_ite rfl (fun h2 => ?_) (fun h2 => ?_)
        · have h2 : (l.pt.ppn == e.ppn) = false := by simpa using h2
          exact wp_cont rfl rfl (hQ1 _ (by rw [okL_eq, h1, h2]; rfl))
        have h2 : (l.pt.ppn == e.ppn) = true := by simpa using h2
        refine wp_lt (d := .b (!l.pt.a)) rfl ?_
        simp only [lv_cons, lv_nil, app_cons, app_nil]
        refine wp_ite rfl (fun h3 => ?_) (fun h3 => ?_)
        · have h3 : l.pt.a = false := by simpa using h3
          exact wp_cont rfl rfl (hQ1 _ (by rw [okL_eq, h1, h2, h3]; rfl))
        have h3 : l.pt.a = true := by simpa using h3
        refine wp_ite (idx_e rfl rfl hrow rfl) (fun h4 => ?_) (fun h4 => ?_)
        · refine wp_lt (d := .b (!l.pt.d)) rfl ?_
          simp only [lv_cons, lv_nil, app_cons, app_nil]
          refine wp_ite rfl (fun h5 => ?_) (fun h5 => ?_)
          · have h5 : l.pt.d = false := by simpa using h5
            exact wp_cont rfl rfl (hQ1 _ (by rw [okL_eq, h1, h2, h3, h4, h5]; rfl))
          have h5 : l.pt.d = true := by simpa using h5
          refine wp_call rfl (ptePerm_con (p := l.pt)) rfl ?_
          simp only [lv_cons, lv_nil, app_cons, app_nil]
          refine wp_call (az := [P4 e.p1 e.p2 e.p3 e.p4, P4 l.pt.r l.pt.w l.pt.x l.pt.u]) (evs_cons (es_cons (idx_e rfl rfl hrow rfl) (es_cons (idx_e rfl rfl hrow rfl) (es_cons (idx_e rfl rfl hrow rfl) (es_cons (idx_e rfl rfl hrow rfl) rfl)))) rfl) (within_con e.p1 e.p2 e.p3 e.p4 l.pt.r l.pt.w l.pt.x l.pt.u) rfl ?_
          simp only [lv_cons, lv_nil, app_cons, app_nil]
          refine wp_lt (not_e (t := withinF e.p1 e.p2 e.p3 e.p4 l.pt.r l.pt.w l.pt.x l.pt.u) rfl) ?_
          simp only [lv_cons, lv_nil, app_cons, app_nil]
          exact wp_cont rfl rfl (hQ1 _ (by rw [okL_eq, h1, h2, h3, h4, h5]; simp only [Bool.true_and, Bool.not_true, Bool.not_false, Bool.false_or, Bool.true_or]))
        · refine wp_call rfl (ptePerm_con (p := l.pt)) rfl ?_
          simp only [lv_cons, lv_nil, app_cons, app_nil]
          refine wp_call (az := [P4 e.p1 e.p2 e.p3 e.p4, P4 l.pt.r l.pt.w l.pt.x l.pt.u]) (evs_cons (es_cons (idx_e rfl rfl hrow rfl) (es_cons (idx_e rfl rfl hrow rfl) (es_cons (idx_e rfl rfl hrow rfl) (es_cons (idx_e rfl rfl hrow rfl) rfl)))) rfl) (within_con e.p1 e.p2 e.p3 e.p4 l.pt.r l.pt.w l.pt.x l.pt.u) rfl ?_
          simp only [lv_cons, lv_nil, app_cons, app_nil]
          refine wp_lt (not_e (t := withinF e.p1 e.p2 e.p3 e.p4 l.pt.r l.pt.w l.pt.x l.pt.u) rfl) ?_
          simp only [lv_cons, lv_nil, app_cons, app_nil]
          exact wp_cont rfl rfl (hQ1 _ (by rw [okL_eq, h1, h2, h3, h4]; simp only [Bool.true_and, Bool.not_true, Bool.not_false, Bool.false_or, Bool.true_or]))
      rintro es rfl
      simp only [lv_cons, lv_nil, app_cons, app_nil]
      refine wp_ite rfl (fun hA => ?_) (fun hA => ?_)
      · have hA : okL e l = false := by rw [Bool.not_eq_true'] at hA; exact hA
        refine wp_return rfl (bb_eq (hall ws n e he ?_).symm)
        rw [hok, hA]
      have hA : okL e l = true := by rw [Bool.not_eq_false'] at hA; exact hA
      refine wp_lt (i_add (a := (n : Int)) (b := 1) rfl rfl (by omega) (by omega)) ?_
      simp only [lv_cons, lv_nil, app_cons, app_nil]
      refine wp_cont rfl rfl (hQ _ ⟨b, n + 1, rfl, by omega, by omega, fun j e' hj he' => ?_⟩)
      by_cases hjn : j = n
      · subst hjn
        rw [he] at he'
        cases he'
        rw [hok, hA]
      · exact hh j e' (by omega) he'
  · have hc := of_decide_eq_false hc
    obtain rfl : n = ws.length := by omega
    refine wp_return rfl (bb_eq ?_)
    symm
    rw [List.all_eq_true]
    intro e he
    obtain ⟨j, hj, rfl⟩ := List.getElem_of_mem he
    exact hh j _ hj (List.getElem?_eq_getElem hj)
theorem fits16_con {h : Ht} {k s : Nat} {cs : List Cl} (hO : TOk h.ts) (hl : h.ts.length < 9223372036854775808) (hk : Kd k cs) (hs : s < 18446744073709551616) : Cn gAll 9 [h.dv, md k s cs] [bb (decide (h.ts.length ≤ 16) && rightH h && decide (cs.length ≤ 300) && rightM s cs)] := by
  refine con rfl rfl atlaslaw16_fits_c atlaslaw16_fits_p rfl ?_
  unfold atlaslaw16_fits_ir
  simp only [lv_cons, lv_nil, Pt.ds, Lf.ds, En.ds, Ht.ds, app_cons, app_nil]
  refine wp_lt (len_is rfl (List.length_map ..)) ?_
  simp only [lv_cons, lv_nil, app_cons, app_nil]
  refine wp_lt (e_leq rfl rfl) ?_
  simp only [lv_cons, lv_nil, app_cons, app_nil]
  refine wp_ite rfl (fun h1 => ?_) (fun h1 => ?_)
  · have h1 : h.ts.length ≤ 16 := by have := of_decide_eq_true h1; omega
    refine wp_call rfl (refRightH_con hO hl) rfl ?_
    simp only [lv_cons, lv_nil, app_cons, app_nil]
    refine wp_ite rfl (fun h2 => ?_) (fun h2 => ?_)
    · refine wp_call rfl (few_con (k := k) (s := s) (cs := cs)) rfl ?_
      simp only [lv_cons, lv_nil, app_cons, app_nil]
      refine wp_ite rfl (fun h3 => ?_) (fun h3 => ?_)
      · have h3' := of_decide_eq_true h3
        refine wp_call rfl (refRightM_con (s := s) hk hs (by omega)) rfl ?_
        simp only [lv_cons, lv_nil, app_cons, app_nil]
        refine wp_return rfl (bb_eq ?_)
        rw [h2, h3, decide_eq_true h1]
        rfl
      · refine wp_return rfl (bb_eq ?_)
        rw [h2, h3, decide_eq_true h1]
        rfl
    · refine wp_return rfl (bb_eq ?_)
      rw [h2, decide_eq_true h1]
      rfl
  · have h1 : ¬ h.ts.length ≤ 16 := by have := of_decide_eq_false h1; omega
    refine wp_return rfl (bb_eq ?_)
    rw [decide_eq_false h1]
    rfl
abbrev wm : List Cl := [(0, 7), (512, 19)]
abbrev wo : List Cl := [(0, 7), (512, 83)]
abbrev wf : Ht := ⟨[], 0, 0, 0, 1, false, false, 0⟩
abbrev we : En := ⟨true, 1, false, 2, 0, 0, true, false, false, true, false⟩
abbrev wh : Ht := ⟨[⟨we, En.zero, En.zero, En.zero, touN 0 0⟩], 8, 1, 1, 0, false, false, -1⟩
theorem wf_rh : RH wf := ⟨newT_ok (n := 0) (by decide), by decide, .inr rfl⟩
theorem wm_rm : RM 8192 wm := right_rm.1 (by decide)
theorem wm_ok : COk wm := fun c hc => by
  simp only [List.mem_cons, List.not_mem_nil, or_false] at hc
  rcases hc with rfl | rfl <;> decide
theorem ww_1 : accessH wf 8192 wm 1 0 8 0 = (wf, wm, .val 7) := by kernel_rfl
theorem ww_2 : accessH wf 8192 wm 1 1 2 0 = (wf, wm, .fault 1) := by kernel_rfl
theorem ww_3 : accessH wf 8192 wm 0 8192 4 0 = (wf, wm, .fault 2) := by kernel_rfl
theorem ww_4 : accessH wf 8192 wm 2 0 1 9 = (wf, [(0, 9), (512, 19)], .val 0) := by kernel_rfl
theorem ww_5 : accessH ah 8192 wm 1 0 8 0 = (wh, wo, .val 7) := by kernel_rfl
theorem ww_6 : accessH ah 8192 wm 2 0 8 0 = (ah, wm, .fault 3) := by kernel_rfl
theorem ww_7 : accessH ah 8192 wm 1 274877906944 8 0 = (ah, wm, .fault 3) := by kernel_rfl
theorem ww_8 : allT wh.ts = [we] := by kernel_rfl
theorem ww_9 : wordN 8192 wo 4096 = 83 := by kernel_rfl
theorem ww_10 : agreesB wh 8192 wo = true := by kernel_rfl
theorem ww_11 : agreesB wh 8192 wm = false := by kernel_rfl
theorem wh_ok : RH wh ∧ RM 8192 wo ∧ COk wo := by
  have h := acc_ok (h := ah) (s := 8192) (a := 0) (z := 8) (v := 0) (k := 1) (cs := wm) ah_rh wm_rm wm_ok
  rw [ww_5] at h
  exact ⟨h.1, h.2.1, h.2.2.1⟩
theorem accOff_con {a z v : Nat} {k : Int} (ha : a < 18446744073709551616) (hz : Sz z) (hv : v < 18446744073709551616) (hkd : Kn k) : Cn gAll 12 [(true, [.sl 0 [], U 0, U 0, U 0, I 1, .b false, .b false, I 0]), md 2 8192 wm, i k, u a, i z, u v] (accRs (accessH wf 8192 wm k a z v) 8192 k a) := by
  refine con_arg (by decide) (access_H wf_rh wm_rm wm_ok (by decide) ha hz hv hkd) fun I w vs h => ?_
  cases h with
  | cons h1 h => exact .cons (dvr_nil h1) h
theorem awake16_con : Cn gAll 8 [] [bb true] := by
  refine con rfl rfl atlaslaw16_awake_c atlaslaw16_awake_p rfl ?_
  unfold atlaslaw16_awake_ir
  have h1 := accOff_con (k := 1) (a := 0) (z := 8) (v := 0) (by decide) (by simp [Sz]) (by decide) (by simp [Kn])
  have h2 := accOff_con (k := 1) (a := 1) (z := 2) (v := 0) (by decide) (by simp [Sz]) (by decide) (by simp [Kn])
  have h3 := accOff_con (k := 0) (a := 8192) (z := 4) (v := 0) (by decide) (by simp [Sz]) (by decide) (by simp [Kn])
  have h4 := accOff_con (k := 2) (a := 0) (z := 1) (v := 9) (by decide) (by simp [Sz]) (by decide) (by simp [Kn])
  have h5 := access_H (k := 1) (a := 0) (z := 8) (v := 0) ah_rh wm_rm wm_ok (by decide) (by decide) (by simp [Sz]) (by decide) (by simp [Kn])
  have h6 := access_H (k := 2) (a := 0) (z := 8) (v := 0) ah_rh wm_rm wm_ok (by decide) (by decide) (by simp [Sz]) (by decide) (by simp [Kn])
  have h7 := access_H (k := 1) (a := 274877906944) (z := 8) (v := 0) ah_rh wm_rm wm_ok (by decide) (by decide) (by simp [Sz]) (by decide) (by simp [Kn])
  rw [ww_1] at h1
  rw [ww_2] at h2
  rw [ww_3] at h3
  rw [ww_4] at h4
  rw [ww_5] at h5
  rw [ww_6] at h6
  rw [ww_7] at h7
  simp only [accRs, Rs.dv] at h1 h2 h3 h4 h5 h6 h7
  refine wp_call rfl h1 rfl ?_
  simp only [lv_cons, lv_nil, Pt.ds, Lf.ds, En.ds, Ht.ds, app_cons, app_nil]
  refine wp_call rfl h2 rfl ?_
  simp only [lv_cons, lv_nil, Pt.ds, Lf.ds, En.ds, Ht.ds, app_cons, app_nil]
  refine wp_call rfl h3 rfl ?_
  simp only [lv_cons, lv_nil, Pt.ds, Lf.ds, En.ds, Ht.ds, app_cons, app_nil]
  refine wp_call rfl h4 rfl ?_
  simp only [lv_cons, lv_nil, Pt.ds, Lf.ds, En.ds, Ht.ds, app_cons, app_nil]
  refine wp_chk rfl ?_
  refine wp_call rfl h5 rfl ?_
  simp only [lv_cons, lv_nil, Pt.ds, Lf.ds, En.ds, Ht.ds, app_cons, app_nil]
  refine wp_call rfl h6 rfl ?_
  simp only [lv_cons, lv_nil, Pt.ds, Lf.ds, En.ds, Ht.ds, app_cons, app_nil]
  refine wp_call rfl h7 rfl ?_
  simp only [lv_cons, lv_nil, Pt.ds, Lf.ds, En.ds, Ht.ds, app_cons, app_nil]
  refine wp_lt (d := .b true) rfl ?_
  simp only [lv_cons, lv_nil, app_cons, app_nil]
  refine wp_ite (t := true) rfl (fun _ => ?_) (fun h => by cases h)
  refine wp_lt (d := .b true) rfl ?_
  simp only [lv_cons, lv_nil, app_cons, app_nil]
  refine wp_ite (t := true) rfl (fun _ => ?_) (fun h => by cases h)
  refine wp_lt (d := .b true) rfl ?_
  simp only [lv_cons, lv_nil, app_cons, app_nil]
  refine wp_ite (t := true) rfl (fun _ => ?_) (fun h => by cases h)
  refine wp_lt (d := (.b true)) rfl ?_
  simp only [lv_cons, lv_nil, app_cons, app_nil]
  refine wp_ite (t := true) rfl (fun _ => ?_) (fun h => by cases h)
  refine wp_chk rfl ?_
  refine wp_lt (d := .b true) rfl ?_
  simp only [lv_cons, lv_nil, app_cons, app_nil]
  refine wp_ite (t := true) rfl (fun _ => ?_) (fun h => by cases h)
  refine wp_lt (d := .b true) rfl ?_
  simp only [lv_cons, lv_nil, app_cons, app_nil]
  refine wp_ite (t := true) rfl (fun _ => ?_) (fun h => by cases h)
  refine wp_call (az := [tv wh.ts]) rfl (refAll_con (ts := wh.ts) (by decide)) rfl ?_
  rw [ww_8]
  simp only [lv_cons, lv_nil, app_cons, app_nil]
  refine wp_lt (d := I 1) rfl ?_
  simp only [lv_cons, lv_nil, app_cons, app_nil]
  refine wp_lt (d := .b true) rfl ?_
  simp only [lv_cons, lv_nil, app_cons, app_nil]
  refine wp_ite (t := true) rfl (fun _ => ?_) (fun h => by cases h)
  refine wp_call (az := [md 2 8192 wo, u 4096]) rfl (refWord_con (s := 8192) (a := 4096) (cs := wo) (.inl rfl) wh_ok.2.1.asc (by decide) (by decide)) rfl ?_
  rw [ww_9]
  simp only [lv_cons, lv_nil, app_cons, app_nil]
  refine wp_lt (d := .b true) rfl ?_
  simp only [lv_cons, lv_nil, app_cons, app_nil]
  refine wp_ite (t := true) rfl (fun _ => ?_) (fun h => by cases h)
  refine wp_lt (d := .b true) rfl ?_
  simp only [lv_cons, lv_nil, app_cons, app_nil]
  refine wp_ite (t := true) rfl (fun _ => ?_) (fun h => by cases h)
  refine wp_lt (d := .b true) rfl ?_
  simp only [lv_cons, lv_nil, app_cons, app_nil]
  refine wp_ite (t := true) rfl (fun _ => ?_) (fun h => by cases h)
  refine wp_call (az := [wh.dv]) rfl (hartRight_con wh_ok.1) rfl ?_
  simp only [lv_cons, lv_nil, app_cons, app_nil]
  refine wp_ite (t := true) rfl (fun _ => ?_) (fun h => by cases h)
  have g1 := hartAgrees_con wh_ok.1 wh_ok.2.1 wh_ok.2.2 (by decide)
  have g2 := hartAgrees_con wh_ok.1 wm_rm wm_ok (by decide)
  rw [ww_10] at g1
  rw [ww_11] at g2
  refine wp_call (az := [wh.dv, md 2 8192 wo]) rfl g1 rfl ?_
  simp only [lv_cons, lv_nil, app_cons, app_nil]
  refine wp_ite (t := true) rfl (fun _ => ?_) (fun h => by cases h)
  refine wp_call (az := [wh.dv, md 2 8192 wm]) rfl g2 rfl ?_
  simp only [lv_cons, lv_nil, app_cons, app_nil]
  refine wp_chk rfl ?_
  refine wp_lt (d := (.b true)) rfl ?_
  simp only [lv_cons, lv_nil, app_cons, app_nil]
  refine wp_ite (t := true) rfl (fun _ => ?_) (fun h => by cases h)
  refine wp_call (az := [ah.dv, i 2]) rfl (way_con (h := ah) (k := 2)) rfl ?_
  simp only [lv_cons, lv_nil, app_cons, app_nil]
  refine wp_chk rfl ?_
  refine wp_chk rfl ?_
  refine wp_chk rfl ?_
  refine wp_chk rfl ?_
  refine wp_lt (d := .b true) rfl ?_
  simp only [lv_cons, lv_nil, app_cons, app_nil]
  exact wp_return rfl rfl
end Go.Proofs.YtmmppghdnoeheaaGreatDoor.Sx
