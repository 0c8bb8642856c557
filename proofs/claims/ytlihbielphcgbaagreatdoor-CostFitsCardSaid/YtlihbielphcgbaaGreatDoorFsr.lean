/-
  flat.Step: its contract, out of the deed's.
-/
import Derived.Test.YtlihbielphcgbaaGreatDoorFsq
namespace Go.Proofs.YtlihbielphcgbaaGreatDoor.Sx
open Go Go.Shelf Go.RowKit Go.Lib Go.Maps
set_option linter.unusedVariables false
set_option linter.unusedSimpArgs false
set_option maxRecDepth 1000000

/-! ### the whole -/
noncomputable def stF : Func := Tryz.f17
noncomputable def envSt : Env := { P := Tryz.prog, G := gAll, inl := [], unr := [] }
/-- what goes on behind the map: the deed is g, or there is none -/
noncomputable def stK (g : Option FuncId) : K := fun e s => match e with
  | .normal => match s.fr.getD 3 .x, s.h[1]? with
    | .val false [.p (.loc 1) 0], some blk => match blk.ls with
      | .e (.v 13) :: _ => if s.q = 0 ∧ s.o = [] then
          exec envSt 3000 17 (.code stR) { s with fr := ((forgetFr [9, 10, 6, 12, 13, 14, 15, 11, 16, 17] s.fr).set 7 (match g with | some g => .val false [.e (.c (.f g))] | none => .x)).set 8 (.val false [.e (.c (.b g.isSome))]) } (retGo envSt stF)
        else .no "deeds: state"
      | _ => .no "deeds: the kind"
    | _, _ => .no "deeds: slots"
  | _ => .no "deeds: a way out"
def shFO : Shape := [(true, 13), (true, 12)]
noncomputable def stI (g : Option FuncId) : Res := exec envSt 3000 17 (.ops stO0.toList stO0.toList) { fr := shapeVars 0 shFO ++ List.replicate 26 .x, h := [], o := [], nv := 25, lv := 0 } (stK g)
def irS (g : FuncId) : IR := .call g [(true, (List.range 13).map .v), (true, (List.range 12).map fun j => .v (13 + j))] [(true, 13), (true, 6)] (.ret [(true, (List.range 13).map fun j => .v (25 + j)), (true, (List.range 6).map fun j => .v (38 + j))])
theorem stI_create : stI (some 31) = .ok (irS 31) := by kernel_rfl
theorem stI_destroy : stI (some 32) = .ok (irS 32) := by kernel_rfl
theorem stI_change : stI (some 33) = .ok (irS 33) := by kernel_rfl
theorem stI_lay : stI (some 34) = .ok (irS 34) := by kernel_rfl
theorem stI_lift : stI (some 35) = .ok (irS 35) := by kernel_rfl
theorem stI_guard : stI (some 36) = .ok (irS 36) := by kernel_rfl
theorem stI_access : stI (some 37) = .ok (irS 37) := by kernel_rfl
theorem stI_set : stI (some 38) = .ok (irS 38) := by kernel_rfl
def irN : IR := .ret [(true, (List.range 13).map .v), (true, [.c (.i .i64 0), .c (.i .i64 0), .c (.i .u64 0), .c (.b false), .c (.i .i64 0), .c (.i .u64 0)])]
theorem stI_none : stI none = .ok irN := by kernel_rfl
theorem has_deed (k : Int) : Maps.has mapF (.int .i64 k) = (deedOf k).isSome := by
  unfold deedOf
  split
  · rfl
  · rfl
  · rfl
  · rfl
  · rfl
  · rfl
  · rfl
  · rfl
  · rename_i h0 h1 h2 h3 h4 h5 h6 h7
    have ne : ∀ j : Int, (k = j → False) → (Lit.int .i64 k) ≠ .int .i64 j := fun j h e => h (by injection e)
    unfold mapF putF
    rw [has_put_other (ne _ h7), has_put_other (ne _ h6), has_put_other (ne _ h5), has_put_other (ne _ h4), has_put_other (ne _ h3), has_put_other (ne _ h2), has_put_other (ne _ h1), has_put_other (ne _ h0)]
    rfl
theorem at_deed {k : Int} {g : FuncId} (h : deedOf k = some g) : mapF.atKey (.int .i64 k) (.lit (.bool false)) = litF g := by
  unfold deedOf at h
  split at h
  all_goals (first | (cases h; rfl) | cases h)
theorem forget_len : ∀ (l : List Nat) (fr : List S), (forgetFr l fr).length = fr.length
  | [], fr => rfl
  | t :: r, fr => by unfold forgetFr; rw [forget_len r, List.length_set]
theorem forget_at {t : Nat} : ∀ {l : List Nat} {fr : List S}, (forgetFr l fr).getD t .x = if t ∈ l then .x else fr.getD t .x
  | [], fr => by simp [forgetFr]
  | u :: r, fr => by
    unfold forgetFr
    rw [forget_at]
    by_cases h : t ∈ r
    · simp [h]
    · by_cases e : t = u
      · subst e
        simp only [h, if_false, List.mem_cons, true_or, if_true]
        rw [List.getD_eq_getElem?_getD, List.getElem?_set]
        split
        · split <;> rfl
        · rename_i hne; exact absurd rfl hne
      · have : t ∉ u :: r := by simp [h, e]
        rw [if_neg h, if_neg this, List.getD_eq_getElem?_getD, List.getElem?_set_ne (Ne.symm e), ← List.getD_eq_getElem?_getD]
/-- THE CONTRACT, in general. -/
theorem step_gen {k : Int} {fd od : List D} {rs : List DV} {ir : IR} (hk : wfI k) (hfd : fd.length = 13) (hod : od.length = 12) (h0 : od[0]? = some (.i .i64 k)) (hI : stI (deedOf k) = .ok ir) (hw : IR.wp (Cn gAll) (fun r => r = rs) ir [] (fd ++ od)) :
    Cn gAll 17 [(true, fd), (true, od)] rs := by
  refine con_plain (by decide) ?_
  intro I w vs hG hI0 hargs
  have hbody : stF.body = some stC := by kernel_rfl
  have hnt : stF.ntmps = 28 := by kernel_rfl
  have hlv : leavesOf [((true, fd) : DV), (true, od)] = fd ++ od := by simp [leavesOf]
  have hsh : shapeOf [((true, fd) : DV), (true, od)] = shFO := by simp [shapeOf, hfd, hod, shFO]
  refine (callsIn_wide (n := 0)).1 (callsIn_of_wp (F := Rd none) (fn := stF) (c := stC) Tryz.func17 hbody trivial ?_)
  have hvr := shapeVs_sound (I := I) (w := w) (μ := ⟨fun _ => none, fun _ => none⟩) (env := fd ++ od) (k := 0) (rs := [((true, fd) : DV), (true, od)]) (fun i d hd => by rw [Nat.zero_add, ← hlv]; exact hd) hargs
  rw [hsh] at hvr
  obtain ⟨u1, u2, rfl⟩ : ∃ u1 u2, vs = [u1, u2] := by
    have := hargs.length
    match vs, this with
    | [a, b], _ => exact ⟨a, b, rfl⟩
  obtain ⟨a0, ha0⟩ : ∃ a0 : Act, a0 = { tmps := [u1, u2].toArray ++ Array.replicate (stF.ntmps - [u1, u2].toArray.size) undef, defers := [] } := ⟨_, rfl⟩
  rw [← ha0]
  have hsz0 : a0.tmps.size = 28 := by rw [ha0, hnt]; simp
  have hfr : FR I ⟨fun _ => none, fun _ => none⟩ w (fd ++ od) (shapeVars 0 shFO ++ List.replicate 26 .x) a0 := by
    have hsv : All2 (SR I ⟨fun _ => none, fun _ => none⟩ w (fd ++ od)) (shapeVars 0 shFO) [u1, u2] := by
      rw [shapeVars_map]
      exact All2.map_left hvr
    have hl := hsv.length
    refine ⟨by rw [hsz0]; simp [hl], fun t => ?_⟩
    by_cases ht : t < (shapeVars 0 shFO).length
    · obtain ⟨u, hu, hr⟩ := hsv.get (List.getElem?_eq_getElem ht)
      have ht' : t < [u1, u2].length := by omega
      rw [List.getD_eq_getElem?_getD, List.getElem?_append_left ht, List.getElem?_eq_getElem ht]
      have : a0.tmps.getD t undef = u := by
        rw [ha0, Array.getD_eq_getD_getElem?, Array.getElem?_append_left (by simpa using ht')]
        simp only [List.getElem?_toArray]
        rw [hu]
        rfl
      rw [this]
      exact hr
    · have : (shapeVars 0 shFO ++ List.replicate 26 S.x).getD t .x = .x := by
        rw [List.getD_eq_getElem?_getD, List.getElem?_append_right (by omega), List.getElem?_replicate]
        split <;> rfl
      rw [this]
      trivial
  have hwr : WR gAll w.heap.size I w I ⟨fun _ => none, fun _ => none⟩ w (fd ++ od) [] :=
    ⟨(fun b x h => by cases h), (fun b b' x h => by cases h), hG, fun _ _ => rfl, Nat.le_refl _, hI0, fun x hx => .inl hx, ⟨rfl, rfl⟩⟩
  have hnv : (fd ++ od).length = 25 := by rw [List.length_append, hfd, hod]
  have hM : ∀ (f : FuncId) (az rs : List DV), Cn gAll f az rs → ConX envSt.P envSt.G f az rs := fun _ _ _ h => h
  have hnd0 : ∀ o ∈ stO0.toList, noDefer o = true := List.all_eq_true.1 (by kernel_rfl)
  have hnd1 : ∀ o ∈ stO1.toList, noDefer o = true := List.all_eq_true.1 (by kernel_rfl)
  have hnd2 : ∀ o ∈ stO2.toList, noDefer o = true := List.all_eq_true.1 (by kernel_rfl)
  unfold stI at hI
  obtain ⟨Q1, hQ1⟩ : ∃ Q1 : Exit → Act → World → Prop, Q1 = fun e a' w' => e = .normal ∧ ∃ (s : St) (ir' : IR) (L' : List Lp) (ρ' : List D) (I' : Imm) (μ' : Mu), stK (deedOf k) .normal s = .ok ir' ∧ IR.wp (Cn gAll) (fun r => r = rs) ir' L' ρ' ∧ fd ++ od <+: ρ' ∧ StR none gAll w.heap.size I w s L' ρ' I' μ' w' a' ∧ Evo I ⟨fun _ => none, fun _ => none⟩ w I' μ' w' := ⟨_, rfl⟩
  have hno : ∀ e a w, e ≠ .normal → ¬ Q1 e a w := fun e a w he h => by rw [hQ1] at h; exact he h.1
  have hst1 := (exec_sound (C := Cn gAll) (E := envSt) (R := fun r => r = rs) (B := w.heap.size) (I₀ := I) (w₀ := w) hM 3000).2.2.2.1 none 17 stO0.toList stO0.toList _ _ ir [] (fd ++ od) I ⟨fun _ => none, fun _ => none⟩ w a0 Q1 hI hw ⟨hfr, hwr, OwnR.nil fun _ => rfl, hnv, rfl, by rw [ha0]; exact DfR.zero⟩ (by
    intro e s ir' L' ρ' I' μ' w' a' h1 h2 h3 h4 h5 h6
    cases e with
    | normal => rw [hQ1]; exact ⟨rfl, s, ir', L', ρ', I', μ', h1, h2, h4, h5, h6⟩
    | ret => cases h1
    | exit id => cases h1
    | goto l => cases h1)
  have hk1 := list_keep (ts := stO0.toList.filterMap (·.dst)) (n := 28) (f := fun t => a0.tmps.getD t undef) hno (fun o ho t ht => List.mem_filterMap.2 ⟨o, ho, ht⟩) hsz0 (fun _ _ => rfl) hst1
  rw [Array.toArray_toList] at hk1
  rw [stC_eq]
  refine wpIn_seq (wpIn_mono (wpIn_region_list (list_in hnd0 hk1)) fun e a1 w1 hq => ?_)
  obtain ⟨hq1, hsz1, _⟩ := hq
  rw [hQ1] at hq1
  obtain ⟨rfl, s, ir1, L1, ρ1, I1, μ1, h1, h2, h3, h4, h5⟩ := hq1
  show (Code.seq (.region 1 stO1 false) (.seq (.region 2 stO2 false) stR)).wpIn (Rd none) 0 Tryz.prog _ a1 w1
  unfold stK at h1
  simp only at h1
  split at h1
  case h_2 => cases h1
  rename_i _ _ blk hs3 hb1
  split at h1
  case h_2 => cases h1
  rename_i _ rest hls
  split at h1
  case isFalse => cases h1
  rename_i hqo
  obtain ⟨hq0, ho0⟩ := hqo
  -- the block of the operation
  have hp3 := h4.fr.at_ 3
  rw [hs3] at hp3
  obtain ⟨l, hl, x1, hμ, hp3⟩ : ∃ l, [SL.p (.loc 1) 0] = [l] ∧ ∃ x, μ1 1 = some x ∧ a1.tmps.getD 3 undef = .pointer (some ⟨x, 0, none⟩) := by
    obtain ⟨l, hl, hlr⟩ := hp3
    obtain rfl : l = .p (.loc 1) 0 := by simpa using hl.symm
    obtain ⟨x, hx, hv⟩ := hlr
    exact ⟨_, rfl, x, hx, hv⟩
  obtain ⟨blk', hb', vs, ty, hheap, hlr, _⟩ := h4.wr.blk 1 x1 hμ
  rw [hb1] at hb'
  cases hb'
  rw [hls] at hlr
  have hcell : w1.cell? ⟨x1, 0, none⟩ = some (.int .i64 k) := by
    cases hlr with
    | cons c1 c2 =>
      obtain ⟨d, hd, hdr⟩ := c1
      have : ρ1[13]? = some (.i .i64 k) := by
        refine pre_get h3 ?_
        rw [List.getElem?_append_right (by omega), hfd]
        exact h0
      simp only [Ex.eval] at hd
      rw [this] at hd
      cases hd
      rw [cell_of_row w1 x1 0 _ ty (0, 0) hheap, hdr.i_inv]
      rfl
  have hx1 : x1 < w1.heap.size := (Array.getElem?_eq_some_iff.1 hheap).1
  obtain ⟨Q2, hQ2⟩ : ∃ Q2 : Exit → Act → World → Prop, Q2 = fun e a' w' => e = .normal ∧ ∃ v, a'.tmps.size = 28 ∧ a'.defers = a1.defers ∧ (∀ t, t ∉ [9, 10, 6, 12, 13, 14, 15, 11, 16, 17, 7, 8] → a'.tmps.getD t undef = a1.tmps.getD t undef) ∧ a'.tmps.getD 7 undef = v ∧ a'.tmps.getD 8 undef = .bool (Maps.has mapF (.int .i64 k)) ∧ (∃ ps, fnR v = some (mapF.atKey (.int .i64 k) (.lit (.bool false)), ps)) ∧ Gr w1 w' none := ⟨_, rfl⟩
  have hdr := deeds_run hk hp3 hx1 hcell hsz1 (Q := Q2) (fun a' w' v g1 g2 g3 g4 g5 g6 g7 => by rw [hQ2]; exact ⟨rfl, v, g1, g2, g3, g4, g5, g6, g7⟩)
  refine wpIn_seq (wpIn_mono (wpIn_region_list (list_in hnd1 hdr)) fun e a2 w2 hq => ?_)
  cases e with
  | normal =>
    refine wpIn_seq (wpIn_mono (wpIn_region_list (list_in hnd2 hq)) fun e a3 w3 hq => ?_)
    rw [hQ2] at hq
    obtain ⟨rfl, v, hsz3, hdf3, hkeep, h7, h8, ⟨ps, hfn⟩, hgr⟩ := hq
    show stR.wpIn (Rd none) 0 Tryz.prog _ a3 w3
    obtain ⟨hwr3, he3⟩ := h4.wr.other (μ' := μ1) hgr (fun x hx => by cases hx) rfl (fun _ _ h => h)
    have hlen : s.fr.length = 28 := h4.fr.len.trans hsz1
    have hfr3 : FR I1 μ1 w3 ρ1 (((forgetFr [9, 10, 6, 12, 13, 14, 15, 11, 16, 17] s.fr).set 7 (match deedOf k with | some g => .val false [.e (.c (.f g))] | none => .x)).set 8 (.val false [.e (.c (.b (deedOf k).isSome))])) a3 := by
      refine ⟨by rw [List.length_set, List.length_set, forget_len, hlen, hsz3], fun t => ?_⟩
      by_cases t8 : t = 8
      · subst t8
        rw [List.getD_eq_getElem?_getD, List.getElem?_set_self (by rw [List.length_set, forget_len, hlen]; decide), h8, has_deed]
        exact ⟨_, rfl, .b _, rfl, .b _⟩
      · rw [List.getD_eq_getElem?_getD, List.getElem?_set_ne (Ne.symm t8)]
        by_cases t7 : t = 7
        · subst t7
          rw [List.getElem?_set_self (by rw [forget_len, hlen]; decide), h7]
          cases hg : deedOf k with
          | none => trivial
          | some g =>
            rw [at_deed hg] at hfn
            rw [fnR_inv hfn]
            exact ⟨_, rfl, .f g, rfl, .f g⟩
        · rw [List.getElem?_set_ne (Ne.symm t7), ← List.getD_eq_getElem?_getD, forget_at]
          split
          · trivial
          · rename_i hm
            rw [hkeep t (by
              simp only [List.mem_cons, List.not_mem_nil, or_false, not_or] at hm ⊢
              exact ⟨hm.1, hm.2.1, hm.2.2.1, hm.2.2.2.1, hm.2.2.2.2.1, hm.2.2.2.2.2.1, hm.2.2.2.2.2.2.1, hm.2.2.2.2.2.2.2.1, hm.2.2.2.2.2.2.2.2.1, hm.2.2.2.2.2.2.2.2.2, t7, t8⟩)]
            exact (h4.fr.at_ t).mono he3 (List.prefix_refl _)
    have hst3 : StR none gAll w.heap.size I w { s with fr := ((forgetFr [9, 10, 6, 12, 13, 14, 15, 11, 16, 17] s.fr).set 7 (match deedOf k with | some g => .val false [.e (.c (.f g))] | none => .x)).set 8 (.val false [.e (.c (.b (deedOf k).isSome))]) } L1 ρ1 I1 μ1 w3 a3 := by
      refine ⟨hfr3, hwr3, ?_, h4.nv, h4.lv, ?_⟩
      · show OwnR _ _ _ _ _ s.o
        rw [ho0]
        refine OwnR.nil fun k => h4.own.new k ?_
        rw [ho0]
        exact Nat.zero_le _
      · show DfR none _ _ _ s.q _
        rw [hq0, hdf3, h4.df.low (by omega)]
        exact DfR.zero
    refine (exec_sound (C := Cn gAll) (E := envSt) (R := fun r => r = rs) (B := w.heap.size) (I₀ := I) (w₀ := w) hM 3000).1 none 17 stR _ (retGo envSt stF) ir1 L1 ρ1 I1 μ1 w3 a3 _ h1 h2 hst3 ?_
    intro e s2 ir3 L3 ρ3 I3 μ3 w4 a4 g1 g2 g3 g4 g5 g6
    obtain ⟨he, hdf, u, I4, rs', hres, hI4, hI40, hI4s, hR, hRs⟩ := ret_data g1 g2 g5
    subst hR
    have hfin : ∃ v I', Ending.returned u = .returned v ∧ (∀ x, I x → I' x) ∧ (∀ x, I' x → I x ∨ w.heap.size ≤ x) ∧ (∀ x, I' x → x < w4.heap.size) ∧ (∀ x, x < w.heap.size → w4.heap[x]? = w.heap[x]?) ∧ w.heap.size ≤ w4.heap.size ∧ (w4.os = w.os ∧ w4.output = w.output) ∧ RsR I' w4 rs' v :=
      ⟨u, I4, rfl, fun x hx => hI4 x (g6.imm x (h5.imm x hx)), hI40, hI4s, g5.wr.old, g5.wr.size, g5.wr.wd, hRs⟩
    rcases he with rfl | rfl
    · exact ⟨hdf, u, hres, hfin⟩
    · exact ⟨hdf, u, hres, hfin⟩
  | _ => exact hq.elim
end Go.Proofs.YtlihbielphcgbaaGreatDoor.Sx
