/-
  The soundness of the executor: all in one; a function's contract out of its IR.
-/
import Derived.Test.YtffahdloddkcfaaJoin
import Derived.Scope
namespace Go.Proofs.Ytffahdloddkcfaa.Sx
open Go
set_option linter.unnecessarySimpa false
set_option linter.unusedSimpArgs false
set_option linter.unusedVariables false

section
variable {C : Con} {R : List DV → Prop} {E : Env} {B : Nat} {I₀ : Imm} {w₀ : World}

theorem region_inner {n : Nat} (hM : ∀ f as rs, C f as rs → ConX E.P E.G f as rs) (hO : SOps C R B I₀ w₀ E n) {me : FuncId} {id : Nat} {ops : Array Oper} {draw : Bool} {st : St} {k : K} {ir : IR} {L : List Lp} {ρ : List D} {I : Imm} {μ : Mu} {w : World} {a : Act}
    {Q : Exit → Act → World → Prop} (hx : (if draw = true then drawn E (dexec E n) (exec E n me) ops.toList st k else exec E n me (.ops ops.toList ops.toList) st k) = .ok ir)
    (hw : IR.wp C R ir L ρ) (hs : StR E.G B I₀ w₀ st L ρ I μ w a) (hk : Post C R E.G B I₀ w₀ k L ρ I μ w Q) : (Code.region id ops draw).wp E.P Q a w := by
  split at hx
  · rename_i hd
    subst hd
    unfold drawn at hx
    dsimp only at hx
    generalize hm : sufAt ops.toList.length (ancL ops.toList []) ops.toList.length = m at hx
    split at hx
    · rename_i hc
      simp only [Bool.and_eq_true] at hc
      obtain ⟨⟨⟨hc1, hc2⟩, hc3⟩, hc4⟩ := hc
      have hord : ∀ (j : Nat) (o : Oper), ops.toList[j]? = some o → ∀ e ∈ bindsOn o, e < j := by
        intro j o ho e he
        have hj := (List.getElem?_eq_some_iff.1 ho).1
        have := List.all_eq_true.1 hc4 j (List.mem_range.2 hj)
        rw [ho] at this
        simpa using List.all_eq_true.1 this e he
      have hsplit : ops.toList.take m ++ ops.toList.drop m = ops.toList := List.take_append_drop ..
      obtain ⟨lg2, frE, hE, ρE, ir', hpre, hpath, hlog, hk', hw'⟩ := path_of (C := C) (R := R) (E := E) (ops.toList.take m) n [] (ops.toList.take m) st _ ir L ρ hx hw hs.nv
      have hev := Evo.refl I μ w
      have h0 := any_sound0 (Q := fun e a w => match e with | .normal => wpList E.P ops.toList.toArray Q (ops.toList.drop m) a w | _ => False) (B := B) (I₀ := I₀) (w₀ := w₀) hM hc2 hpath (by simpa using hlog) (hs.fr.mono hev hpre) (hs.wr.vars hpre) (hs.own.vars hpre)
        (fun I' μ' w' a' h1 h2 h3 h4 => by
          exact hO me ops.toList (ops.toList.drop m) _ k ir' L ρE I' μ' w' a' Q hk' hw' ⟨h1, h2, h3, rfl, hs.lv⟩ (hk.mono (List.prefix_refl _) hpre h4))
      refine wp_region_any hc1 ?_
      have h1 := wpAny_split (P := E.P) (Q := Q) (pre := ops.toList.take m) (post := ops.toList.drop m) (by rw [hsplit]; exact hord)
        (fun j o ho g b hg => by
          have h2 := (drawB_sound hc2).e3 j o g b ho hg
          have h3 := (drawB_sound hc2).e1 j o ho g h2.1
          have h4 := (List.getElem?_eq_some_iff.1 ho).1
          omega)
        (fun j o hj ho Lst hcl hb i hi => by
          rw [hsplit] at ho hcl
          have hjl := (List.getElem?_eq_some_iff.1 ho).1
          have h2 := List.all_eq_true.1 hc3 j (List.mem_range.2 hjl)
          have hmj : m ≤ j := by
            rw [List.length_take] at hj
            omega
          rw [if_pos hmj] at h2
          have h3 := List.all_eq_true.1 h2 i (List.mem_range.2 hi)
          exact ancL_sound hcl ops.toList [] [] rfl rfl (fun j o h => by simp at h) hord j o ho hb i (by simpa using h3))
        (ops.toList.take m).toArray.size (Array.replicate (ops.toList.take m).toArray.size false) (Array.replicate ops.toList.length false) a { w with drawn := w.drawn + 1 } (by simp) (by rw [hsplit]; simp)
        (fun j hj => by
          have hjl : j < ops.toList.length := by rw [List.length_take] at hj; omega
          simp only [Array.getD_eq_getD_getElem?, Array.getElem?_replicate, List.size_toArray]
          rw [if_pos hjl, if_pos hj])
        (fun j hj => by
          simp only [Array.getD_eq_getD_getElem?, Array.getElem?_replicate]
          split <;> rfl)
        (fun i p hp hl => by
          exfalso
          simp only [Array.getD_eq_getD_getElem?, Array.getElem?_replicate] at hl
          split at hl <;> cases hl)
        (by rw [hsplit]; exact h0)
      rw [hsplit] at h1
      have hlen : (ops.toList.take m).toArray.size + (ops.toList.drop m).length = ops.size := by
        simp only [List.size_toArray, ← List.length_append, hsplit, Array.length_toList]
      rw [hlen] at h1
      simpa only [Array.toArray_toList, Array.length_toList] using h1
    · cases hx
  · rename_i hd
    have hd : draw = false := by simpa using hd
    subst hd
    have := hO me ops.toList ops.toList st k ir L ρ I μ w a Q hx hw hs hk
    refine wp_region_list ?_
    simpa using this

theorem code_step {n : Nat} (hM : ∀ f as rs, C f as rs → ConX E.P E.G f as rs) (hC : SCode C R B I₀ w₀ E n) (hL : SLoop C R B I₀ w₀ E (n + 1)) (hG : SGen C R B I₀ w₀ E n) (hO : SOps C R B I₀ w₀ E n) : SCode C R B I₀ w₀ E (n + 1) := by
  intro me c st k ir L ρ I μ w a Q hx hw hs hk
  cases c with
  | skip => simp only [exec] at hx; exact wp_skip (hk .normal st ir L ρ I μ w a hx hw (List.prefix_refl _) (List.prefix_refl _) hs (Evo.refl _ _ _))
  | ret => simp only [exec] at hx; exact wp_ret (hk .ret st ir L ρ I μ w a hx hw (List.prefix_refl _) (List.prefix_refl _) hs (Evo.refl _ _ _))
  | exit id => simp only [exec] at hx; exact wp_exit (hk (.exit id) st ir L ρ I μ w a hx hw (List.prefix_refl _) (List.prefix_refl _) hs (Evo.refl _ _ _))
  | seq x y =>
    simp only [exec] at hx
    refine wp_seq (hC me x st _ ir L ρ I μ w a _ hx hw hs ?_)
    intro e s ir' L' ρ' I' μ' w' a' h1 h2 h3 h4 h5 h6
    cases e with
    | normal => exact hC me y s k ir' L' ρ' I' μ' w' a' Q h1 h2 h5 (hk.mono h3 h4 h6)
    | exit id => exact hk (.exit id) s ir' L' ρ' I' μ' w' a' h1 h2 h3 h4 h5 h6
    | ret => exact hk .ret s ir' L' ρ' I' μ' w' a' h1 h2 h3 h4 h5 h6
  | block id x =>
    simp only [exec] at hx
    refine wp_block (hC me x st _ ir L ρ I μ w a _ hx hw hs ?_)
    intro e s ir' L' ρ' I' μ' w' a' h1 h2 h3 h4 h5 h6
    cases e with
    | normal => exact hk .normal s ir' L' ρ' I' μ' w' a' h1 h2 h3 h4 h5 h6
    | exit id' =>
      simp only at h1
      simp only [xit, Exit.inBlock]
      by_cases hid : id' = id
      · rw [if_pos hid] at h1 ⊢
        exact hk .normal s ir' L' ρ' I' μ' w' a' h1 h2 h3 h4 h5 h6
      · rw [if_neg hid] at h1 ⊢
        exact hk (.exit id') s ir' L' ρ' I' μ' w' a' h1 h2 h3 h4 h5 h6
    | ret => exact hk .ret s ir' L' ρ' I' μ' w' a' h1 h2 h3 h4 h5 h6
  | cond q x y =>
    simp only [exec] at hx
    split at hx
    · rename_i t ht
      obtain ⟨d, hd, hr⟩ := e?_sound ht (opd_sound hs.fr q)
      split at hx
      · rename_i hb
        have := bool?_eval (ρ := ρ) hb
        rw [hd] at this
        cases this
        exact wp_cond_true hr.b_inv (hC me x st k ir L ρ I μ w a Q hx hw hs hk)
      · rename_i hb
        have := bool?_eval (ρ := ρ) hb
        rw [hd] at this
        cases this
        exact wp_cond_false hr.b_inv (hC me y st k ir L ρ I μ w a Q hx hw hs hk)
      · obtain ⟨irx, iry, h1, h2, rfl⟩ := both_ok hx
        · obtain ⟨tb, htb, hwx, hwy⟩ := hw
          rw [hd] at htb
          cases htb
          cases tb
          · exact wp_cond_false hr.b_inv (hC me y st k iry L ρ I μ w a Q h2 (hwy rfl) hs hk)
          · exact wp_cond_true hr.b_inv (hC me x st k irx L ρ I μ w a Q h1 (hwx rfl) hs hk)
    · cases hx
  | loop b =>
    by_cases hu : E.unr.contains me = true
    · exact wp_loop_LW (hL me b st k ir L ρ I μ w a Q hu hx hw hs hk)
    · simp only [exec] at hx
      rw [if_neg hu] at hx
      exact wp_loop_LW (hG me b _ _ st k ir L ρ I μ w a Q hx hw hs hk)
  | region id ops draw =>
    simp only [exec] at hx
    split at hx
    · rename_i hc
      simp only [Bool.and_eq_true, List.isEmpty_iff] at hc
      split at hx
      · rename_i main hmain
        split at hx
        · rename_i body hbody
          cases hx
          have hw' : IR.wp C R main (L ++ [fun es => IR.wp C R body L (ρ ++ es)]) ρ := hw
          refine region_inner hM hO (st := { st with lv := st.lv + 1 }) hmain hw' ⟨hs.fr, hs.wr, hs.own, hs.nv, by simp [hs.lv]⟩ ?_
          intro e s ir' L' ρ' I' μ' w' a' h1 h2 h3 h4 h5 h6
          cases e with
          | exit id' => exact hk (.exit id') s ir' L' ρ' I' μ' w' a' h1 h2 ((pre_append _ _).trans h3) h4 h5 h6
          | ret => exact hk .ret s ir' L' ρ' I' μ' w' a' h1 h2 ((pre_append _ _).trans h3) h4 h5 h6
          | normal =>
            simp only at h1
            split at h1
            · rename_i hcc
              simp only [Bool.and_eq_true, List.isEmpty_iff] at hcc
              split at h1
              · rename_i vs hvs
                cases h1
                obtain ⟨Pn, dd, hPn, hdd, hP⟩ := h2
                rw [← hs.lv, prefix_get h3] at hPn
                cases hPn
                obtain ⟨μ3, hs3, he3⟩ := join_lands hs h5 h6 h4 hc.2 hvs hdd hcc.1.2 hcc.2
                exact hk .normal _ body L (ρ ++ dd) I' μ3 w' a' hbody hP (List.prefix_refl _) (pre_append _ _) hs3 he3
              · cases h1
            · cases h1
        · rename_i r hr
          exact absurd hx (hr _)
      · rename_i r hr
        exact absurd hx (hr _)
    · cases draw with
      | false => exact region_inner hM hO (draw := false) (by simpa using hx) hw hs hk
      | true =>
        obtain ⟨I2, hs2, he2⟩ := prep_sound (readIds st.fr ops.toList) hs
        exact region_inner hM hO (draw := true) (st := prepSt (readIds st.fr ops.toList) st) (by simpa using hx) hw hs2 (hk.mono (List.prefix_refl _) (List.prefix_refl _) he2)
  | rangeFunc f ps x y => simp only [exec] at hx; cases hx
  | scope x =>
    simp only [exec] at hx
    refine wp_scope_straight (hC me x st k ir L ρ I μ w a _ hx hw hs ?_)
    intro e s ir' L' ρ' I' μ' w' a' h1 h2 h3 h4 h5 h6
    have := hk e s ir' L' ρ' I' μ' w' a' h1 h2 h3 h4 h5 h6
    cases e <;> exact this
  | label l => simp only [exec] at hx; exact wp_label (hk .normal st ir L ρ I μ w a hx hw (List.prefix_refl _) (List.prefix_refl _) hs (Evo.refl _ _ _))
  | goto l => simp only [exec] at hx; cases hx
  | refuse s => simp only [exec] at hx; cases hx

theorem exec_sound (hM : ∀ f as rs, C f as rs → ConX E.P E.G f as rs) : ∀ n, SCode C R B I₀ w₀ E n ∧ SLoop C R B I₀ w₀ E n ∧ SGen C R B I₀ w₀ E n ∧ SOps C R B I₀ w₀ E n ∧ SGo C R B I₀ w₀ E n
  | 0 => ⟨fun me c st k ir L ρ I μ w a Q hx => by simp [exec] at hx, fun me b st k ir L ρ I μ w a Q _ hx => by simp [exec] at hx, fun me b ms tries st k ir L ρ I μ w a Q hx => by simp [exec] at hx,
      fun me all todo st k ir L ρ I μ w a Q hx => by simp [exec] at hx, fun me f args o all rest st k ir L ρ I μ w a Q vs hx => by simp [exec] at hx⟩
  | n + 1 => by
    obtain ⟨h1, h2, h3, h4, h5⟩ := exec_sound hM n
    have hL := loop_step h1 h2
    exact ⟨code_step hM h1 hL h3 h4, hL, gen_step h1 h3, ops_step h4 h5, go_step hM h1 h4⟩

theorem shapeVars_map : ∀ (k : Nat) (sh : Shape), shapeVars k sh = (shapeVs k sh).map fun p => S.val p.1 p.2
  | k, [] => rfl
  | k, (g, n) :: r => by simp [shapeVars, shapeVs, shapeVars_map (k + n) r]

end

/-- results that may stand for others -/
def WkR (r rs : List DV) : Prop := ∀ (I : Imm) (w : World) (v : Value), RsR I w r v → RsR I w rs v

/-- A CONTRACT OUT OF THE IR. -/
theorem con_of_ir' {C : Con} {E : Env} {n : Nat} {f : FuncId} {ir : IR} {sh : Shape} (hM : ∀ f as rs, C f as rs → ConX E.P E.G f as rs) (hc : compile E n f = .ok ir) (hsh : paramShape E.P f = some sh)
    {as rs : List DV} {R : List DV → Prop} (hR : ∀ r, R r → WkR r rs) (has : shapeOf as = sh) (hw : IR.wp C R ir [] (leavesOf as)) : ConX E.P E.G f as rs := by
  unfold compile at hc
  split at hc
  · cases hc
  rename_i hlt
  have hlt : f < eatOff := by simpa using hlt
  refine ⟨fun _ => ?_, fun h => absurd h.1 (Nat.not_le.2 hlt), fun h => absurd h (Nat.not_le.2 (Nat.lt_trans hlt (by decide)))⟩
  intro I w vs hglo himm hargs
  unfold paramShape at hsh
  split at hc
  · cases hc
  · rename_i fn hfn
    rw [hfn] at hsh
    simp only at hsh
    split at hc
    · rename_i c sh' hbody hsh'
      rw [hsh'] at hsh
      cases hsh
      subst has
      refine calls_of_wp hfn hbody ?_
      have hvr := shapeVs_sound (μ := ⟨fun _ => none, fun _ => none⟩) (env := leavesOf as) (k := 0) (fun i d hd => by rw [Nat.zero_add]; exact hd) hargs
      have hsl : (shapeOf as).length = vs.length := by
        have := hargs.length
        rw [← this]
        clear this hargs hvr hw hc hsh'
        induction as with
        | nil => rfl
        | cons p r ih => obtain ⟨g, ds⟩ := p; simp [shapeOf, ih]
      have hfr : FR I ⟨fun _ => none, fun _ => none⟩ w (leavesOf as) (shapeVars 0 (shapeOf as) ++ List.replicate (fn.ntmps - (shapeOf as).length) .x) { tmps := vs.toArray ++ Array.replicate (fn.ntmps - vs.toArray.size) undef, defers := [] } := by
        have hsv : All2 (SR I ⟨fun _ => none, fun _ => none⟩ w (leavesOf as)) (shapeVars 0 (shapeOf as)) vs := by
          rw [shapeVars_map]
          exact All2.map_left hvr
        have hl := hsv.length
        refine ⟨by simp [hl, hsl], fun t => ?_, rfl⟩
        by_cases ht : t < (shapeVars 0 (shapeOf as)).length
        · obtain ⟨v, hv, hr⟩ := hsv.get (List.getElem?_eq_getElem ht)
          have ht' : t < vs.length := by omega
          rw [List.getD_eq_getElem?_getD, List.getElem?_append_left ht, List.getElem?_eq_getElem ht]
          rw [Array.getD_eq_getD_getElem?, Array.getElem?_append_left (by simpa using ht')]
          simp only [List.getElem?_toArray, hv, Option.getD_some]
          exact hr
        · have : (shapeVars 0 (shapeOf as) ++ List.replicate (fn.ntmps - (shapeOf as).length) S.x).getD t .x = .x := by
            rw [List.getD_eq_getElem?_getD, List.getElem?_append_right (by omega), List.getElem?_replicate]
            split <;> rfl
          rw [this]
          trivial
      have hwr : WR E.G w.heap.size I w I ⟨fun _ => none, fun _ => none⟩ w (leavesOf as) [] :=
        ⟨(fun b x h => by cases h), (fun b b' x h => by cases h), hglo, fun _ _ => rfl, Nat.le_refl _, himm, fun x hx => .inl hx, ⟨rfl, rfl⟩⟩
      refine (exec_sound (C := C) (R := R) (B := w.heap.size) (I₀ := I) (w₀ := w) hM n).1 f c _ _ ir [] (leavesOf as) I _ w _ _ hc hw ⟨hfr, hwr, OwnR.nil fun _ => rfl, (shapeLen_leaves as).symm, rfl⟩ ?_
      intro e s ir' L' ρ' I' μ' w' a' h1 h2 h3 h4 h5 h6
      have main : ∀ (hx' : (match resultsS E.P E.G fn s.fr s.h with
            | some vs => match exVs (fixVs (frz (idsVs vs) s.o) vs) with
              | some xs => Res.ok (.ret xs)
              | none => Res.no "a result that is no data"
            | none => Res.no "results") = .ok ir'),
          a'.defers = [] ∧ ∃ v, (results fn a'.tmps).run E.P w' = .ok v w' ∧ ∃ v' I', Ending.returned v = .returned v' ∧ (∀ x, I x → I' x) ∧ (∀ x, I' x → I x ∨ w.heap.size ≤ x) ∧ (∀ x, I' x → x < w'.heap.size) ∧
            (∀ x, x < w.heap.size → w'.heap[x]? = w.heap[x]?) ∧ w.heap.size ≤ w'.heap.size ∧ (w'.os = w.os ∧ w'.output = w.output) ∧ RsR I' w' rs v' := by
        intro hx'
        split at hx'
        · rename_i ps hps
          split at hx'
          · rename_i xs hxs
            cases hx'
            obtain ⟨rs', hrs, hRr⟩ := h2
            obtain ⟨I2, hW2, he2, hO2⟩ := h5.own.frz h5.wr (idsVs ps)
            have h6' := h6.trans he2
            obtain ⟨v, hv, hvr⟩ := results_sound (P := E.P) hW2 (h5.fr.mono he2 (List.prefix_refl _)) hps
            refine ⟨h5.fr.defers, v, hv, v, I2, rfl, h6'.imm, hW2.imm0, hW2.imm, hW2.old, hW2.size, hW2.wd, ?_⟩
            refine hR _ hRr _ _ _ ?_
            clear hRr
            generalize hoo : frz (idsVs ps) s.o = oo at hxs hO2
            clear hoo
            match ps, hxs, hvr with
            | [], hxs, hvr =>
              simp [exVs, fixVs] at hxs
              subst hxs
              simp [evalVs] at hrs
              subst hrs
              obtain ⟨us, hu, hall⟩ := hvr
              cases hall
              exact ⟨[], hu, .nil⟩
            | [(g, ls)], hxs, hvr =>
              have hvr' : VR I2 μ' w' ρ' g ls v := hvr
              have := exVs_sound hxs hrs (fixVs_sound hO2 (All2.cons (a := ((g, ls) : Bool × List SL)) (b := v) (bs := []) hvr' .nil))
              match rs', this with
              | [r], .cons p q => exact p
            | p :: q :: r, hxs, hvr =>
              obtain ⟨us, hu, hall⟩ := hvr
              have hd := exVs_sound hxs hrs (fixVs_sound hO2 hall)
              match us, rs', hd with
              | u1 :: u2 :: us, r1 :: r2 :: rs', hd => exact ⟨_, hu, hd⟩
              | [], rs', hd => cases hall
              | [u], rs', hd => cases hall with | cons _ h => cases h
          · cases hx'
        · cases hx'
      cases e with
      | normal => obtain ⟨hd, v, hv, hq⟩ := main h1; exact ⟨hd, v, hv, hq⟩
      | ret => obtain ⟨hd, v, hv, hq⟩ := main h1; exact ⟨hd, v, hv, hq⟩
      | exit id => cases h1
    · cases hc
theorem con_of_ir {C : Con} {E : Env} {n : Nat} {f : FuncId} {ir : IR} {sh : Shape} (hM : ∀ f as rs, C f as rs → ConX E.P E.G f as rs) (hc : compile E n f = .ok ir) (hsh : paramShape E.P f = some sh)
    {as rs : List DV} (has : shapeOf as = sh) (hw : IR.wp C (fun r => r = rs) ir [] (leavesOf as)) : ConX E.P E.G f as rs :=
  con_of_ir' hM hc hsh (fun r h => by subst h; exact fun _ _ _ h => h) has hw


theorem capHeap_len : ∀ (csh : List Nat) (k : Nat), (capHeap k csh).length = csh.length
  | [], _ => rfl
  | n :: r, k => by simp [capHeap, capHeap_len r]

theorem caps_blk {I : Imm} {μ : Mu} {w : World} {ρ : List D} {B : Nat} (hI : ∀ x, I x → True) : ∀ {caz : List DV} {xs : List Nat} {k : Nat}, All2 (CellR I w) caz xs → VarsAt ρ k (leavesOf caz) → ∀ (b x : Nat), xs[b]? = some x → I x → ∃ blk, (capHeap k (caz.map (·.2.length)))[b]? = some blk ∧ BlkR B I μ w ρ blk x
  | _, _, k, .nil, _, b, x, hb, _ => by simp at hb
  | (g, ds) :: caz, x0 :: xs, k, .cons h t, hv, b, x, hb, hIx => by
    simp only [leavesOf] at hv
    cases b with
    | zero =>
      simp at hb
      subst hb
      obtain ⟨_, vs, ty, h1, h2⟩ := h
      exact ⟨_, rfl, vs, ty, h1, vars_data hv.left h2, hIx⟩
    | succ b =>
      obtain ⟨blk, h1, h2⟩ := caps_blk hI t hv.right b x (by simpa using hb) hIx
      exact ⟨blk, by simpa [capHeap] using h1, h2⟩

/-- A CONTRACT of a function that is handed variables. -/
theorem conK_of_ir {C : Con} {E : Env} {n : Nat} {f : FuncId} {ir : IR} {sh : Shape} {csh : List Nat} (hM : ∀ f as rs, C f as rs → ConX E.P E.G f as rs) (hc : compileK E n f csh = .ok ir) (hsh : paramShape E.P f = some sh)
    {as caz rs : List DV} (has : shapeOf as = sh) (hcs : caz.map (·.2.length) = csh) (hpl : ∀ d ∈ leavesOf rs, d.plain) (hw : IR.wp C (fun r => r = rs) ir [] (leavesOf as ++ leavesOf caz)) : ConX E.P E.G (capOff + f) ((false, [.i .i64 (caz.length : Int)]) :: (as ++ caz)) rs := by
  unfold compileK at hc
  split at hc
  · cases hc
  rename_i hlt
  have hlt : f < eatOff := by simpa using hlt
  refine ⟨fun h => absurd h (Nat.not_lt.2 (Nat.le_trans (by decide) (Nat.le_add_right capOff f))), fun h => absurd h.2 (Nat.not_lt.2 (Nat.le_add_right _ _)), fun _ => ?_⟩
  rw [Nat.add_sub_cancel_left]
  refine ⟨as, caz, rfl, ?_⟩
  intro I w vs xs hglo himm hargs hcell
  unfold paramShape at hsh
  split at hc
  · cases hc
  · rename_i fn hfn
    rw [hfn] at hsh
    simp only at hsh
    split at hc
    · rename_i c sh' hbody hsh'
      rw [hsh'] at hsh
      cases hsh
      subst has
      subst hcs
      refine calls_of_wp hfn hbody ?_
      have hxl := hcell.length
      obtain ⟨I1, hI1⟩ : ∃ I1 : Imm, I1 = fun x => I x ∨ x ∈ xs := ⟨_, rfl⟩
      have hII : ∀ x, I x → I1 x := fun x hx => by rw [hI1]; exact .inl hx
      have hxs : ∀ x, x ∈ xs → x < w.heap.size := fun x hx => by
        obtain ⟨j, hj⟩ := List.getElem?_of_mem hx
        obtain ⟨d, _, _, _, _, hh, _⟩ := hcell.get' hj
        exact (Array.getElem?_eq_some_iff.1 hh).1
      have himm1 : ∀ x, I1 x → x < w.heap.size := fun x hx => by
        rw [hI1] at hx
        exact hx.elim (himm x) (hxs x)
      have hargs1 : All2 (DVR I1 w) as vs := hargs.imp fun d v h => by
        unfold DVR at h ⊢
        split at h
        · rename_i hg
          rw [if_pos hg]
          obtain ⟨us, h1, h2⟩ := h
          exact ⟨us, h1, h2.imp fun _ _ h => h.mono hII fun _ _ => rfl⟩
        · rename_i hg
          rw [if_neg hg]
          obtain ⟨d', h1, h2⟩ := h
          exact ⟨d', h1, h2.mono hII fun _ _ => rfl⟩
      have hcell1 : All2 (CellR I1 w) caz xs := hcell.imp fun d x ⟨h1, us, ty, h2, h3⟩ => ⟨h1, us, ty, h2, h3.imp fun _ _ h => h.mono hII fun _ _ => rfl⟩
      obtain ⟨μ, hμ⟩ : ∃ μ : Mu, μ = ⟨fun b => xs[b]?, fun _ => none⟩ := ⟨_, rfl⟩
      have hvr := shapeVs_sound (μ := μ) (env := leavesOf as ++ leavesOf caz) (k := 0) (fun i d hd => by rw [Nat.zero_add]; exact pre_get (List.prefix_append _ _) hd) hargs1
      have hsl : (shapeOf as).length = vs.length := by
        have := hargs.length
        rw [← this]
        clear this hargs hargs1 hvr hw hc hsh'
        induction as with
        | nil => rfl
        | cons p r ih => obtain ⟨g, ds⟩ := p; simp [shapeOf, ih]
      have hfr : FR I1 μ w (leavesOf as ++ leavesOf caz) ((shapeVars 0 (shapeOf as) ++ (List.range (caz.map (·.2.length)).length).map fun j => .val false [.p (.loc j) 0]) ++ List.replicate (fn.ntmps - ((shapeOf as).length + (caz.map (·.2.length)).length)) .x)
          { tmps := (vs ++ xs.map fun x => Value.pointer (some ⟨x, 0, none⟩)).toArray ++ Array.replicate (fn.ntmps - (vs ++ xs.map fun x => Value.pointer (some ⟨x, 0, none⟩)).toArray.size) undef, defers := [] } := by
        have hsv : All2 (SR I1 μ w (leavesOf as ++ leavesOf caz)) (shapeVars 0 (shapeOf as) ++ (List.range (caz.map (·.2.length)).length).map fun j => .val false [.p (.loc j) 0]) (vs ++ xs.map fun x => Value.pointer (some ⟨x, 0, none⟩)) := by
          rw [shapeVars_map]
          refine (All2.map_left hvr).append (All2.of_get (by simp; omega) fun i a b ha hb => ?_)
          rw [List.getElem?_map] at ha hb
          obtain ⟨j, hj, rfl⟩ := Option.map_eq_some_iff.1 ha
          obtain ⟨x, hx, rfl⟩ := Option.map_eq_some_iff.1 hb
          have hij : j = i := by
            have := (List.getElem?_eq_some_iff.1 hj).2
            simpa using this.symm
          subst hij
          exact ⟨_, rfl, x, by rw [hμ]; exact hx, rfl⟩
        have hl := hsv.length
        refine ⟨by simp at hl ⊢; omega, fun t => ?_, rfl⟩
        generalize hA : (shapeVars 0 (shapeOf as) ++ (List.range (caz.map (·.2.length)).length).map fun j => S.val false [.p (.loc j) 0]) = A at hsv hl ⊢
        generalize hV : (vs ++ xs.map fun x => Value.pointer (some ⟨x, 0, none⟩)) = V at hsv hl ⊢
        by_cases ht : t < A.length
        · obtain ⟨v, hv, hr⟩ := hsv.get (List.getElem?_eq_getElem ht)
          have ht' : t < V.length := by omega
          rw [List.getD_eq_getElem?_getD, List.getElem?_append_left ht, List.getElem?_eq_getElem ht]
          rw [Array.getD_eq_getD_getElem?, Array.getElem?_append_left (by simpa using ht')]
          simp only [List.getElem?_toArray, hv, Option.getD_some]
          exact hr
        · have : ∀ m, (A ++ List.replicate m S.x).getD t .x = .x := by
            intro m
            rw [List.getD_eq_getElem?_getD, List.getElem?_append_right (by omega), List.getElem?_replicate]
            split <;> rfl
          rw [this]
          trivial
      have hwr : WR E.G w.heap.size I1 w I1 μ w (leavesOf as ++ leavesOf caz) (capHeap (shapeLen (shapeOf as)) (caz.map (·.2.length))) := by
        refine ⟨fun b x hb => ?_, fun b b' x h _ => ?_, hglo.mono hII fun _ _ => rfl, fun _ _ => rfl, Nat.le_refl _, himm1, fun x hx => .inl hx, ⟨rfl, rfl⟩⟩
        · rw [hμ] at hb
          refine caps_blk (fun _ _ => trivial) hcell1 (fun i d hd => ?_) b x hb (by rw [hI1]; exact .inr (List.mem_of_getElem? hb))
          rw [shapeLen_leaves, List.getElem?_append_right (by omega), Nat.add_sub_cancel_left]
          exact hd
        · rw [hμ] at h
          exact .inr (by rw [hI1]; exact .inr (List.mem_of_getElem? h))
      have hnv : (leavesOf as ++ leavesOf caz).length = shapeLen (shapeOf as) + (caz.map (·.2.length)).sum := by
        have : ∀ l : List DV, (leavesOf l).length = (l.map (·.2.length)).sum := by
          intro l
          induction l with
          | nil => rfl
          | cons p r ih => obtain ⟨g, ds⟩ := p; simp [leavesOf, ih]
        rw [List.length_append, shapeLen_leaves, this caz]
      refine (exec_sound (C := C) (R := fun r => r = rs) (B := w.heap.size) (I₀ := I1) (w₀ := w) hM n).1 f c _ _ ir [] (leavesOf as ++ leavesOf caz) I1 μ w _ _ hc hw ⟨hfr, hwr, OwnR.nil fun _ => by rw [hμ], hnv, rfl⟩ ?_
      intro e s ir' L' ρ' I' μ' w' a' h1 h2 h3 h4 h5 h6
      have main : ∀ (hx' : (match resultsS E.P E.G fn s.fr s.h with
            | some vs => match exVs (fixVs (frz (idsVs vs) s.o) vs) with
              | some xs => Res.ok (.ret xs)
              | none => Res.no "a result that is no data"
            | none => Res.no "results") = .ok ir'),
          a'.defers = [] ∧ ∃ v, (results fn a'.tmps).run E.P w' = .ok v w' ∧ ∃ v', Ending.returned v = .returned v' ∧
            (∀ x, x < w.heap.size → w'.heap[x]? = w.heap[x]?) ∧ w.heap.size ≤ w'.heap.size ∧ (w'.os = w.os ∧ w'.output = w.output) ∧ RsR I w' rs v' := by
        intro hx'
        split at hx'
        · rename_i ps hps
          split at hx'
          · rename_i xs' hxs'
            cases hx'
            obtain ⟨rs', hrs, rfl⟩ := h2
            obtain ⟨I2, hW2, he2, hO2⟩ := h5.own.frz h5.wr (idsVs ps)
            obtain ⟨v, hv, hvr⟩ := results_sound (P := E.P) hW2 (h5.fr.mono he2 (List.prefix_refl _)) hps
            refine ⟨h5.fr.defers, v, hv, v, rfl, hW2.old, hW2.size, hW2.wd, RsR.plain (I := I2) hpl ?_⟩
            generalize hoo : frz (idsVs ps) s.o = oo at hxs' hO2
            clear hoo
            match ps, hxs', hvr with
            | [], hxs', hvr =>
              simp [exVs, fixVs] at hxs'
              subst hxs'
              simp [evalVs] at hrs
              subst hrs
              obtain ⟨us, hu, hall⟩ := hvr
              cases hall
              exact ⟨[], hu, .nil⟩
            | [(g, ls)], hxs', hvr =>
              have hvr' : VR I2 μ' w' ρ' g ls v := hvr
              have := exVs_sound hxs' hrs (fixVs_sound hO2 (All2.cons (a := ((g, ls) : Bool × List SL)) (b := v) (bs := []) hvr' .nil))
              match rs', this with
              | [r], .cons p q => exact p
            | p :: q :: r, hxs', hvr =>
              obtain ⟨us, hu, hall⟩ := hvr
              have hd := exVs_sound hxs' hrs (fixVs_sound hO2 hall)
              match us, rs', hd with
              | u1 :: u2 :: us, r1 :: r2 :: rs', hd => exact ⟨_, hu, hd⟩
              | [], rs', hd => cases hall
              | [u], rs', hd => cases hall with | cons _ h => cases h
          · cases hx'
        · cases hx'
      cases e with
      | normal => obtain ⟨hd, v, hv, hq⟩ := main h1; exact ⟨hd, v, hv, hq⟩
      | ret => obtain ⟨hd, v, hv, hq⟩ := main h1; exact ⟨hd, v, hv, hq⟩
      | exit id => cases h1
    · cases hc

end Go.Proofs.Ytffahdloddkcfaa.Sx
