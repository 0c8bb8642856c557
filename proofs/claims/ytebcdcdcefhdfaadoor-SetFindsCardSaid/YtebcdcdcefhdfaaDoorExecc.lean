/-
  The soundness of the executor: all in one; a function's contract out of its IR.
-/
import Derived.Test.YtebcdcdcefhdfaaDoorAny
namespace Go.Proofs.YtebcdcdcefhdfaaDoor.Sx
open Go
set_option linter.unnecessarySimpa false
set_option linter.unusedSimpArgs false
set_option linter.unusedVariables false

section
variable {C : Con} {R : List DV → Prop} {E : Env} {B : Nat} {I₀ : Imm} {w₀ : World}

theorem code_step {n : Nat} (hM : ∀ f as rs, C f as rs → ConM E.P E.G f as rs) (hC : SCode C R B I₀ w₀ E n) (hL : SLoop C R B I₀ w₀ E (n + 1)) (hG : SGen C R B I₀ w₀ E n) (hO : SOps C R B I₀ w₀ E n) : SCode C R B I₀ w₀ E (n + 1) := by
  intro me c st k ir L ρ I μ w a Q hx hw hs hk
  cases c with
  | skip => simp only [exec] at hx; exact wp_skip (hk .normal st ir L ρ I μ w a hx hw (List.prefix_refl _) (List.prefix_refl _) hs (Evo.refl _ _ _))
  | ret => simp only [exec] at hx; exact wp_ret (hk .ret st ir L ρ I μ w a hx hw (List.prefix_refl _) (List.prefix_refl _) hs (Evo.refl _ _ _))
  | exit id => simp only [exec] at hx; exact wp_exit (hk (.exit id) st ir L ρ I μ w a hx hw (List.prefix_refl _) (List.prefix_refl _) hs (Evo.refl _ _ _))
  | seq x y =>
    simp only [exec] at hx
    refine wp_seq (hC me x st _ ir L ρ I μ w a _ hx hw hs ?_)
    intro e s ir' L' ρ' I' μ' w' a' h1 h2 h3 h4 h5 h6
    cases e with
    | normal => exact hC me y s k ir' L' ρ' I' μ' w' a' Q h1 h2 h5 (hk.mono h3 h4 h6)
    | exit id => exact hk (.exit id) s ir' L' ρ' I' μ' w' a' h1 h2 h3 h4 h5 h6
    | ret => exact hk .ret s ir' L' ρ' I' μ' w' a' h1 h2 h3 h4 h5 h6
  | block id x =>
    simp only [exec] at hx
    refine wp_block (hC me x st _ ir L ρ I μ w a _ hx hw hs ?_)
    intro e s ir' L' ρ' I' μ' w' a' h1 h2 h3 h4 h5 h6
    cases e with
    | normal => exact hk .normal s ir' L' ρ' I' μ' w' a' h1 h2 h3 h4 h5 h6
    | exit id' =>
      simp only at h1
      simp only [xit, Exit.inBlock]
      by_cases hid : id' = id
      · rw [if_pos hid] at h1 ⊢
        exact hk .normal s ir' L' ρ' I' μ' w' a' h1 h2 h3 h4 h5 h6
      · rw [if_neg hid] at h1 ⊢
        exact hk (.exit id') s ir' L' ρ' I' μ' w' a' h1 h2 h3 h4 h5 h6
    | ret => exact hk .ret s ir' L' ρ' I' μ' w' a' h1 h2 h3 h4 h5 h6
  | cond q x y =>
    simp only [exec] at hx
    split at hx
    · rename_i t ht
      obtain ⟨d, hd, hr⟩ := e?_sound ht (opd_sound hs.fr q)
      split at hx
      · rename_i hb
        have := bool?_eval (ρ := ρ) hb
        rw [hd] at this
        cases this
        exact wp_cond_true hr.b_inv (hC me x st k ir L ρ I μ w a Q hx hw hs hk)
      · rename_i hb
        have := bool?_eval (ρ := ρ) hb
        rw [hd] at this
        cases this
        exact wp_cond_false hr.b_inv (hC me y st k ir L ρ I μ w a Q hx hw hs hk)
      · obtain ⟨irx, iry, h1, h2, rfl⟩ := both_ok hx
        · obtain ⟨tb, htb, hwx, hwy⟩ := hw
          rw [hd] at htb
          cases htb
          cases tb
          · exact wp_cond_false hr.b_inv (hC me y st k iry L ρ I μ w a Q h2 (hwy rfl) hs hk)
          · exact wp_cond_true hr.b_inv (hC me x st k irx L ρ I μ w a Q h1 (hwx rfl) hs hk)
    · cases hx
  | loop b =>
    by_cases hu : E.unr.contains me = true
    · exact wp_loop_LW (hL me b st k ir L ρ I μ w a Q hu hx hw hs hk)
    · simp only [exec] at hx
      rw [if_neg hu] at hx
      exact wp_loop_LW (hG me b _ _ st k ir L ρ I μ w a Q hx hw hs hk)
  | region id ops draw =>
    simp only [exec] at hx
    split at hx
    · rename_i hd
      subst hd
      split at hx
      · rename_i hc
        simp only [Bool.and_eq_true] at hc
        obtain ⟨lg2, frE, hE, ρE, ir', hpre, hpath, hlog, hk', hw'⟩ := path_of (C := C) (R := R) (E := E) ops.toList n [] ops.toList st k ir L ρ hx hw hs.nv
        have hev := Evo.refl I μ w
        have := any_sound (Q := Q) (B := B) (I₀ := I₀) (w₀ := w₀) hM hc.2 hc.1 hpath (by simpa using hlog) (hs.fr.mono hev hpre) (hs.wr.vars hpre) (hs.own.vars hpre) (id := id)
          (fun I' μ' w' a' h1 h2 h3 h4 => hk .normal _ ir' L ρE I' μ' w' a' hk' hw' (List.prefix_refl _) hpre ⟨h1, h2, h3, rfl, hs.lv⟩ h4)
        simpa using this
      · cases hx
    · rename_i hd
      have hd : draw = false := by simpa using hd
      subst hd
      have := hO me ops.toList ops.toList st k ir L ρ I μ w a Q hx hw hs hk
      refine wp_region_list ?_
      simpa using this
  | rangeFunc f ps x y => simp only [exec] at hx; cases hx
  | scope x => simp only [exec] at hx; cases hx
  | label l => simp only [exec] at hx; cases hx
  | goto l => simp only [exec] at hx; cases hx
  | refuse s => simp only [exec] at hx; cases hx

theorem exec_sound (hM : ∀ f as rs, C f as rs → ConM E.P E.G f as rs) : ∀ n, SCode C R B I₀ w₀ E n ∧ SLoop C R B I₀ w₀ E n ∧ SGen C R B I₀ w₀ E n ∧ SOps C R B I₀ w₀ E n ∧ SGo C R B I₀ w₀ E n
  | 0 => ⟨fun me c st k ir L ρ I μ w a Q hx => by simp [exec] at hx, fun me b st k ir L ρ I μ w a Q _ hx => by simp [exec] at hx, fun me b ms tries st k ir L ρ I μ w a Q hx => by simp [exec] at hx,
      fun me all todo st k ir L ρ I μ w a Q hx => by simp [exec] at hx, fun me f args o all rest st k ir L ρ I μ w a Q vs hx => by simp [exec] at hx⟩
  | n + 1 => by
    obtain ⟨h1, h2, h3, h4, h5⟩ := exec_sound hM n
    have hL := loop_step h1 h2
    exact ⟨code_step hM h1 hL h3 h4, hL, gen_step h1 h3, ops_step h4 h5, go_step hM h1 h4⟩

theorem shapeVars_map : ∀ (k : Nat) (sh : Shape), shapeVars k sh = (shapeVs k sh).map fun p => S.val p.1 p.2
  | k, [] => rfl
  | k, (g, n) :: r => by simp [shapeVars, shapeVs, shapeVars_map (k + n) r]

end

/-- A CONTRACT OUT OF THE IR. -/
theorem con_of_ir {C : Con} {E : Env} {n : Nat} {f : FuncId} {ir : IR} {sh : Shape} (hM : ∀ f as rs, C f as rs → ConM E.P E.G f as rs) (hc : compile E n f = .ok ir) (hsh : paramShape E.P f = some sh)
    {as rs : List DV} (has : shapeOf as = sh) (hw : IR.wp C (fun r => r = rs) ir [] (leavesOf as)) : ConM E.P E.G f as rs := by
  intro I w vs hglo himm hargs
  unfold compile at hc
  unfold paramShape at hsh
  split at hc
  · cases hc
  · rename_i fn hfn
    rw [hfn] at hsh
    simp only at hsh
    split at hc
    · rename_i c sh' hbody hsh'
      rw [hsh'] at hsh
      cases hsh
      subst has
      refine calls_of_wp hfn hbody ?_
      have hvr := shapeVs_sound (μ := ⟨fun _ => none, fun _ => none⟩) (env := leavesOf as) (k := 0) (fun i d hd => by rw [Nat.zero_add]; exact hd) hargs
      have hsl : (shapeOf as).length = vs.length := by
        have := hargs.length
        rw [← this]
        clear this hargs hvr hw hc hsh'
        induction as with
        | nil => rfl
        | cons p r ih => obtain ⟨g, ds⟩ := p; simp [shapeOf, ih]
      have hfr : FR I ⟨fun _ => none, fun _ => none⟩ w (leavesOf as) (shapeVars 0 (shapeOf as) ++ List.replicate (fn.ntmps - (shapeOf as).length) .x) { tmps := vs.toArray ++ Array.replicate (fn.ntmps - vs.toArray.size) undef, defers := [] } := by
        have hsv : All2 (SR I ⟨fun _ => none, fun _ => none⟩ w (leavesOf as)) (shapeVars 0 (shapeOf as)) vs := by
          rw [shapeVars_map]
          exact All2.map_left hvr
        have hl := hsv.length
        refine ⟨by simp [hl, hsl], fun t => ?_, rfl⟩
        by_cases ht : t < (shapeVars 0 (shapeOf as)).length
        · obtain ⟨v, hv, hr⟩ := hsv.get (List.getElem?_eq_getElem ht)
          have ht' : t < vs.length := by omega
          rw [List.getD_eq_getElem?_getD, List.getElem?_append_left ht, List.getElem?_eq_getElem ht]
          rw [Array.getD_eq_getD_getElem?, Array.getElem?_append_left (by simpa using ht')]
          simp only [List.getElem?_toArray, hv, Option.getD_some]
          exact hr
        · have : (shapeVars 0 (shapeOf as) ++ List.replicate (fn.ntmps - (shapeOf as).length) S.x).getD t .x = .x := by
            rw [List.getD_eq_getElem?_getD, List.getElem?_append_right (by omega), List.getElem?_replicate]
            split <;> rfl
          rw [this]
          trivial
      have hwr : WR E.G w.heap.size I w I ⟨fun _ => none, fun _ => none⟩ w (leavesOf as) [] :=
        ⟨(fun b x h => by cases h), (fun b b' x h => by cases h), hglo, fun _ _ => rfl, Nat.le_refl _, himm, fun x hx => .inl hx, ⟨rfl, rfl⟩⟩
      refine (exec_sound (C := C) (R := fun r => r = rs) (B := w.heap.size) (I₀ := I) (w₀ := w) hM n).1 f c _ _ ir [] (leavesOf as) I _ w _ _ hc hw ⟨hfr, hwr, OwnR.nil fun _ => rfl, (shapeLen_leaves as).symm, rfl⟩ ?_
      intro e s ir' L' ρ' I' μ' w' a' h1 h2 h3 h4 h5 h6
      have main : ∀ (hx' : (match resultsS E.P E.G fn s.fr s.h with
            | some vs => match exVs (fixVs (frz (idsVs vs) s.o) vs) with
              | some xs => Res.ok (.ret xs)
              | none => Res.no "a result that is no data"
            | none => Res.no "results") = .ok ir'),
          a'.defers = [] ∧ ∃ v, (results fn a'.tmps).run E.P w' = .ok v w' ∧ ∃ v' I', Ending.returned v = .returned v' ∧ (∀ x, I x → I' x) ∧ (∀ x, I' x → I x ∨ w.heap.size ≤ x) ∧ (∀ x, I' x → x < w'.heap.size) ∧
            (∀ x, x < w.heap.size → w'.heap[x]? = w.heap[x]?) ∧ w.heap.size ≤ w'.heap.size ∧ (w'.os = w.os ∧ w'.output = w.output) ∧ RsR I' w' rs v' := by
        intro hx'
        split at hx'
        · rename_i ps hps
          split at hx'
          · rename_i xs hxs
            cases hx'
            obtain ⟨rs', hrs, rfl⟩ := h2
            obtain ⟨I2, hW2, he2, hO2⟩ := h5.own.frz h5.wr (idsVs ps)
            have h6' := h6.trans he2
            obtain ⟨v, hv, hvr⟩ := results_sound (P := E.P) hW2 (h5.fr.mono he2 (List.prefix_refl _)) hps
            refine ⟨h5.fr.defers, v, hv, v, I2, rfl, h6'.imm, hW2.imm0, hW2.imm, hW2.old, hW2.size, hW2.wd, ?_⟩
            generalize hoo : frz (idsVs ps) s.o = oo at hxs hO2
            clear hoo
            match ps, hxs, hvr with
            | [], hxs, hvr =>
              simp [exVs, fixVs] at hxs
              subst hxs
              simp [evalVs] at hrs
              subst hrs
              obtain ⟨us, hu, hall⟩ := hvr
              cases hall
              exact ⟨[], hu, .nil⟩
            | [(g, ls)], hxs, hvr =>
              have hvr' : VR I2 μ' w' ρ' g ls v := hvr
              have := exVs_sound hxs hrs (fixVs_sound hO2 (All2.cons (a := ((g, ls) : Bool × List SL)) (b := v) (bs := []) hvr' .nil))
              match rs', this with
              | [r], .cons p q => exact p
            | p :: q :: r, hxs, hvr =>
              obtain ⟨us, hu, hall⟩ := hvr
              have hd := exVs_sound hxs hrs (fixVs_sound hO2 hall)
              match us, rs', hd with
              | u1 :: u2 :: us, r1 :: r2 :: rs', hd => exact ⟨_, hu, hd⟩
              | [], rs', hd => cases hall
              | [u], rs', hd => cases hall with | cons _ h => cases h
          · cases hx'
        · cases hx'
      cases e with
      | normal => obtain ⟨hd, v, hv, hq⟩ := main h1; exact ⟨hd, v, hv, hq⟩
      | ret => obtain ⟨hd, v, hv, hq⟩ := main h1; exact ⟨hd, v, hv, hq⟩
      | exit id => cases h1
    · cases hc

end Go.Proofs.YtebcdcdcefhdfaaDoor.Sx
