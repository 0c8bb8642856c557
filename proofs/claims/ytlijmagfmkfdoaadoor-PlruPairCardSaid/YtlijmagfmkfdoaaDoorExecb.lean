/-
  The soundness of the executor: operations, calls, loops.
-/
import Derived.Test.YtlijmagfmkfdoaaDoorExec
namespace Go.Proofs.YtlijmagfmkfdoaaDoor.Sx
open Go
set_option linter.unnecessarySimpa false
set_option linter.unusedSimpArgs false
set_option linter.unusedVariables false

section
variable {C : Con} {R : List DV → Prop} {G : Glo} {B : Nat} {I₀ : Imm} {w₀ : World} {E : Env}

theorem run_callFunc {P : Program} {f : FuncId} {args : Array Value} {w : World} (h : ∃ fn, P.funcs[f]? = some fn ∧ fn.body.isNone = false ∧ (fn.name == "runtime.NumGoroutine") = false) :
    (callFunc f args).run P w = .ok (.enter f args) w := by
  obtain ⟨fn, h1, h2, h3⟩ := h
  have h3' : ¬ fn.name = "runtime.NumGoroutine" := by simpa using h3
  cases hb : fn.body with
  | none => simp [hb] at h2
  | some c => simp [callFunc, h1, hb, h3']

theorem run_call {P : Program} {ρe : Operand → Value} {o : Oper} {g : Operand} {args : Array Operand} {argTypes : Array TypeId} {f : FuncId} {first caps : Array Value} {w : World}
    (ho : o.op = .call { callee := .value g, args := args, argTypes := argTypes }) (hg : ρe g = .func (.func f) first caps)
    (h : ∃ fn, P.funcs[f]? = some fn ∧ fn.body.isNone = false ∧ (fn.name == "runtime.NumGoroutine") = false) :
    (execOp ρe o).run P w = .ok (.enter f (first ++ args.map ρe ++ caps)) w := by
  simp only [execOp, ho, resolve, hg, Deferred.ofValue, Sem.run_bind, Sem.run_pure, Result.andThen_ok, invoke]
  exact run_callFunc h

theorem wp_enter {P : Program} {o : Oper} {a : Act} {w w' : World} {next : Act → World → Prop} {Q : Exit → Act → World → Prop} {f : FuncId} {args : Array Value}
    (hr : (execOp a.eval o).run P w = .ok (.enter f args) w') (h : Calls P f args w' fun e w'' => match e with | .returned v => next (a.put o.dst v) w'' | _ => False) : o.wp P a w next Q := by
  unfold Oper.wp
  rw [hr, Oper.upon_enter]
  refine h.mono fun e w'' he => ?_
  cases e with
  | returned v => exact he
  | panicked c => exact he.elim
  | outgrown => exact he.elim

theorem wp_value {P : Program} {o : Oper} {a : Act} {w w' : World} {next : Act → World → Prop} {Q : Exit → Act → World → Prop} {nx : Next} {v : Value}
    (hr : (execOp a.eval o).run P w = .ok nx w') (hn : nx = .value v ∨ (nx = .skip ∧ v = undef)) (h : next (a.put o.dst v) w') : o.wp P a w next Q := by
  unfold Oper.wp
  rcases hn with rfl | ⟨rfl, rfl⟩
  · rw [hr, Oper.upon_value]; exact h
  · rw [hr, Oper.upon_skip]; exact h

theorem all2_map_opd {I : Imm} {μ : Mu} {w : World} {ρ : List D} {fr : List S} {a : Act} (hf : FR I μ w ρ fr a) : ∀ (l : List Operand), All2 (SR I μ w ρ) (l.map (opd fr)) (l.map a.eval)
  | [] => .nil
  | x :: l => .cons (opd_sound hf x) (all2_map_opd hf l)

theorem pre_append {α : Type} (l r : List α) : l <+: l ++ r := ⟨r, rfl⟩

theorem runOp_sound {n : Nat} (hO : SOps C R B I₀ w₀ E n) (hGo : SGo C R B I₀ w₀ E n) {me : FuncId} {all rest : List Oper} {o : Oper} {st : St} {k : K} {ir : IR} {L : List Lp} {ρ : List D} {I : Imm} {μ : Mu} {w : World} {a : Act} {Q : Exit → Act → World → Prop}
    (hx : runOp E (exec E n me) all o rest st k = .ok ir) (hw : IR.wp C R ir L ρ) (hs : StR E.G B I₀ w₀ st L ρ I μ w a) (hk : Post C R E.G B I₀ w₀ k L ρ I μ w Q)
    (hwant : Region.wanted o (yielded all.toArray a.tmps) = true)
    (hset : ∀ (t : Nat) (s : S), SR I μ w ρ s (a.tmps.getD t undef) → ∀ ir, exec E n me (.ops all (o :: rest)) { st with fr := st.fr.set t s } k = .ok ir → IR.wp C R ir L ρ → wpList E.P all.toArray Q (o :: rest) a w) :
    wpList E.P all.toArray Q (o :: rest) a w := by
  unfold runOp at hx
  split at hx
  · -- a call
    rename_i g args argTypes ho
    have hgv := opd_sound hs.fr g
    split at hx
    · rename_i f hg
      rw [hg] at hgv
      obtain ⟨d, hd, hr⟩ := e?_sound (t := .c (.f f)) rfl hgv
      simp only [Ex.eval] at hd
      cases hd
      obtain ⟨hfn, hcalls⟩ := hGo me f _ o all rest st k ir L ρ I μ w a Q _ hx hw hs (all2_map_opd hs.fr args.toList) hk
      refine wpList_go hwant (wp_enter (run_call ho hr.f_inv hfn) ?_)
      rw [show (#[] ++ args.map a.eval ++ #[] : Array Value) = (args.toList.map a.eval).toArray from by apply Array.toList_inj.1; simp]
      exact hcalls
    · rename_i f caps hg
      rw [hg] at hgv
      obtain ⟨vs, hv, hcaps⟩ := l?_sound (l := .clo f caps) rfl hgv
      have hargs : All2 (SR I μ w ρ) (args.toList.map (opd st.fr) ++ caps.map fun c => .val false [.p c.1 c.2]) (args.toList.map a.eval ++ vs) := by
        refine (all2_map_opd hs.fr args.toList).append ?_
        refine All2.map_left (hcaps.imp fun c u hc => ?_)
        obtain ⟨x, hx, hu⟩ := hc
        exact ⟨_, rfl, x, hx, hu⟩
      obtain ⟨hfn, hcalls⟩ := hGo me f _ o all rest st k ir L ρ I μ w a Q _ hx hw hs hargs hk
      refine wpList_go hwant (wp_enter (run_call ho hv hfn) ?_)
      rw [show (#[] ++ args.map a.eval ++ vs.toArray : Array Value) = (args.toList.map a.eval ++ vs).toArray from by apply Array.toList_inj.1; simp]
      exact hcalls
    · rename_i q x y hg
      split at hx
      · rename_i t
        obtain ⟨ia, ib, h1, h2, rfl⟩ := both_ok hx
        obtain ⟨tb, htb, hwa, hwb⟩ := hw
        simp only [opd] at hg
        rw [show opd st.fr (.tmp t) = st.fr.getD t .x from rfl, hg] at hgv
        obtain ⟨d, hd, hr⟩ := e?_sound (t := .ite q x y) rfl hgv
        simp only [Ex.eval, htb] at hd
        cases tb
        · exact hset t (.val false [.e y]) ⟨_, rfl, d, by simpa using hd, hr⟩ ib h2 (hwb rfl)
        · exact hset t (.val false [.e x]) ⟨_, rfl, d, by simpa using hd, hr⟩ ia h1 (hwa rfl)
      · cases hx
    · cases hx
  · -- no call
    have hop := opd_sound hs.fr
    split at hx
    · -- a literal
      rename_i d ha
      obtain ⟨v, hv, hr⟩ := arith_sound hop ha (d := d) (by simp [Ex.eval])
      refine wpList_go hwant (wp_value hv (.inl rfl) ?_)
      exact hO me all rest _ k ir L ρ I μ w _ Q hx hw ⟨hs.fr.put (s := .val false [.e (.c d)]) ⟨_, rfl, d, by simp [Ex.eval], hr⟩ o.dst, hs.wr, hs.nv, hs.lv⟩ hk
    · -- an expression
      rename_i t hne ha
      split at hx
      · rename_i ir' hx'
        cases hx
        obtain ⟨d, hd, hw⟩ := hw
        obtain ⟨v, hv, hr⟩ := arith_sound hop ha hd
        have hp : ρ <+: ρ ++ [d] := pre_append _ _
        refine wpList_go hwant (wp_value hv (.inl rfl) ?_)
        refine hO me all rest _ k ir' L (ρ ++ [d]) I μ w _ Q hx' hw ⟨(hs.fr.mono (Evo.refl _ _ _) hp).put (s := .val false [.e (.v st.nv)]) ⟨_, rfl, d, ?_, hr⟩ o.dst, hs.wr.vars hp, by simp [hs.nv], hs.lv⟩ (hk.mono (List.prefix_refl _) hp (Evo.refl _ _ _))
        simp only [Ex.eval, ← hs.nv]
        simp
      · rename_i z hz; exact absurd hx (hz _)
    · -- a simple operation
      split at hx
      · rename_i cs s h' hsim
        obtain ⟨ir', hx', hw', hcs⟩ := chks_ok hx hw
        obtain ⟨nx, v, w', μ', hrun, hn, hsr, hW, he⟩ := simple_sound hs.wr hop hsim hcs
        refine wpList_go hwant (wp_value hrun hn ?_)
        exact hO me all rest _ k ir' L ρ I μ' w' _ Q hx' hw' ⟨(hs.fr.mono he (List.prefix_refl _)).put hsr o.dst, hW, hs.nv, hs.lv⟩ (hk.mono (List.prefix_refl _) (List.prefix_refl _) he)
      · cases hx

theorem ops_step {n : Nat} (hO : SOps C R B I₀ w₀ E n) (hGo : SGo C R B I₀ w₀ E n) : SOps C R B I₀ w₀ E (n + 1) := by
  intro me all todo st k ir L ρ I μ w a Q hx hw hs hk
  cases todo with
  | nil =>
    simp only [exec] at hx
    exact wpList_nil (hk .normal st ir L ρ I μ w a hx hw (List.prefix_refl _) (List.prefix_refl _) hs (Evo.refl _ _ _))
  | cons o rest =>
    simp only [exec] at hx
    have hset : ∀ (t : Nat) (s : S), SR I μ w ρ s (a.tmps.getD t undef) → ∀ ir, exec E n me (.ops all (o :: rest)) { st with fr := st.fr.set t s } k = .ok ir → IR.wp C R ir L ρ → wpList E.P all.toArray Q (o :: rest) a w :=
      fun t s hts ir h1 h2 => hO me all (o :: rest) _ k ir L ρ I μ w a Q h1 h2 ⟨hs.fr.set hts, hs.wr, hs.nv, hs.lv⟩ hk
    unfold guardOp at hx
    split at hx
    · rename_i hg
      exact runOp_sound hO hGo hx hw hs hk (by simp [Region.wanted, hg]) hset
    · rename_i j want hg
      split at hx
      · rename_i d hd
        have hslot := hs.fr.at_ d
        split at hx
        · rename_i hu
          rw [hu] at hslot
          refine wpList_skip (by simp [Region.wanted, hg, yielded_undef hd hslot]) ?_
          exact hO me all rest _ k ir L ρ I μ w _ Q hx hw ⟨hs.fr.put (s := .u) rfl o.dst, hs.wr, hs.nv, hs.lv⟩ hk
        · rename_i t ht
          rw [ht] at hslot
          obtain ⟨dd, hdd, hr⟩ := e?_sound (t := t) rfl hslot
          split at hx
          · rename_i b hb
            have := bool?_eval (ρ := ρ) hb
            rw [hdd] at this
            cases this
            have hy := yielded_of hd b hr.b_inv
            split at hx
            · rename_i hbw
              exact runOp_sound hO hGo hx hw hs hk (by simp only [Region.wanted, hg, hy]; simpa using hbw) hset
            · rename_i hbw
              refine wpList_skip (by simp only [Region.wanted, hg, hy]; simpa using hbw) ?_
              exact hO me all rest _ k ir L ρ I μ w _ Q hx hw ⟨hs.fr.put (s := .u) rfl o.dst, hs.wr, hs.nv, hs.lv⟩ hk
          · obtain ⟨ia, ib, h1, h2, rfl⟩ := both_ok hx
            obtain ⟨tb, htb, hwa, hwb⟩ := hw
            rw [hdd] at htb
            cases htb
            cases tb
            · exact hset d (.val false [.e (.c (.b false))]) ⟨_, rfl, .b false, by simp [Ex.eval], hr⟩ ib h2 (hwb rfl)
            · exact hset d (.val false [.e (.c (.b true))]) ⟨_, rfl, .b true, by simp [Ex.eval], hr⟩ ia h1 (hwa rfl)
        · cases hx
      · cases hx

theorem evalVs_of {ρ : List D} {xs : List XV} {as : List DV} (h : evalVs ρ xs = some as) : True := trivial

theorem go_step {n : Nat} (hM : ∀ f as rs, C f as rs → ConM E.P E.G f as rs) (hC : SCode C R B I₀ w₀ E n) (hO : SOps C R B I₀ w₀ E n) : SGo C R B I₀ w₀ E (n + 1) := by
  intro me f args o all rest st k ir L ρ I μ w a Q vs hx hw hs hargs hk
  simp only [exec] at hx
  split at hx
  · cases hx
  · rename_i fn hfn
    split at hx
    · cases hx
    · rename_i hbody
      have hb : fn.body.isNone = false ∧ (fn.name == "runtime.NumGoroutine") = false := by
        simpa only [Bool.or_eq_true, not_or, Bool.not_eq_true] using hbody
      refine ⟨⟨fn, hfn, hb.1, hb.2⟩, ?_⟩
      split at hx
      · -- inlined
        rename_i hinl
        split at hx
        · rename_i c hc
          refine calls_of_wp (fn := fn) (c := c) hfn hc ?_
          have hfr : FR I μ w ρ (args ++ List.replicate (fn.ntmps - args.length) .x) { tmps := vs.toArray ++ Array.replicate (fn.ntmps - vs.toArray.size) undef, defers := [] } := by
            have hl := hargs.length
            refine ⟨by simp [hl], fun t => ?_, rfl⟩
            by_cases ht : t < args.length
            · obtain ⟨v, hv, hr⟩ := hargs.get (List.getElem?_eq_getElem ht)
              have ht' : t < vs.length := by omega
              rw [List.getD_eq_getElem?_getD, List.getElem?_append_left ht, List.getElem?_eq_getElem ht]
              rw [Array.getD_eq_getD_getElem?, Array.getElem?_append_left (by simpa using ht')]
              simp only [List.getElem?_toArray, hv, Option.getD_some]
              exact hr
            · have : (args ++ List.replicate (fn.ntmps - args.length) S.x).getD t .x = .x := by
                rw [List.getD_eq_getElem?_getD, List.getElem?_append_right (by omega), List.getElem?_replicate]
                split <;> rfl
              rw [this]
              trivial
          refine hC f c _ _ ir L ρ I μ w _ _ hx hw ⟨hfr, hs.wr, hs.nv, hs.lv⟩ ?_
          intro e s ir' L' ρ' I' μ' w' a' h1 h2 h3 h4 h5 h6
          have main : ∀ (hx' : (match resultsS E.P E.G fn s.fr s.h with
                | some vs => exec E n me (.ops all rest) { s with fr := putS st.fr o.dst (tupS vs), h := cutHp st.h.length vs s.h } k
                | none => Res.no "results") = .ok ir'),
              a'.defers = [] ∧ ∃ v, (results fn a'.tmps).run E.P w' = .ok v w' ∧ wpList E.P all.toArray Q rest (a.put o.dst v) w' := by
            intro hx'
            split at hx'
            · rename_i ps hps
              obtain ⟨v, hv, hvr⟩ := results_sound (P := E.P) h5.wr h5.fr hps
              refine ⟨h5.fr.defers, v, hv, ?_⟩
              have hdom : ∀ b x, μ b = some x → decide (b < st.h.length) = true := fun b x hb => decide_eq_true (hs.wr.dom hb)
              unfold cutHp at hx'
              split at hx'
              · rename_i xs hxs
                split at hx'
                · rename_i hu
                  have he := h6.upto hdom
                  refine hO me all rest _ k ir' L' ρ' I' (μ'.res fun b => decide (b < st.h.length)) w' _ Q hx' h2 ⟨(hs.fr.mono he h4).put (SR.exs hxs hvr) o.dst, h5.wr.cut hu, h5.nv, h5.lv⟩ (hk.mono h3 h4 he)
                · exact hO me all rest _ k ir' L' ρ' I' μ' w' _ Q hx' h2 ⟨(hs.fr.mono h6 h4).put hvr o.dst, h5.wr, h5.nv, h5.lv⟩ (hk.mono h3 h4 h6)
              · exact hO me all rest _ k ir' L' ρ' I' μ' w' _ Q hx' h2 ⟨(hs.fr.mono h6 h4).put hvr o.dst, h5.wr, h5.nv, h5.lv⟩ (hk.mono h3 h4 h6)
            · cases hx'
          cases e with
          | normal => obtain ⟨hd, v, hv, hq⟩ := main h1; exact ⟨hd, v, hv, hq⟩
          | ret => obtain ⟨hd, v, hv, hq⟩ := main h1; exact ⟨hd, v, hv, hq⟩
          | exit id => cases h1
        · cases hx
      · -- by its contract
        split at hx
        · rename_i ps hps
          split at hx
          · rename_i xs sh hxs hsh
            split at hx
            · rename_i ir' hx'
              cases hx
              obtain ⟨as, rs, has, hc, hrs, hw⟩ := hw
              subst hrs
              have hda := exVs_sound hxs has (argsOf_sound hps hargs)
              refine (hM f as rs hc I w vs hs.wr.glo hs.wr.imm hda).mono ?_
              rintro e w' ⟨v, I', rfl, h1, h2, h3, h4, h5, hn, h6⟩
              obtain ⟨hW, he⟩ := hs.wr.call h1 h2 h3 h4 h5 hn
              have hp : ρ <+: ρ ++ leavesOf rs := pre_append _ _
              refine hO me all rest _ k ir' L (ρ ++ leavesOf rs) I' μ w' _ Q hx' hw ⟨(hs.fr.mono he hp).put (s := tupS (shapeVs st.nv (shapeOf rs))) ?_ o.dst, hW.vars hp, ?_, hs.lv⟩ (hk.mono (List.prefix_refl _) hp he)
              · refine tupS_sound ?_ h6
                rw [← hs.nv]
                exact VarsAt.self ρ (leavesOf rs)
              · simp [hs.nv, shapeLen_leaves]
            · rename_i z hz; exact absurd hx (hz _)
          · cases hx
        · cases hx

theorem diffLs_nil {b : Nat} {ms : List (Nat × Nat)} : ∀ {gs ss : List SL} {o : Nat}, diffLs b ms o gs ss = [] → ∀ (i : Nat) (g s : SL), gs[i]? = some g → ss[i]? = some s → (b, o + i) ∉ ms → SL.same g s = true
  | [], ss, o, _, i, g, s, hg, _, _ => by simp at hg
  | g0 :: gs, [], o, _, i, g, s, _, hs, _ => by simp at hs
  | g0 :: gs, s0 :: ss, o, h, i, g, s, hg, hs, hm => by
    simp only [diffLs, List.append_eq_nil_iff] at h
    cases i with
    | zero =>
      simp at hg hs
      subst hg; subst hs
      have h1 := h.1
      split at h1
      · rename_i hc
        simp only [Bool.or_eq_true, List.contains_iff_mem] at hc
        exact hc.resolve_right hm
      · cases h1
    | succ i => exact diffLs_nil h.2 i g s (by simpa using hg) (by simpa using hs) (by rwa [Nat.add_assoc, Nat.add_comm 1 i])

theorem diffHp_nil {ms : List (Nat × Nat)} : ∀ {gs ss : Heap} {b : Nat}, diffHp ms b gs ss = [] → ∀ (i : Nat) (g s : SB), gs[i]? = some g → ss[i]? = some s → diffLs (b + i) ms 0 g.ls s.ls = []
  | [], ss, b, _, i, g, s, hg, _ => by simp at hg
  | g0 :: gs, [], b, _, i, g, s, _, hs => by simp at hs
  | g0 :: gs, s0 :: ss, b, h, i, g, s, hg, hs => by
    simp only [diffHp, List.append_eq_nil_iff] at h
    cases i with
    | zero => simp at hg hs; subst hg; subst hs; exact h.1
    | succ i =>
      have := diffHp_nil h.2 i g s (by simpa using hg) (by simpa using hs)
      rwa [Nat.add_assoc, Nat.add_comm 1 i] at this

theorem shapeHp_get : ∀ {gs ss : Heap}, shapeHp gs ss = true → ∀ (i : Nat) (g : SB), gs[i]? = some g → ∃ s : SB, ss[i]? = some s ∧ s.ro = g.ro ∧ s.ls.length = g.ls.length
  | [], ss, _, i, g, hg => by simp at hg
  | _ :: _, [], h, i, g, hg => by simp [shapeHp] at h
  | g0 :: gs, s0 :: ss, h, i, g, hg => by
    simp only [shapeHp, Bool.and_eq_true, beq_iff_eq] at h
    cases i with
    | zero => simp at hg; subst hg; exact ⟨s0, by simp, h.1.1.symm, h.1.2.symm⟩
    | succ i => simpa using shapeHp_get h.2 i g (by simpa using hg)

theorem prefix_get {α : Type} {l l' : List α} {x : α} (h : l ++ [x] <+: l') : l'[l.length]? = some x := by
  obtain ⟨t, rfl⟩ := h
  simp

end
end Go.Proofs.YtlijmagfmkfdoaaDoor.Sx
