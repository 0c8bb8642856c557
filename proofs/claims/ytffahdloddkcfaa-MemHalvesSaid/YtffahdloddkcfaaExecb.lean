/-
  The soundness of the executor: operations, calls, loops.
-/
import Derived.Test.YtffahdloddkcfaaExec
import Derived.WalkSpells
namespace Go.Proofs.Ytffahdloddkcfaa.Sx
open Go
set_option linter.unnecessarySimpa false
set_option linter.unusedSimpArgs false
set_option linter.unusedVariables false

section
variable {C : Con} {R : List DV → Prop} {G : Glo} {B : Nat} {I₀ : Imm} {w₀ : World} {E : Env}

theorem run_callFunc {P : Program} {f : FuncId} {args : Array Value} {w : World} (h : ∃ fn, P.funcs[f]? = some fn ∧ fn.body.isNone = false ∧ (fn.name == "runtime.NumGoroutine") = false) :
    (callFunc f args).run P w = .ok (.enter f args) w := by
  obtain ⟨fn, h1, h2, h3⟩ := h
  have h3' : ¬ fn.name = "runtime.NumGoroutine" := by simpa using h3
  cases hb : fn.body with
  | none => simp [hb] at h2
  | some c => simp [callFunc, h1, hb, h3']

theorem run_call {P : Program} {ρe : Operand → Value} {o : Oper} {g : Operand} {args : Array Operand} {argTypes : Array TypeId} {f : FuncId} {first caps : Array Value} {w : World}
    (ho : o.op = .call { callee := .value g, args := args, argTypes := argTypes }) (hg : ρe g = .func (.func f) first caps)
    (h : ∃ fn, P.funcs[f]? = some fn ∧ fn.body.isNone = false ∧ (fn.name == "runtime.NumGoroutine") = false) :
    (execOp ρe o).run P w = .ok (.enter f (first ++ args.map ρe ++ caps)) w := by
  simp only [execOp, ho, resolve, hg, Deferred.ofValue, Sem.run_bind, Sem.run_pure, Result.andThen_ok, invoke]
  exact run_callFunc h

theorem wp_enter {P : Program} {o : Oper} {a : Act} {w w' : World} {next : Act → World → Prop} {Q : Exit → Act → World → Prop} {f : FuncId} {args : Array Value}
    (hr : (execOp a.eval o).run P w = .ok (.enter f args) w') (h : Calls P f args w' fun e w'' => match e with | .returned v => next (a.put o.dst v) w'' | _ => False) : o.wp P a w next Q := by
  unfold Oper.wp
  rw [hr, Oper.upon_enter]
  refine h.mono fun e w'' he => ?_
  cases e with
  | returned v => exact he
  | panicked c => exact he.elim
  | outgrown => exact he.elim

theorem wp_value {P : Program} {o : Oper} {a : Act} {w w' : World} {next : Act → World → Prop} {Q : Exit → Act → World → Prop} {nx : Next} {v : Value}
    (hr : (execOp a.eval o).run P w = .ok nx w') (hn : nx = .value v ∨ (nx = .skip ∧ v = undef)) (h : next (a.put o.dst v) w') : o.wp P a w next Q := by
  unfold Oper.wp
  rcases hn with rfl | ⟨rfl, rfl⟩
  · rw [hr, Oper.upon_value]; exact h
  · rw [hr, Oper.upon_skip]; exact h

theorem all2_map_opd {I : Imm} {μ : Mu} {w : World} {ρ : List D} {fr : List S} {a : Act} (hf : FR I μ w ρ fr a) : ∀ (l : List Operand), All2 (SR I μ w ρ) (l.map (opd fr)) (l.map a.eval)
  | [] => .nil
  | x :: l => .cons (opd_sound hf x) (all2_map_opd hf l)

theorem pre_append {α : Type} (l r : List α) : l <+: l ++ r := ⟨r, rfl⟩

theorem nilOp_sound {P : Program} {I : Imm} {μ : Mu} {w : World} {ρ : List D} {fr : List S} {a : Act} {o : Oper} {x : Ex} {b : Bool} (hop : ∀ x, SR I μ w ρ (opd fr x) (a.eval x)) (hs : nilOp P fr o.op = some (x, b)) {s : Nat} {xs : List (List D)} (hx : x.eval ρ = some (.sl s xs)) :
    ∃ t, (execOp a.eval o).run P w = .ok (.value (.bool (if b then t else !t))) w ∧ (t = true → xs = []) := by
  unfold nilOp at hs
  split at hs
  · rename_i ob t xa xb xt hob
    split at hs
    · rename_i el ex hu hxa hxb
      have hA := hop xa
      have hB := hop xb
      rw [hxa] at hA
      rw [hxb] at hB
      obtain ⟨da, hda, hra⟩ := e?_sound (t := ex) rfl hA
      obtain ⟨db, hdb, hrb⟩ := e?_sound (t := .c (.sl 0 [])) rfl hB
      simp only [Ex.eval] at hdb
      cases hdb
      have hnil : a.eval xb = .slice none 0 0 := by
        generalize hv' : a.eval xb = vx at hrb
        cases hrb with
        | nil _ p cap hz => obtain ⟨rfl, rfl⟩ := hz rfl; rfl
        | sl _ _ _ _ _ _ h0 => omega
      have hg := run_eqGuard_one (P := P) (w := w) ob t xa xb hra hrb
      have main : x = ex → ∃ p c, a.eval xa = .slice p xs.length c ∧ (p = none → xs = []) := by
        intro e
        subst e
        rw [hx] at hda
        cases hda
        generalize hv' : a.eval xa = vx at hra
        cases hra with
        | nil _ p cap hz => exact ⟨p, cap, rfl, fun _ => rfl⟩
        | sl _ _ blk off cap _ _ _ => exact ⟨_, cap, rfl, fun h => by cases h⟩
      cases ob <;> first | (exfalso; revert hs; simp; done) | skip
      · simp only [Option.some.injEq, Prod.mk.injEq] at hs
        obtain ⟨he, rfl⟩ := hs
        obtain ⟨p, c, hp, hn⟩ := main he.symm
        refine ⟨p.isNone, ?_, fun h => hn (Option.isNone_iff_eq_none.1 h)⟩
        simp only [execOp, hob, Sem.run_bind, hg, Result.andThen_ok]
        rw [hp, hnil]
        rw [Lib.run_eql_slice_nil w t el p xs.length c 0 0 hu]
        rfl
      · simp only [Option.some.injEq, Prod.mk.injEq] at hs
        obtain ⟨he, rfl⟩ := hs
        obtain ⟨p, c, hp, hn⟩ := main he.symm
        refine ⟨p.isNone, ?_, fun h => hn (Option.isNone_iff_eq_none.1 h)⟩
        simp only [execOp, hob, Sem.run_bind, hg, Result.andThen_ok]
        rw [hp, hnil]
        rw [run_neq_slice_nil_any w t el p xs.length c 0 0 hu]
        rfl
    · cases hs
  · cases hs

theorem mays_ok {q : Ex} {x y : Res} {ir : IR} (h : mays q x y = .ok ir) : ∃ a b, x = .ok a ∧ y = .ok b ∧ ir = .may q a b := by
  unfold mays at h
  split at h
  · split at h
    · cases h; exact ⟨_, _, rfl, rfl, rfl⟩
    · rename_i hz; exact absurd h (hz _)
  · rename_i hz; exact absurd h (hz _)

theorem ownOpd_some {fr : List S} : ∀ {l : List Operand} {t : Nat} {g : Bool} {ls : List SL}, ownOpd fr l = some (t, g, ls) → fr.getD t .x = .val g ls
  | [], t, g, ls, h => by simp [ownOpd] at h
  | .tmp u :: r, t, g, ls, h => by
    simp only [ownOpd] at h
    split at h
    · rename_i g' ls' hu
      split at h
      · exact ownOpd_some h
      · cases h; exact hu
    · exact ownOpd_some h
  | .const _ :: r, t, g, ls, h => by simp only [ownOpd] at h; exact ownOpd_some h
  | .global _ :: r, t, g, ls, h => by simp only [ownOpd] at h; exact ownOpd_some h
  | .func _ :: r, t, g, ls, h => by simp only [ownOpd] at h; exact ownOpd_some h

theorem deadEnd_no {ir : IR} {L : List Lp} {ρ : List D} (h : deadEnd = .ok ir) (hw : IR.wp C R ir L ρ) : False := by
  unfold deadEnd at h
  cases h
  obtain ⟨h, _⟩ := hw
  simp [Ex.eval] at h

theorem fan_ok {ix : Ex} {r : Nat → Res} {X : Prop} {L : List Lp} {ρ : List D} (hX : ∀ m ir, r m = .ok ir → IR.wp C R ir L ρ → ix.eval ρ = some (.i .i64 (m : Int)) → X) : ∀ (n k : Nat) (ir : IR), fan ix r k n = .ok ir → IR.wp C R ir L ρ → X
  | 0, k, ir, h, hw => (deadEnd_no h hw).elim
  | n + 1, k, ir, h, hw => by
    simp only [fan] at h
    obtain ⟨a, b, h1, h2, rfl⟩ := both_ok h
    obtain ⟨t, ht, hwa, hwb⟩ := hw
    cases t with
    | false => exact fan_ok hX n (k + 1) b h2 (hwb rfl)
    | true =>
      refine hX k a h1 (hwa rfl) ?_
      simp only [Ex.eval] at ht
      split at ht
      · rename_i d1 d2 h3 h4
        cases h4
        rw [h3]
        cases d1 with
        | i k' m =>
          simp only [binD] at ht
          split at ht
          · rename_i hk'
            subst hk'
            simp at ht
            rw [ht]
          · cases ht
        | _ => simp [binD] at ht
      · cases ht

theorem FR.sub {I : Imm} {μ : Mu} {w : World} {ρ : List D} {fr : List S} {a : Act} {x c : Ex} {d : D} (h : FR I μ w ρ fr a) (hx : x.eval ρ = some d) (hc : c.eval ρ = some d) : FR I μ w ρ (subFr x c fr) a := by
  refine ⟨by simp [subFr, h.len], fun t => ?_, h.defers⟩
  have h0 := h.at_ t
  unfold subFr
  rw [List.getD_eq_getElem?_getD, List.getElem?_map]
  rw [List.getD_eq_getElem?_getD] at h0
  cases hf : fr[t]? with
  | none => simp [SR]
  | some s =>
    rw [hf] at h0
    simp only [Option.map_some, Option.getD_some] at h0 ⊢
    split
    · rename_i y
      split
      · rename_i hy
        obtain ⟨d', hd', hr⟩ := e?_sound (t := y) rfl h0
        rw [← Ex.same_eq hy, hx] at hd'
        cases hd'
        exact ⟨_, rfl, d, hc, hr⟩
      · exact h0
    · exact h0

theorem spanOp_slot {P : Program} {fr : List S} {op : Op} {t n : Nat} {ix : Ex} (h : spanOp P fr op = some (t, ix, n)) : fr.getD t .x = .val false [.e ix] := by
  unfold spanOp at h
  split at h
  · split at h
    · rename_i h3
      split at h
      · cases h
        exact h3
      · cases h
    · cases h
  · cases h

theorem runOp_sound {n : Nat} (hO : SOps C R B I₀ w₀ E n) (hGo : SGo C R B I₀ w₀ E n) {me : FuncId} {all rest : List Oper} {o : Oper} {st : St} {k : K} {ir : IR} {L : List Lp} {ρ : List D} {I : Imm} {μ : Mu} {w : World} {a : Act} {Q : Exit → Act → World → Prop}
    (hx : runOp E true (exec E n me) all o rest st k = .ok ir) (hw : IR.wp C R ir L ρ) (hs : StR E.G B I₀ w₀ st L ρ I μ w a) (hk : Post C R E.G B I₀ w₀ k L ρ I μ w Q)
    (hwant : Region.wanted o (yielded all.toArray a.tmps) = true)
    (hset : ∀ (t : Nat) (s : S), SR I μ w ρ s (a.tmps.getD t undef) → ∀ ir, exec E n me (.ops all (o :: rest)) { st with fr := st.fr.set t s } k = .ok ir → IR.wp C R ir L ρ → wpList E.P all.toArray Q (o :: rest) a w) :
    wpList E.P all.toArray Q (o :: rest) a w := by
  unfold runOp at hx
  split at hx
  · -- a call
    rename_i g args argTypes ho
    have hgv := opd_sound hs.fr g
    split at hx
    · rename_i f hg
      rw [hg] at hgv
      obtain ⟨d, hd, hr⟩ := e?_sound (t := .c (.f f)) rfl hgv
      simp only [Ex.eval] at hd
      cases hd
      obtain ⟨hfn, hcalls⟩ := hGo me f _ o all rest st k ir L ρ I μ w a Q _ hx hw hs (all2_map_opd hs.fr args.toList) hk
      refine wpList_go hwant (wp_enter (run_call ho hr.f_inv hfn) ?_)
      rw [show (#[] ++ args.map a.eval ++ #[] : Array Value) = (args.toList.map a.eval).toArray from by apply Array.toList_inj.1; simp]
      exact hcalls
    · rename_i f caps hg
      rw [hg] at hgv
      obtain ⟨vs, hv, hcaps⟩ := l?_sound (l := .clo f caps) rfl hgv
      have hargs : All2 (SR I μ w ρ) (args.toList.map (opd st.fr) ++ caps.map fun c => .val false [.p c.1 c.2]) (args.toList.map a.eval ++ vs) := by
        refine (all2_map_opd hs.fr args.toList).append ?_
        refine All2.map_left (hcaps.imp fun c u hc => ?_)
        obtain ⟨x, hx, hu⟩ := hc
        exact ⟨_, rfl, x, hx, hu⟩
      obtain ⟨hfn, hcalls⟩ := hGo me f _ o all rest st k ir L ρ I μ w a Q _ hx hw hs hargs hk
      refine wpList_go hwant (wp_enter (run_call ho hv hfn) ?_)
      rw [show (#[] ++ args.map a.eval ++ vs.toArray : Array Value) = (args.toList.map a.eval ++ vs).toArray from by apply Array.toList_inj.1; simp]
      exact hcalls
    · rename_i q x y hg
      split at hx
      · rename_i t
        obtain ⟨ia, ib, h1, h2, rfl⟩ := both_ok hx
        obtain ⟨tb, htb, hwa, hwb⟩ := hw
        simp only [opd] at hg
        rw [show opd st.fr (.tmp t) = st.fr.getD t .x from rfl, hg] at hgv
        obtain ⟨d, hd, hr⟩ := e?_sound (t := .ite q x y) rfl hgv
        simp only [Ex.eval, htb] at hd
        cases tb
        · exact hset t (.val false [.e y]) ⟨_, rfl, d, by simpa using hd, hr⟩ ib h2 (hwb rfl)
        · exact hset t (.val false [.e x]) ⟨_, rfl, d, by simpa using hd, hr⟩ ia h1 (hwa rfl)
      · cases hx
    · cases hx
  · -- no call
    have hop := opd_sound hs.fr
    simp only [if_true] at hx
    split at hx
    · -- slices that grow
      rename_i cs s o' hown
      obtain ⟨ir', hx', hw', hcs⟩ := chks_ok hx hw
      obtain ⟨nx, v, w', μ', hrun, hn, hsr, hW, he, hOw⟩ := ownOp_sound hs.wr hs.own hop hown hcs
      refine wpList_go hwant (wp_value hrun hn ?_)
      exact hO me all rest _ k ir' L ρ I μ' w' _ Q hx' hw' ⟨(hs.fr.mono he (List.prefix_refl _)).put hsr o.dst, hW, hOw, hs.nv, hs.lv⟩ (hk.mono (List.prefix_refl _) (List.prefix_refl _) he)
    · split at hx
      · -- a literal
        rename_i d ha
        obtain ⟨v, hv, hr⟩ := arith_sound hop ha (d := d) (by simp [Ex.eval])
        refine wpList_go hwant (wp_value hv (.inl rfl) ?_)
        exact hO me all rest _ k ir L ρ I μ w _ Q hx hw ⟨hs.fr.put (s := .val false [.e (.c d)]) ⟨_, rfl, d, by simp [Ex.eval], hr⟩ o.dst, hs.wr, hs.own, hs.nv, hs.lv⟩ hk
      · -- an expression
        rename_i t hne ha
        split at hx
        · rename_i ir' hx'
          cases hx
          obtain ⟨d, hd, hw⟩ := hw
          obtain ⟨v, hv, hr⟩ := arith_sound hop ha hd
          have hp : ρ <+: ρ ++ [d] := pre_append _ _
          refine wpList_go hwant (wp_value hv (.inl rfl) ?_)
          refine hO me all rest _ k ir' L (ρ ++ [d]) I μ w _ Q hx' hw ⟨(hs.fr.mono (Evo.refl _ _ _) hp).put (s := .val false [.e (.v st.nv)]) ⟨_, rfl, d, ?_, hr⟩ o.dst, hs.wr.vars hp, hs.own.vars hp, by simp [hs.nv], hs.lv⟩ (hk.mono (List.prefix_refl _) hp (Evo.refl _ _ _))
          simp only [Ex.eval, ← hs.nv]
          simp
        · rename_i z hz; exact absurd hx (hz _)
      · -- a simple operation
        split at hx
        · rename_i cs s h' hsim
          obtain ⟨ir', hx', hw', hcs⟩ := chks_ok hx hw
          obtain ⟨nx, v, w', μ', hrun, hn, hsr, hW, he, hOw, _⟩ := simple_own hs.wr hs.own hop hsim hcs
          refine wpList_go hwant (wp_value hrun hn ?_)
          exact hO me all rest _ k ir' L ρ I μ' w' _ Q hx' hw' ⟨(hs.fr.mono he (List.prefix_refl _)).put hsr o.dst, hW, hOw, hs.nv, hs.lv⟩ (hk.mono (List.prefix_refl _) (List.prefix_refl _) he)
        · split at hx
          · -- what grows is data from now on
            rename_i t g ls hop'
            have hsl := ownOpd_some hop'
            obtain ⟨I', hW', he, hOw⟩ := hs.own.frz hs.wr (ownIds ls)
            have hF := hs.fr.mono he (List.prefix_refl _)
            have hat := hF.at_ t
            rw [hsl] at hat
            exact hO me all (o :: rest) _ k ir L ρ I' μ w a Q hx hw ⟨hF.set (fixV_sound hOw hat), hW', hOw, hs.nv, hs.lv⟩ (hk.mono (List.prefix_refl _) (List.prefix_refl _) he)
          · split at hx
            · -- is it nil?
              rename_i x b hnil
              obtain ⟨ia, ib, h1, h2, rfl⟩ := mays_ok hx
              obtain ⟨tb, htb, hwa, hwb⟩ := hw
              have hxe : ∃ s xs, x.eval ρ = some (.sl s xs) ∧ tb = (xs.length == 0) := by
                rw [mkBin_eval] at htb
                simp only [Ex.eval, litN] at htb
                have hxv : ∃ d, x.eval ρ = some d := by
                  unfold nilOp at hnil
                  split at hnil
                  · rename_i ob t xa xb xt hob
                    split at hnil
                    · rename_i el ex hu hxa hxb
                      have hA := hop xa
                      rw [hxa] at hA
                      obtain ⟨da, hda, hra⟩ := e?_sound (t := ex) rfl hA
                      cases ob <;> first | (exfalso; revert hnil; simp; done) | skip
                      · simp only [Option.some.injEq, Prod.mk.injEq] at hnil
                        exact ⟨da, hnil.1 ▸ hda⟩
                      · simp only [Option.some.injEq, Prod.mk.injEq] at hnil
                        exact ⟨da, hnil.1 ▸ hda⟩
                    · cases hnil
                  · cases hnil
                obtain ⟨d, hd⟩ := hxv
                cases hrs : rows? x with
                | some rs =>
                  obtain ⟨s, xs, rfl, hl, _⟩ := rows?_sound hrs hd
                  refine ⟨s, xs, hd, ?_⟩
                  rw [mkLenO_eval hd] at htb
                  simp [binD] at htb
                  rw [← htb, Bool.eq_iff_iff]
                  simp
                | none =>
                  simp only [mkLenO, hrs, Ex.eval, hd] at htb
                  cases d <;> simp [binD] at htb
                  rename_i s xs
                  exact ⟨s, xs, hd, by rw [← htb, Bool.eq_iff_iff]; simp⟩
              obtain ⟨s, xs, hxe, rfl⟩ := hxe
              obtain ⟨t, hrun, ht⟩ := nilOp_sound (P := E.P) (w := w) hop hnil hxe
              refine wpList_go hwant (wp_value hrun (.inl rfl) ?_)
              have go : ∀ (q : Bool) (ir : IR), (if b then t else !t) = q → exec E n me (.ops all rest) { st with fr := putS st.fr o.dst (.val false [.e (.c (.b q))]) } k = .ok ir → IR.wp C R ir L ρ → wpList E.P all.toArray Q rest (a.put o.dst (.bool (if b then t else !t))) w := by
                intro q ir hq h1 h2
                exact hO me all rest _ k ir L ρ I μ w _ Q h1 h2 ⟨hs.fr.put (s := .val false [.e (.c (.b q))]) ⟨_, rfl, .b q, by simp [Ex.eval], by rw [hq]; exact .b _⟩ o.dst, hs.wr, hs.own, hs.nv, hs.lv⟩ hk
              cases t
              · exact go (!b) ib (by cases b <;> rfl) h2 hwb
              · exact go b ia (by cases b <;> rfl) h1 (hwa (by rw [ht rfl]; rfl))
            · split at hx
              · -- an index within an element
                rename_i t ix nn hspan
                split at hx
                · refine fan_ok (fun m ir' h1 h2 h3 => ?_) nn 0 ir hx hw
                  have hslot : st.fr.getD t .x = .val false [.e ix] := spanOp_slot hspan
                  have hat := hs.fr.at_ t
                  rw [hslot] at hat
                  obtain ⟨d, hd, hr⟩ := e?_sound (t := ix) rfl hat
                  rw [h3] at hd
                  cases hd
                  have hF := hs.fr.set (s := .val false [.e (.c (.i .i64 (m : Int)))]) (t := t) ⟨_, rfl, _, rfl, hr⟩
                  exact hO me all (o :: rest) _ k ir' L ρ I μ w a Q h1 h2 ⟨hF.sub h3 rfl, hs.wr, hs.own, hs.nv, hs.lv⟩ hk
                · cases hx
              · split at hx
                · exact (deadEnd_no hx hw).elim
                · cases hx

theorem ops_step {n : Nat} (hO : SOps C R B I₀ w₀ E n) (hGo : SGo C R B I₀ w₀ E n) : SOps C R B I₀ w₀ E (n + 1) := by
  intro me all todo st k ir L ρ I μ w a Q hx hw hs hk
  cases todo with
  | nil =>
    simp only [exec] at hx
    exact wpList_nil (hk .normal st ir L ρ I μ w a hx hw (List.prefix_refl _) (List.prefix_refl _) hs (Evo.refl _ _ _))
  | cons o rest =>
    simp only [exec] at hx
    have hset : ∀ (t : Nat) (s : S), SR I μ w ρ s (a.tmps.getD t undef) → ∀ ir, exec E n me (.ops all (o :: rest)) { st with fr := st.fr.set t s } k = .ok ir → IR.wp C R ir L ρ → wpList E.P all.toArray Q (o :: rest) a w :=
      fun t s hts ir h1 h2 => hO me all (o :: rest) _ k ir L ρ I μ w a Q h1 h2 ⟨hs.fr.set hts, hs.wr, hs.own, hs.nv, hs.lv⟩ hk
    unfold guardOp at hx
    split at hx
    · rename_i hg
      exact runOp_sound hO hGo hx hw hs hk (by simp [Region.wanted, hg]) hset
    · rename_i j want hg
      split at hx
      · rename_i d hd
        have hslot := hs.fr.at_ d
        split at hx
        · rename_i hu
          rw [hu] at hslot
          refine wpList_skip (by simp [Region.wanted, hg, yielded_undef hd hslot]) ?_
          exact hO me all rest _ k ir L ρ I μ w _ Q hx hw ⟨hs.fr.put (s := .u) rfl o.dst, hs.wr, hs.own, hs.nv, hs.lv⟩ hk
        · rename_i t ht
          rw [ht] at hslot
          obtain ⟨dd, hdd, hr⟩ := e?_sound (t := t) rfl hslot
          split at hx
          · rename_i b hb
            have := bool?_eval (ρ := ρ) hb
            rw [hdd] at this
            cases this
            have hy := yielded_of hd b hr.b_inv
            split at hx
            · rename_i hbw
              exact runOp_sound hO hGo hx hw hs hk (by simp only [Region.wanted, hg, hy]; simpa using hbw) hset
            · rename_i hbw
              refine wpList_skip (by simp only [Region.wanted, hg, hy]; simpa using hbw) ?_
              exact hO me all rest _ k ir L ρ I μ w _ Q hx hw ⟨hs.fr.put (s := .u) rfl o.dst, hs.wr, hs.own, hs.nv, hs.lv⟩ hk
          · obtain ⟨ia, ib, h1, h2, rfl⟩ := both_ok hx
            obtain ⟨tb, htb, hwa, hwb⟩ := hw
            rw [hdd] at htb
            cases htb
            cases tb
            · exact hset d (.val false [.e (.c (.b false))]) ⟨_, rfl, .b false, by simp [Ex.eval], hr⟩ ib h2 (hwb rfl)
            · exact hset d (.val false [.e (.c (.b true))]) ⟨_, rfl, .b true, by simp [Ex.eval], hr⟩ ia h1 (hwa rfl)
        · cases hx
      · cases hx

theorem evalVs_of {ρ : List D} {xs : List XV} {as : List DV} (h : evalVs ρ xs = some as) : True := trivial

theorem VR.under {I : Imm} {μ : Mu} {w : World} {ρ : List D} {n : Nat} {g : Bool} {ls : List SL} {v : Value} (hu : ls.all (SL.under n) = true) (h : VR I μ w ρ g ls v) : VR I (μ.res (fun b => decide (b < n)) fun _ => true) w ρ g ls v := by
  cases g
  · obtain ⟨l, rfl, h⟩ := h
    exact ⟨l, rfl, LR.under (by simpa using hu) h⟩
  · obtain ⟨vs, hv, h⟩ := h
    refine ⟨vs, hv, ?_⟩
    clear hv
    induction h with
    | nil => exact .nil
    | cons a b ih =>
      simp only [List.all_cons, Bool.and_eq_true] at hu
      exact .cons (LR.under hu.1 a) (ih hu.2)

theorem SR.under {I : Imm} {μ : Mu} {w : World} {ρ : List D} {n : Nat} {ps : List (Bool × List SL)} {v : Value} (hu : (ps.all fun p => p.2.all (SL.under n)) = true) (hv : SR I μ w ρ (tupS ps) v) : SR I (μ.res (fun b => decide (b < n)) fun _ => true) w ρ (tupS ps) v := by
  have hall : ∀ {ps : List (Bool × List SL)} {vs : List Value}, (ps.all fun p => p.2.all (SL.under n)) = true → All2 (fun (p : Bool × List SL) u => VR I μ w ρ p.1 p.2 u) ps vs → All2 (fun (p : Bool × List SL) u => VR I (μ.res (fun b => decide (b < n)) fun _ => true) w ρ p.1 p.2 u) ps vs := by
    intro ps vs hu h
    induction h with
    | nil => exact .nil
    | cons a b ih =>
      simp only [List.all_cons, Bool.and_eq_true] at hu
      exact .cons (VR.under hu.1 a) (ih hu.2)
  match ps, hv with
  | [], hv => obtain ⟨vs, h1, h2⟩ := hv; exact ⟨vs, h1, hall hu h2⟩
  | [(g, ls)], hv =>
    have := hall hu (All2.cons (b := v) (bs := []) hv .nil)
    cases this with | cons p q => exact p
  | p :: q :: r, hv => obtain ⟨vs, h1, h2⟩ := hv; exact ⟨vs, h1, hall hu h2⟩

theorem OwnR.res {B : Nat} {I : Imm} {μ : Mu} {w : World} {ρ : List D} {o : Own} {p : Nat → Bool} (h : OwnR B I μ w ρ o) : OwnR B I (μ.res p fun _ => true) w ρ o := by
  have hv : (μ.res p fun _ => true).v = μ.v := by funext k; simp [Mu.res]
  refine ⟨fun k t hk => by rw [hv]; exact h.live k t hk, fun k t hk => by rw [hv]; exact h.frozen k t hk, fun k t v x hk hvk hx => ?_, fun k hk => by rw [hv]; exact h.new k hk⟩
  rw [hv] at hvk
  obtain ⟨h1, h2⟩ := h.dis k t v x hk hvk hx
  refine ⟨fun b hb => ?_, fun k' t' v' hne hk' hv' => ?_⟩
  · unfold Mu.res at hb
    simp only at hb
    split at hb
    · exact h1 b hb
    · cases hb
  · rw [hv] at hv'
    exact h2 k' t' v' hne hk' hv'

/-! ### lent slices -/

/-- data without slices -/
def D.plain : D → Prop
  | .b _ => True
  | .i _ _ => True
  | _ => False
theorem DR.plain {I I' : Imm} {w : World} {d : D} {v : Value} (hp : d.plain) (h : DR I w d v) : DR I' w d v := by
  cases h with
  | b x => exact .b x
  | i k n => exact .i k n
  | s => exact hp.elim
  | f => exact hp.elim
  | nil => exact hp.elim
  | sl => exact hp.elim
theorem eqt_plain {g : Bool} {d e : D} {t : Bool} (h : eqtD g d e = some (.b t)) : d.plain := by
  cases d <;> first | trivial | (exfalso; revert h; cases e <;> simp [eqtD])
theorem all2_plain {I I' : Imm} {w : World} {ds : List D} {vs : List Value} (h : All2 (DR I w) ds vs) : (∀ d ∈ ds, d.plain) → All2 (DR I' w) ds vs := by
  induction h with
  | nil => intro _; exact .nil
  | cons a b ih => intro hp; exact .cons (a.plain (hp _ (List.mem_cons_self ..))) (ih fun d hd => hp d (List.mem_cons_of_mem _ hd))
theorem DVR.plain {I I' : Imm} {w : World} {r : DV} {v : Value} (hp : ∀ d ∈ r.2, d.plain) (h : DVR I w r v) : DVR I' w r v := by
  unfold DVR at h ⊢
  split at h
  · rename_i hg
    rw [if_pos hg]
    obtain ⟨vs, h1, h2⟩ := h
    exact ⟨vs, h1, all2_plain h2 hp⟩
  · rename_i hg
    rw [if_neg hg]
    obtain ⟨d, h1, h2⟩ := h
    exact ⟨d, h1, h2.plain (hp d (by rw [h1]; exact List.mem_singleton.2 rfl))⟩
theorem all2_DVR_plain {I I' : Imm} {w : World} {rs : List DV} {vs : List Value} (h : All2 (DVR I w) rs vs) : (∀ d ∈ leavesOf rs, d.plain) → All2 (DVR I' w) rs vs := by
  induction h with
  | nil => intro _; exact .nil
  | cons a b ih =>
    intro hp
    exact .cons (a.plain fun d hd => hp d (List.mem_append_left _ hd)) (ih fun d hd => hp d (List.mem_append_right _ hd))
theorem RsR.plain {I I' : Imm} {w : World} {rs : List DV} {v : Value} (hp : ∀ d ∈ leavesOf rs, d.plain) (h : RsR I w rs v) : RsR I' w rs v := by
  match rs, h with
  | [], ⟨vs, h1, h2⟩ => exact ⟨vs, h1, all2_DVR_plain h2 hp⟩
  | [r], h => exact DVR.plain (fun d hd => hp d (List.mem_append_left _ hd)) h
  | r :: q :: rs, ⟨vs, h1, h2⟩ => exact ⟨vs, h1, all2_DVR_plain h2 hp⟩
theorem plainChk_sound {ρ : List D} : ∀ {gs : List Bool} {ds : List D} {k : Nat}, VarsAt ρ k ds → gs.length = ds.length → (∀ c ∈ plainChk k gs, c.eval ρ = some (.b true)) → ∀ d ∈ ds, d.plain
  | [], [], k, _, _, _ => fun d h => by cases h
  | g :: gs, d :: ds, k, hv, hl, hc => by
    intro e he
    rcases List.mem_cons.1 he with rfl | he
    · have h1 := hc (.eqt g (.v k) (.v k)) (by simp [plainChk])
      have h2 := hv 0 e (by simp)
      simp only [Nat.add_zero] at h2
      simp only [Ex.eval, h2] at h1
      exact eqt_plain h1
    · refine plainChk_sound (gs := gs) (k := k + 1) (fun i x hx => ?_) (by simpa using hl) (fun c hcm => hc c (by simp [plainChk, hcm])) e he
      have := hv (i + 1) x (by simpa using hx)
      rwa [show k + 1 + i = k + (i + 1) by omega]
theorem plainFs_len {P : Program} {g : TypeId → Option (List Bool)} : ∀ {fs : List Field} {off : Nat} {hs : List Bool}, plainFs P g fs off = some hs → True := fun _ => trivial

theorem eatChk_sound {o : Own} {I : Imm} {μ : Mu} {w : World} {ρ : List D} (hO : OwnR B I μ w ρ o) : ∀ {ps : List (Bool × List SL)} {cs : List Ex} {vs : List Value}, eatChk o ps = some cs → (∀ c ∈ cs, c.eval ρ = some (.b true)) →
    All2 (fun (p : Bool × List SL) u => VR I μ w ρ p.1 p.2 u) ps vs → ∀ u ∈ vs, PlainV w u
  | [], cs, _, _, _, .nil => fun u hu => by cases hu
  | p :: r, cs, _, h, hc, .cons (b := v) (bs := vs) a b => by
    unfold eatChk at h
    split at h
    · rename_i e; cases e
    · rename_i k r' e
      cases e
      split at h
      · rename_i t cs' hl hr
        cases h
        intro u hu
        rcases List.mem_cons.1 hu with rfl | hu
        · obtain ⟨l, hl1, hl2⟩ := a
          cases hl1
          obtain ⟨bb, n, c, hv, hmu⟩ := hl2
          obtain ⟨v', s', rows, hv', _, hV⟩ := hO.live k _ (live?_some hl)
          rw [hmu] at hv'
          cases hv'
          rcases hV.2 with ⟨e, _⟩ | ⟨x, cap, cur, ty, e, _, _, h3, _⟩
          · intro b l c hb
            rw [e] at hb
            cases hb
          · intro b l c hb
            rw [e] at hb
            cases hb
            exact ⟨x, cur, ty, rfl, h3⟩
        · exact eatChk_sound hO hr hc b u hu
      · cases h
    · rename_i x r' e
      cases e
      split at h
      · rename_i cs' hr
        cases h
        intro u hu
        rcases List.mem_cons.1 hu with rfl | hu
        · obtain ⟨l, hl1, hl2⟩ := a
          cases hl1
          obtain ⟨d, hd, hdr⟩ := hl2
          have h1 := hc _ (List.mem_cons_self ..)
          simp only [Ex.eval, hd] at h1
          intro b l c hb
          subst hb
          cases hdr <;> simp [eqtD] at h1
        · exact eatChk_sound hO hr (fun c hcm => hc c (List.mem_cons_of_mem _ hcm)) b u hu
      · cases h
    · cases h

theorem eat_sound {n : Nat} (hM : ∀ f as rs, C f as rs → ConX E.P E.G f as rs) (hO : SOps C R B I₀ w₀ E n) {me f : FuncId} {args : List S} {o : Oper} {all rest : List Oper} {st : St} {k : K} {ir : IR} {L : List Lp} {ρ : List D} {I : Imm} {μ : Mu} {w : World} {a : Act}
    {Q : Exit → Act → World → Prop} {vs : List Value} {nm : String} (hlt : f < eatOff)
    (hx : (match eatArgs args with
      | none => Res.no "args"
      | some (a0, vs) => match eatChk st.o vs with
        | none => .no ("an argument that is neither a number nor the call's own: " ++ nm)
        | some cs => chks cs (match appDst (frz (idsVs vs) st.o) a0 with
        | none => .no ("its first argument is no slice of the call's own: " ++ nm)
        | some (t, o1) => match exVs (fixVs (frz (idsVs vs) st.o) vs) with
          | some xs =>
            match exec E n me (.ops all rest) { st with fr := putS st.fr o.dst (.val false [.g o1.length]), o := (o1 ++ [OS.mk (.v st.nv) .live] : Own), nv := st.nv + 1 } k with
            | .ok ir => .ok (.call (eatOff + f) ((false, [t]) :: xs) [(false, 1)] ir)
            | z => z
          | none => .no ("an argument that is no data: " ++ nm))) = .ok ir)
    (hw : IR.wp C R ir L ρ) (hs : StR E.G B I₀ w₀ st L ρ I μ w a) (hargs : All2 (SR I μ w ρ) args vs) (hk : Post C R E.G B I₀ w₀ k L ρ I μ w Q) :
    Calls E.P f vs.toArray w fun e w' => match e with
      | .returned v => wpList E.P all.toArray Q rest (a.put o.dst v) w'
      | _ => False := by
  split at hx
  · cases hx
  rename_i a0 ps hea
  split at hx
  · cases hx
  rename_i cs hcs
  obtain ⟨irA, hx, hw, hcsT⟩ := chks_ok hx hw
  split at hx
  · cases hx
  rename_i t o1 hdst
  split at hx
  case h_2 => cases hx
  rename_i xs hxs
  split at hx
  case h_2 z hz => exact absurd hx (hz _)
  rename_i ir' hx'
  cases hx
  obtain ⟨as, rs, has, hc, hrs, hw⟩ := hw
  obtain ⟨I1, hW1, he1, hO1⟩ := hs.own.frz hs.wr (idsVs ps)
  have hargs1 : All2 (SR I1 μ w ρ) args vs := hargs.imp fun _ _ h => h.mono he1 (List.prefix_refl _)
  obtain ⟨ss, rfl, hps⟩ : ∃ ss, args = a0 :: ss ∧ argsOf ss = some ps := by
    unfold eatArgs at hea
    split at hea
    · split at hea
      · rename_i h; cases hea; exact ⟨_, rfl, h⟩
      · cases hea
    · cases hea
  have hargs0 := hargs
  cases hargs1 with
  | @cons _ v0 _ vs1 ha0 hrest =>
  have hpl : ∀ u ∈ vs1, PlainV w u := by
    cases hargs0 with
    | cons _ h => exact eatChk_sound hs.own hcs hcsT (argsOf_sound hps h)
  simp only [evalVs, Ex.evals] at has
  split at has
  case h_2 => cases has
  rename_i ds az h1 h2
  cases has
  split at h1
  case h_2 => cases h1
  rename_i d0 dn ht hnil
  cases hnil
  cases h1
  have hcO := (hM _ _ _ hc).2.1 ⟨Nat.le_add_right _ _, Nat.lt_of_lt_of_le (Nat.add_lt_add_left hlt eatOff) (by decide)⟩
  rw [Nat.add_sub_cancel_left] at hcO
  obtain ⟨s0, s, rows, more, rows', hae, rfl, hcO⟩ := hcO
  cases hae
  have hda := exVs_sound hxs h2 (fixVs_sound hO1 (argsOf_sound hps hrest))
  -- the slice
  obtain ⟨hV, hol, holive, hofroz, horow⟩ : OwnV B I1 w s0 rows v0 ∧ o1.length = (frz (idsVs ps) st.o).length ∧
      (∀ (k : Nat) (t : Ex), o1[k]? = some (OS.mk t .live) → (frz (idsVs ps) st.o)[k]? = some (OS.mk t .live) ∧ ∀ v y, μ.v k = some v → v.ownBlock = some y → v0.ownBlock ≠ some y) ∧
      (∀ (k : Nat) (t : Ex), o1[k]? = some (OS.mk t .frozen) → (frz (idsVs ps) st.o)[k]? = some (OS.mk t .frozen)) ∧ (∀ y, v0.ownBlock = some y → OwnB μ (frz (idsVs ps) st.o) y) := by
    generalize frz (idsVs ps) st.o = oF at *
    unfold appDst at hdst
    split at hdst
    · cases hdst
      obtain ⟨dd, hdd, hr⟩ := e?_sound (t := .c (.sl 0 [])) rfl ha0
      simp only [Ex.eval] at hdd ht
      cases hdd
      cases ht
      have hnil : v0 = .slice none 0 0 := by
        cases hr with
        | nil _ p cap hz => obtain ⟨rfl, rfl⟩ := hz rfl; rfl
        | sl _ _ _ _ _ _ h0 => omega
      subst hnil
      exact ⟨⟨(fun r hr => by cases hr), .inl ⟨rfl, rfl⟩⟩, rfl, fun k t hk => ⟨hk, fun v y _ _ => by simp [Value.ownBlock]⟩, fun k t hk => hk, fun y hy => by simp [Value.ownBlock] at hy⟩
    · rename_i kk
      split at hdst
      · rename_i tk hkl
        cases hdst
        have hkl := live?_some hkl
        obtain ⟨b, ll, cc, hbe, hv⟩ := l?_sound (l := .g kk) rfl ha0
        obtain ⟨v', s', rws, hv', ht', hV⟩ := hO1.live kk _ hkl
        rw [hv] at hv'
        cases hv'
        rw [ht] at ht'
        cases ht'
        refine ⟨hV, by simp, fun k t hk => ?_, fun k t hk => ?_, fun y hy => ⟨kk, _, _, hkl, hv, hy⟩⟩
        · by_cases hkk : kk = k
          · subst hkk
            rw [List.getElem?_set_self (by exact (List.getElem?_eq_some_iff.1 hkl).1)] at hk
            cases hk
          · rw [List.getElem?_set_ne hkk] at hk
            exact ⟨hk, fun v y hvk hy hy' => (hO1.dis kk _ _ y hkl hv hy').2 k t v (fun e => hkk e.symm) hk hvk hy⟩
        · by_cases hkk : kk = k
          · subst hkk
            rw [List.getElem?_set_self (by exact (List.getElem?_eq_some_iff.1 hkl).1)] at hk
            cases hk
          · rw [List.getElem?_set_ne hkk] at hk
            exact hk
      · cases hdst
    · cases hdst
  have hBw : B ≤ w.heap.size := hW1.size
  refine (hcO B I1 w v0 vs1 hW1.glo hW1.imm hBw hV hda hpl).mono ?_
  rintro e w' ⟨v', rfl, hV', hsame, hsize, hos, hblk⟩
  have hp : ρ <+: ρ ++ leavesOf [((false, [.sl s rows']) : DV)] := pre_append _ _
  have hg : Gr w w' v0.ownBlock := ⟨hos.1, hos.2, hsize, fun y hy hne => hsame y hy fun e => hne e.symm⟩
  obtain ⟨hW2, he2, hO2⟩ := OwnR.push (o1 := o1) (row := v0.ownBlock) (w' := w') (v' := v') (s' := s) (rows' := rows') (t' := .v st.nv) (hW1.vars hp) (hO1.vars hp) hol holive hofroz horow hg hV' hblk (by
    simp only [Ex.eval, ← hs.nv, leavesOf]
    simp)
  have he := he1.trans he2
  have hfl : (frz (idsVs ps) st.o).length = o1.length := hol.symm
  refine hO me all rest _ k ir' L (ρ ++ leavesOf [((false, [.sl s rows']) : DV)]) I1 _ w' _ Q hx' hw ⟨(hs.fr.mono he hp).put (s := .val false [.g o1.length]) ?_ o.dst, hW2, hO2, ?_, hs.lv⟩ (hk.mono (List.prefix_refl _) hp he)
  · obtain ⟨b, c, hvs⟩ := hV'.slice
    exact ⟨_, rfl, b, rows'.length, c, hvs, by rw [← hfl]; simp [Mu.push]⟩
  · simp [hs.nv, leavesOf]

theorem go_step {n : Nat} (hM : ∀ f as rs, C f as rs → ConX E.P E.G f as rs) (hC : SCode C R B I₀ w₀ E n) (hO : SOps C R B I₀ w₀ E n) : SGo C R B I₀ w₀ E (n + 1) := by
  intro me f args o all rest st k ir L ρ I μ w a Q vs hx hw hs hargs hk
  simp only [exec] at hx
  split at hx
  · cases hx
  · rename_i fn hfn
    split at hx
    · cases hx
    · rename_i hbody
      have hb : (fn.body.isNone = false ∧ (fn.name == "runtime.NumGoroutine") = false) ∧ f < eatOff := by
        simpa only [Bool.or_eq_true, not_or, Bool.not_eq_true, Bool.not_eq_false', decide_eq_true_eq] using hbody
      obtain ⟨hb, hlt⟩ := hb
      refine ⟨⟨fn, hfn, hb.1, hb.2⟩, ?_⟩
      split at hx
      · -- a slice of the call's own, used up
        exact eat_sound hM hO hlt hx hw hs hargs hk
      split at hx
      · -- inlined
        rename_i hinl
        split at hx
        · rename_i c hc
          refine calls_of_wp (fn := fn) (c := c) hfn hc ?_
          have hfr : FR I μ w ρ (args ++ List.replicate (fn.ntmps - args.length) .x) { tmps := vs.toArray ++ Array.replicate (fn.ntmps - vs.toArray.size) undef, defers := [] } := by
            have hl := hargs.length
            refine ⟨by simp [hl], fun t => ?_, rfl⟩
            by_cases ht : t < args.length
            · obtain ⟨v, hv, hr⟩ := hargs.get (List.getElem?_eq_getElem ht)
              have ht' : t < vs.length := by omega
              rw [List.getD_eq_getElem?_getD, List.getElem?_append_left ht, List.getElem?_eq_getElem ht]
              rw [Array.getD_eq_getD_getElem?, Array.getElem?_append_left (by simpa using ht')]
              simp only [List.getElem?_toArray, hv, Option.getD_some]
              exact hr
            · have : (args ++ List.replicate (fn.ntmps - args.length) S.x).getD t .x = .x := by
                rw [List.getD_eq_getElem?_getD, List.getElem?_append_right (by omega), List.getElem?_replicate]
                split <;> rfl
              rw [this]
              trivial
          refine hC f c _ _ ir L ρ I μ w _ _ hx hw ⟨hfr, hs.wr, hs.own, hs.nv, hs.lv⟩ ?_
          intro e s ir' L' ρ' I' μ' w' a' h1 h2 h3 h4 h5 h6
          have main : ∀ (hx' : (match resultsS E.P E.G fn s.fr s.h with
                | some vs => exec E n me (.ops all rest) { s with fr := putS st.fr o.dst (tupS vs), h := cutHp st.h.length vs s.h } k
                | none => Res.no "results") = .ok ir'),
              a'.defers = [] ∧ ∃ v, (results fn a'.tmps).run E.P w' = .ok v w' ∧ wpList E.P all.toArray Q rest (a.put o.dst v) w' := by
            intro hx'
            split at hx'
            · rename_i ps hps
              obtain ⟨v, hv, hvr⟩ := results_sound (P := E.P) h5.wr h5.fr hps
              refine ⟨h5.fr.defers, v, hv, ?_⟩
              have hdom : ∀ b x, μ b = some x → decide (b < st.h.length) = true := fun b x hb => decide_eq_true (hs.wr.dom hb)
              unfold cutHp at hx'
              split at hx'
              · rename_i hu
                simp only [Bool.and_eq_true] at hu
                have he := h6.upto (p := fun b => decide (b < st.h.length)) (q := fun _ => true) hdom fun _ _ _ => rfl
                refine hO me all rest _ k ir' L' ρ' I' (μ'.res (fun b => decide (b < st.h.length)) fun _ => true) w' _ Q hx' h2 ⟨(hs.fr.mono he h4).put (SR.under hu.1 hvr) o.dst, h5.wr.cut hu.2, h5.own.res, h5.nv, h5.lv⟩ (hk.mono h3 h4 he)
              · exact hO me all rest _ k ir' L' ρ' I' μ' w' _ Q hx' h2 ⟨(hs.fr.mono h6 h4).put hvr o.dst, h5.wr, h5.own, h5.nv, h5.lv⟩ (hk.mono h3 h4 h6)
            · cases hx'
          cases e with
          | normal => obtain ⟨hd, v, hv, hq⟩ := main h1; exact ⟨hd, v, hv, hq⟩
          | ret => obtain ⟨hd, v, hv, hq⟩ := main h1; exact ⟨hd, v, hv, hq⟩
          | exit id => cases h1
        · cases hx
      · -- by its contract
        split at hx
        · rename_i ps hps
          split at hx
          · rename_i xs sh hxs hsh
            split at hx
            · -- lent
              rename_i gs hgs
              have hlen : gs.length = shapeLen sh := by
                split at hgs
                · cases hgs
                · split at hgs
                  · split at hgs
                    · rename_i hl; cases hgs; exact hl
                    · cases hgs
                  · cases hgs
              split at hx
              · rename_i ir1 hx1
                cases hx
                obtain ⟨as, rs, has, hc, hrs, hw⟩ := hw
                subst hrs
                obtain ⟨ir', hx', hw', hcs⟩ := chks_ok hx1 hw
                obtain ⟨I1, hW1, he1, hO1⟩ := hs.own.frz hs.wr (idsVs ps)
                have hargs1 : All2 (SR I1 μ w ρ) args vs := hargs.imp fun _ _ h => h.mono he1 (List.prefix_refl _)
                have hda := exVs_sound hxs has (fixVs_sound hO1 (argsOf_sound hps hargs1))
                refine ((hM f as rs hc).1 hlt I1 w vs hW1.glo hW1.imm hda).mono ?_
                rintro e w' ⟨v, I', rfl, h1, h2, h3, h4, h5, hn, h6⟩
                obtain ⟨hW, he⟩ := hs.wr.call (I' := I) (fun _ h => h) (fun x h => .inl h) (fun x h => Nat.lt_of_lt_of_le (hs.wr.imm x h) h5) h4 h5 hn
                have hOw := hs.own.call (I' := I) (fun _ h => h) (fun x h => .inl h) hs.wr.imm h4
                have hp : ρ <+: ρ ++ leavesOf rs := pre_append _ _
                have hpl := plainChk_sound (ds := leavesOf rs) (gs := gs) (k := st.nv) (by rw [← hs.nv]; exact VarsAt.self ρ (leavesOf rs)) (by have := hlen; rw [shapeLen_leaves] at this; exact this) hcs
                refine hO me all rest _ k ir' L (ρ ++ leavesOf rs) I μ w' _ Q hx' hw' ⟨(hs.fr.mono he hp).put (s := tupS (shapeVs st.nv (shapeOf rs))) ?_ o.dst, hW.vars hp, hOw.vars hp, ?_, hs.lv⟩ (hk.mono (List.prefix_refl _) hp he)
                · refine tupS_sound ?_ (RsR.plain hpl h6)
                  rw [← hs.nv]
                  exact VarsAt.self ρ (leavesOf rs)
                · simp [hs.nv, shapeLen_leaves]
              · rename_i z hz; exact absurd hx (hz _)
            split at hx
            · rename_i ir' hx'
              cases hx
              obtain ⟨as, rs, has, hc, hrs, hw⟩ := hw
              subst hrs
              obtain ⟨I1, hW1, he1, hO1⟩ := hs.own.frz hs.wr (idsVs ps)
              have hargs1 : All2 (SR I1 μ w ρ) args vs := hargs.imp fun _ _ h => h.mono he1 (List.prefix_refl _)
              have hda := exVs_sound hxs has (fixVs_sound hO1 (argsOf_sound hps hargs1))
              refine ((hM f as rs hc).1 hlt I1 w vs hW1.glo hW1.imm hda).mono ?_
              rintro e w' ⟨v, I', rfl, h1, h2, h3, h4, h5, hn, h6⟩
              obtain ⟨hW, he⟩ := hW1.call h1 h2 h3 h4 h5 hn
              have hOw := hO1.call h1 h2 hW1.imm h4
              have he := he1.trans he
              have hp : ρ <+: ρ ++ leavesOf rs := pre_append _ _
              refine hO me all rest _ k ir' L (ρ ++ leavesOf rs) I' μ w' _ Q hx' hw ⟨(hs.fr.mono he hp).put (s := tupS (shapeVs st.nv (shapeOf rs))) ?_ o.dst, hW.vars hp, hOw.vars hp, ?_, hs.lv⟩ (hk.mono (List.prefix_refl _) hp he)
              · refine tupS_sound ?_ h6
                rw [← hs.nv]
                exact VarsAt.self ρ (leavesOf rs)
              · simp [hs.nv, shapeLen_leaves]
            · rename_i z hz; exact absurd hx (hz _)
          · cases hx
        · cases hx

theorem diffLs_nil {b : Nat} {ms : List (Nat × Nat)} : ∀ {gs ss : List SL} {o : Nat}, diffLs b ms o gs ss = [] → ∀ (i : Nat) (g s : SL), gs[i]? = some g → ss[i]? = some s → (b, o + i) ∉ ms → SL.same g s = true
  | [], ss, o, _, i, g, s, hg, _, _ => by simp at hg
  | g0 :: gs, [], o, _, i, g, s, _, hs, _ => by simp at hs
  | g0 :: gs, s0 :: ss, o, h, i, g, s, hg, hs, hm => by
    simp only [diffLs, List.append_eq_nil_iff] at h
    cases i with
    | zero =>
      simp at hg hs
      subst hg; subst hs
      have h1 := h.1
      split at h1
      · rename_i hc
        simp only [Bool.or_eq_true, List.contains_iff_mem] at hc
        exact hc.resolve_right hm
      · cases h1
    | succ i => exact diffLs_nil h.2 i g s (by simpa using hg) (by simpa using hs) (by rwa [Nat.add_assoc, Nat.add_comm 1 i])

theorem diffHp_nil {ms : List (Nat × Nat)} : ∀ {gs ss : Heap} {b : Nat}, diffHp ms b gs ss = [] → ∀ (i : Nat) (g s : SB), gs[i]? = some g → ss[i]? = some s → diffLs (b + i) ms 0 g.ls s.ls = []
  | [], ss, b, _, i, g, s, hg, _ => by simp at hg
  | g0 :: gs, [], b, _, i, g, s, _, hs => by simp at hs
  | g0 :: gs, s0 :: ss, b, h, i, g, s, hg, hs => by
    simp only [diffHp, List.append_eq_nil_iff] at h
    cases i with
    | zero => simp at hg hs; subst hg; subst hs; exact h.1
    | succ i =>
      have := diffHp_nil h.2 i g s (by simpa using hg) (by simpa using hs)
      rwa [Nat.add_assoc, Nat.add_comm 1 i] at this

theorem shapeHp_get : ∀ {gs ss : Heap}, shapeHp gs ss = true → ∀ (i : Nat) (g : SB), gs[i]? = some g → ∃ s : SB, ss[i]? = some s ∧ s.ro = g.ro ∧ s.ls.length = g.ls.length
  | [], ss, _, i, g, hg => by simp at hg
  | _ :: _, [], h, i, g, hg => by simp [shapeHp] at h
  | g0 :: gs, s0 :: ss, h, i, g, hg => by
    simp only [shapeHp, Bool.and_eq_true, beq_iff_eq] at h
    cases i with
    | zero => simp at hg; subst hg; exact ⟨s0, by simp, h.1.1.symm, h.1.2.symm⟩
    | succ i => simpa using shapeHp_get h.2 i g (by simpa using hg)

theorem prefix_get {α : Type} {l l' : List α} {x : α} (h : l ++ [x] <+: l') : l'[l.length]? = some x := by
  obtain ⟨t, rfl⟩ := h
  simp

end
end Go.Proofs.Ytffahdloddkcfaa.Sx
