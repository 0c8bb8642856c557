/-
  The soundness of the executor: operations, calls, loops.
  Loops: the slices that grow, at the head and at the end of a round.
  The soundness of the executor: loops made general.
  Regions whose operations run in any order that their edges leave open: what an operation comes to hangs on its operands alone, and, but for loads, not on memory.
  A region that draws, in the text's order: what each operation comes to.
  Regions that draw: what the static check tells, and what each operation comes to, by its place.
-/
import Derived.Test.YtlihbielphcgbaaGreatDoorBc
import Derived.WalkSpells
import Derived.Test.YtlihbielphcgbaaGreatDoorBb
namespace Go.Proofs.YtlihbielphcgbaaGreatDoor.Sx
open Go
set_option linter.unnecessarySimpa false
set_option linter.unusedSimpArgs false
set_option linter.unusedVariables false

section
variable {C : Con} {R : List DV → Prop} {G : Glo} {B : Nat} {I₀ : Imm} {w₀ : World} {E : Env}

theorem run_callFunc {P : Program} {f : FuncId} {args : Array Value} {w : World} (h : ∃ fn, P.funcs[f]? = some fn ∧ fn.body.isNone = false ∧ (fn.name == "runtime.NumGoroutine") = false) :
    (callFunc f args).run P w = .ok (.enter f args) w := by
  obtain ⟨fn, h1, h2, h3⟩ := h
  have h3' : ¬ fn.name = "runtime.NumGoroutine" := by simpa using h3
  cases hb : fn.body with
  | none => simp [hb] at h2
  | some c => simp [callFunc, h1, hb, h3']

theorem run_call {P : Program} {ρe : Operand → Value} {o : Oper} {g : Operand} {args : Array Operand} {argTypes : Array TypeId} {f : FuncId} {first caps : Array Value} {w : World}
    (ho : o.op = .call { callee := .value g, args := args, argTypes := argTypes }) (hg : ρe g = .func (.func f) first caps)
    (h : ∃ fn, P.funcs[f]? = some fn ∧ fn.body.isNone = false ∧ (fn.name == "runtime.NumGoroutine") = false) :
    (execOp ρe o).run P w = .ok (.enter f (first ++ args.map ρe ++ caps)) w := by
  simp only [execOp, ho, resolve, hg, Deferred.ofValue, Sem.run_bind, Sem.run_pure, Result.andThen_ok, invoke]
  exact run_callFunc h

theorem wp_enter {P : Program} {o : Oper} {a : Act} {w w' : World} {next : Act → World → Prop} {Q : Exit → Act → World → Prop} {f : FuncId} {args : Array Value}
    (hr : (execOp a.eval o).run P w = .ok (.enter f args) w') (h : Calls P f args w' fun e w'' => match e with | .returned v => next (a.put o.dst v) w'' | _ => False) : o.wp P a w next Q := by
  unfold Oper.wp
  rw [hr, Oper.upon_enter]
  refine h.mono fun e w'' he => ?_
  cases e with
  | returned v => exact he
  | panicked c => exact he.elim
  | outgrown => exact he.elim

theorem wp_value {P : Program} {o : Oper} {a : Act} {w w' : World} {next : Act → World → Prop} {Q : Exit → Act → World → Prop} {nx : Next} {v : Value}
    (hr : (execOp a.eval o).run P w = .ok nx w') (hn : nx = .value v ∨ (nx = .skip ∧ v = undef)) (h : next (a.put o.dst v) w') : o.wp P a w next Q := by
  unfold Oper.wp
  rcases hn with rfl | ⟨rfl, rfl⟩
  · rw [hr, Oper.upon_value]; exact h
  · rw [hr, Oper.upon_skip]; exact h

theorem all2_map_opd {I : Imm} {μ : Mu} {w : World} {ρ : List D} {fr : List S} {a : Act} (hf : FR I μ w ρ fr a) : ∀ (l : List Operand), All2 (SR I μ w ρ) (l.map (opd fr)) (l.map a.eval)
  | [] => .nil
  | x :: l => .cons (opd_sound hf x) (all2_map_opd hf l)

theorem pre_append {α : Type} (l r : List α) : l <+: l ++ r := ⟨r, rfl⟩

theorem nilOp_sound {P : Program} {I : Imm} {μ : Mu} {w : World} {ρ : List D} {fr : List S} {a : Act} {o : Oper} {x : Ex} {b : Bool} (hop : ∀ x, SR I μ w ρ (opd fr x) (a.eval x)) (hs : nilOp P fr o.op = some (x, b)) {s : Nat} {xs : List (List D)} (hx : x.eval ρ = some (.sl s xs)) :
    ∃ t, (execOp a.eval o).run P w = .ok (.value (.bool (if b then t else !t))) w ∧ (t = true → xs = []) := by
  unfold nilOp at hs
  split at hs
  · rename_i ob t xa xb xt hob
    split at hs
    · rename_i el ex hu hxa hxb
      have hA := hop xa
      have hB := hop xb
      rw [hxa] at hA
      rw [hxb] at hB
      obtain ⟨da, hda, hra⟩ := e?_sound (t := ex) rfl hA
      obtain ⟨db, hdb, hrb⟩ := e?_sound (t := .c (.sl 0 [])) rfl hB
      simp only [Ex.eval] at hdb
      cases hdb
      have hnil : a.eval xb = .slice none 0 0 := by
        generalize hv' : a.eval xb = vx at hrb
        cases hrb with
        | nil _ p cap hz => obtain ⟨rfl, rfl⟩ := hz rfl; rfl
        | sl _ _ _ _ _ _ h0 => omega
      have hg := run_eqGuard_one (P := P) (w := w) ob t xa xb hra hrb
      have main : x = ex → ∃ p c, a.eval xa = .slice p xs.length c ∧ (p = none → xs = []) := by
        intro e
        subst e
        rw [hx] at hda
        cases hda
        generalize hv' : a.eval xa = vx at hra
        cases hra with
        | nil _ p cap hz => exact ⟨p, cap, rfl, fun _ => rfl⟩
        | sl _ _ blk off cap _ _ _ => exact ⟨_, cap, rfl, fun h => by cases h⟩
      cases ob <;> first | (exfalso; revert hs; simp; done) | skip
      · simp only [Option.some.injEq, Prod.mk.injEq] at hs
        obtain ⟨he, rfl⟩ := hs
        obtain ⟨p, c, hp, hn⟩ := main he.symm
        refine ⟨p.isNone, ?_, fun h => hn (Option.isNone_iff_eq_none.1 h)⟩
        simp only [execOp, hob, Sem.run_bind, hg, Result.andThen_ok]
        rw [hp, hnil]
        rw [Lib.run_eql_slice_nil w t el p xs.length c 0 0 hu]
        rfl
      · simp only [Option.some.injEq, Prod.mk.injEq] at hs
        obtain ⟨he, rfl⟩ := hs
        obtain ⟨p, c, hp, hn⟩ := main he.symm
        refine ⟨p.isNone, ?_, fun h => hn (Option.isNone_iff_eq_none.1 h)⟩
        simp only [execOp, hob, Sem.run_bind, hg, Result.andThen_ok]
        rw [hp, hnil]
        rw [run_neq_slice_nil_any w t el p xs.length c 0 0 hu]
        rfl
    · cases hs
  · cases hs

theorem mays_ok {q : Ex} {x y : Res} {ir : IR} (h : mays q x y = .ok ir) : ∃ a b, x = .ok a ∧ y = .ok b ∧ ir = .may q a b := by
  unfold mays at h
  split at h
  · split at h
    · cases h; exact ⟨_, _, rfl, rfl, rfl⟩
    · rename_i hz; exact absurd h (hz _)
  · rename_i hz; exact absurd h (hz _)

theorem ownOpd_some {fr : List S} : ∀ {l : List Operand} {t : Nat} {g : Bool} {ls : List SL}, ownOpd fr l = some (t, g, ls) → fr.getD t .x = .val g ls
  | [], t, g, ls, h => by simp [ownOpd] at h
  | .tmp u :: r, t, g, ls, h => by
    simp only [ownOpd] at h
    split at h
    · rename_i g' ls' hu
      split at h
      · exact ownOpd_some h
      · cases h; exact hu
    · exact ownOpd_some h
  | .const _ :: r, t, g, ls, h => by simp only [ownOpd] at h; exact ownOpd_some h
  | .global _ :: r, t, g, ls, h => by simp only [ownOpd] at h; exact ownOpd_some h
  | .func _ :: r, t, g, ls, h => by simp only [ownOpd] at h; exact ownOpd_some h

theorem deadEnd_no {ir : IR} {L : List Lp} {ρ : List D} (h : deadEnd = .ok ir) (hw : IR.wp C R ir L ρ) : False := by
  unfold deadEnd at h
  cases h
  obtain ⟨h, _⟩ := hw
  simp [Ex.eval] at h

theorem fan_ok {ix : Ex} {r : Nat → Res} {X : Prop} {L : List Lp} {ρ : List D} (hX : ∀ m ir, r m = .ok ir → IR.wp C R ir L ρ → ix.eval ρ = some (.i .i64 (m : Int)) → X) : ∀ (n k : Nat) (ir : IR), fan ix r k n = .ok ir → IR.wp C R ir L ρ → X
  | 0, k, ir, h, hw => (deadEnd_no h hw).elim
  | n + 1, k, ir, h, hw => by
    simp only [fan] at h
    obtain ⟨a, b, h1, h2, rfl⟩ := both_ok h
    obtain ⟨t, ht, hwa, hwb⟩ := hw
    cases t with
    | false => exact fan_ok hX n (k + 1) b h2 (hwb rfl)
    | true =>
      refine hX k a h1 (hwa rfl) ?_
      simp only [Ex.eval] at ht
      split at ht
      · rename_i d1 d2 h3 h4
        cases h4
        rw [h3]
        cases d1 with
        | i k' m =>
          simp only [binD] at ht
          split at ht
          · rename_i hk'
            subst hk'
            simp at ht
            rw [ht]
          · cases ht
        | _ => simp [binD] at ht
      · cases ht

theorem FR.sub {I : Imm} {μ : Mu} {w : World} {ρ : List D} {fr : List S} {a : Act} {x c : Ex} {d : D} (h : FR I μ w ρ fr a) (hx : x.eval ρ = some d) (hc : c.eval ρ = some d) : FR I μ w ρ (subFr x c fr) a := by
  refine ⟨by simp [subFr, h.len], fun t => ?_⟩
  have h0 := h.at_ t
  unfold subFr
  rw [List.getD_eq_getElem?_getD, List.getElem?_map]
  rw [List.getD_eq_getElem?_getD] at h0
  cases hf : fr[t]? with
  | none => simp [SR]
  | some s =>
    rw [hf] at h0
    simp only [Option.map_some, Option.getD_some] at h0 ⊢
    split
    · rename_i y
      split
      · rename_i hy
        obtain ⟨d', hd', hr⟩ := e?_sound (t := y) rfl h0
        rw [← Ex.same_eq hy, hx] at hd'
        cases hd'
        exact ⟨_, rfl, d, hc, hr⟩
      · exact h0
    · exact h0

theorem spanOp_slot {P : Program} {fr : List S} {op : Op} {t n : Nat} {ix : Ex} (h : spanOp P fr op = some (t, ix, n)) : fr.getD t .x = .val false [.e ix] := by
  unfold spanOp at h
  split at h
  · split at h
    · rename_i h3
      split at h
      · cases h
        exact h3
      · cases h
    · cases h
  · cases h

theorem runOp_sound {r : Option Nat} {n : Nat} (hO : SOps C R B I₀ w₀ E n) (hGo : SGo C R B I₀ w₀ E n) {me : FuncId} {all rest : List Oper} {o : Oper} {st : St} {k : K} {ir : IR} {L : List Lp} {ρ : List D} {I : Imm} {μ : Mu} {w : World} {a : Act} {Q : Exit → Act → World → Prop}
    (hx : runOp E true (exec E n me) all o rest st k = .ok ir) (hw : IR.wp C R ir L ρ) (hs : StR r E.G B I₀ w₀ st L ρ I μ w a) (hk : Post C R r E.G B I₀ w₀ k L ρ I μ w Q)
    (hwant : Region.wanted o (yielded all.toArray a.tmps) = true)
    (hset : ∀ (t : Nat) (s : S), SR I μ w ρ s (a.tmps.getD t undef) → ∀ ir, exec E n me (.ops all (o :: rest)) { st with fr := st.fr.set t s } k = .ok ir → IR.wp C R ir L ρ → wpL E.P all.toArray Q (o :: rest) a w) :
    wpL E.P all.toArray Q (o :: rest) a w := by
  unfold runOp at hx
  split at hx
  · -- a call
    rename_i g args argTypes ho
    have hgv := opd_sound hs.fr g
    split at hx
    · rename_i f hg
      rw [hg] at hgv
      obtain ⟨d, hd, hr⟩ := e?_sound (t := .c (.f f)) rfl hgv
      simp only [Ex.eval] at hd
      cases hd
      obtain ⟨hfn, hcalls⟩ := hGo r me f _ o all rest st k ir L ρ I μ w a Q _ hx hw hs (all2_map_opd hs.fr args.toList) hk
      refine wpL_go hwant (wp_enter (run_call ho hr.f_inv hfn) ?_)
      rw [show (#[] ++ args.map a.eval ++ #[] : Array Value) = (args.toList.map a.eval).toArray from by apply Array.toList_inj.1; simp]
      exact hcalls
    · rename_i f caps hg
      rw [hg] at hgv
      obtain ⟨vs, hv, hcaps⟩ := l?_sound (l := .clo f caps) rfl hgv
      have hargs : All2 (SR I μ w ρ) (args.toList.map (opd st.fr) ++ caps.map fun c => .val false [.p c.1 c.2]) (args.toList.map a.eval ++ vs) := by
        refine (all2_map_opd hs.fr args.toList).append ?_
        refine All2.map_left (hcaps.imp fun c u hc => ?_)
        obtain ⟨x, hx, hu⟩ := hc
        exact ⟨_, rfl, x, hx, hu⟩
      obtain ⟨hfn, hcalls⟩ := hGo r me f _ o all rest st k ir L ρ I μ w a Q _ hx hw hs hargs hk
      refine wpL_go hwant (wp_enter (run_call ho hv hfn) ?_)
      rw [show (#[] ++ args.map a.eval ++ vs.toArray : Array Value) = (args.toList.map a.eval ++ vs).toArray from by apply Array.toList_inj.1; simp]
      exact hcalls
    · rename_i q x y hg
      split at hx
      · rename_i t
        obtain ⟨ia, ib, h1, h2, rfl⟩ := both_ok hx
        obtain ⟨tb, htb, hwa, hwb⟩ := hw
        simp only [opd] at hg
        rw [show opd st.fr (.tmp t) = st.fr.getD t .x from rfl, hg] at hgv
        obtain ⟨d, hd, hr⟩ := e?_sound (t := .ite q x y) rfl hgv
        simp only [Ex.eval, htb] at hd
        cases tb
        · exact hset t (.val false [.e y]) ⟨_, rfl, d, by simpa using hd, hr⟩ ib h2 (hwb rfl)
        · exact hset t (.val false [.e x]) ⟨_, rfl, d, by simpa using hd, hr⟩ ia h1 (hwa rfl)
      · cases hx
    · cases hx
  · -- no call
    have hop := opd_sound hs.fr
    simp only [if_true] at hx
    split at hx
    · -- slices that grow
      rename_i cs s o' hown
      obtain ⟨ir', hx', hw', hcs⟩ := chks_ok hx hw
      obtain ⟨nx, v, w', μ', hrun, hn, hsr, hW, he, hOw⟩ := ownOp_sound hs.wr hs.own hop hown hcs
      refine wpL_go hwant (wp_value hrun hn ?_)
      exact hO r me all rest _ k ir' L ρ I μ' w' _ Q hx' hw' ⟨(hs.fr.mono he (List.prefix_refl _)).put hsr o.dst, hW, hOw, hs.nv, hs.lv, (hs.df.mono he).put⟩ (hk.mono (List.prefix_refl _) (List.prefix_refl _) he)
    · split at hx
      · -- a literal
        rename_i d ha
        obtain ⟨v, hv, hr⟩ := arith_sound hop ha (d := d) (by simp [Ex.eval])
        refine wpL_go hwant (wp_value hv (.inl rfl) ?_)
        exact hO r me all rest _ k ir L ρ I μ w _ Q hx hw ⟨hs.fr.put (s := .val false [.e (.c d)]) ⟨_, rfl, d, by simp [Ex.eval], hr⟩ o.dst, hs.wr, hs.own, hs.nv, hs.lv, hs.df.put⟩ hk
      · -- an expression
        rename_i t hne ha
        split at hx
        · rename_i ir' hx'
          cases hx
          obtain ⟨d, hd, hw⟩ := hw
          obtain ⟨v, hv, hr⟩ := arith_sound hop ha hd
          have hp : ρ <+: ρ ++ [d] := pre_append _ _
          refine wpL_go hwant (wp_value hv (.inl rfl) ?_)
          refine hO r me all rest _ k ir' L (ρ ++ [d]) I μ w _ Q hx' hw ⟨(hs.fr.mono (Evo.refl _ _ _) hp).put (s := .val false [.e (.v st.nv)]) ⟨_, rfl, d, ?_, hr⟩ o.dst, hs.wr.vars hp, hs.own.vars hp, by simp [hs.nv], hs.lv, hs.df.put⟩ (hk.mono (List.prefix_refl _) hp (Evo.refl _ _ _))
          simp only [Ex.eval, ← hs.nv]
          simp
        · rename_i z hz; exact absurd hx (hz _)
      · -- a simple operation
        split at hx
        · rename_i cs s h' hsim
          obtain ⟨ir', hx', hw', hcs⟩ := chks_ok hx hw
          obtain ⟨nx, v, w', μ', hrun, hn, hsr, hW, he, hOw, _⟩ := simple_own hs.wr hs.own hop hsim hcs
          refine wpL_go hwant (wp_value hrun hn ?_)
          exact hO r me all rest _ k ir' L ρ I μ' w' _ Q hx' hw' ⟨(hs.fr.mono he (List.prefix_refl _)).put hsr o.dst, hW, hOw, hs.nv, hs.lv, (hs.df.mono he).put⟩ (hk.mono (List.prefix_refl _) (List.prefix_refl _) he)
        · split at hx
          · -- what grows is data from now on
            rename_i t g ls hop'
            have hsl := ownOpd_some hop'
            obtain ⟨I', hW', he, hOw⟩ := hs.own.frz hs.wr (ownIds ls)
            have hF := hs.fr.mono he (List.prefix_refl _)
            have hat := hF.at_ t
            rw [hsl] at hat
            exact hO r me all (o :: rest) _ k ir L ρ I' μ w a Q hx hw ⟨hF.set (fixV_sound hOw hat), hW', hOw, hs.nv, hs.lv, hs.df.mono he⟩ (hk.mono (List.prefix_refl _) (List.prefix_refl _) he)
          · split at hx
            · -- is it nil?
              rename_i x b hnil
              obtain ⟨ia, ib, h1, h2, rfl⟩ := mays_ok hx
              obtain ⟨tb, htb, hwa, hwb⟩ := hw
              have hxe : ∃ s xs, x.eval ρ = some (.sl s xs) ∧ tb = (xs.length == 0) := by
                rw [mkBin_eval] at htb
                simp only [Ex.eval, litN] at htb
                have hxv : ∃ d, x.eval ρ = some d := by
                  unfold nilOp at hnil
                  split at hnil
                  · rename_i ob t xa xb xt hob
                    split at hnil
                    · rename_i el ex hu hxa hxb
                      have hA := hop xa
                      rw [hxa] at hA
                      obtain ⟨da, hda, hra⟩ := e?_sound (t := ex) rfl hA
                      cases ob <;> first | (exfalso; revert hnil; simp; done) | skip
                      · simp only [Option.some.injEq, Prod.mk.injEq] at hnil
                        exact ⟨da, hnil.1 ▸ hda⟩
                      · simp only [Option.some.injEq, Prod.mk.injEq] at hnil
                        exact ⟨da, hnil.1 ▸ hda⟩
                    · cases hnil
                  · cases hnil
                obtain ⟨d, hd⟩ := hxv
                cases hrs : rows? x with
                | some rs =>
                  obtain ⟨s, xs, rfl, hl, _⟩ := rows?_sound hrs hd
                  refine ⟨s, xs, hd, ?_⟩
                  rw [mkLenO_eval hd] at htb
                  simp [binD] at htb
                  rw [← htb, Bool.eq_iff_iff]
                  simp
                | none =>
                  simp only [mkLenO, hrs, Ex.eval, hd] at htb
                  cases d <;> simp [binD] at htb
                  rename_i s xs
                  exact ⟨s, xs, hd, by rw [← htb, Bool.eq_iff_iff]; simp⟩
              obtain ⟨s, xs, hxe, rfl⟩ := hxe
              obtain ⟨t, hrun, ht⟩ := nilOp_sound (P := E.P) (w := w) hop hnil hxe
              refine wpL_go hwant (wp_value hrun (.inl rfl) ?_)
              have go : ∀ (q : Bool) (ir : IR), (if b then t else !t) = q → exec E n me (.ops all rest) { st with fr := putS st.fr o.dst (.val false [.e (.c (.b q))]) } k = .ok ir → IR.wp C R ir L ρ → wpL E.P all.toArray Q rest (a.put o.dst (.bool (if b then t else !t))) w := by
                intro q ir hq h1 h2
                exact hO r me all rest _ k ir L ρ I μ w _ Q h1 h2 ⟨hs.fr.put (s := .val false [.e (.c (.b q))]) ⟨_, rfl, .b q, by simp [Ex.eval], by rw [hq]; exact .b _⟩ o.dst, hs.wr, hs.own, hs.nv, hs.lv, hs.df.put⟩ hk
              cases t
              · exact go (!b) ib (by cases b <;> rfl) h2 hwb
              · exact go b ia (by cases b <;> rfl) h1 (hwa (by rw [ht rfl]; rfl))
            · split at hx
              · -- an index within an element
                rename_i t ix nn hspan
                split at hx
                · refine fan_ok (fun m ir' h1 h2 h3 => ?_) nn 0 ir hx hw
                  have hslot : st.fr.getD t .x = .val false [.e ix] := spanOp_slot hspan
                  have hat := hs.fr.at_ t
                  rw [hslot] at hat
                  obtain ⟨d, hd, hr⟩ := e?_sound (t := ix) rfl hat
                  rw [h3] at hd
                  cases hd
                  have hF := hs.fr.set (s := .val false [.e (.c (.i .i64 (m : Int)))]) (t := t) ⟨_, rfl, _, rfl, hr⟩
                  exact hO r me all (o :: rest) _ k ir' L ρ I μ w a Q h1 h2 ⟨hF.sub h3 rfl, hs.wr, hs.own, hs.nv, hs.lv, hs.df⟩ hk
                · cases hx
              · split at hx
                · exact (deadEnd_no hx hw).elim
                · cases hx

theorem ops_step {n : Nat} (hO : SOps C R B I₀ w₀ E n) (hGo : SGo C R B I₀ w₀ E n) : SOps C R B I₀ w₀ E (n + 1) := by
  intro r me all todo st k ir L ρ I μ w a Q hx hw hs hk
  cases todo with
  | nil =>
    simp only [exec] at hx
    exact wpL_nil (hk .normal st ir L ρ I μ w a hx hw (List.prefix_refl _) (List.prefix_refl _) hs (Evo.refl _ _ _))
  | cons o rest =>
    simp only [exec] at hx
    have hset : ∀ (t : Nat) (s : S), SR I μ w ρ s (a.tmps.getD t undef) → ∀ ir, exec E n me (.ops all (o :: rest)) { st with fr := st.fr.set t s } k = .ok ir → IR.wp C R ir L ρ → wpL E.P all.toArray Q (o :: rest) a w :=
      fun t s hts ir h1 h2 => hO r me all (o :: rest) _ k ir L ρ I μ w a Q h1 h2 ⟨hs.fr.set hts, hs.wr, hs.own, hs.nv, hs.lv, hs.df⟩ hk
    unfold guardOp at hx
    split at hx
    · rename_i hg
      exact runOp_sound hO hGo hx hw hs hk (by simp [Region.wanted, hg]) hset
    · rename_i j want hg
      split at hx
      · rename_i d hd
        have hslot := hs.fr.at_ d
        split at hx
        · rename_i hu
          rw [hu] at hslot
          refine wpL_skip (by simp [Region.wanted, hg, yielded_undef hd hslot]) ?_
          exact hO r me all rest _ k ir L ρ I μ w _ Q hx hw ⟨hs.fr.put (s := .u) rfl o.dst, hs.wr, hs.own, hs.nv, hs.lv, hs.df.put⟩ hk
        · rename_i t ht
          rw [ht] at hslot
          obtain ⟨dd, hdd, hr⟩ := e?_sound (t := t) rfl hslot
          split at hx
          · rename_i b hb
            have := bool?_eval (ρ := ρ) hb
            rw [hdd] at this
            cases this
            have hy := yielded_of hd b hr.b_inv
            split at hx
            · rename_i hbw
              exact runOp_sound hO hGo hx hw hs hk (by simp only [Region.wanted, hg, hy]; simpa using hbw) hset
            · rename_i hbw
              refine wpL_skip (by simp only [Region.wanted, hg, hy]; simpa using hbw) ?_
              exact hO r me all rest _ k ir L ρ I μ w _ Q hx hw ⟨hs.fr.put (s := .u) rfl o.dst, hs.wr, hs.own, hs.nv, hs.lv, hs.df.put⟩ hk
          · obtain ⟨ia, ib, h1, h2, rfl⟩ := both_ok hx
            obtain ⟨tb, htb, hwa, hwb⟩ := hw
            rw [hdd] at htb
            cases htb
            cases tb
            · exact hset d (.val false [.e (.c (.b false))]) ⟨_, rfl, .b false, by simp [Ex.eval], hr⟩ ib h2 (hwb rfl)
            · exact hset d (.val false [.e (.c (.b true))]) ⟨_, rfl, .b true, by simp [Ex.eval], hr⟩ ia h1 (hwa rfl)
        · cases hx
      · cases hx

theorem evalVs_of {ρ : List D} {xs : List XV} {as : List DV} (h : evalVs ρ xs = some as) : True := trivial

theorem VR.under {I : Imm} {μ : Mu} {w : World} {ρ : List D} {n : Nat} {g : Bool} {ls : List SL} {v : Value} (hu : ls.all (SL.under n) = true) (h : VR I μ w ρ g ls v) : VR I (μ.res (fun b => decide (b < n)) fun _ => true) w ρ g ls v := by
  cases g
  · obtain ⟨l, rfl, h⟩ := h
    exact ⟨l, rfl, LR.under (by simpa using hu) h⟩
  · obtain ⟨vs, hv, h⟩ := h
    refine ⟨vs, hv, ?_⟩
    clear hv
    induction h with
    | nil => exact .nil
    | cons a b ih =>
      simp only [List.all_cons, Bool.and_eq_true] at hu
      exact .cons (LR.under hu.1 a) (ih hu.2)

theorem SR.under {I : Imm} {μ : Mu} {w : World} {ρ : List D} {n : Nat} {ps : List (Bool × List SL)} {v : Value} (hu : (ps.all fun p => p.2.all (SL.under n)) = true) (hv : SR I μ w ρ (tupS ps) v) : SR I (μ.res (fun b => decide (b < n)) fun _ => true) w ρ (tupS ps) v := by
  have hall : ∀ {ps : List (Bool × List SL)} {vs : List Value}, (ps.all fun p => p.2.all (SL.under n)) = true → All2 (fun (p : Bool × List SL) u => VR I μ w ρ p.1 p.2 u) ps vs → All2 (fun (p : Bool × List SL) u => VR I (μ.res (fun b => decide (b < n)) fun _ => true) w ρ p.1 p.2 u) ps vs := by
    intro ps vs hu h
    induction h with
    | nil => exact .nil
    | cons a b ih =>
      simp only [List.all_cons, Bool.and_eq_true] at hu
      exact .cons (VR.under hu.1 a) (ih hu.2)
  match ps, hv with
  | [], hv => obtain ⟨vs, h1, h2⟩ := hv; exact ⟨vs, h1, hall hu h2⟩
  | [(g, ls)], hv =>
    have := hall hu (All2.cons (b := v) (bs := []) hv .nil)
    cases this with | cons p q => exact p
  | p :: q :: r, hv => obtain ⟨vs, h1, h2⟩ := hv; exact ⟨vs, h1, hall hu h2⟩

theorem OwnR.res {B : Nat} {I : Imm} {μ : Mu} {w : World} {ρ : List D} {o : Own} {p : Nat → Bool} (h : OwnR B I μ w ρ o) : OwnR B I (μ.res p fun _ => true) w ρ o := by
  have hv : (μ.res p fun _ => true).v = μ.v := by funext k; simp [Mu.res]
  refine ⟨fun k t hk => by rw [hv]; exact h.live k t hk, fun k t hk => by rw [hv]; exact h.frozen k t hk, fun k t v x hk hvk hx => ?_, fun k hk => by rw [hv]; exact h.new k hk⟩
  rw [hv] at hvk
  obtain ⟨h1, h2⟩ := h.dis k t v x hk hvk hx
  refine ⟨fun b hb => ?_, fun k' t' v' hne hk' hv' => ?_⟩
  · unfold Mu.res at hb
    simp only at hb
    split at hb
    · exact h1 b hb
    · cases hb
  · rw [hv] at hv'
    exact h2 k' t' v' hne hk' hv'

/-! ### lent slices -/

/-- data without slices -/
def D.plain : D → Prop
  | .b _ => True
  | .i _ _ => True
  | _ => False
theorem DR.plain {I I' : Imm} {w : World} {d : D} {v : Value} (hp : d.plain) (h : DR I w d v) : DR I' w d v := by
  cases h with
  | b x => exact .b x
  | i k n => exact .i k n
  | s => exact hp.elim
  | f => exact hp.elim
  | nil => exact hp.elim
  | sl => exact hp.elim
theorem eqt_plain {g : Bool} {d e : D} {t : Bool} (h : eqtD g d e = some (.b t)) : d.plain := by
  cases d <;> first | trivial | (exfalso; revert h; cases e <;> simp [eqtD])
theorem all2_plain {I I' : Imm} {w : World} {ds : List D} {vs : List Value} (h : All2 (DR I w) ds vs) : (∀ d ∈ ds, d.plain) → All2 (DR I' w) ds vs := by
  induction h with
  | nil => intro _; exact .nil
  | cons a b ih => intro hp; exact .cons (a.plain (hp _ (List.mem_cons_self ..))) (ih fun d hd => hp d (List.mem_cons_of_mem _ hd))
theorem DVR.plain {I I' : Imm} {w : World} {r : DV} {v : Value} (hp : ∀ d ∈ r.2, d.plain) (h : DVR I w r v) : DVR I' w r v := by
  unfold DVR at h ⊢
  split at h
  · rename_i hg
    rw [if_pos hg]
    obtain ⟨vs, h1, h2⟩ := h
    exact ⟨vs, h1, all2_plain h2 hp⟩
  · rename_i hg
    rw [if_neg hg]
    obtain ⟨d, h1, h2⟩ := h
    exact ⟨d, h1, h2.plain (hp d (by rw [h1]; exact List.mem_singleton.2 rfl))⟩
theorem all2_DVR_plain {I I' : Imm} {w : World} {rs : List DV} {vs : List Value} (h : All2 (DVR I w) rs vs) : (∀ d ∈ leavesOf rs, d.plain) → All2 (DVR I' w) rs vs := by
  induction h with
  | nil => intro _; exact .nil
  | cons a b ih =>
    intro hp
    exact .cons (a.plain fun d hd => hp d (List.mem_append_left _ hd)) (ih fun d hd => hp d (List.mem_append_right _ hd))
theorem RsR.plain {I I' : Imm} {w : World} {rs : List DV} {v : Value} (hp : ∀ d ∈ leavesOf rs, d.plain) (h : RsR I w rs v) : RsR I' w rs v := by
  match rs, h with
  | [], ⟨vs, h1, h2⟩ => exact ⟨vs, h1, all2_DVR_plain h2 hp⟩
  | [r], h => exact DVR.plain (fun d hd => hp d (List.mem_append_left _ hd)) h
  | r :: q :: rs, ⟨vs, h1, h2⟩ => exact ⟨vs, h1, all2_DVR_plain h2 hp⟩
theorem plainChk_sound {ρ : List D} : ∀ {gs : List Bool} {ds : List D} {k : Nat}, VarsAt ρ k ds → gs.length = ds.length → (∀ c ∈ plainChk k gs, c.eval ρ = some (.b true)) → ∀ d ∈ ds, d.plain
  | [], [], k, _, _, _ => fun d h => by cases h
  | g :: gs, d :: ds, k, hv, hl, hc => by
    intro e he
    rcases List.mem_cons.1 he with rfl | he
    · have h1 := hc (.eqt g (.v k) (.v k)) (by simp [plainChk])
      have h2 := hv 0 e (by simp)
      simp only [Nat.add_zero] at h2
      simp only [Ex.eval, h2] at h1
      exact eqt_plain h1
    · refine plainChk_sound (gs := gs) (k := k + 1) (fun i x hx => ?_) (by simpa using hl) (fun c hcm => hc c (by simp [plainChk, hcm])) e he
      have := hv (i + 1) x (by simpa using hx)
      rwa [show k + 1 + i = k + (i + 1) by omega]
theorem plainFs_len {P : Program} {g : TypeId → Option (List Bool)} : ∀ {fs : List Field} {off : Nat} {hs : List Bool}, plainFs P g fs off = some hs → True := fun _ => trivial

theorem eatChk_sound {o : Own} {I : Imm} {μ : Mu} {w : World} {ρ : List D} (hO : OwnR B I μ w ρ o) : ∀ {ps : List (Bool × List SL)} {cs : List Ex} {vs : List Value}, eatChk o ps = some cs → (∀ c ∈ cs, c.eval ρ = some (.b true)) →
    All2 (fun (p : Bool × List SL) u => VR I μ w ρ p.1 p.2 u) ps vs → ∀ u ∈ vs, PlainV w u
  | [], cs, _, _, _, .nil => fun u hu => by cases hu
  | p :: r, cs, _, h, hc, .cons (b := v) (bs := vs) a b => by
    unfold eatChk at h
    split at h
    · rename_i e; cases e
    · rename_i k r' e
      cases e
      split at h
      · rename_i t cs' hl hr
        cases h
        intro u hu
        rcases List.mem_cons.1 hu with rfl | hu
        · obtain ⟨l, hl1, hl2⟩ := a
          cases hl1
          obtain ⟨bb, n, c, hv, hmu⟩ := hl2
          obtain ⟨v', s', rows, hv', _, hV⟩ := hO.live k _ (live?_some hl)
          rw [hmu] at hv'
          cases hv'
          rcases hV.2 with ⟨e, _⟩ | ⟨x, cap, cur, ty, e, _, _, h3, _⟩
          · intro b l c hb
            rw [e] at hb
            cases hb
          · intro b l c hb
            rw [e] at hb
            cases hb
            exact ⟨x, cur, ty, rfl, h3⟩
        · exact eatChk_sound hO hr hc b u hu
      · cases h
    · rename_i x r' e
      cases e
      split at h
      · rename_i cs' hr
        cases h
        intro u hu
        rcases List.mem_cons.1 hu with rfl | hu
        · obtain ⟨l, hl1, hl2⟩ := a
          cases hl1
          obtain ⟨d, hd, hdr⟩ := hl2
          have h1 := hc _ (List.mem_cons_self ..)
          simp only [Ex.eval, hd] at h1
          intro b l c hb
          subst hb
          cases hdr <;> simp [eqtD] at h1
        · exact eatChk_sound hO hr (fun c hcm => hc c (List.mem_cons_of_mem _ hcm)) b u hu
      · cases h
    · cases h

theorem eat_sound {r : Option Nat} {n : Nat} (hM : ∀ f as rs, C f as rs → ConX E.P E.G f as rs) (hO : SOps C R B I₀ w₀ E n) {me f : FuncId} {args : List S} {o : Oper} {all rest : List Oper} {st : St} {k : K} {ir : IR} {L : List Lp} {ρ : List D} {I : Imm} {μ : Mu} {w : World} {a : Act}
    {Q : Exit → Act → World → Prop} {vs : List Value} {nm : String} (hlt : f < eatOff)
    (hx : (match eatArgs args with
      | none => Res.no "args"
      | some (a0, vs) => match eatChk st.o vs with
        | none => .no ("an argument that is neither a number nor the call's own: " ++ nm)
        | some cs => chks cs (match appDst (frz (idsVs vs) st.o) a0 with
        | none => .no ("its first argument is no slice of the call's own: " ++ nm)
        | some (t, o1) => match exVs (fixVs (frz (idsVs vs) st.o) vs) with
          | some xs =>
            match exec E n me (.ops all rest) { st with fr := putS st.fr o.dst (.val false [.g o1.length]), o := (o1 ++ [OS.mk (.v st.nv) .live] : Own), nv := st.nv + 1 } k with
            | .ok ir => .ok (.call (eatOff + f) ((false, [t]) :: xs) [(false, 1)] ir)
            | z => z
          | none => .no ("an argument that is no data: " ++ nm))) = .ok ir)
    (hw : IR.wp C R ir L ρ) (hs : StR r E.G B I₀ w₀ st L ρ I μ w a) (hargs : All2 (SR I μ w ρ) args vs) (hk : Post C R r E.G B I₀ w₀ k L ρ I μ w Q) :
    Calls E.P f vs.toArray w fun e w' => match e with
      | .returned v => wpL E.P all.toArray Q rest (a.put o.dst v) w'
      | _ => False := by
  split at hx
  · cases hx
  rename_i a0 ps hea
  split at hx
  · cases hx
  rename_i cs hcs
  obtain ⟨irA, hx, hw, hcsT⟩ := chks_ok hx hw
  split at hx
  · cases hx
  rename_i t o1 hdst
  split at hx
  case h_2 => cases hx
  rename_i xs hxs
  split at hx
  case h_2 z hz => exact absurd hx (hz _)
  rename_i ir' hx'
  cases hx
  obtain ⟨as, rs, has, hc, hrs, hw⟩ := hw
  obtain ⟨I1, hW1, he1, hO1⟩ := hs.own.frz hs.wr (idsVs ps)
  have hargs1 : All2 (SR I1 μ w ρ) args vs := hargs.imp fun _ _ h => h.mono he1 (List.prefix_refl _)
  obtain ⟨ss, rfl, hps⟩ : ∃ ss, args = a0 :: ss ∧ argsOf ss = some ps := by
    unfold eatArgs at hea
    split at hea
    · split at hea
      · rename_i h; cases hea; exact ⟨_, rfl, h⟩
      · cases hea
    · cases hea
  have hargs0 := hargs
  cases hargs1 with
  | @cons _ v0 _ vs1 ha0 hrest =>
  have hpl : ∀ u ∈ vs1, PlainV w u := by
    cases hargs0 with
    | cons _ h => exact eatChk_sound hs.own hcs hcsT (argsOf_sound hps h)
  simp only [evalVs, Ex.evals] at has
  split at has
  case h_2 => cases has
  rename_i ds az h1 h2
  cases has
  split at h1
  case h_2 => cases h1
  rename_i d0 dn ht hnil
  cases hnil
  cases h1
  have hcO := (hM _ _ _ hc).2.1 ⟨Nat.le_add_right _ _, Nat.lt_of_lt_of_le (Nat.add_lt_add_left hlt eatOff) (by decide)⟩
  rw [Nat.add_sub_cancel_left] at hcO
  obtain ⟨s0, s, rows, more, rows', hae, rfl, hcO⟩ := hcO
  cases hae
  have hda := exVs_sound hxs h2 (fixVs_sound hO1 (argsOf_sound hps hrest))
  -- the slice
  obtain ⟨hV, hol, holive, hofroz, horow⟩ : OwnV B I1 w s0 rows v0 ∧ o1.length = (frz (idsVs ps) st.o).length ∧
      (∀ (k : Nat) (t : Ex), o1[k]? = some (OS.mk t .live) → (frz (idsVs ps) st.o)[k]? = some (OS.mk t .live) ∧ ∀ v y, μ.v k = some v → v.ownBlock = some y → v0.ownBlock ≠ some y) ∧
      (∀ (k : Nat) (t : Ex), o1[k]? = some (OS.mk t .frozen) → (frz (idsVs ps) st.o)[k]? = some (OS.mk t .frozen)) ∧ (∀ y, v0.ownBlock = some y → OwnB μ (frz (idsVs ps) st.o) y) := by
    generalize frz (idsVs ps) st.o = oF at *
    unfold appDst at hdst
    split at hdst
    · cases hdst
      obtain ⟨dd, hdd, hr⟩ := e?_sound (t := .c (.sl 0 [])) rfl ha0
      simp only [Ex.eval] at hdd ht
      cases hdd
      cases ht
      have hnil : v0 = .slice none 0 0 := by
        cases hr with
        | nil _ p cap hz => obtain ⟨rfl, rfl⟩ := hz rfl; rfl
        | sl _ _ _ _ _ _ h0 => omega
      subst hnil
      exact ⟨⟨(fun r hr => by cases hr), .inl ⟨rfl, rfl⟩⟩, rfl, fun k t hk => ⟨hk, fun v y _ _ => by simp [Value.ownBlock]⟩, fun k t hk => hk, fun y hy => by simp [Value.ownBlock] at hy⟩
    · rename_i kk
      split at hdst
      · rename_i tk hkl
        cases hdst
        have hkl := live?_some hkl
        obtain ⟨b, ll, cc, hbe, hv⟩ := l?_sound (l := .g kk) rfl ha0
        obtain ⟨v', s', rws, hv', ht', hV⟩ := hO1.live kk _ hkl
        rw [hv] at hv'
        cases hv'
        rw [ht] at ht'
        cases ht'
        refine ⟨hV, by simp, fun k t hk => ?_, fun k t hk => ?_, fun y hy => ⟨kk, _, _, hkl, hv, hy⟩⟩
        · by_cases hkk : kk = k
          · subst hkk
            rw [List.getElem?_set_self (by exact (List.getElem?_eq_some_iff.1 hkl).1)] at hk
            cases hk
          · rw [List.getElem?_set_ne hkk] at hk
            exact ⟨hk, fun v y hvk hy hy' => (hO1.dis kk _ _ y hkl hv hy').2 k t v (fun e => hkk e.symm) hk hvk hy⟩
        · by_cases hkk : kk = k
          · subst hkk
            rw [List.getElem?_set_self (by exact (List.getElem?_eq_some_iff.1 hkl).1)] at hk
            cases hk
          · rw [List.getElem?_set_ne hkk] at hk
            exact hk
      · cases hdst
    · cases hdst
  have hBw : B ≤ w.heap.size := hW1.size
  refine (hcO B I1 w v0 vs1 hW1.glo hW1.imm hBw hV hda hpl).mono ?_
  rintro e w' ⟨v', rfl, hV', hsame, hsize, hos, hblk⟩
  have hp : ρ <+: ρ ++ leavesOf [((false, [.sl s rows']) : DV)] := pre_append _ _
  have hg : Gr w w' v0.ownBlock := ⟨hos.1, hos.2, hsize, fun y hy hne => hsame y hy fun e => hne e.symm⟩
  obtain ⟨hW2, he2, hO2⟩ := OwnR.push (o1 := o1) (row := v0.ownBlock) (w' := w') (v' := v') (s' := s) (rows' := rows') (t' := .v st.nv) (hW1.vars hp) (hO1.vars hp) hol holive hofroz horow hg hV' hblk (by
    simp only [Ex.eval, ← hs.nv, leavesOf]
    simp)
  have he := he1.trans he2
  have hfl : (frz (idsVs ps) st.o).length = o1.length := hol.symm
  refine hO r me all rest _ k ir' L (ρ ++ leavesOf [((false, [.sl s rows']) : DV)]) I1 _ w' _ Q hx' hw ⟨(hs.fr.mono he hp).put (s := .val false [.g o1.length]) ?_ o.dst, hW2, hO2, ?_, hs.lv, (hs.df.mono he).put⟩ (hk.mono (List.prefix_refl _) hp he)
  · obtain ⟨b, c, hvs⟩ := hV'.slice
    exact ⟨_, rfl, b, rows'.length, c, hvs, by rw [← hfl]; simp [Mu.push]⟩
  · simp [hs.nv, leavesOf]

theorem varsFrom_get {k n i : Nat} (h : i < n) : (varsFrom k n)[i]? = some (.e (.v (k + i))) := by
  unfold varsFrom
  rw [List.getElem?_map, List.getElem?_range h]
  rfl
theorem varsFrom_len {k n : Nat} : (varsFrom k n).length = n := by simp [varsFrom]
theorem NR.dr {B : Nat} {w : World} {d : D} {u : Value} {I : Imm} (h : NR B w d u) (hd : ∀ s l, d ≠ .sl s l) : DR I w d u := by
  cases d with
  | sl s l => exact absurd rfl (hd s l)
  | b x => exact h I
  | i k x => exact h I
  | s x => exact h I
  | f g => exact h I
theorem NR.own {B B' : Nat} {I : Imm} {w : World} {s : Nat} {rows : List (List D)} {u : Value} (h : NR B w (.sl s rows) u) (hB : B' ≤ B) (hI : ∀ x, I x → x < B) : OwnV B' I w s rows u := by
  obtain ⟨⟨h1, h2⟩, _⟩ := h
  refine ⟨h1, ?_⟩
  rcases h2 with h2 | ⟨x, cap, cur, ty, e, hx, h3, h4, h5, h6, h7, h8, _⟩
  · exact .inl h2
  · exact .inr ⟨x, cap, cur, ty, e, Nat.le_trans hB hx, h3, h4, h5, h6, h7, fun i r j d hr hd => by
      obtain ⟨u, hu, hdr⟩ := h8 i r j d hr hd
      exact ⟨u, hu, hdr.mono (fun _ h => h.elim) fun _ _ => rfl⟩, fun hx' => by have := hI x hx'; omega⟩
theorem new_leaves {g0 n0 j : Nat} {I : Imm} {μ : Mu} {w : World} {ρ : List D} {B : Nat} {ds : List D} {us : List Value} {s : Nat} {rows : List (List D)} {uj : Value} (hv : VarsAt ρ n0 ds) (hall : All2 (NR B w) ds us) (hj : ds[j]? = some (.sl s rows)) (huj : us[j]? = some uj)
    (huniq : ∀ (i j s s' : Nat) (l l' : List (List D)), ds[i]? = some (D.sl s l) → ds[j]? = some (D.sl s' l') → i = j) (hm : μ.v g0 = some uj) : LsR I μ w ρ ((varsFrom n0 ds.length).set j (.g g0)) us := by
  refine All2.of_get (by rw [List.length_set, varsFrom_len]; exact hall.length) fun i a b ha hb => ?_
  obtain ⟨d, hd, hnr⟩ := hall.get' hb
  have hil : i < ds.length := (List.getElem?_eq_some_iff.1 hd).1
  by_cases e : j = i
  · subst e
    rw [List.getElem?_set_self (by rw [varsFrom_len]; exact hil)] at ha
    cases ha
    rw [hj] at hd
    cases hd
    rw [huj] at hb
    cases hb
    obtain ⟨p, c, hsl⟩ := hnr.1.slice
    exact ⟨p, _, c, hsl, hm⟩
  · rw [List.getElem?_set_ne e, varsFrom_get hil] at ha
    cases ha
    refine ⟨d, ?_, hnr.dr fun s' l' he => e (huniq _ _ _ _ _ _ hj (by rw [hd, he]))⟩
    simp only [Ex.eval]
    exact hv i d hd
theorem nw_sound {r : Option Nat} {n : Nat} (hM : ∀ f as rs, C f as rs → ConX E.P E.G f as rs) (hO : SOps C R B I₀ w₀ E n) {me f : FuncId} {args : List S} {o : Oper} {all rest : List Oper} {st : St} {k : K} {ir : IR} {L : List Lp} {ρ : List D} {I : Imm} {μ : Mu} {w : World} {a : Act}
    {Q : Exit → Act → World → Prop} {vs : List Value} {nm : String} {j : Nat} {rt : Option Shape} (hlt : f < eatOff)
    (hx : (match argsOf args with
        | some vs => match exVs (fixVs (frz (idsVs vs) st.o) vs), rt with
          | some xs, some [(g, m)] => if j < m then
            match chks [.room (.len (.v (st.nv + j))) 0] (exec E n me (.ops all rest) { st with fr := putS st.fr o.dst (.val g ((varsFrom st.nv m).set j (.g st.o.length))), o := (st.o ++ [OS.mk (.v (st.nv + j)) .live] : Own), nv := st.nv + m } k) with
            | .ok ir => Res.ok (.call (nwOff + f) xs [(g, m)] ir)
            | z => z
            else Res.no "new: the leaf"
          | _, _ => .no ("new: an argument that is no data, or not one result: " ++ nm)
        | none => .no "args") = .ok ir)
    (hw : IR.wp C R ir L ρ) (hs : StR r E.G B I₀ w₀ st L ρ I μ w a) (hargs : All2 (SR I μ w ρ) args vs) (hk : Post C R r E.G B I₀ w₀ k L ρ I μ w Q) :
    Calls E.P f vs.toArray w fun e w' => match e with
      | .returned v => wpL E.P all.toArray Q rest (a.put o.dst v) w'
      | _ => False := by
  split at hx
  case h_2 => cases hx
  rename_i ps hps
  split at hx
  case h_2 => cases hx
  rename_i xs g m hxs
  split at hx
  case isFalse => cases hx
  rename_i hjm
  split at hx
  case h_2 z hz => exact absurd hx (hz _)
  rename_i ir1 hx1
  cases hx
  obtain ⟨as, rs, has, hc, hrs, hw⟩ := hw
  obtain ⟨ir', hx', hw', hcs⟩ := chks_ok hx1 hw
  obtain ⟨I1, hW1, he1, hO1⟩ := hs.own.frz hs.wr (idsVs ps)
  have hargs1 : All2 (SR I1 μ w ρ) args vs := hargs.imp fun _ _ h => h.mono he1 (List.prefix_refl _)
  have hda := exVs_sound hxs has (fixVs_sound hO1 (argsOf_sound hps hargs1))
  have hcN := (((hM _ _ _ hc).2.2 (Nat.le_trans (by decide) (Nat.le_add_right nwOff f))).2.2 (Nat.le_add_right _ _)).1 (Nat.lt_of_lt_of_le (Nat.add_lt_add_left hlt nwOff) (by decide))
  rw [Nat.add_sub_cancel_left] at hcN
  obtain ⟨⟨g', ds⟩, rfl, huniq, hcN⟩ := hcN
  simp only [shapeOf, List.cons.injEq, Prod.mk.injEq, and_true] at hrs
  obtain ⟨rfl, hdl⟩ := hrs
  subst hdl
  refine (hcN I1 w vs hW1.glo hW1.imm hda).mono ?_
  rintro e w' ⟨v, rfl, h4, h5, hn, h6⟩
  have hleaves : leavesOf [((g', ds) : DV)] = ds := by simp [leavesOf]
  rw [hleaves] at hcs hw'
  have hp : ρ <+: ρ ++ ds := pre_append _ _
  have hva : VarsAt (ρ ++ ds) st.nv ds := by rw [← hs.nv]; exact VarsAt.self ρ ds
  obtain ⟨s, rows, hj⟩ : ∃ s rows, ds[j]? = some (.sl s rows) := by
    have h1 := hcs _ (List.mem_singleton_self _)
    have h2 := List.getElem?_eq_getElem hjm
    have h3 := hva j _ h2
    simp only [Ex.eval, h3] at h1
    generalize ds[j] = d at h1 h2
    cases d with
    | sl s l => exact ⟨s, l, h2⟩
    | b x => simp at h1
    | i k x => simp at h1
    | s x => simp at h1
    | f g => simp at h1
  obtain ⟨us, hall, hval⟩ : ∃ us : List Value, All2 (NR w.heap.size w') ds us ∧ ∀ (I : Imm) (μ : Mu) (ls : List SL), LsR I μ w' (ρ ++ ds) ls us → VR I μ w' (ρ ++ ds) g' ls v := by
    unfold NsR at h6
    split at h6
    · rename_i hg
      obtain ⟨us, hv, hall⟩ := h6
      refine ⟨us, hall, fun I μ ls hls => ?_⟩
      unfold VR
      rw [if_pos hg]
      exact ⟨us, hv, hls⟩
    · rename_i hg
      obtain ⟨d, hd, hnr⟩ := h6
      simp only at hd
      subst hd
      refine ⟨[v], .cons hnr .nil, fun I μ ls hls => ?_⟩
      unfold VR
      rw [if_neg hg]
      cases hls with
      | cons h1 h2 => cases h2; exact ⟨_, rfl, h1⟩
  obtain ⟨uj, huj, hnj⟩ := hall.get hj
  have hV' : OwnV B I w' s rows uj := hnj.own hs.wr.size fun x hx => hs.wr.imm x hx
  have hg : Gr w w' none := ⟨hn.1, hn.2, h5, fun y hy _ => h4 y hy⟩
  obtain ⟨hW2, he2, hO2⟩ := OwnR.push (o1 := st.o) (row := none) (w' := w') (v' := uj) (s' := s) (rows' := rows) (t' := .v (st.nv + j)) (hs.wr.vars hp) (hs.own.vars hp) rfl (fun k t h => ⟨h, fun _ _ _ _ => by simp⟩) (fun k t h => h) (fun x hx => by cases hx) hg hV' (fun x hx => by
    have hV0 : OwnV w.heap.size (fun _ => False) w' s rows uj := hnj.1
    obtain ⟨_, _, _, _, hB, _⟩ := hV0.block hx
    exact .inr hB) (by simp only [Ex.eval]; exact hva j _ hj)
  refine hO r me all rest _ k ir' L (ρ ++ ds) I _ w' _ Q hx' hw' ⟨(hs.fr.mono he2 hp).put (s := .val g' ((varsFrom st.nv ds.length).set j (.g st.o.length))) ?_ o.dst, hW2, hO2, ?_, hs.lv, (hs.df.mono he2).put⟩ (hk.mono (List.prefix_refl _) hp he2)
  · exact hval _ _ _ (new_leaves hva hall hj huj huniq (by simp [Mu.push]))
  · simp [hs.nv]

/-! ### defer statements -/

/-- with more deferred calls behind its own -/
def Act.up (b0 : List Deferred) (a : Act) : Act := { a with defers := a.defers ++ b0 }
theorem up_put {b0 : List Deferred} {a : Act} {d : Option Tmp} {v : Value} : (Act.up b0 a).put d v = Act.up b0 (a.put d v) := by cases d <;> rfl
theorem up_eval {b0 : List Deferred} {a : Act} : (Act.up b0 a).eval = a.eval := rfl
theorem op_up {P : Program} {b0 : List Deferred} {o : Oper} {a : Act} {w : World} {K K' : Act → World → Prop} {Q Q' : Exit → Act → World → Prop} (h : o.wp P a w K Q) (hK : ∀ a w, K a w → K' (Act.up b0 a) w) (hQ : ∀ e a w, e ≠ .normal → ¬ Q e a w) : o.wp P (Act.up b0 a) w K' Q' := by
  unfold Oper.wp at h ⊢
  rw [up_eval]
  generalize (execOp a.eval o).run P w = x at h ⊢
  cases x with
  | ok nx w' =>
    cases nx with
    | value v => simp only [Oper.upon]; rw [up_put]; exact hK _ _ h
    | skip => simp only [Oper.upon]; rw [up_put]; exact hK _ _ h
    | defer d =>
      simp only [Oper.upon] at h ⊢
      have := hK _ _ h
      rw [← up_put] at this
      exact this
    | enter f args =>
      refine Calls.mono h fun e w'' he => ?_
      cases e with
      | returned v => simp only; rw [up_put]; exact hK _ _ he
      | panicked c => exact absurd he (hQ _ _ _ (by simp))
      | outgrown => obtain ⟨a', w2, he⟩ := he; exact absurd he (hQ _ _ _ (by simp))
    | row r args => exact Rows.mono h fun v w'' he => by rw [up_put]; exact hK _ _ he
    | _ => exact h.elim
  | halt x w' =>
    cases x with
    | panic v => exact absurd h (hQ _ _ _ (by simp))
    | _ => exact h.elim
theorem list_up {P : Program} {b0 : List Deferred} {ops : Array Oper} {Q Q' : Exit → Act → World → Prop} (hQ : ∀ e a w, e ≠ .normal → ¬ Q e a w) (hn : ∀ a w, Q .normal a w → Q' .normal (Act.up b0 a) w) : ∀ {l : List Oper} {a : Act} {w : World}, wpL P ops Q l a w → wpL P ops Q' l (Act.up b0 a) w
  | [], a, w, h => hn a w h
  | o :: l, a, w, h => by
    simp only [wpL] at h ⊢
    rw [show (Act.up b0 a).tmps = a.tmps from rfl]
    split
    · rename_i hw
      rw [if_pos hw] at h
      exact op_up h (fun a w h => list_up hQ hn h) hQ
    · rename_i hw
      rw [if_neg hw] at h
      rw [up_put]
      exact list_up hQ hn h
theorem op_same {P : Program} {o : Oper} {a : Act} {w : World} {K K' : Act → World → Prop} {Q Q' : Exit → Act → World → Prop} (h : o.wp P a w K Q) (hK : ∀ a w, K a w → K' a w) (hQ : ∀ e a w, e ≠ .normal → ¬ Q e a w) : o.wp P a w K' Q' := by
  have := op_up (b0 := []) (K' := K') (Q' := Q') h (fun a w h => by have := hK a w h; unfold Act.up; rw [List.append_nil]; exact this) hQ
  unfold Act.up at this
  rw [List.append_nil] at this
  exact this
theorem list_end {P : Program} {ops : Array Oper} {Q0 Q : Exit → Act → World → Prop} {l2 : List Oper} (hQ0 : ∀ e a w, e ≠ .normal → ¬ Q0 e a w) (hn : ∀ a w, Q0 .normal a w → wpListIn (Rd none) 0 P ops Q l2 a w) : ∀ {l1 : List Oper} {a : Act} {w : World}, (∀ o ∈ l1, noDefer o = true) → wpL P ops Q0 l1 a w → wpListIn (Rd none) 0 P ops Q (l1 ++ l2) a w
  | [], a, w, _, h => hn a w h
  | o :: l1, a, w, hnd, h => by
    simp only [wpL] at h
    simp only [List.cons_append, wpListIn]
    split
    · rename_i hw
      rw [if_pos hw] at h
      exact op_in (hnd o (List.mem_cons_self ..)) (fun _ _ h => h) (op_same h (fun a' w' hK => list_end hQ0 hn (fun p hp => hnd p (List.mem_cons_of_mem _ hp)) hK) hQ0)
    · rename_i hw
      rw [if_neg hw] at h
      exact ⟨fun _ _ => trivial, list_end hQ0 hn (fun p hp => hnd p (List.mem_cons_of_mem _ hp)) h⟩
theorem lastDf_some {ops l1 : List Oper} {d : Oper} (h : lastDf ops = some (l1, d)) : ops = l1 ++ [d] ∧ d.guard = none ∧ d.dst = none ∧ ∀ o ∈ l1, noDefer o = true := by
  unfold lastDf at h
  split at h
  · rename_i o ho
    split at h
    · rename_i hc
      cases h
      simp only [Bool.and_eq_true] at hc
      obtain ⟨⟨⟨_, h2⟩, h3⟩, h4⟩ := hc
      refine ⟨?_, by simpa using h2, by simpa using h3, fun o ho => List.all_eq_true.1 h4 o ho⟩
      obtain ⟨ys, rfl⟩ := List.getLast?_eq_some_iff.1 ho
      simp
    · cases h
  · cases h
def SeqWp (P : Program) (N : Act → World → Prop) (Q : Exit → Act → World → Prop) : List Code → Act → World → Prop
  | [], a, w => N a w
  | c :: cs, a, w => c.wpIn (Rd none) 0 P (Exit.then (SeqWp P N Q cs) Q) a w
theorem deferC_sound {P : Program} {Q : Exit → Act → World → Prop} : ∀ {c : Code} {pre : List Code} {ops1 ops2 : Array Oper} {a : Act} {w : World}, deferC c = some (pre, ops1, ops2) →
    SeqWp P (fun a w => ∀ i1 i2, (Code.seq (.region i1 ops1 false) (.region i2 ops2 false)).wpIn (Rd none) 0 P Q a w) Q pre a w → (∀ o ∈ ops2.toList, noDefer o = true) → c.wpIn (Rd none) 0 P Q a w := by
  intro c
  induction c with
  | seq x y ihx ihy =>
    intro pre ops1 ops2 a w h hs hnd
    unfold deferC at h
    split at h
    · split at h
      · cases h
        exact hs _ _
      · cases h
    · split at h
      · rename_i l z hz
        cases h
        refine wpIn_seq_k fun K hK => ?_
        simp only [SeqWp] at hs
        intro b k cs hro hb hr
        obtain ⟨e, a', w', hq, harr⟩ := hs b k cs hro hb hr
        refine ⟨e, a', w', ?_, harr⟩
        cases e <;> first | exact hK _ _ (ihy hz hq hnd) | exact hq
      · cases h
  | _ => intro pre ops1 ops2 a w h; simp [deferC] at h
theorem deferC_nd : ∀ {c : Code} {pre : List Code} {ops1 ops2 : Array Oper}, deferC c = some (pre, ops1, ops2) → ∀ o ∈ ops2.toList, noDefer o = true := by
  intro c
  induction c with
  | seq x y ihx ihy =>
    intro pre ops1 ops2 h
    unfold deferC at h
    split at h
    · split at h
      · rename_i hc
        cases h
        simp only [Bool.and_eq_true] at hc
        exact fun o ho => List.all_eq_true.1 hc.2 o ho
      · cases h
    · split at h
      · rename_i l z hz
        cases h
        exact ihy hz
      · cases h
  | _ => intro pre ops1 ops2 h; simp [deferC] at h
theorem seqK_sound {n : Nat} {f : FuncId} {N : Act → World → Prop} {Q : Exit → Act → World → Prop} (hC : SCode C R B I₀ w₀ E n) : ∀ {cs : List Code} {st : St} {k : K} {ir : IR} {L : List Lp} {ρ : List D} {I : Imm} {μ : Mu} {w : World} {a : Act},
    seqK (fun c s k => exec E n f (.code c) s k) cs st k = .ok ir → IR.wp C R ir L ρ → StR none E.G B I₀ w₀ st L ρ I μ w a → Post C R none E.G B I₀ w₀ k L ρ I μ w (Exit.then N Q) → SeqWp E.P N Q cs a w
  | [], st, k, ir, L, ρ, I, μ, w, a, hx, hw, hs, hk => hk .normal st ir L ρ I μ w a hx hw (List.prefix_refl _) (List.prefix_refl _) hs (Evo.refl _ _ _)
  | c :: cs, st, k, ir, L, ρ, I, μ, w, a, hx, hw, hs, hk => by
    refine hC none f c st _ ir L ρ I μ w a _ hx hw hs ?_
    intro e s ir' L' ρ' I' μ' w' a' h1 h2 h3 h4 h5 h6
    cases e with
    | normal => exact seqK_sound hC h1 h2 h5 (hk.mono h3 h4 h6)
    | ret => exact hk _ _ _ _ _ _ _ _ _ h1 h2 h3 h4 h5 h6
    | exit id => exact hk _ _ _ _ _ _ _ _ _ h1 h2 h3 h4 h5 h6
    | goto l => exact hk _ _ _ _ _ _ _ _ _ h1 h2 h3 h4 h5 h6
theorem run_defer {P : Program} {ρe : Operand → Value} {o : Oper} {g : Operand} {args : Array Operand} {tys : Array TypeId} {f : FuncId} {w : World} (ho : o.op = .defer { callee := .value g, args := args, argTypes := tys }) (hg : ρe g = .func (.func f) #[] #[]) :
    (execOp ρe o).run P w = .ok (.defer { target := .fn (.func f) #[], args := args.map ρe }) w := by
  simp [execOp, ho, resolve, hg, Deferred.ofValue]

theorem enterFR {I : Imm} {μ : Mu} {w : World} {ρ : List D} {args : List S} {vs : List Value} {m : Nat} (hargs : All2 (SR I μ w ρ) args vs) : FR I μ w ρ (args ++ List.replicate (m - args.length) .x) { tmps := vs.toArray ++ Array.replicate (m - vs.toArray.size) undef, defers := [] } := by
  have hl := hargs.length
  refine ⟨by simp [hl], fun t => ?_⟩
  by_cases ht : t < args.length
  · obtain ⟨v, hv, hr⟩ := hargs.get (List.getElem?_eq_getElem ht)
    have ht' : t < vs.length := by omega
    rw [List.getD_eq_getElem?_getD, List.getElem?_append_left ht, List.getElem?_eq_getElem ht]
    rw [Array.getD_eq_getD_getElem?, Array.getElem?_append_left (by simpa using ht')]
    simp only [List.getElem?_toArray, hv, Option.getD_some]
    exact hr
  · have : (args ++ List.replicate (m - args.length) S.x).getD t .x = .x := by
      rw [List.getD_eq_getElem?_getD, List.getElem?_append_right (by omega), List.getElem?_replicate]
      split <;> rfl
    rw [this]
    trivial

theorem srt_sound {r : Option Nat} {n : Nat} (hM : ∀ f as rs, C f as rs → ConX E.P E.G f as rs) (hO : SOps C R B I₀ w₀ E n) {me f : FuncId} {args : List S} {o : Oper} {all rest : List Oper} {st : St} {k : K} {ir : IR} {L : List Lp} {ρ : List D} {I : Imm} {μ : Mu} {w : World} {a : Act}
    {Q : Exit → Act → World → Prop} {vs : List Value} {nm : String} (hlt : f < eatOff)
    (hx : (match args with
        | [.val false [.g j], .val false [.e t1]] => match Own.live? st.o j with
          | some t => match exec E n me (.ops all rest) { st with fr := putS st.fr o.dst (.tup []), o := st.o.set j ⟨.v st.nv, .live⟩, nv := st.nv + 1 } k with
            | .ok ir => Res.ok (.call (srtOff + f) [(false, [t]), (false, [t1])] [(false, 1)] ir)
            | z => z
          | none => .no ("its first argument is no slice of the call's own: " ++ nm)
        | _ => .no ("sorting: the arguments of " ++ nm)) = .ok ir)
    (hw : IR.wp C R ir L ρ) (hs : StR r E.G B I₀ w₀ st L ρ I μ w a) (hargs : All2 (SR I μ w ρ) args vs) (hk : Post C R r E.G B I₀ w₀ k L ρ I μ w Q) :
    Calls E.P f vs.toArray w fun e w' => match e with
      | .returned v => wpL E.P all.toArray Q rest (a.put o.dst v) w'
      | _ => False := by
  split at hx
  case h_2 => cases hx
  rename_i j t1
  split at hx
  case h_2 => cases hx
  rename_i t hj
  split at hx
  case h_2 z hz => exact absurd hx (hz _)
  rename_i ir' hx'
  cases hx
  obtain ⟨as, rs, has, hc, hrs, hw⟩ := hw
  have hj := live?_some hj
  cases hargs with
  | @cons _ v _ vs1 ha0 hrest =>
  cases hrest with
  | @cons _ u _ vs2 ha1 hrest =>
  cases hrest with
  | nil =>
  obtain ⟨b, ll, cc, hbe, hv⟩ := l?_sound (l := .g j) rfl ha0
  obtain ⟨d1, hd1, hr1⟩ := e?_sound (t := t1) rfl ha1
  obtain ⟨v', s, rows, hv', ht', hV⟩ := hs.own.live j _ hj
  rw [hv] at hv'
  cases hv'
  simp only [evalVs, Ex.evals, ht', hd1] at has
  cases has
  have hcS := (((hM _ _ _ hc).2.2 (Nat.le_trans (by decide) (Nat.le_add_right srtOff f))).2.2 (Nat.le_trans (by decide) (Nat.le_add_right srtOff f))).2 (Nat.le_add_right _ _) |>.1 (Nat.lt_of_lt_of_le (Nat.add_lt_add_left hlt srtOff) (by decide))
  rw [Nat.add_sub_cancel_left] at hcS
  obtain ⟨s0, rows0, d, rows', hae, rfl, hcS⟩ := hcS
  cases hae
  refine (hcS B I w v u hs.wr.glo hs.wr.imm hs.wr.size hV hr1).mono ?_
  rintro e w' ⟨rfl, hV', hg⟩
  have hp : ρ <+: ρ ++ leavesOf [((false, [.sl s rows']) : DV)] := pre_append _ _
  obtain ⟨hW2, he2, hO2⟩ := OwnR.writeG (t' := .v st.nv) (hs.wr.vars hp) (hs.own.vars hp) hj hv hg hV' (by
    simp only [Ex.eval, ← hs.nv, leavesOf]
    simp)
  refine hO r me all rest _ k ir' L (ρ ++ leavesOf [((false, [.sl s rows']) : DV)]) I _ w' _ Q hx' hw ⟨(hs.fr.mono he2 hp).put (s := .tup []) ⟨[], rfl, .nil⟩ o.dst, hW2, hO2, ?_, hs.lv, (hs.df.mono he2).put⟩ (hk.mono (List.prefix_refl _) hp he2)
  simp [hs.nv, leavesOf]

theorem go_step {n : Nat} (hM : ∀ f as rs, C f as rs → ConX E.P E.G f as rs) (hC : SCode C R B I₀ w₀ E n) (hO : SOps C R B I₀ w₀ E n) : SGo C R B I₀ w₀ E (n + 1) := by
  intro r me f args o all rest st k ir L ρ I μ w a Q vs hx hw hs hargs hk
  simp only [exec] at hx
  split at hx
  · cases hx
  · rename_i fn hfn
    split at hx
    · cases hx
    · rename_i hbody
      have hb : (fn.body.isNone = false ∧ (fn.name == "runtime.NumGoroutine") = false) ∧ f < eatOff := by
        simpa only [Bool.or_eq_true, not_or, Bool.not_eq_true, Bool.not_eq_false', decide_eq_true_eq] using hbody
      obtain ⟨hb, hlt⟩ := hb
      refine ⟨⟨fn, hfn, hb.1, hb.2⟩, ?_⟩
      split at hx
      · -- a slice of the call's own, sorted
        exact srt_sound hM hO hlt hx hw hs hargs hk
      split at hx
      · -- a slice of the call's own, used up
        exact eat_sound hM hO hlt hx hw hs hargs hk
      split at hx
      · -- new memory
        exact nw_sound hM hO hlt hx hw hs hargs hk
      split at hx
      · -- inlined
        rename_i hinl
        unfold inlGo at hx
        split at hx
        · exact (deadEnd_no hx hw).elim
        split at hx
        · rename_i c hc
          have hfr : FR I μ w ρ (args ++ List.replicate (fn.ntmps - args.length) .x) { tmps := vs.toArray ++ Array.replicate (fn.ntmps - vs.toArray.size) undef, defers := [] } := enterFR hargs
          have hfin : ∀ (fr : List S) (s : St) (ir' : IR) (L' : List Lp) (ρ' : List D) (I' : Imm) (μ' : Mu) (w' : World) (a' : Act), finGo E (exec E n) me fn o all rest st k fr s = .ok ir' → IR.wp C R ir' L' ρ' → L <+: L' → ρ <+: ρ' → FR I' μ' w' ρ' fr a' → WR E.G B I₀ w₀ I' μ' w' ρ' s.h → OwnR B I' μ' w' ρ' s.o → ρ'.length = s.nv → L'.length = s.lv → Evo I μ w I' μ' w' →
              s.q = 0 ∧ ∃ v, (results fn a'.tmps).run E.P w' = .ok v w' ∧ wpL E.P all.toArray Q rest (a.put o.dst v) w' := by
            intro fr s ir' L' ρ' I' μ' w' a' hx' h2 h3 h4 hF hW hOw hnv hlv h6
            unfold finGo at hx'
            split at hx'
            · cases hx'
            rename_i hq0
            refine ⟨by simpa using hq0, ?_⟩
            split at hx'
            · rename_i ps hps
              obtain ⟨v, hv, hvr⟩ := results_sound (P := E.P) hW hF hps
              refine ⟨v, hv, ?_⟩
              have hdom : ∀ b x, μ b = some x → decide (b < st.h.length) = true := fun b x hb => decide_eq_true (hs.wr.dom hb)
              unfold cutHp at hx'
              split at hx'
              · rename_i hu
                simp only [Bool.and_eq_true] at hu
                have he := h6.upto (p := fun b => decide (b < st.h.length)) (q := fun _ => true) hdom fun _ _ _ => rfl
                refine hO r me all rest _ k ir' L' ρ' I' (μ'.res (fun b => decide (b < st.h.length)) fun _ => true) w' _ Q hx' h2 ⟨(hs.fr.mono he h4).put (SR.under hu.1 hvr) o.dst, hW.cut hu.2, hOw.res, hnv, hlv, (hs.df.mono he).put⟩ (hk.mono h3 h4 he)
              · exact hO r me all rest _ k ir' L' ρ' I' μ' w' _ Q hx' h2 ⟨(hs.fr.mono h6 h4).put hvr o.dst, hW, hOw, hnv, hlv, (hs.df.mono h6).put⟩ (hk.mono h3 h4 h6)
            · cases hx'
          split at hx
          · -- without a defer statement
            refine (callsIn_wide (n := 0)).1 (callsIn_of_wp (F := Rd none) (fn := fn) (c := c) hfn hc trivial ?_)
            refine hC none f c _ _ ir L ρ I μ w _ _ hx hw ⟨hfr, hs.wr, hs.own, hs.nv, hs.lv, DfR.zero⟩ ?_
            intro e s ir' L' ρ' I' μ' w' a' h1 h2 h3 h4 h5 h6
            cases e with
            | normal => obtain ⟨hq, v, hv, hq2⟩ := hfin _ _ _ _ _ _ _ _ a' h1 h2 h3 h4 h5.fr h5.wr h5.own h5.nv h5.lv h6; exact ⟨h5.df.low (by omega), v, hv, hq2⟩
            | ret => obtain ⟨hq, v, hv, hq2⟩ := hfin _ _ _ _ _ _ _ _ a' h1 h2 h3 h4 h5.fr h5.wr h5.own h5.nv h5.lv h6; exact ⟨h5.df.low (by omega), v, hv, hq2⟩
            | exit id => cases h1
            | goto l => cases h1
          · -- with one
            rename_i pre ops1 ops2 hdc
            have hnd2 := deferC_nd hdc
            obtain ⟨RR, hRR⟩ : ∃ RR : Ending → World → Prop, RR = fun e w' => match e with
              | .returned v => wpL E.P all.toArray Q rest (a.put o.dst v) w'
              | _ => False := ⟨_, rfl⟩
            have hRv : ∀ v w', wpL E.P all.toArray Q rest (a.put o.dst v) w' → RR (.returned v) w' := fun v w' h => by rw [hRR]; exact h
            refine Calls.mono (R := RR) ?_ fun e w' h => by rw [hRR] at h; cases e <;> exact h
            refine (callsIn_wide (n := 0)).1 (callsIn_of_wp_defers (F := Rd none) (R := RR) (fn := fn) (c := c) hfn hc trivial ?_)
            clear hRR
            refine deferC_sound hdc (seqK_sound hC hx hw ⟨hfr, hs.wr, hs.own, hs.nv, hs.lv, DfR.zero⟩ ?_) hnd2
            intro e s ir' L' ρ' I' μ' w' a' h1 h2 h3 h4 h5 h6
            cases e with
            | exit id => cases h1
            | goto l => cases h1
            | ret =>
              obtain ⟨hq, v, hv, hq2⟩ := hfin _ _ _ _ _ _ _ _ a' h1 h2 h3 h4 h5.fr h5.wr h5.own h5.nv h5.lv h6
              show LeavesIn _ _ _ _ _ _ a'.defers .returning w'
              rw [h5.df.low (by omega)]
              exact ⟨v, hv, hRv _ _ hq2⟩
            | normal =>
              simp only at h1
              split at h1
              · cases h1
              rename_i hq0
              have hq0 : s.q = 0 := by simpa using hq0
              split at h1
              · cases h1
              rename_i l1 d hld
              obtain ⟨hops, hdg, hdd, hnd1⟩ := lastDf_some hld
              intro i1 i2
              refine wpIn_seq (wpIn_region_list ?_)
              rw [hops]
              obtain ⟨QD, hQD⟩ : ∃ QD, QD = bodyPostDIn (Rd none) 0 E.P fn RR := ⟨_, rfl⟩
              rw [← hQD]
              refine list_end (Q0 := fun e a w => e = .normal ∧ wpListIn (Rd none) 0 E.P ops1 (Exit.then ((Code.region i2 ops2 false).wpIn (Rd none) 0 E.P QD) QD) [d] a w) (fun e a w he h => he h.1) (fun a w h => h.2) hnd1 ?_
              have h1' := hO none f ops1.toList l1 s _ ir' L' ρ' I' μ' w' a' (fun e a w => e = .normal ∧ wpListIn (Rd none) 0 E.P ops1 (Exit.then ((Code.region i2 ops2 false).wpIn (Rd none) 0 E.P QD) QD) [d] a w) h1 h2 h5 ?_
              · rw [Array.toArray_toList] at h1'
                exact h1'
              intro e1 s1 ir1 L1 ρ1 I1 μ1 w1 a1 g1 g2 g3 g4 g5 g6
              cases e1 with
              | exit id => cases g1
              | goto l => cases g1
              | ret => cases g1
              | normal =>
                refine ⟨rfl, ?_⟩
                simp only at g1
                unfold dfrGo at g1
                split at g1
                · cases g1
                rename_i hq1
                have hq1 : s1.q = 0 := by simpa using hq1
                split at g1
                case h_2 => cases g1
                rename_i g dargs tys hdop
                split at g1
                case h_2 => cases g1
                rename_i gf hgf
                split at g1
                case h_2 => cases g1
                rename_i gn hgn
                split at g1
                · cases g1
                rename_i hnm
                split at g1
                case h_2 => cases g1
                rename_i gc hgc
                -- the deferred call
                have hop1 := opd_sound g5.fr
                have hgv := hop1 g
                rw [hgf] at hgv
                obtain ⟨dd, hdd', hr⟩ := e?_sound (t := .c (.f gf)) rfl hgv
                simp only [Ex.eval] at hdd'
                cases hdd'
                have hrun : (execOp a1.eval d).run E.P w1 = .ok (.defer { target := .fn (.func gf) #[], args := dargs.map a1.eval }) w1 := run_defer hdop hr.f_inv
                have hdf1 : a1.defers = [] := g5.df.low (by omega)
                simp only [wpListIn]
                rw [if_pos (by simp [Region.wanted, hdg])]
                refine ⟨fun _ _ => trivial, ?_⟩
                rw [show Rd none = { Fence.wide with round := none } from rfl, Oper.semAt_none, hrun, Oper.uponIn_defer, hdf1, hdd]
                show (Code.region i2 ops2 false).wpIn (Rd none) 0 E.P QD _ w1
                refine wpIn_region_list (list_in hnd2 ?_)
                have hup : ({ a1 with defers := [{ target := .fn (.func gf) #[], args := dargs.map a1.eval }] } : Act) = Act.up [{ target := .fn (.func gf) #[], args := dargs.map a1.eval }] a1 := by
                  unfold Act.up
                  rw [hdf1]
                  rfl
                show wpL E.P ops2 QD ops2.toList { a1 with defers := [{ target := .fn (.func gf) #[], args := dargs.map a1.eval }] } w1
                rw [hup]
                refine list_up (Q := fun e a w => e = .normal ∧ QD .normal (Act.up [{ target := .fn (.func gf) #[], args := dargs.map a1.eval }] a) w) (fun e a w he h => he h.1) (fun a w h => h.2) ?_
                have h2' := hO none f ops2.toList ops2.toList s1 _ ir1 L1 ρ1 I1 μ1 w1 a1 (fun e a w => e = .normal ∧ QD .normal (Act.up [{ target := .fn (.func gf) #[], args := dargs.map a1.eval }] a) w) g1 g2 g5 ?_
                · rw [Array.toArray_toList] at h2'
                  exact h2'
                intro e2 s2 ir2 L2 ρ2 I2 μ2 w2 a2 j1 j2 j3 j4 j5 j6
                cases e2 with
                | exit id => cases j1
                | goto l => cases j1
                | ret => cases j1
                | normal =>
                  refine ⟨rfl, ?_⟩
                  simp only at j1
                  split at j1
                  · cases j1
                  rename_i hq2
                  have hq2 : s2.q = 0 := by simpa using hq2
                  have hdf2 : a2.defers = [] := j5.df.low (by omega)
                  rw [hQD]
                  show LeavesIn (Rd none) 0 E.P fn a2.tmps RR (a2.defers ++ [_]) .returning w2
                  rw [hdf2]
                  have hfn2 : ∃ fn, E.P.funcs[gf]? = some fn ∧ fn.body.isNone = false ∧ (fn.name == "runtime.NumGoroutine") = false := ⟨gn, hgn, by rw [hgc]; rfl, by simpa using hnm⟩
                  refine leavesIn_cons (f := gf) (args := dargs.map a1.eval) (by simp) (fun h => by cases h) (by simp only [invoke, Array.append_empty]; exact run_callFunc hfn2) (fun _ _ => trivial) ?_
                  refine (callsDIn_of_wp (fn := gn) (c := gc) (R := fun e w' => match e with | .returned _ => LeavesIn (Rd none) 0 E.P fn a2.tmps RR [] .returning w' | _ => False) hgn hgc trivial ?_).mono ?_
                  · have hda : All2 (SR I2 μ2 w2 ρ2) (dargs.toList.map (opd s1.fr)) (dargs.toList.map a1.eval) := (all2_map_opd g5.fr dargs.toList).imp fun _ _ h => h.mono j6 j4
                    have hfr2 := enterFR (m := gn.ntmps) hda
                    rw [show (dargs.toList.map a1.eval).toArray = dargs.map a1.eval by apply Array.toList_inj.1; simp] at hfr2
                    refine hC none gf gc _ _ ir2 L2 ρ2 I2 μ2 w2 _ _ j1 j2 ⟨?_, j5.wr, j5.own, j5.nv, j5.lv, DfR.zero⟩ ?_
                    · simpa using hfr2
                    intro e3 s3 ir3 L3 ρ3 I3 μ3 w3 a3 k1 k2 k3 k4 k5 k6
                    have main : ∀ (k1 : (if s3.q ≠ 0 then Res.no "defer: q" else match resultsS E.P E.G gn s3.fr s3.h with
                              | some _ => finGo E (exec E n) me fn o all rest st k (s2.fr.map fun _ => .x) s3
                              | none => Res.no "defer: results") = .ok ir3), a3.defers = [] ∧ ∃ v, (results gn a3.tmps).run E.P w3 = .ok v w3 ∧ LeavesIn (Rd none) 0 E.P fn a2.tmps RR [] .returning w3 := by
                      intro k1
                      split at k1
                      · cases k1
                      rename_i hq3
                      have hq3 : s3.q = 0 := by simpa using hq3
                      split at k1
                      · rename_i ps hps
                        obtain ⟨v, hv, _⟩ := results_sound (P := E.P) k5.wr k5.fr hps
                        refine ⟨k5.df.low (by omega), v, hv, ?_⟩
                        have hx2 : FR I3 μ3 w3 ρ3 (s2.fr.map fun _ => S.x) a2 := ⟨by rw [List.length_map]; exact j5.fr.len, fun t => by
                          have : (s2.fr.map fun _ => S.x).getD t .x = .x := by
                            rw [List.getD_eq_getElem?_getD, List.getElem?_map]
                            cases s2.fr[t]? <;> rfl
                          rw [this]
                          trivial⟩
                        obtain ⟨_, v2, hv2, hq2⟩ := hfin _ _ _ _ _ _ _ _ a2 k1 k2 (h3.trans (g3.trans (j3.trans k3))) (h4.trans (g4.trans (j4.trans k4))) hx2 k5.wr k5.own k5.nv k5.lv (h6.trans (g6.trans (j6.trans k6)))
                        exact ⟨v2, hv2, hRv _ _ hq2⟩
                      · cases k1
                    cases e3 with
                    | exit id => cases k1
                    | goto l => cases k1
                    | ret => exact main k1
                    | normal => exact main k1
                  · rintro e u' w' ⟨rfl, h⟩
                    cases e with
                    | returned v => exact h
                    | panicked c => exact h.elim
                    | outgrown => exact h.elim
        · cases hx
      · -- by its contract
        split at hx
        · rename_i ps hps
          split at hx
          · rename_i xs sh hxs hsh
            split at hx
            · -- lent
              rename_i gs hgs
              have hlen : gs.length = shapeLen sh := by
                split at hgs
                · cases hgs
                · split at hgs
                  · split at hgs
                    · rename_i hl; cases hgs; exact hl
                    · cases hgs
                  · cases hgs
              split at hx
              · rename_i ir1 hx1
                cases hx
                obtain ⟨as, rs, has, hc, hrs, hw⟩ := hw
                subst hrs
                obtain ⟨ir', hx', hw', hcs⟩ := chks_ok hx1 hw
                obtain ⟨I1, hW1, he1, hO1⟩ := hs.own.frz hs.wr (idsVs ps)
                have hargs1 : All2 (SR I1 μ w ρ) args vs := hargs.imp fun _ _ h => h.mono he1 (List.prefix_refl _)
                have hda := exVs_sound hxs has (fixVs_sound hO1 (argsOf_sound hps hargs1))
                refine ((hM f as rs hc).1 hlt I1 w vs hW1.glo hW1.imm hda).mono ?_
                rintro e w' ⟨v, I', rfl, h1, h2, h3, h4, h5, hn, h6⟩
                obtain ⟨hW, he⟩ := hs.wr.call (I' := I) (fun _ h => h) (fun x h => .inl h) (fun x h => Nat.lt_of_lt_of_le (hs.wr.imm x h) h5) h4 h5 hn
                have hOw := hs.own.call (I' := I) (fun _ h => h) (fun x h => .inl h) hs.wr.imm h4
                have hp : ρ <+: ρ ++ leavesOf rs := pre_append _ _
                have hpl := plainChk_sound (ds := leavesOf rs) (gs := gs) (k := st.nv) (by rw [← hs.nv]; exact VarsAt.self ρ (leavesOf rs)) (by have := hlen; rw [shapeLen_leaves] at this; exact this) hcs
                refine hO r me all rest _ k ir' L (ρ ++ leavesOf rs) I μ w' _ Q hx' hw' ⟨(hs.fr.mono he hp).put (s := tupS (shapeVs st.nv (shapeOf rs))) ?_ o.dst, hW.vars hp, hOw.vars hp, ?_, hs.lv, (hs.df.mono he).put⟩ (hk.mono (List.prefix_refl _) hp he)
                · refine tupS_sound ?_ (RsR.plain hpl h6)
                  rw [← hs.nv]
                  exact VarsAt.self ρ (leavesOf rs)
                · simp [hs.nv, shapeLen_leaves]
              · rename_i z hz; exact absurd hx (hz _)
            split at hx
            · rename_i ir' hx'
              cases hx
              obtain ⟨as, rs, has, hc, hrs, hw⟩ := hw
              subst hrs
              obtain ⟨I1, hW1, he1, hO1⟩ := hs.own.frz hs.wr (idsVs ps)
              have hargs1 : All2 (SR I1 μ w ρ) args vs := hargs.imp fun _ _ h => h.mono he1 (List.prefix_refl _)
              have hda := exVs_sound hxs has (fixVs_sound hO1 (argsOf_sound hps hargs1))
              refine ((hM f as rs hc).1 hlt I1 w vs hW1.glo hW1.imm hda).mono ?_
              rintro e w' ⟨v, I', rfl, h1, h2, h3, h4, h5, hn, h6⟩
              obtain ⟨hW, he⟩ := hW1.call h1 h2 h3 h4 h5 hn
              have hOw := hO1.call h1 h2 hW1.imm h4
              have he := he1.trans he
              have hp : ρ <+: ρ ++ leavesOf rs := pre_append _ _
              refine hO r me all rest _ k ir' L (ρ ++ leavesOf rs) I' μ w' _ Q hx' hw ⟨(hs.fr.mono he hp).put (s := tupS (shapeVs st.nv (shapeOf rs))) ?_ o.dst, hW.vars hp, hOw.vars hp, ?_, hs.lv, (hs.df.mono he).put⟩ (hk.mono (List.prefix_refl _) hp he)
              · refine tupS_sound ?_ h6
                rw [← hs.nv]
                exact VarsAt.self ρ (leavesOf rs)
              · simp [hs.nv, shapeLen_leaves]
            · rename_i z hz; exact absurd hx (hz _)
          · cases hx
        · cases hx

theorem diffLs_nil {b : Nat} {ms : List (Nat × Nat)} : ∀ {gs ss : List SL} {o : Nat}, diffLs b ms o gs ss = [] → ∀ (i : Nat) (g s : SL), gs[i]? = some g → ss[i]? = some s → (b, o + i) ∉ ms → SL.same g s = true
  | [], ss, o, _, i, g, s, hg, _, _ => by simp at hg
  | g0 :: gs, [], o, _, i, g, s, _, hs, _ => by simp at hs
  | g0 :: gs, s0 :: ss, o, h, i, g, s, hg, hs, hm => by
    simp only [diffLs, List.append_eq_nil_iff] at h
    cases i with
    | zero =>
      simp at hg hs
      subst hg; subst hs
      have h1 := h.1
      split at h1
      · rename_i hc
        simp only [Bool.or_eq_true, List.contains_iff_mem] at hc
        exact hc.resolve_right hm
      · cases h1
    | succ i => exact diffLs_nil h.2 i g s (by simpa using hg) (by simpa using hs) (by rwa [Nat.add_assoc, Nat.add_comm 1 i])

theorem diffHp_nil {ms : List (Nat × Nat)} : ∀ {gs ss : Heap} {b : Nat}, diffHp ms b gs ss = [] → ∀ (i : Nat) (g s : SB), gs[i]? = some g → ss[i]? = some s → diffLs (b + i) ms 0 g.ls s.ls = []
  | [], ss, b, _, i, g, s, hg, _ => by simp at hg
  | g0 :: gs, [], b, _, i, g, s, _, hs => by simp at hs
  | g0 :: gs, s0 :: ss, b, h, i, g, s, hg, hs => by
    simp only [diffHp, List.append_eq_nil_iff] at h
    cases i with
    | zero => simp at hg hs; subst hg; subst hs; exact h.1
    | succ i =>
      have := diffHp_nil h.2 i g s (by simpa using hg) (by simpa using hs)
      rwa [Nat.add_assoc, Nat.add_comm 1 i] at this

theorem shapeHp_get : ∀ {gs ss : Heap}, shapeHp gs ss = true → ∀ (i : Nat) (g : SB), gs[i]? = some g → ∃ s : SB, ss[i]? = some s ∧ s.ro = g.ro ∧ s.ls.length = g.ls.length
  | [], ss, _, i, g, hg => by simp at hg
  | _ :: _, [], h, i, g, hg => by simp [shapeHp] at h
  | g0 :: gs, s0 :: ss, h, i, g, hg => by
    simp only [shapeHp, Bool.and_eq_true, beq_iff_eq] at h
    cases i with
    | zero => simp at hg; subst hg; exact ⟨s0, by simp, h.1.1.symm, h.1.2.symm⟩
    | succ i => simpa using shapeHp_get h.2 i g (by simpa using hg)

theorem prefix_get {α : Type} {l l' : List α} {x : α} (h : l ++ [x] <+: l') : l'[l.length]? = some x := by
  obtain ⟨t, rfl⟩ := h
  simp

end
end Go.Proofs.YtlihbielphcgbaaGreatDoor.Sx

namespace Go.Proofs.YtlihbielphcgbaaGreatDoor.Sx
open Go
set_option linter.unnecessarySimpa false
set_option linter.unusedSimpArgs false
set_option linter.unusedVariables false

section
variable {B : Nat} {I : Imm} {μ : Mu} {w : World} {ρ ρ' : List D} {o : Own} {G : Glo} {I₀ : Imm} {w₀ : World} {h : Heap} {fr : List S} {a : Act}

theorem nodupB_sound : ∀ {l : List Nat}, nodupB l = true → l.Nodup
  | [], _ => List.nodup_nil
  | x :: r, h => by
    simp only [nodupB, Bool.and_eq_true, Bool.not_eq_true', List.contains_eq_mem, decide_eq_false_iff_not] at h
    exact List.nodup_cons.2 ⟨h.1, nodupB_sound h.2⟩

/-! ### what is forgotten -/

theorem forgetFr_length : ∀ (to : List Nat) (fr : List S), (forgetFr to fr).length = fr.length
  | [], fr => rfl
  | t :: r, fr => by simp [forgetFr, forgetFr_length r]

theorem FR.forget : ∀ (to : List Nat) {fr : List S}, FR I μ w ρ fr a → FR I μ w ρ (forgetFr to fr) a
  | [], fr, h => h
  | t :: r, fr, h => FR.forget r (h.set (s := .x) trivial)

theorem WR.set_leaf {b q : Nat} {blk : SB} {l : SL} (hW : WR G B I₀ w₀ I μ w ρ h) (hb : h[b]? = some blk) (hl : ∀ x vs ty v, μ b = some x → w.heap[x]? = some (.cells vs ty (0, 0)) → vs[q]? = some v → (∃ l', blk.ls[q]? = some l' ∧ LR I μ w ρ l' v) → LR I μ w ρ l v) :
    WR G B I₀ w₀ I μ w ρ (h.set b { blk with ls := blk.ls.set q l }) := by
  refine ⟨fun b' x hx => ?_, hW.inj, hW.glo, hW.old, hW.size, hW.imm, hW.imm0, hW.wd⟩
  obtain ⟨blk', h1, vs, ty, h2, h3, h4⟩ := hW.blk b' x hx
  by_cases hbb : b = b'
  · subst hbb
    rw [hb] at h1
    cases h1
    have hlt := (List.getElem?_eq_some_iff.1 hb).1
    refine ⟨{ blk with ls := blk.ls.set q l }, by simp [hlt], vs, ty, h2, ?_, h4⟩
    refine All2.of_get (by simpa using h3.length) fun i l' v hl' hv => ?_
    by_cases hqi : q = i
    · subst hqi
      have hql : q < blk.ls.length := by have := (List.getElem?_eq_some_iff.1 hl').1; simpa using this
      rw [List.getElem?_set_self hql] at hl'
      cases hl'
      refine hl x vs.toArray ty v hx h2 (by simpa using hv) ?_
      obtain ⟨l', hl', hr⟩ := h3.get' hv
      exact ⟨l', hl', hr⟩
    · rw [List.getElem?_set_ne hqi] at hl'
      obtain ⟨l'', hl'', hr⟩ := h3.get' hv
      rw [hl'] at hl''
      cases hl''
      exact hr
  · exact ⟨blk', by rw [List.getElem?_set_ne hbb]; exact h1, vs, ty, h2, h3, h4⟩

theorem forgetHp_length : ∀ (mo : List (Nat × Nat)) (h : Heap), (forgetHp mo h).length = h.length
  | [], h => rfl
  | (b, q) :: r, h => by
    simp only [forgetHp]
    rw [forgetHp_length r]
    split <;> simp

theorem WR.forget : ∀ (mo : List (Nat × Nat)) {h : Heap}, WR G B I₀ w₀ I μ w ρ h → WR G B I₀ w₀ I μ w ρ (forgetHp mo h)
  | [], h, hW => hW
  | (b, q) :: r, h, hW => by
    simp only [forgetHp]
    refine WR.forget r ?_
    split
    · rename_i blk hb
      exact hW.set_leaf hb fun x vs ty v _ _ _ ⟨l', _, hr⟩ => hr.one
    · exact hW

/-! ### what stands in the places -/

theorem optAll_length {α : Type} : ∀ {l : List (Option α)} {r : List α}, optAll l = some r → r.length = l.length := fun h => by rw [optAll_get h]; simp

structure Heads (B : Nat) (I : Imm) (μ : Mu) (w : World) (ρ : List D) (o : Own) (pl : List SL) (es : List Ex) (ks : List Nat) (hd : List Value) : Prop where
  len : hd.length = pl.length
  lene : es.length = pl.length
  val : ∀ (i : Nat) (l : SL) (v : Value), pl[i]? = some l → LR I μ w ρ l v → hd[i]? = some v
  own : ∀ (i : Nat) (e : Ex) (v : Value), es[i]? = some e → hd[i]? = some v → ∃ s rows, e.eval ρ = some (.sl s rows) ∧ OwnV B I w s rows v
  blk : ∀ (i : Nat) (v : Value) (x : Nat), hd[i]? = some v → v.ownBlock = some x → ∃ k t, k ∈ ks ∧ o[k]? = some ⟨t, .live⟩ ∧ μ.v k = some v
  dis : ∀ (i j : Nat) (v v' : Value) (x : Nat), i ≠ j → hd[i]? = some v → hd[j]? = some v' → v.ownBlock = some x → v'.ownBlock ≠ some x

theorem Heads.slice {pl : List SL} {es : List Ex} {ks : List Nat} {hd : List Value} (H : Heads B I μ w ρ o pl es ks hd) {i : Nat} {v : Value} (hv : hd[i]? = some v) : ∃ b n c, v = .slice b n c := by
  have hil : i < hd.length := (List.getElem?_eq_some_iff.1 hv).1
  obtain ⟨e, he⟩ : ∃ e, es[i]? = some e := ⟨_, List.getElem?_eq_getElem (by rw [H.lene, ← H.len]; exact hil)⟩
  obtain ⟨s, rows, _, hV⟩ := H.own i e v he hv
  obtain ⟨b, c, h⟩ := hV.slice
  exact ⟨b, _, c, h⟩

theorem heads_of (hO : OwnR B I μ w ρ o) : ∀ {pl : List SL} {es : List Ex} {ks : List Nat}, placeO o pl = some (es, ks) → ks.Nodup → ∃ hd, Heads B I μ w ρ o pl es ks hd
  | [], es, ks, h, _ => by
    simp [placeO] at h
    obtain ⟨rfl, rfl⟩ := h
    exact ⟨[], rfl, rfl, fun i l v h => by simp at h, fun i e v h => by simp at h, fun i v x h => by simp at h, fun i j v v' x _ h => by simp at h⟩
  | .g k :: r, es, ks, h, hn => by
    simp only [placeO] at h
    split at h
    · rename_i t es' ks' hk hr
      simp only [Option.some.injEq, Prod.mk.injEq] at h
      obtain ⟨rfl, rfl⟩ := h
      obtain ⟨hkn, hn'⟩ := List.nodup_cons.1 hn
      obtain ⟨hd, H⟩ := heads_of hO hr hn'
      have hk := live?_some hk
      obtain ⟨v0, s, rows, h1, h2, h3⟩ := hO.live k t hk
      refine ⟨v0 :: hd, by simp [H.len], by simp [H.lene], fun i l v hi hl => ?_, fun i e v hi hv => ?_, fun i v x hi hx => ?_, fun i j v v' x hij hi hj hx => ?_⟩
      · cases i with
        | zero =>
          simp at hi
          subst hi
          obtain ⟨b, n, c, _, hv⟩ := hl
          rw [h1] at hv
          simpa using hv
        | succ i => simpa using H.val i l v (by simpa using hi) hl
      · cases i with
        | zero =>
          simp at hi hv
          subst hi
          subst hv
          exact ⟨s, rows, h2, h3⟩
        | succ i => exact H.own i e v (by simpa using hi) (by simpa using hv)
      · cases i with
        | zero =>
          simp at hi
          subst hi
          exact ⟨k, t, by simp, hk, h1⟩
        | succ i =>
          obtain ⟨k', t', h4, h5⟩ := H.blk i v x (by simpa using hi) hx
          exact ⟨k', t', by simp [h4], h5⟩
      · cases i with
        | zero =>
          cases j with
          | zero => exact absurd rfl hij
          | succ j =>
            simp at hi hj
            subst hi
            intro hx'
            obtain ⟨k', t', h4, h5, h6⟩ := H.blk j v' x hj hx'
            exact (hO.dis k t v0 x hk h1 hx).2 k' t' v' (fun e => hkn (e ▸ h4)) h5 h6 hx'
        | succ i =>
          cases j with
          | zero =>
            simp at hi hj
            subst hj
            intro hx'
            obtain ⟨k', t', h4, h5, h6⟩ := H.blk i v x hi hx
            exact (hO.dis k t v0 x hk h1 hx').2 k' t' v (fun e => hkn (e ▸ h4)) h5 h6 hx
          | succ j => exact H.dis i j v v' x (fun e => hij (by rw [e])) (by simpa using hi) (by simpa using hj) hx
    · cases h
  | .e t :: r, es, ks, h, hn => by
    have ht : t = .c (.sl 0 []) := by
      unfold placeO at h
      split at h <;> simp_all
    subst ht
    simp only [placeO] at h
    split at h
    · rename_i es' ks' hr
      simp only [Option.some.injEq, Prod.mk.injEq] at h
      obtain ⟨rfl, rfl⟩ := h
      obtain ⟨hd, H⟩ := heads_of hO hr hn
      refine ⟨.slice none 0 0 :: hd, by simp [H.len], by simp [H.lene], fun i l v hi hl => ?_, fun i e v hi hv => ?_, fun i v x hi hx => ?_, fun i j v v' x hij hi hj hx => ?_⟩
      · cases i with
        | zero =>
          simp at hi
          subst hi
          obtain ⟨d, hd, hr⟩ := hl
          simp only [Ex.eval] at hd
          cases hd
          cases hr with
          | nil _ p cap hz => obtain ⟨rfl, rfl⟩ := hz rfl; rfl
          | sl _ _ _ _ _ _ h0 => omega
        | succ i => simpa using H.val i l v (by simpa using hi) hl
      · cases i with
        | zero =>
          simp at hi hv
          subst hi
          subst hv
          exact ⟨0, [], by simp [Ex.eval], (fun r hr => by cases hr), .inl ⟨rfl, rfl⟩⟩
        | succ i => exact H.own i e v (by simpa using hi) (by simpa using hv)
      · cases i with
        | zero => simp at hi; subst hi; simp [Value.ownBlock] at hx
        | succ i => exact H.blk i v x (by simpa using hi) hx
      · cases i with
        | zero => simp at hi; subst hi; simp [Value.ownBlock] at hx
        | succ i =>
          cases j with
          | zero => simp at hj; subst hj; simp [Value.ownBlock]
          | succ j => exact H.dis i j v v' x (fun e => hij (by rw [e])) (by simpa using hi) (by simpa using hj) hx
    · cases h
  | .x :: r, es, ks, h, _ => by simp [placeO] at h
  | .p .. :: r, es, ks, h, _ => by simp [placeO] at h
  | .dyn .. :: r, es, ks, h, _ => by simp [placeO] at h
  | .elt .. :: r, es, ks, h, _ => by simp [placeO] at h
  | .sc .. :: r, es, ks, h, _ => by simp [placeO] at h
  | .ge .. :: r, es, ks, h, _ => by simp [placeO] at h
  | .clo .. :: r, es, ks, h, _ => by simp [placeO] at h

/-! ### new slices in the places -/

/-- what the slices are at the head: the elder ones as they are, new ones -/
def Mu.bind (μ : Mu) (p : Nat → Bool) (base : Nat) (hd : List Value) : Mu := { m := fun b => if p b = true then μ b else none, v := fun k => if k < base then μ.v k else hd[k - base]? }

theorem evo_bind {p : Nat → Bool} {base : Nat} {hd : List Value} : Evo I (μ.res p fun k => decide (k < base)) w I (μ.bind p base hd) w :=
  ⟨fun _ h => h, fun _ _ => rfl, fun b x hb => by simpa [Mu.res, Mu.bind] using hb, fun k v hk => by
    simp only [Mu.res, decide_eq_true_eq] at hk
    split at hk
    · rename_i hlt; simp only [Mu.bind, if_pos hlt]; exact hk
    · cases hk⟩

theorem bindFr_length : ∀ (to : List Nat) (k : Nat) (fr : List S), (bindFr to k fr).length = fr.length
  | [], _, fr => rfl
  | t :: r, k, fr => by simp [bindFr, bindFr_length r]

theorem FR.bind : ∀ (to : List Nat) {k : Nat} {fr : List S}, FR I μ w ρ fr a → (∀ (i t : Nat), to[i]? = some t → ∃ b n c, a.tmps.getD t undef = .slice b n c ∧ μ.v (k + i) = some (.slice b n c)) → FR I μ w ρ (bindFr to k fr) a
  | [], k, fr, h, _ => h
  | t :: r, k, fr, h, hp => by
    refine FR.bind r (h.set (s := .val false [.g k]) ?_) fun i t' hi => ?_
    · obtain ⟨b, n, c, h1, h2⟩ := hp 0 t (by simp)
      exact ⟨_, rfl, b, n, c, h1, h1 ▸ h2⟩
    · have := hp (i + 1) t' (by simpa using hi)
      rwa [show k + (i + 1) = k + 1 + i from by omega] at this

theorem WR.bind : ∀ (mo : List (Nat × Nat)) {k : Nat} {h : Heap}, WR G B I₀ w₀ I μ w ρ h → (∀ (i b q x : Nat) (vs : Array Value) (ty : TypeId) (v : Value), mo[i]? = some (b, q) → μ b = some x → w.heap[x]? = some (.cells vs ty (0, 0)) → vs[q]? = some v → ∃ b n c, v = .slice b n c ∧ μ.v (k + i) = some v) →
    WR G B I₀ w₀ I μ w ρ (bindHp mo k h)
  | [], k, h, hW, _ => hW
  | (b, q) :: r, k, h, hW, hp => by
    simp only [bindHp]
    refine WR.bind r ?_ fun i b' q' x vs ty v hi h1 h2 h3 => ?_
    · split
      · rename_i blk hb
        refine hW.set_leaf hb fun x vs ty v h1 h2 h3 _ => ?_
        obtain ⟨b', n, c, h4, h5⟩ := hp 0 b q x vs ty v (by simp) h1 h2 h3
        exact ⟨b', n, c, h4, h5⟩
      · exact hW
    · have := hp (i + 1) b' q' x vs ty v (by simpa using hi) h1 h2 h3
      rwa [show k + (i + 1) = k + 1 + i from by omega] at this

/-- what is held at the head is what is held here -/
def HeadRel (ρ ρ' : List D) (H o : Own) (base : Nat) : Prop := ∀ (k : Nat) (os : OS), k < base → H[k]? = some os → os.st = .dead ∨ ∃ os' : OS, o[k]? = some os' ∧ os'.st = os.st ∧ ∀ d, os'.t.eval ρ = some d → os.t.eval ρ' = some d

theorem OwnR.bind {H : Own} {base nv : Nat} {pl : List SL} {es : List Ex} {ks : List Nat} {hd : List Value} {p : Nat → Bool} (hO : OwnR B I μ w ρ o) (hH : Heads B I μ w ρ o pl es ks hd) (hlen : H.length = base + pl.length)
    (hrel : HeadRel ρ ρ' H o base) (hks : ∀ k ∈ ks, k < base → ∀ os, H[k]? = some os → os.st = .dead) (hnew : ∀ (i : Nat) (os : OS), H[base + i]? = some os → os = ⟨.v (nv + i), .live⟩)
    (hval : ∀ (i : Nat) (e : Ex) (d : D), es[i]? = some e → e.eval ρ = some d → ρ'[nv + i]? = some d) : OwnR B I (μ.bind p base hd) w ρ' H := by
  have hvo : ∀ {k : Nat}, k < base → (μ.bind p base hd).v k = μ.v k := fun hk => by simp [Mu.bind, hk]
  have hvn : ∀ {i : Nat}, (μ.bind p base hd).v (base + i) = hd[i]? := fun {i} => by
    simp only [Mu.bind]
    rw [if_neg (by omega)]
    simp
  have hmo : ∀ {b x : Nat}, (μ.bind p base hd) b = some x → μ b = some x := fun {b x} hb => by
    simp only [Mu.bind] at hb
    split at hb
    · exact hb
    · cases hb
  have hcase : ∀ (k : Nat), k < base ∨ ∃ i, k = base + i := fun k => by
    rcases Nat.lt_or_ge k base with h | h
    · exact .inl h
    · exact .inr ⟨k - base, by omega⟩
  have hlive : ∀ {k : Nat} {t : Ex}, k < base → H[k]? = some ⟨t, .live⟩ → k ∉ ks ∧ ∃ t', o[k]? = some ⟨t', .live⟩ ∧ ∀ d, t'.eval ρ = some d → t.eval ρ' = some d := by
    intro k t hk hH'
    refine ⟨fun hm => ?_, ?_⟩
    · have := hks k hm hk _ hH'
      cases this
    · rcases hrel k _ hk hH' with h | ⟨⟨t', st'⟩, h1, h2, h3⟩
      · cases h
      · simp only at h2
        subst h2
        exact ⟨t', h1, h3⟩
  refine ⟨fun k t hk => ?_, fun k t hk => ?_, fun k t v x hk hv hx => ?_, fun k hk => ?_⟩
  · rcases hcase k with hlt | ⟨i, rfl⟩
    · obtain ⟨_, t', h1, h2⟩ := hlive hlt hk
      obtain ⟨v, s, rows, h3, h4, h5⟩ := hO.live k t' h1
      exact ⟨v, s, rows, by rw [hvo hlt]; exact h3, h2 _ h4, h5⟩
    · have := hnew i _ hk
      cases this
      have hil : i < pl.length := by have := (List.getElem?_eq_some_iff.1 hk).1; omega
      obtain ⟨v, hv⟩ : ∃ v, hd[i]? = some v := ⟨_, List.getElem?_eq_getElem (by rw [hH.len]; exact hil)⟩
      obtain ⟨e, he⟩ : ∃ e, es[i]? = some e := ⟨_, List.getElem?_eq_getElem (by rw [hH.lene]; exact hil)⟩
      obtain ⟨s, rows, h1, h2⟩ := hH.own i e v he hv
      exact ⟨v, s, rows, by rw [hvn]; exact hv, by simp only [Ex.eval]; exact hval i e _ he h1, h2⟩
  · rcases hcase k with hlt | ⟨i, rfl⟩
    · rcases hrel k _ hlt hk with h | ⟨⟨t', st'⟩, h1, h2, h3⟩
      · cases h
      · simp only at h2
        subst h2
        obtain ⟨v, d, h4, h5, h6⟩ := hO.frozen k t' h1
        exact ⟨v, d, by rw [hvo hlt]; exact h4, h3 _ h5, h6⟩
    · have := hnew i _ hk
      cases this
  · rcases hcase k with hlt | ⟨i, rfl⟩
    · obtain ⟨hkn, t', h1, _⟩ := hlive hlt hk
      rw [hvo hlt] at hv
      obtain ⟨h2, h3⟩ := hO.dis k t' v x h1 hv hx
      refine ⟨fun b hb => h2 b (hmo hb), fun k' t'' v' hne hk' hv' => ?_⟩
      rcases hcase k' with hlt' | ⟨j, rfl⟩
      · obtain ⟨_, t3, h4, _⟩ := hlive hlt' hk'
        rw [hvo hlt'] at hv'
        exact h3 k' t3 v' hne h4 hv'
      · rw [hvn] at hv'
        intro hx'
        obtain ⟨k2, t2, h4, h5, h6⟩ := hH.blk j v' x hv' hx'
        exact h3 k2 t2 v' (fun e => hkn (e ▸ h4)) h5 h6 hx'
    · rw [hvn] at hv
      obtain ⟨k1, t1, h1, h2, h3⟩ := hH.blk i v x hv hx
      obtain ⟨h4, h5⟩ := hO.dis k1 t1 v x h2 h3 hx
      refine ⟨fun b hb => h4 b (hmo hb), fun k' t'' v' hne hk' hv' => ?_⟩
      rcases hcase k' with hlt' | ⟨j, rfl⟩
      · obtain ⟨hkn, t3, h6, _⟩ := hlive hlt' hk'
        rw [hvo hlt'] at hv'
        exact h5 k' t3 v' (fun e => hkn (e ▸ h1)) h6 hv'
      · rw [hvn] at hv'
        exact hH.dis i j v v' x (fun e => hne (by rw [e])) hv hv' hx
  · have : ¬ k < base := by omega
    simp only [Mu.bind, if_neg this]
    rw [List.getElem?_eq_none (by rw [hH.len]; omega)]

/-! ### what the lists say -/

theorem diffO_nil {ks : List Nat} : ∀ {as bs : Own} {k : Nat}, diffO ks k as bs = some [] → ∀ (i : Nat) (os : OS), as[i]? = some os → ∃ os' : OS, bs[i]? = some os' ∧ os.st = os'.st ∧ (os.st = .dead ∨ (k + i) ∈ ks ∨ os.t = os'.t)
  | [], bs, k, h, i, os, hi => by simp at hi
  | _ :: _, [], k, h, _, _, _ => by simp [diffO] at h
  | a :: as, b :: bs, k, h, i, os, hi => by
    simp only [diffO] at h
    split at h
    · rename_i l hl
      split at h
      · rename_i hst
        split at h
        · rename_i hc
          cases h
          cases i with
          | zero =>
            simp at hi
            subst hi
            refine ⟨b, by simp, hst, ?_⟩
            simp only [Bool.or_eq_true, decide_eq_true_eq, List.contains_iff_mem] at hc
            rcases hc with (h | h) | h
            · exact .inl h
            · exact .inr (.inl h)
            · exact .inr (.inr (Ex.same_eq h))
          | succ i =>
            have := diffO_nil hl i os (by simpa using hi)
            simpa [Nat.add_assoc, Nat.add_comm 1 i] using this
        · cases h
      · split at h
        · cases h
        · cases h
    · cases h

theorem headO_length {o : Own} {ids ks : List Nat} {nv m : Nat} : (headO o ids ks nv m).length = o.length + m := by simp [headO]

theorem headO_old {o : Own} {ids ks : List Nat} {nv m k : Nat} {os : OS} (hk : k < o.length) (h : (headO o ids ks nv m)[k]? = some os) :
    ∃ os0, o[k]? = some os0 ∧ ((k ∈ ids ∧ os.st = .dead) ∨ (k ∉ ids ∧ ∃ i, ks[i]? = some k ∧ os = { os0 with t := .v (nv + m + i) }) ∨ (k ∉ ids ∧ k ∉ ks ∧ os = os0)) := by
  unfold headO at h
  rw [List.getElem?_append_left (by simpa using hk), List.getElem?_mapIdx] at h
  obtain ⟨os0, h0, h1⟩ := Option.map_eq_some_iff.1 h
  refine ⟨os0, h0, ?_⟩
  by_cases hm : k ∈ ids
  · simp [hm] at h1
    subst h1
    exact .inl ⟨hm, rfl⟩
  · simp only [List.contains_iff_mem, hm, if_false] at h1
    split at h1
    · rename_i i hi
      refine .inr (.inl ⟨hm, i, ?_, h1.symm⟩)
      obtain ⟨h2, h3, _⟩ := List.idxOf?_eq_some_iff.1 hi
      rw [List.getElem?_eq_getElem h2]
      simpa using h3
    · rename_i hi
      exact .inr (.inr ⟨hm, by simpa using hi, h1.symm⟩)

theorem headO_new {o : Own} {ids ks : List Nat} {nv m i : Nat} {os : OS} (h : (headO o ids ks nv m)[o.length + i]? = some os) : os = ⟨.v (nv + i), .live⟩ := by
  unfold headO at h
  rw [List.getElem?_append_right (by simp)] at h
  simp only [List.length_mapIdx, Nat.add_sub_cancel_left, List.getElem?_map] at h
  obtain ⟨j, hj, rfl⟩ := Option.map_eq_some_iff.1 h
  have : i < m := by have := (List.getElem?_eq_some_iff.1 hj).1; simpa using this
  rw [List.getElem?_range this] at hj
  cases hj
  rfl

/-- ALL AT THE HEAD. -/
theorem bind_all {gn : GN} {env : List D} {gfr : List S} {gh : Heap} {H : Own} {base nv : Nat} {pl : List SL} {es : List Ex} {ids : List Nat} {p : Nat → Bool}
    (hF : FR I (μ.res p fun k => decide (k < base)) w env gfr a) (hG : WR G B I₀ w₀ I (μ.res p fun k => decide (k < base)) w env gh) (hF0 : FR I μ w ρ fr a) (hW0 : WR G B I₀ w₀ I μ w ρ h) (hO : OwnR B I μ w ρ o)
    (hpl : placeLs gn fr h = some pl) (hpo : placeO o pl = some (es, ids)) (hnd : ids.Nodup) (hl : pl.length = gn.to.length + gn.mo.length) (hlen : H.length = base + pl.length) (hrel : HeadRel ρ env H o base)
    (hks : ∀ k ∈ ids, k < base → ∀ os, H[k]? = some os → os.st = .dead) (hnew : ∀ (i : Nat) (os : OS), H[base + i]? = some os → os = ⟨.v (nv + i), .live⟩) (hval : ∀ (i : Nat) (e : Ex) (d : D), es[i]? = some e → e.eval ρ = some d → env[nv + i]? = some d) :
    ∃ μ2, FR I μ2 w env (bindFr gn.to base gfr) a ∧ WR G B I₀ w₀ I μ2 w env (bindHp gn.mo (base + gn.to.length) gh) ∧ OwnR B I μ2 w env H ∧ Evo I (μ.res p fun k => decide (k < base)) w I μ2 w := by
  obtain ⟨hd, HH⟩ := heads_of hO hpo hnd
  have he := evo_bind (I := I) (w := w) (μ := μ) (p := p) (base := base) (hd := hd)
  unfold placeLs at hpl
  split at hpl
  · rename_i a1 b1 ha hb
    cases hpl
    have hal : a1.length = gn.to.length := by have := optAll_length ha; simpa using this
    have hbl : b1.length = gn.mo.length := by have := optAll_length hb; simpa using this
    have ha' := optAll_get ha
    have hb' := optAll_get hb
    refine ⟨μ.bind p base hd, FR.bind gn.to (hF.mono he (List.prefix_refl _)) fun i t hi => ?_, WR.bind gn.mo ?_ fun i b q x vs ty v hi h1 h2 h3 => ?_, hO.bind HH hlen hrel hks hnew hval, he⟩
    · have hil : i < gn.to.length := (List.getElem?_eq_some_iff.1 hi).1
      obtain ⟨l, hla⟩ : ∃ l, a1[i]? = some l := ⟨_, List.getElem?_eq_getElem (by omega)⟩
      have h1 : (gn.to.map fun t => (fr.getD t .x).l?)[i]? = some (some l) := by rw [ha', List.getElem?_map, hla]; rfl
      rw [List.getElem?_map, hi] at h1
      simp only [Option.map_some, Option.some.injEq] at h1
      have hlr := l?_sound h1 (hF0.at_ t)
      have hv := HH.val i l _ (by rw [List.getElem?_append_left (by omega)]; exact hla) hlr
      obtain ⟨b, n, c, hs⟩ := HH.slice hv
      refine ⟨b, n, c, hs, ?_⟩
      simp only [Mu.bind]
      rw [if_neg (by omega), show base + i - base = i from by omega, hv, hs]
    · obtain ⟨hW2, _⟩ : WR G B I₀ w₀ I (μ.bind p base hd) w env gh ∧ True := by
        refine ⟨⟨fun b x hx => ?_, fun b b' x h1 h2 => hG.inj b b' x h1 h2, hG.glo, hG.old, hG.size, hG.imm, hG.imm0, hG.wd⟩, trivial⟩
        obtain ⟨blk, h1, vs, ty, h2, h3, h4⟩ := hG.blk b x hx
        exact ⟨blk, h1, vs, ty, h2, h3.imp fun _ _ hr => hr.mono he (List.prefix_refl _), h4⟩
      exact hW2
    · have hil : i < gn.mo.length := (List.getElem?_eq_some_iff.1 hi).1
      obtain ⟨l, hlb⟩ : ∃ l, b1[i]? = some l := ⟨_, List.getElem?_eq_getElem (by omega)⟩
      have h4 : (gn.mo.map fun p => (h[p.1]?).bind (·.ls[p.2]?))[i]? = some (some l) := by rw [hb', List.getElem?_map, hlb]; rfl
      rw [List.getElem?_map, hi] at h4
      simp only [Option.map_some, Option.some.injEq] at h4
      obtain ⟨blk, h5, h6⟩ := Option.bind_eq_some_iff.1 h4
      have h1' : μ b = some x := by
        simp only [Mu.bind] at h1
        split at h1
        · exact h1
        · cases h1
      obtain ⟨blk', h7, vs', ty', h8, h9, _⟩ := hW0.blk b x h1'
      rw [h5] at h7
      cases h7
      rw [h2] at h8
      cases h8
      obtain ⟨v', h10, h11⟩ := h9.get h6
      have : v' = v := by
        have h3' : vs'[q]? = some v := by simpa using h3
        rw [h10] at h3'
        cases h3'
        rfl
      subst this
      have hv := HH.val (gn.to.length + i) l v' (by rw [List.getElem?_append_right (by omega), hal, Nat.add_sub_cancel_left]; exact hlb) h11
      obtain ⟨b', n, c, hs⟩ := HH.slice hv
      refine ⟨b', n, c, hs, ?_⟩
      simp only [Mu.bind]
      rw [if_neg (by omega), show base + gn.to.length + i - base = gn.to.length + i from by omega]
      exact hv
  · cases hpl

end
end Go.Proofs.YtlihbielphcgbaaGreatDoor.Sx

namespace Go.Proofs.YtlihbielphcgbaaGreatDoor.Sx
open Go
set_option linter.unnecessarySimpa false
set_option linter.unusedSimpArgs false
set_option linter.unusedVariables false

theorem backFr_len {ds : List Nat} : ∀ {gs ss : List S} {t : Nat} {es : List Ex}, backFr ds t gs ss = some es → gs.length = ss.length
  | [], [], _, _, _ => rfl
  | [], _ :: _, _, _, h => by simp [backFr] at h
  | _ :: _, [], _, _, h => by simp [backFr] at h
  | g :: gs, s :: ss, t, es, h => by
    simp only [backFr] at h
    split at h
    · split at h
      · simp [backFr_len h]
      · split at h
        · split at h
          · rename_i h2; simp [backFr_len h2]
          · cases h
        · cases h
      · cases h
    · split at h
      · simp [backFr_len h]
      · cases h

theorem backFr_exs {ds : List Nat} : ∀ (fr : List S) {ss : List S} {t k : Nat} {es : List Ex}, backFr ds t (genFr ds t k fr).2 ss = some es → es.length = (genFr ds t k fr).1.length
  | [], ss, t, k, es, h => by
    cases ss <;> simp [genFr, backFr] at h
    subst h
    rfl
  | s :: r, ss, t, k, es, h => by
    have hno : ∀ s', genFr ds t k (s :: r) = ((genFr ds (t + 1) k r).1, s' :: (genFr ds (t + 1) k r).2) → (∀ ss', backFr ds t (s' :: (genFr ds (t + 1) k r).2) ss' = some es → ∃ ss'', backFr ds (t + 1) (genFr ds (t + 1) k r).2 ss'' = some es) → es.length = (genFr ds t k (s :: r)).1.length := by
      intro s' heq hf
      rw [heq] at h ⊢
      obtain ⟨ss'', h'⟩ := hf ss h
      exact backFr_exs r h'
    by_cases hds : ds.contains t = true
    · have hx : genFr ds t k (s :: r) = ((genFr ds (t + 1) k r).1, .x :: (genFr ds (t + 1) k r).2) → es.length = (genFr ds t k (s :: r)).1.length := fun heq => hno .x heq fun ss' h' => by
        cases ss' with
        | nil => simp [backFr] at h'
        | cons s' ss' => simp only [backFr] at h'; rw [if_pos hds] at h'; exact ⟨_, h'⟩
      cases s with
      | val g ls =>
        cases hg : genLs k ls with
        | none => exact hx (by simp only [genFr]; rw [if_pos hds, hg])
        | some q =>
          obtain ⟨es0, ls'⟩ := q
          have heq : genFr ds t k (.val g ls :: r) = (es0 ++ (genFr ds (t + 1) (k + es0.length) r).1, .val g ls' :: (genFr ds (t + 1) (k + es0.length) r).2) := by
            simp only [genFr]; rw [if_pos hds, hg]
          obtain ⟨hsh, hlen⟩ := genLs_shape hg
          rw [heq] at h ⊢
          cases ss with
          | nil => simp [backFr] at h
          | cons s' ss =>
            simp only [backFr] at h
            rw [if_pos hds] at h
            cases s' with
            | val g' ls1 =>
              simp only at h
              split at h
              · rename_i hgl
                simp only [Bool.and_eq_true, beq_iff_eq] at hgl
                split at h
                · rename_i es1 r1 h1 h2
                  cases h
                  have := backFr_exs r h2
                  have he1 : es1.length = ls1.length := by have := congrArg List.length (exLs_get h1); simpa using this.symm
                  have hl := hgl.2
                  rw [hsh] at hl
                  simp [varsFrom] at hl
                  simp only [List.length_append]
                  omega
                · cases h
              · cases h
            | x => simp at h
            | u => simp at h
            | tup vs => simp at h
      | x => exact hx (by simp only [genFr]; rw [if_pos hds])
      | u => exact hx (by simp only [genFr]; rw [if_pos hds])
      | tup vs => exact hx (by simp only [genFr]; rw [if_pos hds])
    · refine hno s (by simp only [genFr]; rw [if_neg hds]) fun ss' h' => ?_
      cases ss' with
      | nil => simp [backFr] at h'
      | cons s' ss' =>
        simp only [backFr] at h'
        rw [if_neg hds] at h'
        split at h'
        · exact ⟨_, h'⟩
        · cases h'

theorem backHp_len {h : Heap} : ∀ {ms : List (Nat × Nat)} {es : List Ex}, backHp h ms = some es → es.length = ms.length
  | [], es, hb => by simp [backHp] at hb; subst hb; rfl
  | (b0, o0) :: r, es, hb => by
    simp only [backHp] at hb
    split at hb
    · split at hb
      · split at hb
        · rename_i h1; cases hb; simp [backHp_len h1]
        · cases hb
      · cases hb
    · cases hb

section
variable {C : Con} {R : List DV → Prop} {B : Nat} {I₀ : Imm} {w₀ : World} {E : Env}

theorem prep_sound {r : Option Nat} {G : Glo} {st : St} {L : List Lp} {ρ : List D} {I : Imm} {μ : Mu} {w : World} {a : Act} (J : List Nat) (hs : StR r G B I₀ w₀ st L ρ I μ w a) : ∃ I', StR r G B I₀ w₀ (prepSt J st) L ρ I' μ w a ∧ Evo I μ w I' μ w := by
  obtain ⟨I', hW, he, hO⟩ := hs.own.frz hs.wr J
  exact ⟨I', ⟨(hs.fr.mono he (List.prefix_refl _)).fix hO, hW.fix hO, hO, hs.nv, hs.lv, hs.df.mono he⟩, he⟩

theorem live_list {o : Own} : ∀ {ks : List Nat} {es : List Ex}, optAll (ks.map (Own.live? o)) = some es → ∀ (i k : Nat), ks[i]? = some k → ∃ t, es[i]? = some t ∧ o[k]? = some ⟨t, .live⟩ := by
  intro ks es h i k hi
  have h' := optAll_get h
  have : (ks.map (Own.live? o))[i]? = some (Own.live? o k) := by rw [List.getElem?_map, hi]; rfl
  rw [h', List.getElem?_map] at this
  cases he : es[i]? with
  | none => rw [he] at this; cases this
  | some t =>
    rw [he] at this
    simp only [Option.map_some, Option.some.injEq] at this
    exact ⟨t, rfl, live?_some this.symm⟩

theorem rnd_on {lb : Option Nat} {e : Xit} {J : Act → World → Prop} {Q : Exit → Act → World → Prop} {a : Act} {w : World} (h : backX lb e = .on) (hq : Q (xit e) a w) : rnd lb J Q (xit e) a w := by
  cases lb <;> cases e <;> simp only [backX] at h <;> first | exact hq | cases h | skip
  split at h <;> cases h
theorem rnd_back {lb : Option Nat} {e : Xit} {J : Act → World → Prop} {Q : Exit → Act → World → Prop} {a : Act} {w : World} (h : backX lb e = .back) (hq : J a w) : rnd lb J Q (xit e) a w := by
  cases lb <;> cases e <;> simp only [backX] at h <;> first | exact hq | cases h | skip
  split at h
  · rename_i hl
    exact ⟨hl, hq⟩
  · cases h
/-- the head of a loop, as it stands in the world -/
structure RelH (G : Glo) (B : Nat) (I₀ : Imm) (w₀ : World) (hd : Hd) (ρ dn : List D) (I : Imm) (μ : Mu) (w : World) (a : Act) : Prop where
  fr : FR I μ w (ρ ++ dn) hd.sg.fr a
  wr : WR G B I₀ w₀ I μ w (ρ ++ dn) hd.sg.h
  own : OwnR B I μ w (ρ ++ dn) hd.sg.o
theorem headOf_sg {b : Code} {gn : GN} {st : St} {hd : Hd} (h : headOf b gn st = some hd) : hd.sg.q = st.q ∧ hd.sg.lv = st.lv + 1 := by
  unfold headOf at h
  dsimp only at h
  split at h
  · cases h
  split at h
  · cases h
  split at h
  · split at h
    · cases h; exact ⟨rfl, rfl⟩
    · cases h
  · cases h
theorem prep_parts {G : Glo} {s : St} {ρ : List D} {I : Imm} {μ : Mu} {w : World} {a : Act} (J : List Nat) (hF : FR I μ w ρ s.fr a) (hW : WR G B I₀ w₀ I μ w ρ s.h) (hO : OwnR B I μ w ρ s.o) :
    ∃ I', FR I' μ w ρ (prepSt J s).fr a ∧ WR G B I₀ w₀ I' μ w ρ (prepSt J s).h ∧ OwnR B I' μ w ρ (prepSt J s).o ∧ Evo I μ w I' μ w := by
  obtain ⟨I', hW', he, hO'⟩ := hO.frz hW J
  exact ⟨I', (hF.mono he (List.prefix_refl _)).fix hO', hW'.fix hO', hO', he⟩
/-- A loop's head, and its end: where the head is so, and the round's end, the next head is so. -/
theorem loop_facts {r : Option Nat} {b : Code} {gn : GN} {st : St} {hd : Hd} {L : List Lp} {ρ dd : List D} {I : Imm} {μ : Mu} {w : World} {a : Act} (hs : StR r E.G B I₀ w₀ st L ρ I μ w a) (hhd : headOf b gn st = some hd) (hdd : Ex.evals ρ hd.init = some dd) :
    ∃ I1, Evo I μ w I1 μ w ∧ (∀ dn : List D, dn.length = dd.length → (ρ ++ dn).length = hd.sg.nv) ∧ (∃ μ2, RelH E.G B I₀ w₀ hd ρ dd I1 μ2 w a ∧ Evo I1 μ w I1 μ2 w) ∧
      ∀ (vs : List Ex) (s : St) (ρ'' ds' : List D) (I'' : Imm) (μ'' : Mu) (w'' : World) (a'' : Act), ρ <+: ρ'' → FR I'' μ'' w'' ρ'' s.fr a'' → WR E.G B I₀ w₀ I'' μ'' w'' ρ'' s.h → OwnR B I'' μ'' w'' ρ'' s.o → Evo I1 μ w I'' μ'' w'' →
        backOf gn hd s = .go vs → Ex.evals ρ'' vs = some ds' →
        s.q = hd.sg.q ∧ ds'.length = dd.length ∧ ∃ I2 μ3, RelH E.G B I₀ w₀ hd ρ ds' I2 μ3 w'' a'' ∧ Evo I1 μ w I2 μ3 w'' ∧ Evo I'' μ'' w'' I2 μ'' w'' := by
  obtain ⟨I1, hs1, he1⟩ := prep_sound gn.fz hs
  refine ⟨I1, he1, ?_⟩
  unfold headOf at hhd
  dsimp only at hhd
  have hlv1 : (prepSt gn.fz st).lv = st.lv := rfl
  have hq1 : (prepSt gn.fz st).q = st.q := rfl
  generalize hst1 : prepSt gn.fz st = st1 at hhd hs1 hlv1 hq1
  split at hhd
  · cases hhd
  · rename_i pl hpl
    split at hhd
    · cases hhd
    · rename_i eo ids hpo
      split at hhd
      · rename_i es ek hes hek
        split at hhd
        · rename_i hcond
          generalize hds : (dstsOf b).filter (fun t => !gn.to.contains t && (!nilS (st1.fr.getD t .x) || gn.td.contains t)) = ds at hhd
          cases hhd
          simp only [Bool.and_eq_true, beq_iff_eq] at hcond
          obtain ⟨⟨⟨hidn, hksn⟩, hkid⟩, hplen⟩ := hcond
          have hidn := nodupB_sound hidn
          have hkid : ∀ k ∈ gn.ks, k ∉ ids := fun k hk => by simpa using List.all_eq_true.1 hkid k hk
          obtain ⟨d123, d4, rfl, he123, he4⟩ := evals_append hdd
          obtain ⟨d12, d3, rfl, he12, he3⟩ := evals_append he123
          obtain ⟨d1, d2, rfl, hee1, hee2⟩ := evals_append he12
          have hl1 := evals_length hee1
          have hl2 := evals_length hee2
          have hl3 := evals_length he3
          have hl4 := evals_length he4
          -- blocks and slices that were
          have hdom : ∀ b x, μ b = some x → (μ b).isSome = true := fun b x hb => by rw [hb]; rfl
          have hqom : ∀ k v, μ.v k = some v → decide (k < st1.o.length) = true := fun k v hv => by
            refine decide_eq_true ?_
            rcases Nat.lt_or_ge k st1.o.length with h | h
            · exact h
            · rw [hs1.own.new k h] at hv; cases hv
          have hfl : (forgetHp gn.mo st1.h).length = st1.h.length := forgetHp_length gn.mo st1.h
          have hW0 := WR.forget gn.mo hs1.wr
          have hF0 := FR.forget gn.to hs1.fr
          have hpl' : ∀ b, (μ b).isSome = true → b < (forgetHp gn.mo st1.h).length := fun b hb => by
            obtain ⟨x, hx⟩ := Option.isSome_iff_exists.1 hb
            exact hW0.dom hx
          have hpe : ek.length = gn.ks.length := by have := optAll_length hek; simpa using this
          have hple : eo.length = pl.length := by
            obtain ⟨hd', H⟩ := heads_of hs1.own hpo hidn
            exact H.lene
          -- the head's slices, whatever the round
          have hHlen : (headO st1.o ids gn.ks (st1.nv + (genFr ds 0 st1.nv (forgetFr gn.to st1.fr)).1.length + es.length) pl.length).length = st1.o.length + pl.length := headO_length
          -- ALL at the head: at the beginning, and behind each round
          have head : ∀ (dn1 dn2 dn3 dn4 : List D) (I' : Imm) (μ' : Mu) (w' : World) (a' : Act) (ρe : List D) (fr1 : List S) (h1 : Heap) (o1 : Own) (pl1 : List SL) (eo1 : List Ex) (ids1 : List Nat),
              dn1.length = d1.length → dn2.length = d2.length → dn3.length = d3.length → dn4.length = d4.length → ρ <+: ρe →
              FR I' (μ'.res (fun b => (μ b).isSome) fun k => decide (k < st1.o.length)) w' (ρ ++ (dn1 ++ dn2 ++ dn3 ++ dn4)) (genFr ds 0 st1.nv (forgetFr gn.to st1.fr)).2 a' →
              WR E.G B I₀ w₀ I' (μ'.res (fun b => (μ b).isSome) fun k => decide (k < st1.o.length)) w' (ρ ++ (dn1 ++ dn2 ++ dn3 ++ dn4)) (genHeap gn.ms (st1.nv + (genFr ds 0 st1.nv (forgetFr gn.to st1.fr)).1.length) (forgetHp gn.mo st1.h)) →
              FR I' μ' w' ρe fr1 a' → WR E.G B I₀ w₀ I' μ' w' ρe h1 → OwnR B I' μ' w' ρe o1 → Evo I1 μ w I' μ' w' →
              placeLs gn fr1 h1 = some pl1 → placeO o1 pl1 = some (eo1, ids1) → ids1.Nodup → pl1.length = gn.to.length + gn.mo.length →
              Ex.evals ρe eo1 = some dn3 → (∀ k ∈ ids1, k < st1.o.length → k ∈ ids) →
              (∀ (k : Nat) (os : OS), k < st1.o.length → (headO st1.o ids gn.ks (st1.nv + (genFr ds 0 st1.nv (forgetFr gn.to st1.fr)).1.length + es.length) pl.length)[k]? = some os → os.st = .dead ∨ ∃ os' : OS, o1[k]? = some os' ∧ os'.st = os.st ∧ (os'.t = os.t ∧ k ∉ gn.ks ∨ ∃ (i : Nat) (d : D), gn.ks[i]? = some k ∧ os'.t.eval ρe = some d ∧ dn4[i]? = some d)) →
              ∃ μ2, FR I' μ2 w' (ρ ++ (dn1 ++ dn2 ++ dn3 ++ dn4)) (bindFr gn.to st1.o.length (genFr ds 0 st1.nv (forgetFr gn.to st1.fr)).2) a' ∧
                WR E.G B I₀ w₀ I' μ2 w' (ρ ++ (dn1 ++ dn2 ++ dn3 ++ dn4)) (bindHp gn.mo (st1.o.length + gn.to.length) (genHeap gn.ms (st1.nv + (genFr ds 0 st1.nv (forgetFr gn.to st1.fr)).1.length) (forgetHp gn.mo st1.h))) ∧
                OwnR B I' μ2 w' (ρ ++ (dn1 ++ dn2 ++ dn3 ++ dn4)) (headO st1.o ids gn.ks (st1.nv + (genFr ds 0 st1.nv (forgetFr gn.to st1.fr)).1.length + es.length) pl.length) ∧ Evo I1 μ w I' μ2 w' := by
            intro dn1 dn2 dn3 dn4 I' μ' w' a' ρe fr1 h1 o1 pl1 eo1 ids1 hn1 hn2 hn3 hn4 hρe hFg hWg hFe hWe hOe hev hpl1 hpo1 hnd1 hlen1 heo1 hids1 hrel
            have hnv3 : (ρ ++ (dn1 ++ dn2)).length = st1.nv + (genFr ds 0 st1.nv (forgetFr gn.to st1.fr)).1.length + es.length := by
              simp only [List.length_append, hs1.nv]
              omega
            have hplen' : pl1.length = pl.length := by omega
            have hleo : eo1.length = dn3.length := evals_length heo1
            have hple1 : eo1.length = pl1.length := by
              obtain ⟨hd', H⟩ := heads_of hOe hpo1 hnd1
              exact H.lene
            obtain ⟨μ2, h2, h3, h4, h5⟩ := bind_all (gn := gn) (H := headO st1.o ids gn.ks (st1.nv + (genFr ds 0 st1.nv (forgetFr gn.to st1.fr)).1.length + es.length) pl.length) (nv := st1.nv + (genFr ds 0 st1.nv (forgetFr gn.to st1.fr)).1.length + es.length) hFg hWg hFe hWe hOe hpl1 hpo1 hnd1 hlen1 (by rw [headO_length, hplen'])
              (fun k os hlt hos => by
                by_cases hdead : os.st = .dead
                · exact .inl hdead
                · refine .inr ?_
                  obtain ⟨os', h1, h2, h3⟩ := (hrel k os hlt hos).resolve_left hdead
                  refine ⟨os', h1, h2, fun d hd => ?_⟩
                  obtain ⟨os0, ho0, hcase⟩ := headO_old hlt hos
                  rcases h3 with ⟨ht, hnk⟩ | ⟨i, d', hi, hd', hdn⟩
                  · rcases hcase with ⟨_, h⟩ | ⟨_, i, hi, rfl⟩ | ⟨_, _, rfl⟩
                    · exact absurd h hdead
                    · exact absurd (List.mem_of_getElem? hi) hnk
                    · rw [ht] at hd
                      have hpre : ∃ d0, os.t.eval ρ = some d0 := by
                        obtain ⟨t, st'⟩ := os
                        cases st' with
                        | live => obtain ⟨v, s, rows, _, hh, _⟩ := hs1.own.live k t ho0; exact ⟨_, hh⟩
                        | frozen => obtain ⟨v, d0, _, hh, _⟩ := hs1.own.frozen k t ho0; exact ⟨_, hh⟩
                        | dead => exact absurd rfl hdead
                      obtain ⟨d0, hd0⟩ := hpre
                      exact Ex.rebase hd0 hρe (pre_append _ _) hd
                  · rcases hcase with ⟨hki, _⟩ | ⟨_, i', hi', rfl⟩ | ⟨_, hnk, _⟩
                    · exact absurd hki (hkid k (List.mem_of_getElem? hi))
                    · rw [hd'] at hd
                      cases hd
                      have hii : i' = i := by
                        have hn := nodupB_sound hksn
                        exact (List.getElem?_inj (List.getElem?_eq_some_iff.1 hi').1 hn).1 (hi'.trans hi.symm)
                      subst hii
                      simp only [Ex.eval]
                      rw [show (ρ ++ (dn1 ++ dn2 ++ dn3 ++ dn4)) = (ρ ++ (dn1 ++ dn2)) ++ (dn3 ++ dn4) from by simp]
                      rw [List.getElem?_append_right (by omega), hnv3]
                      rw [show st1.nv + (genFr ds 0 st1.nv (forgetFr gn.to st1.fr)).1.length + es.length + pl.length + i' - (st1.nv + (genFr ds 0 st1.nv (forgetFr gn.to st1.fr)).1.length + es.length) = pl.length + i' from by omega]
                      rw [List.getElem?_append_right (by omega), show pl.length + i' - dn3.length = i' from by omega]
                      exact hdn
                    · exact absurd (List.mem_of_getElem? hi) hnk)
              (fun k hk hlt os hos => by
                obtain ⟨os0, _, hcase⟩ := headO_old hlt hos
                have := hids1 k hk hlt
                rcases hcase with ⟨_, h⟩ | ⟨h, _⟩ | ⟨h, _⟩
                · exact h
                · exact absurd this h
                · exact absurd this h)
              (fun i os hi => headO_new hi)
              (fun i e d hi he => by
                obtain ⟨d', hd', he'⟩ := evals_get heo1 hi
                rw [he] at he'
                cases he'
                rw [show (ρ ++ (dn1 ++ dn2 ++ dn3 ++ dn4)) = (ρ ++ (dn1 ++ dn2)) ++ (dn3 ++ dn4) from by simp]
                have hil : i < dn3.length := (List.getElem?_eq_some_iff.1 hd').1
                rw [List.getElem?_append_right (by omega), hnv3, Nat.add_sub_cancel_left, List.getElem?_append_left hil]
                exact hd')
            exact ⟨μ2, h2, h3, h4, (hev.upto hdom hqom).trans h5⟩
          -- the beginning
          have hp0 : ρ <+: ρ ++ (d1 ++ d2 ++ d3 ++ d4) := pre_append _ _
          have hv0 : VarsAt (ρ ++ (d1 ++ d2 ++ d3 ++ d4)) st1.nv (d1 ++ d2 ++ d3 ++ d4) := hs1.nv ▸ VarsAt.self ρ _
          have hFg0 := genFr_sound (I := I1) (μ := μ) (w := w) hp0 ds (forgetFr gn.to st1.fr) 0 st1.nv hee1 hv0.left.left.left
          have hFR0 : FR I1 μ w (ρ ++ (d1 ++ d2 ++ d3 ++ d4)) (genFr ds 0 st1.nv (forgetFr gn.to st1.fr)).2 a := ⟨hFg0.1.trans hF0.len, fun t => hFg0.2 t _ (hF0.at_ t)⟩
          have hWR0 : WR E.G B I₀ w₀ I1 (μ.res (fun b => (μ b).isSome) fun k => decide (k < st1.o.length)) w (ρ ++ (d1 ++ d2 ++ d3 ++ d4)) (genHeap gn.ms (st1.nv + (genFr ds 0 st1.nv (forgetFr gn.to st1.fr)).1.length) (forgetHp gn.mo st1.h)) := by
            refine genHeap_sound hW0 hpl' (fun bb blk hpb hblk => ⟨blk, hblk, rfl, rfl, fun o l l' h1 h2 _ v hv => ?_⟩) hes hee2 (hl1 ▸ hv0.left.left.right)
            rw [h1] at h2
            cases h2
            exact LR.upto hv hdom hqom (hv.mono (Evo.refl _ _ _) hp0)
          obtain ⟨μ2, hF2, hW2, hO2, hev2⟩ := head d1 d2 d3 d4 I1 μ w a ρ st1.fr st1.h st1.o pl eo ids rfl rfl rfl rfl (List.prefix_refl _) ⟨hFR0.len, fun t => SR.upto hdom hqom (hFR0.at_ t) (hFR0.at_ t)⟩ hWR0 hs1.fr hs1.wr hs1.own (Evo.refl _ _ _) hpl hpo hidn hplen he3 (fun k hk _ => hk)
            (fun k os hlt hos => by
              obtain ⟨os0, ho0, hcase⟩ := headO_old hlt hos
              rcases hcase with ⟨_, h⟩ | ⟨_, i, hi, rfl⟩ | ⟨_, hnk, rfl⟩
              · exact .inl h
              · obtain ⟨t, ht, hkt⟩ := live_list hek i k hi
                rw [hkt] at ho0
                cases ho0
                obtain ⟨d, hd, hed⟩ := evals_get he4 ht
                exact .inr ⟨_, hkt, rfl, .inr ⟨i, d, hi, hed, hd⟩⟩
              · exact .inr ⟨os, ho0, rfl, .inl ⟨rfl, hnk⟩⟩)
          refine ⟨fun dn hdn => ?_, ⟨μ2, ⟨hF2, hW2, hO2⟩, hev2⟩, ?_⟩
          · simp only [List.length_append, hs1.nv] at hdn ⊢
            omega
          intro vs s ρ'' ds' I'' μ'' w'' a'' hρ hFs hWs hOs hev' hback hds'
          unfold backOf at hback
          dsimp only at hback
          split at hback
          · cases hback
          rename_i hqq
          have hqq : s.q = st.q := by simpa using hqq
          generalize backJ gn _ s = J at hback
          obtain ⟨I2, hFs2, hWs2, hOs2, he2'⟩ := prep_parts J hFs hWs hOs
          generalize prepSt J s = s1 at hback hFs2 hWs2 hOs2
          have hev2' := hev'.trans he2'
          split at hback
          · split at hback <;> cases hback
          · cases hback
          · rename_i hdo
            split at hback
            · cases hback
            · split at hback
              · cases hback
              · rename_i pl1 hpl1
                split at hback
                · split at hback <;> cases hback
                · rename_i eo1 ids1 hpo1
                  split at hback
                  · cases hback
                  · rename_i hdf
                    split at hback
                    · rename_i xs ys ek1 hxs hys hek1
                      split at hback
                      · rename_i hc1
                        cases hback
                        simp only [Bool.and_eq_true, beq_iff_eq] at hc1
                        obtain ⟨⟨⟨hshp, hid1⟩, hidb⟩, hpln1⟩ := hc1
                        have hid1 := nodupB_sound hid1
                        obtain ⟨e123, e4, rfl, hx123, hx4⟩ := evals_append hds'
                        obtain ⟨e12, e3, rfl, hx12, hx3⟩ := evals_append hx123
                        obtain ⟨e1, e2, rfl, hx1, hx2⟩ := evals_append hx12
                        have hxl := backFr_exs (forgetFr gn.to st1.fr) hxs
                        have hxl1 := evals_length hx1
                        have hyl := backHp_len hys
                        have hyl0 := backHp_len hes
                        have hyl1 := evals_length hx2
                        have hl31 := evals_length hx3
                        have hl41 := evals_length hx4
                        have hpe1 : ek1.length = gn.ks.length := by have := optAll_length hek1; simpa using this
                        have hple1 : eo1.length = pl1.length := by
                          obtain ⟨hd', H⟩ := heads_of hOs2 hpo1 hid1
                          exact H.lene
                        have hpn : ρ <+: ρ ++ (e1 ++ e2 ++ e3 ++ e4) := pre_append _ _
                        have hvn : VarsAt (ρ ++ (e1 ++ e2 ++ e3 ++ e4)) st1.nv (e1 ++ e2 ++ e3 ++ e4) := hs1.nv ▸ VarsAt.self ρ _
                        have hkk : st1.nv + (genFr ds 0 st1.nv (forgetFr gn.to st1.fr)).1.length = st1.nv + e1.length := by omega
                        have hF1 := FR.forget gn.to hFs2
                        have hW1 := WR.forget gn.mo hWs2
                        obtain ⟨μ3, hF3, hW3, hO3, hev3⟩ := head e1 e2 e3 e4 I2 μ'' w'' a'' ρ'' s1.fr s1.h s1.o pl1 eo1 ids1 (by omega) (by omega) (by omega) (by omega) hρ
                          ⟨(backFr_len hxs).trans hF1.len, fun t => by
                            have hb := backFr_sound (I := I2) (μ := μ'') (w := w'') hρ hpn ds (forgetFr gn.to st1.fr) (forgetFr gn.to s1.fr) 0 st1.nv (fun j => ⟨_, hF0.at_ j⟩) hxs hx1 hvn.left.left.left t _ (hF1.at_ t)
                            exact SR.upto hdom hqom (hFR0.at_ t) hb⟩
                          (by
                            refine genHeap_sound hW1 hpl' (fun bb blk hpb hblk => ?_) hys hx2 (hkk ▸ hvn.left.left.right)
                            obtain ⟨x, hbx⟩ := Option.isSome_iff_exists.1 hpb
                            obtain ⟨blk0, hb0, vs0, ty0, _, hl0, _⟩ := hW0.blk bb x hbx
                            rw [hblk] at hb0
                            cases hb0
                            have hgg : (genHeap gn.ms (st1.nv + (genFr ds 0 st1.nv (forgetFr gn.to st1.fr)).1.length) (forgetHp gn.mo st1.h))[bb]? = some { blk with ls := blk.ls.mapIdx fun o l => match idxAt (bb, o) gn.ms (st1.nv + (genFr ds 0 st1.nv (forgetFr gn.to st1.fr)).1.length) with
                                | some i => SL.e (.v i)
                                | none => l } := by
                              unfold genHeap
                              rw [List.getElem?_mapIdx, hblk]
                              rfl
                            obtain ⟨sb, hsb, hro, hsl⟩ := shapeHp_get hshp bb _ hgg
                            have hdl := diffHp_nil hdf bb _ sb hgg hsb
                            refine ⟨sb, hsb, hro, by simpa using hsl, fun o l l' hl hl' hnm v hv => ?_⟩
                            have hgl : (blk.ls.mapIdx fun o l => match idxAt (bb, o) gn.ms (st1.nv + (genFr ds 0 st1.nv (forgetFr gn.to st1.fr)).1.length) with
                                | some i => SL.e (.v i)
                                | none => l)[o]? = some l := by
                              rw [List.getElem?_mapIdx, hl]
                              simp only [Option.map_some]
                              cases hi : idxAt (bb, o) gn.ms (st1.nv + (genFr ds 0 st1.nv (forgetFr gn.to st1.fr)).1.length) with
                              | none => rfl
                              | some i => obtain ⟨j, _, hj⟩ := idxAt_some hi; exact absurd (List.mem_of_getElem? hj) hnm
                            have hsame := diffLs_nil hdl o l l' hgl hl' (by simpa using hnm)
                            obtain ⟨v0, _, hr0⟩ := hl0.get hl
                            exact LR.upto hr0 hdom hqom (LR.rebase hr0 hρ hpn (SL.same_sound hsame hv)))
                          hFs2 hWs2 hOs2 hev2' hpl1 hpo1 hid1 hpln1 hx3
                          (fun k hk hlt => by have := List.all_eq_true.1 hidb k hk; simp at this; omega)
                          (fun k os hlt hos => by
                            have hos' : ((headO st1.o ids gn.ks (st1.nv + (genFr ds 0 st1.nv (forgetFr gn.to st1.fr)).1.length + es.length) pl.length).take st1.o.length)[k]? = some os := by
                              rw [List.getElem?_take, if_pos hlt]; exact hos
                            obtain ⟨os', h7, h8, h9⟩ := diffO_nil hdo k os hos'
                            by_cases hkm : k ∈ gn.ks
                            · obtain ⟨i, hi⟩ := List.getElem?_of_mem hkm
                              obtain ⟨t, ht, hkt⟩ := live_list hek1 i k hi
                              rw [hkt] at h7
                              cases h7
                              obtain ⟨d, hd, hed⟩ := evals_get hx4 ht
                              exact .inr ⟨_, hkt, h8.symm, .inr ⟨i, d, hi, hed, hd⟩⟩
                            · rcases h9 with h | h | h
                              · exact .inl h
                              · exact absurd (by simpa using h) hkm
                              · exact .inr ⟨os', h7, h8.symm, .inl ⟨h.symm, hkm⟩⟩)
                        exact ⟨hqq, by simp only [List.length_append] at *; omega, I2, μ3, ⟨hF3, hW3, hO3⟩, hev3, he2'⟩
                      · cases hback
                    · cases hback
                    · cases hback
        · cases hhd
      · cases hhd
theorem gen_step {n : Nat} (hC : SCode C R B I₀ w₀ E n) (hG : SGen C R B I₀ w₀ E n) : SGen C R B I₀ w₀ E (n + 1) := by
  intro r me lb b gn tries st k ir L ρ I μ w a Q hx hw hs hk
  cases tries with
  | zero => simp only [exec] at hx; cases hx
  | succ tries =>
    simp only [exec] at hx
    split at hx
    · cases hx
    · rename_i hd hhd
      split at hx
      case h_2 lv l hnd =>
        split at hx
        · exact hG r me lb b (gn.add l) tries st k ir L ρ I μ w a Q hx hw hs hk
        · cases hx
      case h_3 z hz1 hz2 => exact absurd hx (hz1 _)
      case h_1 ir' hexec =>
        cases hx
        obtain ⟨N, dd, hdd, hP⟩ := hw
        obtain ⟨I1, he1, hnv, ⟨μ2, hR2, hev2⟩, hback⟩ := loop_facts hs hhd hdd
        obtain ⟨hsq, hsl⟩ := headOf_sg hhd
        have hk1 := hk.mono (List.prefix_refl _) (List.prefix_refl _) he1
        have key : ∀ (N : Nat) (dn : List D) (I' : Imm) (μ' : Mu) (w' : World) (a' : Act),
            (Nat.rec (motive := fun _ => Lp) (fun _ => False) (fun _ Pn es => IR.wp C R ir' (L ++ [Pn]) (ρ ++ es)) N dn : Prop) → dn.length = dd.length →
            RelH E.G B I₀ w₀ hd ρ dn I' μ' w' a' → Evo I1 μ w I' μ' w' → DfR r B I' w' st.q a'.defers → RW r E.P lb b Q a' w' := by
          intro N
          induction N with
          | zero => intro dn I' μ' w' a' h; exact h.elim
          | succ N ih =>
            intro dn I' μ' w' a' hP hdn hR hev hdf
            have hpd : ρ <+: ρ ++ dn := pre_append _ _
            refine RW.mk ?_
            refine hC r me b _ _ ir' (L ++ [_]) (ρ ++ dn) I' μ' w' a' _ hexec hP ⟨hR.fr, hR.wr, hR.own, hnv dn hdn, by rw [hsl]; simp [hs.lv], by rw [hsq]; exact hdf⟩ ?_
            intro e s ir'' L'' ρ'' I'' μ'' w'' a'' h1 h2 h3 h4 h5 h6
            have hρ : ρ <+: ρ'' := hpd.trans h4
            have hL : L <+: L'' := (pre_append _ _).trans h3
            have hev' := hev.trans h6
            dsimp only at h1
            cases hbx : backX lb e with
            | bad => rw [hbx] at h1; cases h1
            | on => rw [hbx] at h1; exact rnd_on hbx (hk1 e s ir'' L'' ρ'' I'' μ'' w'' a'' h1 h2 hL hρ h5 hev')
            | back =>
              rw [hbx] at h1
              refine rnd_back hbx ?_
              simp only at h1
              split at h1
              case h_2 => cases h1
              case h_3 => cases h1
              case h_1 vs hbk =>
                cases h1
                obtain ⟨Pn, ds', hLn, hds', hPn⟩ := h2
                rw [← hs.lv, prefix_get h3] at hLn
                cases hLn
                obtain ⟨hqq, hlen, I2, μ3, hR3, hev3, he2⟩ := hback vs s ρ'' ds' I'' μ'' w'' a'' hρ h5.fr h5.wr h5.own hev' hbk hds'
                have hdf2 := h5.df
                rw [hqq, hsq] at hdf2
                exact ih ds' I2 μ3 w'' a'' hPn hlen hR3 hev3 (hdf2.mono he2)
        exact key N dd I1 μ2 w a hP rfl hR2 hev2 (hs.df.mono he1)

end
end Go.Proofs.YtlihbielphcgbaaGreatDoor.Sx

namespace Go.Proofs.YtlihbielphcgbaaGreatDoor.Sx
open Go
set_option linter.unnecessarySimpa false
set_option linter.unusedSimpArgs false
set_option linter.unusedVariables false

theorem map_opd_congr {fr fr' : List S} : ∀ {l : List Operand}, (∀ x ∈ l, opd fr x = opd fr' x) → l.map (opd fr) = l.map (opd fr')
  | [], _ => rfl
  | x :: l, h => by
    simp only [List.map_cons]
    rw [h x (List.mem_cons_self ..), map_opd_congr fun y hy => h y (List.mem_cons_of_mem _ hy)]

theorem parts_congr {fr fr' : List S} {ps : List (Nat × Operand)} (h : ∀ x ∈ ps.map (·.2), opd fr x = opd fr' x) : (ps.map fun q => (q.1, opd fr q.2)) = ps.map fun q => (q.1, opd fr' q.2) :=
  List.map_congr_left fun q hq => by rw [h q.2 (List.mem_map.2 ⟨q, hq, rfl⟩)]

theorem arith_congr {P : Program} {fr fr' : List S} {op : Op} (hx : ∀ x ∈ op.operands.toList, opd fr x = opd fr' x) : arith P fr op = arith P fr' op := by
  cases op with
  | binOp o t a b t' =>
    have h1 := hx a (by simp [Op.operands])
    have h2 := hx b (by simp [Op.operands])
    simp only [arith, h1, h2]
  | unOp o t a =>
    have h1 := hx a (by simp [Op.operands])
    simp only [arith, h1]
  | convert s d a =>
    have h1 := hx a (by simp [Op.operands])
    simp only [arith, h1]
  | call c =>
    obtain ⟨callee, args, argTypes⟩ := c
    cases callee with
    | builtin b =>
      cases b <;> try rfl
      · unfold arith
        dsimp only
        cases hl : args.toList with
        | nil => rfl
        | cons a r =>
          cases r with
          | cons _ _ => rfl
          | nil =>
            have h1 := hx a (by simp [Op.operands, Call.operands, hl])
            cases argTypes[0]? with
            | none => rfl
            | some t => simp only [h1]
      · unfold arith
        dsimp only
        cases hl : args.toList with
        | nil => rfl
        | cons a r =>
          cases r with
          | nil => rfl
          | cons b r =>
            cases r with
            | cons _ _ => rfl
            | nil =>
              have h1 := hx a (by simp [Op.operands, Call.operands, hl])
              have h2 := hx b (by simp [Op.operands, Call.operands, hl])
              simp only [h1, h2]
      · unfold arith
        dsimp only
        cases hl : args.toList with
        | nil => rfl
        | cons a r =>
          cases r with
          | nil => rfl
          | cons b r =>
            cases r with
            | cons _ _ => rfl
            | nil =>
              have h1 := hx a (by simp [Op.operands, Call.operands, hl])
              have h2 := hx b (by simp [Op.operands, Call.operands, hl])
              simp only [h1, h2]
    | _ => rfl
  | _ => rfl

theorem simple_congr {P : Program} {G : Glo} {fr fr' : List S} {h : Heap} {op : Op} (hx : ∀ x ∈ op.operands.toList, opd fr x = opd fr' x) : simple P G fr h op = simple P G fr' h op := by
  cases op with
  | move a => have h1 := hx a (by simp [Op.operands]); simp only [simple, h1]
  | assign a => have h1 := hx a (by simp [Op.operands]); simp only [simple, h1]
  | pick q a b =>
    have h1 := hx q (by simp [Op.operands])
    have h2 := hx a (by simp [Op.operands])
    have h3 := hx b (by simp [Op.operands])
    simp only [simple, h1, h2, h3]
  | box t a => have h1 := hx a (by simp [Op.operands]); simp only [simple, h1]
  | build t ps =>
    have h1 := parts_congr (fr := fr) (fr' := fr') (ps := ps.toList) (fun x h => hx x (by simpa [Op.operands] using h))
    simp only [simple, h1]
  | buildSlice t n ps =>
    have h1 := parts_congr (fr := fr) (fr' := fr') (ps := ps.toList) (fun x h => hx x (by simpa [Op.operands] using h))
    simp only [simple, h1]
  | load t a => have h1 := hx a (by simp [Op.operands]); simp only [simple, h1]
  | store t a b =>
    have h1 := hx a (by simp [Op.operands])
    have h2 := hx b (by simp [Op.operands])
    simp only [simple, h1, h2]
  | nilCheck a => have h1 := hx a (by simp [Op.operands]); simp only [simple, h1]
  | makeFunc f first caps =>
    cases f with
    | func f =>
      have h1 : ∀ c ∈ caps.toList, opd fr c = opd fr' c := fun c hc => hx c (by simp [Op.operands]; exact .inr (by simpa using hc))
      unfold simple
      dsimp only
      congr 1
      congr 1
      congr 1
      exact List.map_congr_left fun c hc => by rw [h1 c hc]
    | _ => rfl
  | fieldAddr s a k => have h1 := hx a (by simp [Op.operands]); simp only [simple, h1]
  | field s a k => have h1 := hx a (by simp [Op.operands]); simp only [simple, h1]
  | indexAddr t a i =>
    have h1 := hx a (by simp [Op.operands])
    have h2 := hx i (by simp [Op.operands])
    simp only [simple, h1, h2]
  | index t a i =>
    have h1 := hx a (by simp [Op.operands])
    have h2 := hx i (by simp [Op.operands])
    simp only [simple, h1, h2]
  | extract a k => have h1 := hx a (by simp [Op.operands]); simp only [simple, h1]
  | slice t a l hi m =>
    cases m with
    | some _ => cases l <;> cases hi <;> rfl
    | none =>
      have h1 := hx a (by simp [Op.operands])
      cases l with
      | none =>
        cases hi with
        | none => simp only [simple, h1]
        | some y =>
          have h2 := hx y (by simp [Op.operands])
          simp only [simple, h1, h2]
      | some z =>
        have h3 := hx z (by simp [Op.operands])
        cases hi with
        | none => simp only [simple, h1, h3]
        | some y =>
          have h2 := hx y (by simp [Op.operands])
          simp only [simple, h1, h2, h3]
  | makeSlice t a b =>
    have h1 := hx a (by simp [Op.operands])
    have h2 := hx b (by simp [Op.operands])
    simp only [simple, h1, h2]
  | call c =>
    obtain ⟨callee, args, argTypes⟩ := c
    cases callee with
    | builtin b =>
      cases b <;> try rfl
      unfold simple
      dsimp only
      cases hl : args.toList with
      | nil => rfl
      | cons a r =>
        cases r with
        | cons _ _ => rfl
        | nil =>
          have h1 := hx a (by simp [Op.operands, Call.operands, hl])
          cases argTypes[0]? with
          | none => rfl
          | some t => simp only [h1]
    | _ => rfl
  | _ => rfl

/-- what neither looks at memory nor turns it -/
def isA (op : Op) : Bool :=
  match op with
  | .alloc .. | .box .. | .makeSlice .. | .buildSlice .. | .load .. | .store .. => false
  | _ => true

theorem simple_A {P : Program} {G : Glo} {fr : List S} {op : Op} (ha : isA op = true) (h : Heap) : simple P G fr h op = (simple P G fr [] op).map fun o => (o.1, o.2.1, h) := by
  cases op with
  | alloc => cases ha
  | box => cases ha
  | makeSlice => cases ha
  | buildSlice => cases ha
  | load => cases ha
  | store => cases ha
  | move a => rfl
  | assign a => rfl
  | pick q a b => unfold simple; dsimp only; (repeat' split) <;> simp_all
  | build t ps => unfold simple; dsimp only; (repeat' split) <;> simp_all
  | nilCheck a => unfold simple; dsimp only; (repeat' split) <;> simp_all
  | makeFunc f first caps =>
    cases f <;> try rfl
    unfold simple; dsimp only; (repeat' split) <;> simp_all
  | fieldAddr s a k => unfold simple; dsimp only; (repeat' split) <;> simp_all
  | field s a k => unfold simple; dsimp only; (repeat' split) <;> simp_all
  | indexAddr t a i => unfold simple; dsimp only; (repeat' split) <;> simp_all
  | index t a i => unfold simple; dsimp only; (repeat' split) <;> simp_all
  | extract a k => unfold simple; dsimp only; (repeat' split) <;> simp_all
  | slice t a l hi m =>
    cases l <;> cases hi <;> cases m <;> first | rfl | (unfold simple; dsimp only; (repeat' split) <;> simp_all)
  | call c =>
    obtain ⟨callee, args, argTypes⟩ := c
    cases callee with
    | builtin b =>
      cases b <;> try rfl
      unfold simple; dsimp only; (repeat' split) <;> simp_all
    | _ => rfl
  | _ => rfl

theorem leavesAt_mono {G : Glo} {h h' : Heap} (hp : h <+: h') {r : BR} {ls : List SL} (hl : leavesAt G h r = some ls) : leavesAt G h' r = some ls := by
  cases r with
  | glo g => exact hl
  | loc n =>
    simp only [leavesAt] at hl ⊢
    split at hl
    · rename_i b hb
      rw [pre_get hp hb]
      exact hl
    · cases hl

theorem loadLs_mono {G : Glo} {h h' : Heap} (hp : h <+: h') {m : Nat} {l : SL} {ls : List SL} (hl : loadLs G h m l = some ls) : loadLs G h' m l = some ls := by
  cases l with
  | p r off =>
    simp only [loadLs] at hl ⊢
    split at hl
    · rename_i lv hlv
      rw [leavesAt_mono hp hlv]
      exact hl
    · cases hl
  | dyn r base sz n i j =>
    simp only [loadLs] at hl ⊢
    split at hl
    · rename_i lv hlv
      rw [leavesAt_mono hp hlv]
      exact hl
    · cases hl
  | elt t i n j => exact hl
  | x => exact hl
  | e t => exact hl
  | sc r b s n => exact hl
  | g k => exact hl
  | ge k i sz j => exact hl
  | gs k sz lo => exact hl
  | clo f c => exact hl

theorem simple_load_mono {P : Program} {G : Glo} {fr : List S} {h h' h1 : Heap} {t : TypeId} {a : Operand} {cs : List Ex} {s : S} (hp : h <+: h') (hs : simple P G fr h (.load t a) = some (cs, s, h1)) :
    h1 = h ∧ simple P G fr h' (.load t a) = some (cs, s, h') := by
  simp only [simple] at hs ⊢
  split at hs
  · split at hs
    · rename_i ls hls
      simp only [Option.some.injEq, Prod.mk.injEq] at hs
      obtain ⟨rfl, rfl, rfl⟩ := hs
      rw [loadLs_mono hp hls]
      exact ⟨rfl, rfl⟩
    · cases hs
  · split at hs
    · rename_i ls hls
      simp only [Option.some.injEq, Prod.mk.injEq] at hs
      obtain ⟨rfl, rfl, rfl⟩ := hs
      rw [loadLs_mono hp hls]
      exact ⟨rfl, rfl⟩
    · cases hs
  · cases hs

/-- A quiet operation at a heap comes to the same at a greater one. -/
theorem simple_pad {P : Program} {G : Glo} {fr : List S} {h h' h1 : Heap} {op : Op} {cs : List Ex} {s : S} (hq : isA op = true ∨ ∃ t a, op = .load t a) (hp : h <+: h') (hs : simple P G fr h op = some (cs, s, h1)) :
    h1 = h ∧ simple P G fr h' op = some (cs, s, h') := by
  rcases hq with ha | ⟨t, a, rfl⟩
  · rw [simple_A ha] at hs ⊢
    obtain ⟨o, ho, he⟩ := Option.map_eq_some_iff.1 hs
    simp only [Prod.mk.injEq] at he
    obtain ⟨rfl, rfl, rfl⟩ := he
    exact ⟨rfl, by rw [ho]; rfl⟩
  · exact simple_load_mono hp hs

/-- What looks at no memory comes to the same at any heap. -/
theorem simple_any {P : Program} {G : Glo} {fr : List S} {h h1 : Heap} {op : Op} {cs : List Ex} {s : S} (ha : isA op = true) (hs : simple P G fr h op = some (cs, s, h1)) (h' : Heap) :
    h1 = h ∧ simple P G fr h' op = some (cs, s, h') := by
  rw [simple_A ha] at hs ⊢
  obtain ⟨o, ho, he⟩ := Option.map_eq_some_iff.1 hs
  simp only [Prod.mk.injEq] at he
  obtain ⟨rfl, rfl, rfl⟩ := he
  exact ⟨rfl, by rw [ho]; rfl⟩

/-- What makes a block adds it at the heap's end. -/
theorem simple_al {P : Program} {G : Glo} {fr : List S} {h h1 : Heap} {op : Op} {cs : List Ex} {s : S} (ha : isA op = false) (hl : ∀ t a, op ≠ .load t a) (hst : ∀ t a b, op ≠ .store t a b) (hs : simple P G fr h op = some (cs, s, h1)) :
    ∃ ls, h1 = h ++ [{ ro := false, ls := ls }] := by
  cases op with
  | alloc t => simp only [simple] at hs; split at hs <;> simp_all <;> exact ⟨_, hs.2.2.symm⟩
  | box t a => simp only [simple] at hs; split at hs <;> simp_all <;> exact ⟨_, hs.2.2.symm⟩
  | makeSlice t a b => simp only [simple] at hs; (repeat' split at hs) <;> simp_all <;> exact ⟨_, hs.2.2.symm⟩
  | buildSlice t n ps => simp only [simple] at hs; (repeat' split at hs) <;> simp_all <;> exact ⟨_, hs.2.2.symm⟩
  | load t a => exact absurd rfl (hl t a)
  | store t a b => exact absurd rfl (hst t a b)
  | _ => cases ha

end Go.Proofs.YtlihbielphcgbaaGreatDoor.Sx

namespace Go.Proofs.YtlihbielphcgbaaGreatDoor.Sx
open Go
set_option linter.unnecessarySimpa false
set_option linter.unusedSimpArgs false
set_option linter.unusedVariables false

/-- two slots that say the same of every value -/
def Eqv (ρ : List D) (s s' : S) : Prop := ∀ (I : Imm) (μ : Mu) (w : World) (v : Value), SR I μ w ρ s v ↔ SR I μ w ρ s' v
theorem Eqv.refl (ρ : List D) (s : S) : Eqv ρ s s := fun _ _ _ _ => Iff.rfl
theorem Eqv.trans {ρ : List D} {s s' s'' : S} (h : Eqv ρ s s') (h' : Eqv ρ s' s'') : Eqv ρ s s'' := fun I μ w v => (h I μ w v).trans (h' I μ w v)
theorem Eqv.symm {ρ : List D} {s s' : S} (h : Eqv ρ s s') : Eqv ρ s' s := fun I μ w v => (h I μ w v).symm

theorem sr_e {I : Imm} {μ : Mu} {w : World} {ρ : List D} {t : Ex} {v : Value} : SR I μ w ρ (.val false [.e t]) v ↔ ∃ d, t.eval ρ = some d ∧ DR I w d v := by
  constructor
  · rintro ⟨l, hl, h⟩
    simp only [List.cons.injEq, and_true] at hl
    subst hl
    exact h
  · intro h
    exact ⟨_, rfl, h⟩

theorem Eqv.ex {ρ : List D} {x y : Ex} {d : D} (hx : x.eval ρ = some d) (hy : y.eval ρ = some d) : Eqv ρ (.val false [.e x]) (.val false [.e y]) := fun I μ w v => by
  rw [sr_e, sr_e, hx, hy]

/-- the operation is wanted; is not -/
def Wanted (ρ : List D) (all : List Oper) (fr : List S) (o : Oper) : Prop :=
  match o.guard with
  | none => True
  | some (j, want) => ∃ d t, (all[j]?).bind (·.dst) = some d ∧ fr.getD d .x = .val false [.e t] ∧ t.eval ρ = some (.b want)
def Unwanted (ρ : List D) (all : List Oper) (fr : List S) (o : Oper) : Prop :=
  ∃ j want d, o.guard = some (j, want) ∧ (all[j]?).bind (·.dst) = some d ∧ (fr.getD d .x = .u ∨ ∃ t b, fr.getD d .x = .val false [.e t] ∧ t.eval ρ = some (.b b) ∧ b ≠ want)

def Callee (s : S) (f : FuncId) : Prop := s = .val false [.e (.c (.f f))] ∨ s = .val false [.clo f []]
def CalleeK (s : S) (f : FuncId) (caps : List (BR × Nat)) : Prop := (s = .val false [.e (.c (.f f))] ∧ caps = []) ∨ s = .val false [.clo f caps]

/-- the slices of the call's own at a region's start; and the one that is made within, if there is one: the slot of the call that makes it, that of the one that uses it up, what it holds -/
structure OwP where
  o : Own
  pr : Option (Nat × Option Nat × Ex)
def pnDs : Option (Nat × Option Nat × Ex) → List Nat
  | some (d, some d', _) => [d, d']
  | some (d, none, _) => [d]
  | none => []
def isP (o0 : OwP) (o : Oper) : Bool := (pnDs o0.pr).any fun d => o.dst == some d
/-- what an operation comes to -/
inductive Step (C : Con) (E : Env) (o0 : OwP) (all : List Oper) (ρ : List D) (o : Oper) (fr : List S) (h : Heap) : S → Heap → Prop
  | arith {t u : Ex} {d : D} (ht : arith E.P fr o.op = some t) (hd : t.eval ρ = some d) (hu : u.eval ρ = some d) : Step C E o0 all ρ o fr h (.val false [.e u]) h
  | simple {cs : List Ex} {s : S} {h' : Heap} (hs : simple E.P E.G fr h o.op = some (cs, s, h')) (hc : ∀ c ∈ cs, c.eval ρ = some (.b true)) : Step C E o0 all ρ o fr h s h'
  | call {f : FuncId} {g : Operand} {args : Array Operand} {tys : Array TypeId} {ps : List (Bool × List SL)} {xs : List XV} {az rs : List DV} {k : Nat}
      (ho : o.op = .call { callee := .value g, args := args, argTypes := tys }) (hg : Callee (opd fr g) f) (ha : argsOf (args.toList.map (opd fr)) = some ps) (hx : exVs ps = some xs) (he : evalVs ρ xs = some az)
      (hc : C f az rs) (hf : (∃ fn, E.P.funcs[f]? = some fn ∧ fn.body.isNone = false ∧ (fn.name == "runtime.NumGoroutine") = false) ∧ f < eatOff) (hv : VarsAt ρ k (leavesOf rs)) : Step C E o0 all ρ o fr h (tupS (shapeVs k (shapeOf rs))) h
  | fresh {cs : List Ex} {t u : Ex} {d : D} (hs : freshOp E.P E.G all fr o = some (cs, t)) (hc : ∀ c ∈ cs, c.eval ρ = some (.b true)) (hd : t.eval ρ = some d) (hu : u.eval ρ = some d) : Step C E o0 all ρ o fr h (.val false [.e u]) h
  | callK {f : FuncId} {g : Operand} {args : Array Operand} {tys : Array TypeId} {caps cs : List (BR × Nat)} {as : List S} {ps : List (Bool × List SL)} {xs cvs : List XV} {az caz rs : List DV} {k : Nat}
      (ho : o.op = .call { callee := .value g, args := args, argTypes := tys }) (hg : CalleeK (opd fr g) f caps) (hsp : splitCaps (args.toList.map (opd fr) ++ caps.map fun c => .val false [.p c.1 c.2]) = (as, cs)) (ha : argsOf as = some ps) (hx : exVs ps = some xs)
      (he : evalVs ρ xs = some az) (hcap : capsX h cs = some cvs) (hce : evalVs ρ cvs = some caz) (hst : all.all (fun o => !isSt o) = true) (hc : C (capOff + f) ((false, [.i .i64 (cs.length : Int)]) :: (az ++ caz)) rs)
      (hf : (∃ fn, E.P.funcs[f]? = some fn ∧ fn.body.isNone = false ∧ (fn.name == "runtime.NumGoroutine") = false) ∧ f < eatOff) (hv : VarsAt ρ k (leavesOf rs)) : Step C E o0 all ρ o fr h (tupS (shapeVs k (shapeOf rs))) h
  | callL {f : FuncId} {g : Operand} {args : Array Operand} {tys : Array TypeId} {ps : List (Bool × List SL)} {xs : List XV} {az rs : List DV} {k : Nat}
      (ho : o.op = .call { callee := .value g, args := args, argTypes := tys }) (hg : Callee (opd fr g) f) (ha : argsOf (args.toList.map (opd fr)) = some ps) (hx : exVs (fixVs (frz (idsVs ps) o0.o) ps) = some xs) (he : evalVs ρ xs = some az)
      (hc : C f az rs) (hf : (∃ fn, E.P.funcs[f]? = some fn ∧ fn.body.isNone = false ∧ (fn.name == "runtime.NumGoroutine") = false) ∧ f < eatOff) (hv : VarsAt ρ k (leavesOf rs)) (hpl : ∀ d ∈ leavesOf rs, d.plain) : Step C E o0 all ρ o fr h (tupS (shapeVs k (shapeOf rs))) h
  | lendQ {cs : List Ex} {s : S} (hs : ownQ E.P E.G fr h o0.o o.op = some (cs, s)) (hc : ∀ c ∈ cs, c.eval ρ = some (.b true)) : Step C E o0 all ρ o fr h s h

/-- a call whose result lies in new memory -/
def StepN (C : Con) (E : Env) (ρ : List D) (o : Oper) (fr : List S) (t : Ex) : Prop :=
  ∃ (f : FuncId) (g : Operand) (args : Array Operand) (tys : Array TypeId) (ps : List (Bool × List SL)) (xs : List XV) (az : List DV) (s : Nat) (rows : List (List D)), o.op = .call { callee := .value g, args := args, argTypes := tys } ∧ Callee (opd fr g) f ∧ argsOf (args.toList.map (opd fr)) = some ps ∧
    exVs ps = some xs ∧ evalVs ρ xs = some az ∧ C (nwOff + f) az [(false, [.sl s rows])] ∧ ((∃ fn, E.P.funcs[f]? = some fn ∧ fn.body.isNone = false ∧ (fn.name == "runtime.NumGoroutine") = false) ∧ f < eatOff) ∧ t.eval ρ = some (.sl s rows)
/-- a call that uses it up -/
def StepE (C : Con) (E : Env) (ρ : List D) (o : Oper) (fr : List S) (t : Ex) (s : S) : Prop :=
  ∃ (f : FuncId) (g : Operand) (args : Array Operand) (tys : Array TypeId) (as : List S) (ps : List (Bool × List SL)) (xs : List XV) (az : List DV) (s0 : Nat) (rows : List (List D)) (rs : List DV) (k : Nat), o.op = .call { callee := .value g, args := args, argTypes := tys } ∧ Callee (opd fr g) f ∧ args.toList.map (opd fr) = as ++ [.val false [.g 0]] ∧ argsOf as = some ps ∧
    exVs ps = some xs ∧ evalVs ρ xs = some az ∧ t.eval ρ = some (.sl s0 rows) ∧ C (useOff + f) (az ++ [(false, [.sl s0 rows])]) rs ∧ ((∃ fn, E.P.funcs[f]? = some fn ∧ fn.body.isNone = false ∧ (fn.name == "runtime.NumGoroutine") = false) ∧ f < eatOff) ∧ VarsAt ρ k (leavesOf rs) ∧ s = tupS (shapeVs k (shapeOf rs))

inductive Path (C : Con) (E : Env) (o0 : OwP) (all : List Oper) (ρ : List D) : List Acc → List Oper → List S → Heap → List S → Heap → Prop
  | nil {fr : List S} {h : Heap} : Path C E o0 all ρ [] [] fr h fr h
  | refine {lg : List Acc} {todo : List Oper} {fr frE : List S} {h hE : Heap} (d : Nat) (s : S) (he : Eqv ρ (fr.getD d .x) s) (hp : Path C E o0 all ρ lg todo (fr.set d s) h frE hE) : Path C E o0 all ρ lg todo fr h frE hE
  | skip {lg : List Acc} {o : Oper} {rest : List Oper} {fr frE : List S} {h hE : Heap} (hg : Unwanted ρ all fr o) (hq : isP o0 o = false) (hp : Path C E o0 all ρ lg rest (putS fr o.dst .u) h frE hE) : Path C E o0 all ρ (opAcc E.P fr h o :: lg) (o :: rest) fr h frE hE
  | step {lg : List Acc} {o : Oper} {rest : List Oper} {fr frE : List S} {h h' hE : Heap} {s : S} (hg : Wanted ρ all fr o) (hs : Step C E o0 all ρ o fr h s h') (hq : isP o0 o = false) (hp : Path C E o0 all ρ lg rest (putS fr o.dst s) h' frE hE) : Path C E o0 all ρ (opAcc E.P fr h o :: lg) (o :: rest) fr h frE hE
  | stepN {lg : List Acc} {o : Oper} {rest : List Oper} {fr frE : List S} {h hE : Heap} {d : Nat} {u : Option Nat} {t : Ex} (hg : o.guard = none) (hd : o.dst = some d) (hpr : o0.pr = some (d, u, t)) (ho : o0.o = []) (hs : StepN C E ρ o fr t) (hp : Path C E o0 all ρ lg rest (putS fr o.dst (.val false [.g 0])) h frE hE) : Path C E o0 all ρ (opAcc E.P fr h o :: lg) (o :: rest) fr h frE hE
  | stepE {lg : List Acc} {o : Oper} {rest : List Oper} {fr frE : List S} {h hE : Heap} {d d1 : Nat} {t : Ex} {s : S} (hg : o.guard = none) (hd : o.dst = some d) (hpr : o0.pr = some (d1, some d, t)) (hne : d1 ≠ d ∧ lastTmp o = some d1) (ho : o0.o = []) (hs : StepE C E ρ o fr t s) (hp : Path C E o0 all ρ lg rest (putS fr o.dst s) h frE hE) : Path C E o0 all ρ (opAcc E.P fr h o :: lg) (o :: rest) fr h frE hE

theorem evalVs_pre {ρ ρ' : List D} (h : ρ <+: ρ') : ∀ {xs : List XV} {as : List DV}, evalVs ρ xs = some as → evalVs ρ' xs = some as
  | [], as, e => e
  | (g, es) :: r, as, e => by
    simp only [evalVs] at e ⊢
    split at e
    · rename_i ds vs h1 h2
      rw [Ex.evals_pre h es h1, evalVs_pre h h2]
      exact e
    · cases e

theorem VarsAt.pre {ρ ρ' : List D} (h : ρ <+: ρ') {k : Nat} {ds : List D} (hv : VarsAt ρ k ds) : VarsAt ρ' k ds := fun i d hd => pre_get h (hv i d hd)

variable {C : Con} {R : List DV → Prop} {E : Env}

theorem argsOf_ptr {c : BR × Nat} : ∀ {l : List S} {r : List (BR × Nat)} {ps : List (Bool × List SL)}, argsOf (l ++ (c :: r).map fun c => S.val false [.p c.1 c.2]) = some ps → exVs ps = none
  | [], r, ps, h => by
    simp only [List.nil_append, List.map_cons, argsOf] at h
    split at h
    · cases h
      simp [exVs, exLs]
    · cases h
  | .val g ls :: l, r, ps, h => by
    simp only [List.cons_append, argsOf] at h
    split at h
    · rename_i vs hvs
      cases h
      have := argsOf_ptr hvs
      simp only [exVs, this]
      split
      · rename_i h1 h2; cases h2
      · rfl
    · cases h
  | .x :: l, r, ps, h => by simp [argsOf] at h
  | .u :: l, r, ps, h => by simp [argsOf] at h
  | .tup _ :: l, r, ps, h => by simp [argsOf] at h

theorem argsOf_ptrL {c : BR × Nat} {o : Own} {ids : List Nat} : ∀ {l : List S} {r : List (BR × Nat)} {ps : List (Bool × List SL)}, argsOf (l ++ (c :: r).map fun c => S.val false [.p c.1 c.2]) = some ps → exVs (fixVs (frz ids o) ps) = none
  | [], r, ps, h => by
    simp only [List.nil_append, List.map_cons, argsOf] at h
    split at h
    · cases h
      simp [exVs, exLs, fixVs, fixL]
    · cases h
  | .val g ls :: l, r, ps, h => by
    simp only [List.cons_append, argsOf] at h
    split at h
    · rename_i vs hvs
      cases h
      have := argsOf_ptrL (o := o) (ids := ids) hvs
      unfold fixVs at this
      simp only [fixVs, List.map_cons, exVs, this]
      split
      · rename_i h1 h2; cases h2
      · rfl
    · cases h
  | .x :: l, r, ps, h => by simp [argsOf] at h
  | .u :: l, r, ps, h => by simp [argsOf] at h
  | .tup _ :: l, r, ps, h => by simp [argsOf] at h

theorem evalVs_append {ρ : List D} : ∀ {xs ys : List XV} {az : List DV}, evalVs ρ (xs ++ ys) = some az → ∃ a b, evalVs ρ xs = some a ∧ evalVs ρ ys = some b ∧ az = a ++ b
  | [], ys, az, h => ⟨[], az, rfl, h, rfl⟩
  | (g, l) :: xs, ys, az, h => by
    simp only [List.cons_append, evalVs] at h
    split at h
    · rename_i ds vs h1 h2
      cases h
      obtain ⟨a, b, h3, h4, rfl⟩ := evalVs_append h2
      exact ⟨(g, ds) :: a, b, by simp only [evalVs, h1, h3], h4, rfl⟩
    · cases h
theorem sigOf_some {P : Program} {f : FuncId} {sh : Shape} (h : sigOf P f = some sh) : (∃ fn, P.funcs[f]? = some fn ∧ fn.body.isNone = false ∧ (fn.name == "runtime.NumGoroutine") = false) ∧ f < eatOff := by
  unfold sigOf at h
  split at h
  · rename_i fn hfn
    split at h
    · cases h
    · rename_i hb
      simp only [Bool.or_eq_true, not_or, Bool.not_eq_true, Bool.not_eq_false', decide_eq_true_eq] at hb
      exact ⟨⟨fn, hfn, hb.1.1, hb.1.2⟩, hb.2⟩
  · cases h

theorem go_inv (hM : ∀ f as rs, C f as rs → ConX E.P E.G f as rs) {n : Nat} {lg : List Acc} {f : FuncId} {args : List S} {o : Oper} {all rest : List Oper} {st : St} {k : K} {ir : IR} {L : List Lp} {ρ : List D} (hx : dexec E (n + 1) lg (.go f args o all rest) st k = .ok ir) (hw : IR.wp C R ir L ρ) (hn : ρ.length = st.nv) :
    (∃ ps xs az rs ir', argsOf args = some ps ∧ exVs ps = some xs ∧ evalVs ρ xs = some az ∧ C f az rs ∧ ((∃ fn, E.P.funcs[f]? = some fn ∧ fn.body.isNone = false ∧ (fn.name == "runtime.NumGoroutine") = false) ∧ f < eatOff) ∧
      dexec E n lg (.ops all rest) { st with fr := putS st.fr o.dst (tupS (shapeVs st.nv (shapeOf rs))), nv := st.nv + (leavesOf rs).length } k = .ok ir' ∧ IR.wp C R ir' L (ρ ++ leavesOf rs)) ∨
    (∃ as cs ps xs cvs az caz rs ir', splitCaps args = (as, cs) ∧ argsOf as = some ps ∧ exVs ps = some xs ∧ evalVs ρ xs = some az ∧ capsX st.h cs = some cvs ∧ evalVs ρ cvs = some caz ∧ all.all (fun o => !isSt o) = true ∧
      C (capOff + f) ((false, [.i .i64 (cs.length : Int)]) :: (az ++ caz)) rs ∧ ((∃ fn, E.P.funcs[f]? = some fn ∧ fn.body.isNone = false ∧ (fn.name == "runtime.NumGoroutine") = false) ∧ f < eatOff) ∧
      dexec E n lg (.ops all rest) { st with fr := putS st.fr o.dst (tupS (shapeVs st.nv (shapeOf rs))), nv := st.nv + (leavesOf rs).length } k = .ok ir' ∧ IR.wp C R ir' L (ρ ++ leavesOf rs)) ∨
    (∃ ps xs az rs ir', argsOf args = some ps ∧ exVs (fixVs (frz (idsVs ps) st.o) ps) = some xs ∧ evalVs ρ xs = some az ∧ C f az rs ∧ ((∃ fn, E.P.funcs[f]? = some fn ∧ fn.body.isNone = false ∧ (fn.name == "runtime.NumGoroutine") = false) ∧ f < eatOff) ∧ (ρ.length = st.nv → ∀ d ∈ leavesOf rs, d.plain) ∧
      dexec E n lg (.ops all rest) { st with fr := putS st.fr o.dst (tupS (shapeVs st.nv (shapeOf rs))), nv := st.nv + (leavesOf rs).length } k = .ok ir' ∧ IR.wp C R ir' L (ρ ++ leavesOf rs)) ∨
    (∃ ps xs az s rows d ir', argsOf args = some ps ∧ exVs ps = some xs ∧ evalVs ρ xs = some az ∧ C (nwOff + f) az [(false, [.sl s rows])] ∧ ((∃ fn, E.P.funcs[f]? = some fn ∧ fn.body.isNone = false ∧ (fn.name == "runtime.NumGoroutine") = false) ∧ f < eatOff) ∧ st.o = [] ∧ o.guard = none ∧ st.pn = none ∧ o.dst = some d ∧
      dexec E n lg (.ops all rest) { st with fr := putS st.fr o.dst (.val false [.g 0]), nv := st.nv + 1, pn := some (d, none, .v st.nv) } k = .ok ir' ∧ IR.wp C R ir' L (ρ ++ [.sl s rows])) ∨
    (∃ as ps xs az s0 rows rs d1 t d ir', args = as ++ [.val false [.g 0]] ∧ argsOf as = some ps ∧ exVs ps = some xs ∧ evalVs ρ xs = some az ∧ t.eval ρ = some (.sl s0 rows) ∧ C (useOff + f) (az ++ [(false, [.sl s0 rows])]) rs ∧ ((∃ fn, E.P.funcs[f]? = some fn ∧ fn.body.isNone = false ∧ (fn.name == "runtime.NumGoroutine") = false) ∧ f < eatOff) ∧ o.guard = none ∧ st.pn = some (d1, none, t) ∧ lastTmp o = some d1 ∧ o.dst = some d ∧
      dexec E n lg (.ops all rest) { st with fr := putS st.fr o.dst (tupS (shapeVs st.nv (shapeOf rs))), nv := st.nv + (leavesOf rs).length, pn := some (d1, some d, t) } k = .ok ir' ∧ IR.wp C R ir' L (ρ ++ leavesOf rs)) := by
  simp only [dexec] at hx
  split at hx
  · right
    left
    split at hx
    · rename_i ps hps
      split at hx
      · rename_i xs cvs sh hxs hcv hsh
        split at hx
        · rename_i hst
          split at hx
          · rename_i ir' hx'
            cases hx
            obtain ⟨az, rs, haz, hc, hrs, hw⟩ := hw
            subst hrs
            simp only [evalVs, Ex.evals, litN, Ex.eval] at haz
            split at haz
            · rename_i ds vs h1 h2
              cases haz
              cases h1
              obtain ⟨a, b, h3, h4, rfl⟩ := evalVs_append h2
              exact ⟨(splitCaps args).1, (splitCaps args).2, ps, xs, cvs, a, b, rs, ir', rfl, hps, hxs, h3, hcv, h4, hst, hc, sigOf_some hsh, by rw [← shapeLen_leaves]; exact hx', hw⟩
            · cases haz
          · rename_i z hz; exact absurd hx (hz _)
        · cases hx
      · cases hx
    · cases hx
  · split at hx
    · rename_i as0 d1 t0 d0 huse
      right; right; right; right
      unfold useD at huse
      split at huse
      case isFalse => cases huse
      rename_i hcond
      simp only [Bool.and_eq_true, Option.isNone_iff_eq_none] at hcond
      split at huse
      case h_2 => cases huse
      rename_i _ _ _ d1' t' d' hpn hdst hlast
      split at huse
      case isFalse => cases huse
      rename_i hltmp
      cases huse
      split at hx
      case h_2 => cases hx
      rename_i ps hps
      split at hx
      case h_2 => cases hx
      rename_i xs sh hxs hsh
      split at hx
      case h_2 z hz => exact absurd hx (hz _)
      rename_i ir1 hx1
      cases hx
      obtain ⟨az, rs, haz, hc, hrs, hw⟩ := hw
      subst hrs
      obtain ⟨a, b, h3, h4, rfl⟩ := evalVs_append haz
      obtain ⟨dl, hdl, hb⟩ : ∃ dl, t0.eval ρ = some dl ∧ b = [(false, [dl])] := by
        simp only [evalVs, Ex.evals] at h4
        split at h4
        · rename_i ds vs h1 h2
          split at h1
          · rename_i x y hx0 hy0
            cases h1; cases hy0; cases h2; cases h4
            exact ⟨_, hx0, rfl⟩
          · cases h1
        · cases h4
      subst hb
      obtain ⟨az', s0, rows, hae, _⟩ := (((hM _ _ _ hc).2.2 (Nat.le_trans (by decide) (Nat.le_add_right useOff f))).2.2 (Nat.le_trans (by decide) (Nat.le_add_right useOff f))).2 (Nat.le_trans (by decide) (Nat.le_add_right useOff f)) |>.2 (Nat.le_add_right useOff f)
      obtain ⟨rfl, hae⟩ := List.append_inj' hae rfl
      obtain rfl : dl = .sl s0 rows := by injections
      have hal : args = args.dropLast ++ [.val false [.g 0]] := by
        obtain ⟨ys, hys⟩ := List.getLast?_eq_some_iff.1 hlast
        rw [hys, List.dropLast_concat]
      exact ⟨_, ps, xs, a, s0, rows, rs, d1, t0, d0, ir1, hal, hps, hxs, h3, hdl, hc, sigOf_some hsh, hcond.2, hpn, hltmp, hdst, by rw [← shapeLen_leaves]; exact hx1, hw⟩
    split at hx
    · rename_i ps hps
      split at hx
      · right
        right
        left
        split at hx
        · rename_i xs sh gs hxs hsh hgs
          split at hx
          · rename_i hgl
            split at hx
            · rename_i ir1 hx1
              cases hx
              obtain ⟨az, rs, haz, hc, hrs, hw⟩ := hw
              subst hrs
              obtain ⟨ir', hx', hw', hcs⟩ := chks_ok hx1 hw
              exact ⟨ps, xs, az, rs, ir', hps, hxs, haz, hc, sigOf_some hsh, fun hn => plainChk_sound (ds := leavesOf rs) (gs := gs) (k := st.nv) (by rw [← hn]; exact VarsAt.self ρ (leavesOf rs)) (by rw [shapeLen_leaves] at hgl; exact hgl) hcs, by rw [← shapeLen_leaves]; exact hx', hw'⟩
            · rename_i z hz; exact absurd hx (hz _)
          · cases hx
        · cases hx
      · split at hx
        · rename_i d0 hnw
          right; right; right; left
          unfold nwD at hnw
          split at hnw
          case isFalse => cases hnw
          rename_i hcond
          simp only [Bool.and_eq_true, Option.isNone_iff_eq_none, List.isEmpty_iff] at hcond
          split at hx
          case h_2 => cases hx
          rename_i xs hxs hsh
          split at hx
          case h_2 z hz => exact absurd hx (hz _)
          rename_i ir1 hx1
          cases hx
          obtain ⟨az, rs, haz, hc, hrs, hw⟩ := hw
          obtain ⟨ir', hx', hw', hcs⟩ := chks_ok hx1 hw
          have hcN := (((hM _ _ _ hc).2.2 (Nat.le_trans (by decide) (Nat.le_add_right nwOff f))).2.2 (Nat.le_add_right _ _)).1 (Nat.lt_of_lt_of_le (Nat.add_lt_add_left (sigOf_some hsh).2 nwOff) (by decide))
          obtain ⟨⟨g', ds⟩, rfl, _⟩ := hcN
          simp only [shapeOf, List.cons.injEq, Prod.mk.injEq, and_true] at hrs
          obtain ⟨rfl, hdl⟩ := hrs
          obtain ⟨x, rfl⟩ := List.length_eq_one_iff.1 hdl
          obtain ⟨s, rows, rfl⟩ : ∃ s rows, x = .sl s rows := by
            have h1 := hcs _ (List.mem_singleton_self _)
            have h2 : (Ex.v st.nv).eval (ρ ++ leavesOf [((false, [x]) : DV)]) = some x := by
              simp only [Ex.eval]
              rw [← hn]
              simp [leavesOf]
            simp only [Ex.eval] at h1 h2
            simp only [h2] at h1
            cases x with
            | sl s l => exact ⟨s, l, rfl⟩
            | b x => simp at h1
            | i k x => simp at h1
            | s x => simp at h1
            | f g => simp at h1
          exact ⟨ps, xs, az, s, rows, d0, ir', hps, hxs, haz, hc, sigOf_some hsh, hcond.1.1.2, hcond.1.2, hcond.2, hnw, hx', hw'⟩
        left
        split at hx
        · rename_i xs sh hxs hsh
          split at hx
          · rename_i ir' hx'
            cases hx
            obtain ⟨az, rs, haz, hc, hrs, hw⟩ := hw
            subst hrs
            exact ⟨ps, xs, az, rs, ir', hps, hxs, haz, hc, sigOf_some hsh, by rw [← shapeLen_leaves]; exact hx', hw⟩
          · rename_i z hz; exact absurd hx (hz _)
        · cases hx
    · cases hx

def PrGe (pn pr : Option (Nat × Option Nat × Ex)) : Prop := ∀ d u t, pn = some (d, u, t) → ∃ u', pr = some (d, u', t) ∧ ∀ e, u = some e → u' = some e
theorem PrGe.refl (pn : Option (Nat × Option Nat × Ex)) : PrGe pn pn := fun d u t h => ⟨u, h, fun e h => h⟩
def PnOK (st : St) (todo : List Oper) : Prop := (todo.filterMap (·.dst)).Nodup ∧ (∀ d ∈ pnDs st.pn, ∀ p ∈ todo, p.dst ≠ some d) ∧ (st.pn ≠ none → st.o = []) ∧ ∀ d1 d2 t, st.pn = some (d1, some d2, t) → d1 ≠ d2
/-- the way through a region's operations, and what goes on behind -/
def PathTo (C : Con) (R : List DV → Prop) (E : Env) (all : List Oper) (k : K) (L : List Lp) (st : St) (ρ : List D) (lg : List Acc) (todo : List Oper) : Prop :=
  ∃ pr lg2 frE hE ρE ir', ρ <+: ρE ∧ Path C E ⟨st.o, pr⟩ all ρE lg2 todo st.fr st.h frE hE ∧ logOK all (lg ++ lg2) = true ∧ k .normal { fr := frE, h := hE, o := st.o, nv := ρE.length, lv := st.lv, q := st.q, dp := st.dp, pn := pr } = .ok ir' ∧ IR.wp C R ir' L ρE ∧
    PrGe st.pn pr ∧ (∀ d ∈ pnDs pr, d ∈ pnDs st.pn ∨ ∃ p ∈ todo, p.dst = some d) ∧ (pr ≠ none → st.o = []) ∧ ∀ d1 d2 t, pr = some (d1, some d2, t) → d1 ≠ d2
theorem nodup_tl {o : Oper} {rest : List Oper} (hn : ((o :: rest).filterMap (·.dst)).Nodup) : (rest.filterMap (·.dst)).Nodup ∧ ∀ d, o.dst = some d → ∀ p ∈ rest, p.dst ≠ some d := by
  rw [List.filterMap_cons] at hn
  split at hn
  · rename_i h0
    exact ⟨hn, fun d hd => by rw [h0] at hd; cases hd⟩
  · rename_i d' h0
    refine ⟨(List.nodup_cons.1 hn).2, fun d hd p hp hpd => ?_⟩
    rw [h0] at hd
    cases hd
    exact (List.nodup_cons.1 hn).1 (List.mem_filterMap.2 ⟨p, hp, hpd⟩)
theorem PnOK.tl {st : St} {o : Oper} {rest : List Oper} {fr : List S} {h : Heap} {nv lv q dp : Nat} (hp : PnOK st (o :: rest)) : PnOK { st with fr := fr, h := h, nv := nv, lv := lv, q := q, dp := dp } rest :=
  ⟨(nodup_tl hp.1).1, fun d hd p hm => hp.2.1 d hd p (List.mem_cons_of_mem _ hm), hp.2.2⟩
theorem PnOK.tlN {st : St} {o : Oper} {rest : List Oper} {fr : List S} {nv d : Nat} {t : Ex} (hp : PnOK st (o :: rest)) (hd : o.dst = some d) (ho : st.o = []) : PnOK { st with fr := fr, nv := nv, pn := some (d, none, t) } rest :=
  ⟨(nodup_tl hp.1).1, fun e he p hm => by
    have : e = d := by simpa [pnDs] using he
    subst this
    exact (nodup_tl hp.1).2 _ hd p hm, fun _ => ho, fun _ _ _ h => by cases h⟩
theorem PnOK.tlE {st : St} {o : Oper} {rest : List Oper} {fr : List S} {nv d d1 : Nat} {t : Ex} (hp : PnOK st (o :: rest)) (hd : o.dst = some d) (hpn : st.pn = some (d1, none, t)) : PnOK { st with fr := fr, nv := nv, pn := some (d1, some d, t) } rest :=
  ⟨(nodup_tl hp.1).1, fun e he p hm => by
    have : e = d1 ∨ e = d := by simpa [pnDs] using he
    rcases this with rfl | rfl
    · exact hp.2.1 _ (by simp [hpn, pnDs]) p (List.mem_cons_of_mem _ hm)
    · exact (nodup_tl hp.1).2 _ hd p hm, fun _ => hp.2.2.1 (by simp [hpn]), fun a b t' h => by
    cases h
    exact fun e => hp.2.1 d1 (by simp [hpn, pnDs]) o (List.mem_cons_self ..) (by rw [e]; exact hd)⟩
theorem isP_no {st : St} {o : Oper} {rest : List Oper} {pr : Option (Nat × Option Nat × Ex)} (hp : PnOK st (o :: rest)) (h : ∀ d ∈ pnDs pr, d ∈ pnDs st.pn ∨ ∃ p ∈ rest, p.dst = some d) {ow : Own} : isP ⟨ow, pr⟩ o = false := by
  unfold isP
  rw [List.any_eq_false]
  intro d hd he
  have he : o.dst = some d := by simpa using he
  rcases h d hd with h1 | ⟨p, h1, h2⟩
  · exact hp.2.1 d h1 o (List.mem_cons_self ..) he
  · exact (nodup_tl hp.1).2 d he p h1 h2
theorem PathTo.skip {all : List Oper} {k : K} {L : List Lp} {st : St} {ρ : List D} {lg : List Acc} {o : Oper} {rest : List Oper} (hp : PnOK st (o :: rest)) (hu : ∀ ρE, ρ <+: ρE → Unwanted ρE all st.fr o)
    (h : PathTo C R E all k L { st with fr := putS st.fr o.dst .u } ρ (lg ++ [opAcc E.P st.fr st.h o]) rest) : PathTo C R E all k L st ρ lg (o :: rest) := by
  obtain ⟨pr, lg2, frE, hE, ρE, ir', h3, h4, hl, h5, h6, h7, h8, h9⟩ := h
  exact ⟨pr, _, frE, hE, ρE, ir', h3, .skip (hu ρE h3) (isP_no hp h8) h4, by simpa using hl, h5, h6, h7, fun d hd => (h8 d hd).imp id fun ⟨p, a, b⟩ => ⟨p, List.mem_cons_of_mem _ a, b⟩, h9⟩
theorem PathTo.step {all : List Oper} {k : K} {L : List Lp} {st : St} {ρ ρ' : List D} {lg : List Acc} {o : Oper} {rest : List Oper} {s : S} {h' : Heap} {nv : Nat} (hp : PnOK st (o :: rest)) (hpre : ρ <+: ρ') (hw : ∀ ρE, ρ <+: ρE → Wanted ρE all st.fr o)
    (h : PathTo C R E all k L { st with fr := putS st.fr o.dst s, h := h', nv := nv } ρ' (lg ++ [opAcc E.P st.fr st.h o]) rest) (hs : ∀ ρE pr, ρ' <+: ρE → Step C E ⟨st.o, pr⟩ all ρE o st.fr st.h s h') : PathTo C R E all k L st ρ lg (o :: rest) := by
  obtain ⟨pr, lg2, frE, hE, ρE, ir', h3, h4, hl, h5, h6, h7, h8, h9⟩ := h
  exact ⟨pr, _, frE, hE, ρE, ir', hpre.trans h3, .step (hw ρE (hpre.trans h3)) (hs ρE pr h3) (isP_no hp h8) h4, by simpa using hl, h5, h6, h7, fun d hd => (h8 d hd).imp id fun ⟨p, a, b⟩ => ⟨p, List.mem_cons_of_mem _ a, b⟩, h9⟩
theorem PathTo.stepN {all : List Oper} {k : K} {L : List Lp} {st : St} {ρ ρ' : List D} {lg : List Acc} {o : Oper} {rest : List Oper} {nv d : Nat} {t : Ex} (hp : PnOK st (o :: rest)) (hg : o.guard = none) (hd : o.dst = some d) (hpn : st.pn = none) (ho : st.o = []) (hpre : ρ <+: ρ')
    (h : PathTo C R E all k L { st with fr := putS st.fr o.dst (.val false [.g 0]), nv := nv, pn := some (d, none, t) } ρ' (lg ++ [opAcc E.P st.fr st.h o]) rest) (hs : ∀ ρE, ρ' <+: ρE → StepN C E ρE o st.fr t) : PathTo C R E all k L st ρ lg (o :: rest) := by
  obtain ⟨pr, lg2, frE, hE, ρE, ir', h3, h4, hl, h5, h6, h7, h8, h9⟩ := h
  obtain ⟨u, hu, _⟩ := h7 d none t rfl
  refine ⟨pr, _, frE, hE, ρE, ir', hpre.trans h3, .stepN hg hd hu ho (hs ρE h3) h4, by simpa using hl, h5, h6, (fun _ _ _ h => by rw [hpn] at h; cases h), fun e he => ?_, h9⟩
  rcases h8 e he with h | ⟨p, a, b⟩
  · have : e = d := by simpa [pnDs] using h
    subst this
    exact .inr ⟨o, List.mem_cons_self .., hd⟩
  · exact .inr ⟨p, List.mem_cons_of_mem _ a, b⟩
theorem PathTo.stepE {all : List Oper} {k : K} {L : List Lp} {st : St} {ρ ρ' : List D} {lg : List Acc} {o : Oper} {rest : List Oper} {nv d d1 : Nat} {t : Ex} {s : S} (hp : PnOK st (o :: rest)) (hg : o.guard = none) (hd : o.dst = some d) (hpn : st.pn = some (d1, none, t)) (hlt : lastTmp o = some d1) (hpre : ρ <+: ρ')
    (h : PathTo C R E all k L { st with fr := putS st.fr o.dst s, nv := nv, pn := some (d1, some d, t) } ρ' (lg ++ [opAcc E.P st.fr st.h o]) rest) (hs : ∀ ρE, ρ' <+: ρE → StepE C E ρE o st.fr t s) : PathTo C R E all k L st ρ lg (o :: rest) := by
  obtain ⟨pr, lg2, frE, hE, ρE, ir', h3, h4, hl, h5, h6, h7, h8, h9⟩ := h
  obtain ⟨u, hu, hu'⟩ := h7 d1 (some d) t rfl
  have hu'' := hu' d rfl
  subst hu''
  have hne : d1 ≠ d := fun e => hp.2.1 d1 (by simp [hpn, pnDs]) o (List.mem_cons_self ..) (by rw [e]; exact hd)
  refine ⟨pr, _, frE, hE, ρE, ir', hpre.trans h3, .stepE hg hd hu ⟨hne, hlt⟩ (hp.2.2.1 (by simp [hpn])) (hs ρE h3) h4, by simpa using hl, h5, h6, (fun d u t h => ?_), fun e he => ?_, h9⟩
  · rw [hpn] at h
    cases h
    exact ⟨_, hu, fun e he => by cases he⟩
  · rcases h8 e he with h | ⟨p, a, b⟩
    · have : e = d1 ∨ e = d := by simpa [pnDs] using h
      rcases this with rfl | rfl
      · exact .inl (by simp [hpn, pnDs])
      · exact .inr ⟨o, List.mem_cons_self .., hd⟩
    · exact .inr ⟨p, List.mem_cons_of_mem _ a, b⟩

theorem path_of (hM : ∀ f as rs, C f as rs → ConX E.P E.G f as rs) (all : List Oper) : ∀ (n : Nat) (lg : List Acc) (todo : List Oper) (st : St) (k : K) (ir : IR) (L : List Lp) (ρ : List D), dexec E n lg (.ops all todo) st k = .ok ir → IR.wp C R ir L ρ → ρ.length = st.nv → PnOK st todo → PathTo C R E all k L st ρ lg todo := by
  intro n
  induction n using Nat.strongRecOn with
  | ind n ih =>
    intro lg todo st k ir L ρ hx hw hn hpo
    cases n with
    | zero => simp [dexec] at hx
    | succ n =>
      cases todo with
      | nil =>
        simp only [dexec] at hx
        split at hx
        · rename_i hlg
          exact ⟨st.pn, [], st.fr, st.h, ρ, ir, List.prefix_refl _, .nil, by simpa using hlg, by rw [hn]; exact hx, hw, PrGe.refl _, fun d hd => .inl hd, hpo.2.2⟩
        · cases hx
      | cons o rest =>
        simp only [dexec] at hx
        generalize hrec : (fun (t : Task) (s : St) (k : K) => match t with
          | .ops a r => if r.length = rest.length then dexec E n (lg ++ [opAcc E.P st.fr st.h o]) t s k else dexec E n lg t s k
          | .go .. => dexec E n (lg ++ [opAcc E.P st.fr st.h o]) t s k
          | t => Res.no "draw") = rec at hx
        have hr1 : ∀ s k, rec (.ops all rest) s k = dexec E n (lg ++ [opAcc E.P st.fr st.h o]) (.ops all rest) s k := fun s k => by rw [← hrec]; simp
        have hr2 : ∀ s k, rec (.ops all (o :: rest)) s k = dexec E n lg (.ops all (o :: rest)) s k := fun s k => by rw [← hrec]; simp
        have hr3 : ∀ f args s k, rec (.go f args o all rest) s k = dexec E n (lg ++ [opAcc E.P st.fr st.h o]) (.go f args o all rest) s k := fun f args s k => by rw [← hrec]
        -- a slot that is replaced
        have hset : ∀ (d : Nat) (s : S) (ir : IR), (∀ ρE, ρ <+: ρE → Eqv ρE (st.fr.getD d .x) s) → rec (.ops all (o :: rest)) { st with fr := st.fr.set d s } k = .ok ir → IR.wp C R ir L ρ →
            PathTo C R E all k L st ρ lg (o :: rest) := by
          intro d s ir he h1 h2
          rw [hr2] at h1
          obtain ⟨pr, lg2, frE, hE, ρE, ir', h3, h4, hl, h5, h6⟩ := ih n (by omega) lg _ _ k ir L ρ h1 h2 hn hpo
          exact ⟨pr, lg2, frE, hE, ρE, ir', h3, .refine d s (he ρE h3) h4, hl, h5, h6⟩
        have hskip : ∀ ir, (∀ ρE, ρ <+: ρE → Unwanted ρE all st.fr o) → rec (.ops all rest) { st with fr := putS st.fr o.dst .u } k = .ok ir → IR.wp C R ir L ρ →
            PathTo C R E all k L st ρ lg (o :: rest) := by
          intro ir hu h1 h2
          rw [hr1] at h1
          exact PathTo.skip hpo hu (ih n (by omega) _ _ _ k ir L ρ h1 h2 hn hpo.tl)
        have hrun : ∀ ir, (∀ ρE, ρ <+: ρE → Wanted ρE all st.fr o) → runOp E false rec all o rest st k = .ok ir → IR.wp C R ir L ρ →
            PathTo C R E all k L st ρ lg (o :: rest) := by
          intro ir hwant hx hw
          unfold runOp at hx
          split at hx
          · -- a call
            rename_i g args argTypes ho
            have hcall : ∀ f (caps : List (BR × Nat)), CalleeK (opd st.fr g) f caps → rec (.go f (args.toList.map (opd st.fr) ++ caps.map fun c => .val false [.p c.1 c.2]) o all rest) st k = .ok ir →
                PathTo C R E all k L st ρ lg (o :: rest) := by
              intro f caps hcf hx
              rw [hr3] at hx
              cases n with
              | zero => simp [dexec] at hx
              | succ n =>
                rcases go_inv hM hx hw hn with ⟨ps, xs, az, rs, ir1, h1, h2, h3, h4, h5, h6, h7⟩ | ⟨as, cs, ps, xs, cvs, az, caz, rs, ir1, hsp, hps, hxs, haz, hcv, hcaz, hst, hc, hf, h6, h7⟩ | ⟨ps, xs, az, rs, ir1, h1, h2, h3, h4, h5, hpl, h6, h7⟩ | ⟨ps, xs, az, s, rows, d, ir1, h1, h2, h3, h4, h5, ho0, hgd, hpn, hod, h6, h7⟩ | ⟨as, ps, xs, az, s0, rows, rs, d1, t, d, ir1, hal, h1, h2, h3, ht, h4, h5, hgd, hpn, hlt, hod, h6, h7⟩
                · cases caps with
                  | cons c r =>
                    rw [argsOf_ptr h1] at h2
                    cases h2
                  | nil =>
                    rw [List.map_nil, List.append_nil] at h1
                    refine PathTo.step hpo (pre_append _ _) hwant (ih n (by omega) _ rest _ k ir1 L (ρ ++ leavesOf rs) h6 h7 (by simp [hn]) hpo.tl) fun ρE pr h8 => ?_
                    have hp : ρ <+: ρE := (pre_append _ _).trans h8
                    refine .call ho (hcf.elim (fun h => .inl h.1) .inr) h1 h2 (evalVs_pre hp h3) h4 h5 (k := st.nv) ?_
                    rw [← hn]
                    exact (VarsAt.self ρ (leavesOf rs)).pre h8
                · refine PathTo.step hpo (pre_append _ _) hwant (ih n (by omega) _ rest _ k ir1 L (ρ ++ leavesOf rs) h6 h7 (by simp [hn]) hpo.tl) fun ρE pr h8 => ?_
                  have hp : ρ <+: ρE := (pre_append _ _).trans h8
                  refine .callK ho hcf hsp hps hxs (evalVs_pre hp haz) hcv (evalVs_pre hp hcaz) hst hc hf (k := st.nv) ?_
                  rw [← hn]
                  exact (VarsAt.self ρ (leavesOf rs)).pre h8
                · cases caps with
                  | cons c r =>
                    rw [argsOf_ptrL h1] at h2
                    cases h2
                  | nil =>
                    rw [List.map_nil, List.append_nil] at h1
                    refine PathTo.step hpo (pre_append _ _) hwant (ih n (by omega) _ rest _ k ir1 L (ρ ++ leavesOf rs) h6 h7 (by simp [hn]) hpo.tl) fun ρE pr h8 => ?_
                    have hp : ρ <+: ρE := (pre_append _ _).trans h8
                    refine .callL ho (hcf.elim (fun h => .inl h.1) .inr) h1 h2 (evalVs_pre hp h3) h4 h5 (k := st.nv) ?_ (hpl hn)
                    rw [← hn]
                    exact (VarsAt.self ρ (leavesOf rs)).pre h8
                · cases caps with
                  | cons c r =>
                    rw [argsOf_ptr h1] at h2
                    cases h2
                  | nil =>
                    rw [List.map_nil, List.append_nil] at h1
                    have hlf : (ρ ++ [D.sl s rows]).length = st.nv + 1 := by simp [hn]
                    refine PathTo.stepN hpo hgd hod hpn ho0 (pre_append _ _) (ih n (by omega) _ rest _ k ir1 L (ρ ++ [.sl s rows]) h6 h7 hlf (hpo.tlN hod ho0)) fun ρE h8 => ?_
                    have hp : ρ <+: ρE := (pre_append _ _).trans h8
                    refine ⟨f, g, args, argTypes, ps, xs, az, s, rows, ho, hcf.elim (fun h => .inl h.1) .inr, h1, h2, evalVs_pre hp h3, h4, h5, ?_⟩
                    simp only [Ex.eval]
                    exact pre_get h8 (by rw [← hn]; simp)
                · cases caps with
                  | cons c r =>
                    exfalso
                    have := congrArg List.getLast? hal
                    simp only [List.map_cons, List.getLast?_append, List.getLast?_singleton, Option.some_or] at this
                    rw [List.getLast?_cons] at this
                    simp only [Option.some_or, Option.some.injEq] at this
                    cases r with
                    | nil => simp at this
                    | cons c' r => 
                      obtain ⟨y, hy⟩ : ∃ y : BR × Nat, (List.map (fun c : BR × Nat => S.val false [SL.p c.1 c.2]) (c' :: r)).getLast? = some (.val false [.p y.1 y.2]) := by
                        rw [List.getLast?_map]
                        cases hh : (c' :: r).getLast? with
                        | none => simp at hh
                        | some y => exact ⟨y, rfl⟩
                      rw [hy] at this
                      simp at this
                  | nil =>
                    rw [List.map_nil, List.append_nil] at hal
                    refine PathTo.stepE hpo hgd hod hpn hlt (pre_append _ _) (ih n (by omega) _ rest _ k ir1 L (ρ ++ leavesOf rs) h6 h7 (by simp [hn]) (hpo.tlE hod hpn)) fun ρE h8 => ?_
                    have hp : ρ <+: ρE := (pre_append _ _).trans h8
                    refine ⟨f, g, args, argTypes, as, ps, xs, az, s0, rows, rs, st.nv, ho, hcf.elim (fun h => .inl h.1) .inr, hal, h1, h2, evalVs_pre hp h3, Ex.eval_pre hp t ht, h4, h5, ?_, rfl⟩
                    rw [← hn]
                    exact (VarsAt.self ρ (leavesOf rs)).pre h8
            split at hx
            · rename_i f hg
              exact hcall f [] (.inl ⟨hg, rfl⟩) (by simpa using hx)
            · rename_i f caps hg
              exact hcall f caps (.inr hg) hx
            · rename_i q x y hg
              split at hx
              · rename_i t
                obtain ⟨ia, ib, h1, h2, rfl⟩ := both_ok hx
                obtain ⟨tb, htb, hwa, hwb⟩ := hw
                have hg' : st.fr.getD t .x = .val false [.e (.ite q x y)] := hg
                have key : ∀ (z : Ex), (z = if tb then x else y) → ∀ ρE, ρ <+: ρE → Eqv ρE (st.fr.getD t .x) (.val false [.e z]) := by
                  intro z hz ρE hp I μ w v
                  have hq := Ex.eval_pre hp q htb
                  rw [hg']
                  have he : (Ex.ite q x y).eval ρE = z.eval ρE := by
                    simp only [Ex.eval, hq, hz]
                    cases tb <;> rfl
                  rw [sr_e, sr_e, he]
                cases tb
                · exact hset t _ ib (key y rfl) h2 (hwb rfl)
                · exact hset t _ ia (key x rfl) h1 (hwa rfl)
              · cases hx
            · cases hx
          · -- no call
            simp only [Bool.false_eq_true, if_false] at hx
            split at hx
            · -- new data
              rename_i cs t hfr
              obtain ⟨ir1, hx', hw', hcs⟩ := chks_ok hx hw
              split at hx'
              · rename_i ir2 hx2
                cases hx'
                rw [hr1] at hx2
                obtain ⟨d, hd, hw⟩ := hw'
                refine PathTo.step hpo (pre_append _ _) hwant (ih n (by omega) _ _ _ k ir2 L (ρ ++ [d]) hx2 hw (by simp [hn]) hpo.tl) fun ρE pr h3 => ?_
                have hp : ρ <+: ρE := (pre_append _ _).trans h3
                refine .fresh hfr (fun c hc => Ex.eval_pre hp c (hcs c hc)) (Ex.eval_pre hp t hd) (d := d) ?_
                simp only [Ex.eval]
                exact pre_get h3 (by rw [← hn]; simp)
              · rename_i z hz; exact absurd hx' (hz _)
            split at hx
            · rename_i d ha
              rw [hr1] at hx
              exact PathTo.step hpo (List.prefix_refl _) hwant (ih n (by omega) _ _ _ k ir L ρ hx hw hn hpo.tl) fun ρE pr h3 => .arith ha (d := d) (by simp [Ex.eval]) (by simp [Ex.eval])
            · rename_i t hne ha
              split at hx
              · rename_i ir1 hx'
                cases hx
                rw [hr1] at hx'
                obtain ⟨d, hd, hw⟩ := hw
                refine PathTo.step hpo (pre_append _ _) hwant (ih n (by omega) _ _ _ k ir1 L (ρ ++ [d]) hx' hw (by simp [hn]) hpo.tl) fun ρE pr h3 => ?_
                have hp : ρ <+: ρE := (pre_append _ _).trans h3
                refine .arith ha (Ex.eval_pre hp t hd) (d := d) ?_
                simp only [Ex.eval]
                exact pre_get h3 (by rw [← hn]; simp)
              · rename_i z hz; exact absurd hx (hz _)
            · split at hx
              · rename_i cs s h' hsim
                obtain ⟨ir1, hx', hw', hcs⟩ := chks_ok hx hw
                rw [hr1] at hx'
                exact PathTo.step hpo (List.prefix_refl _) hwant (ih n (by omega) _ _ _ k ir1 L ρ hx' hw' hn hpo.tl) fun ρE pr h3 => .simple hsim (fun c hc => Ex.eval_pre h3 c (hcs c hc))
              · split at hx
                · rename_i cs s hq
                  obtain ⟨ir1, hx', hw', hcs⟩ := chks_ok hx hw
                  rw [hr1] at hx'
                  exact PathTo.step hpo (List.prefix_refl _) hwant (ih n (by omega) _ _ _ k ir1 L ρ hx' hw' hn hpo.tl) fun ρE pr h3 => .lendQ hq (fun c hc => Ex.eval_pre h3 c (hcs c hc))
                split at hx
                · rename_i t ix nn hspan
                  split at hx
                  · refine fan_ok (fun m ir' h1 h2 h3 => ?_) nn 0 ir hx hw
                    refine hset t _ ir' (fun ρE hp => ?_) h1 h2
                    rw [spanOp_slot hspan]
                    exact Eqv.ex (Ex.eval_pre hp ix h3) rfl
                  · cases hx
                · cases hx
        unfold guardOp at hx
        split at hx
        · rename_i hg
          exact hrun ir (fun ρE _ => by simp [Wanted, hg]) hx hw
        · rename_i j want hg
          split at hx
          · rename_i d hd
            split at hx
            · rename_i hu
              exact hskip ir (fun ρE _ => ⟨j, want, d, hg, hd, .inl hu⟩) hx hw
            · rename_i t ht
              split at hx
              · rename_i b hb
                have hev : ∀ ρE, t.eval ρE = some (.b b) := fun ρE => bool?_eval hb
                split at hx
                · rename_i hbw
                  have : b = want := by simpa using hbw
                  subst this
                  exact hrun ir (fun ρE _ => by simp only [Wanted, hg]; exact ⟨d, t, hd, ht, hev ρE⟩) hx hw
                · rename_i hbw
                  exact hskip ir (fun ρE _ => ⟨j, want, d, hg, hd, .inr ⟨t, b, ht, hev ρE, by simpa using hbw⟩⟩) hx hw
              · obtain ⟨ia, ib, h1, h2, rfl⟩ := both_ok hx
                obtain ⟨tb, htb, hwa, hwb⟩ := hw
                have key : ∀ ρE, ρ <+: ρE → Eqv ρE (st.fr.getD d .x) (.val false [.e (.c (.b tb))]) := fun ρE hp => by
                  rw [ht]
                  exact Eqv.ex (Ex.eval_pre hp t htb) (by simp [Ex.eval])
                cases tb
                · exact hset d _ ib key h2 (hwb rfl)
                · exact hset d _ ia key h1 (hwa rfl)
            · cases hx
          · cases hx
end Go.Proofs.YtlihbielphcgbaaGreatDoor.Sx

namespace Go.Proofs.YtlihbielphcgbaaGreatDoor.Sx
open Go
set_option linter.unnecessarySimpa false
set_option linter.unusedSimpArgs false
set_option linter.unusedVariables false

/-- What the static check tells of a region. -/
structure DrawOK (all : List Oper) : Prop where
  nd : ∀ (i j : Nat) (o p : Oper) (t : Tmp), all[i]? = some o → all[j]? = some p → o.dst = some t → p.dst = some t → i = j
  e1 : ∀ (i : Nat) (o : Oper), all[i]? = some o → ∀ e ∈ bindsOn o, e < i
  e2 : ∀ (i : Nat) (o : Oper), all[i]? = some o → ∀ t ∈ readsT o, ∀ (j : Nat) (p : Oper), all[j]? = some p → p.dst = some t → (isC p = true → i ∈ bindsOn p) ∧ (isC p = false → j ∈ bindsOn o)
  e3 : ∀ (i : Nat) (o : Oper) (g : Nat) (b : Bool), all[i]? = some o → o.guard = some (g, b) → g ∈ bindsOn o ∧ isC o = false
  e4 : ∀ (i : Nat) (o : Oper), all[i]? = some o → isSt o = true → ∀ (j : Nat) (p : Oper), j < i → all[j]? = some p → isSt p = true → j ∈ bindsOn o

theorem filterMap_nodup {α : Type} {f : α → Option Nat} : ∀ {l : List α}, (l.filterMap f).Nodup → ∀ (i j : Nat) (a b : α) (t : Nat), l[i]? = some a → l[j]? = some b → f a = some t → f b = some t → i = j
  | [], _, i, j, a, b, t, h, _, _, _ => by simp at h
  | x :: r, hn, i, j, a, b, t, ha, hb, hfa, hfb => by
    have hr : (r.filterMap f).Nodup := by
      rw [List.filterMap_cons] at hn
      split at hn
      · exact hn
      · exact (List.nodup_cons.1 hn).2
    have hx : ∀ (k : Nat) (c : α), r[k]? = some c → f c = some t → f x = some t → False := by
      intro k c hc hfc hfx
      rw [List.filterMap_cons, hfx] at hn
      exact (List.nodup_cons.1 hn).1 (List.mem_filterMap.2 ⟨c, List.mem_of_getElem? hc, hfc⟩)
    cases i with
    | zero =>
      cases j with
      | zero => rfl
      | succ j =>
        simp at ha hb
        subst ha
        exact (hx j b hb hfb hfa).elim
    | succ i =>
      cases j with
      | zero =>
        simp at ha hb
        subst hb
        exact (hx i a ha hfa hfb).elim
      | succ j =>
        simp at ha hb
        rw [filterMap_nodup hr i j a b t ha hb hfa hfb]

theorem drawB_sound {all : List Oper} (h : drawB all = true) : DrawOK all := by
  unfold drawB at h
  simp only [Bool.and_eq_true] at h
  obtain ⟨h1, h3⟩ := h
  have hop : ∀ (i : Nat) (o : Oper), all[i]? = some o → drawOp all i o = true := fun i o ho => by
    have hi : i < all.length := (List.getElem?_eq_some_iff.1 ho).1
    have := List.all_eq_true.1 h3 i (by simpa using hi)
    rw [ho] at this
    exact this
  have at_ : ∀ (q : Nat → Oper → Bool), (List.range all.length).all (fun j => match all[j]? with | some p => q j p | none => true) = true → ∀ (j : Nat) (p : Oper), all[j]? = some p → q j p = true := fun q hq j p hp => by
    have hj : j < all.length := (List.getElem?_eq_some_iff.1 hp).1
    have := List.all_eq_true.1 hq j (by simpa using hj)
    rw [hp] at this
    exact this
  refine ⟨fun i j o p t => filterMap_nodup (nodupB_sound h1) i j o p t, ?_, ?_, ?_, ?_⟩
  · intro i o ho e he
    have := hop i o ho
    simp only [drawOp, Bool.and_eq_true] at this
    simpa using List.all_eq_true.1 this.1.1.1 e he
  · intro i o ho t ht j p hp hd
    have := hop i o ho
    simp only [drawOp, Bool.and_eq_true] at this
    have h4 := at_ (fun j p => if p.dst == some t then (if isC p then (bindsOn p).contains i else (bindsOn o).contains j) else true) (List.all_eq_true.1 this.1.1.2 t ht) j p hp
    simp only [hd, beq_self_eq_true, if_true] at h4
    refine ⟨fun hc => ?_, fun hc => ?_⟩
    · rw [if_pos hc] at h4; simpa using h4
    · rw [if_neg (by simp [hc])] at h4; simpa using h4
  · intro i o g b ho hg
    have := hop i o ho
    simp only [drawOp, Bool.and_eq_true] at this
    have h4 := this.1.2
    rw [hg] at h4
    simp only [Bool.and_eq_true, Bool.not_eq_true'] at h4
    exact ⟨by simpa using h4.1, h4.2⟩
  · intro i o ho hc j p hji hp hps
    have := hop i o ho
    simp only [drawOp, Bool.and_eq_true] at this
    have h4 := this.2
    rw [if_pos hc] at h4
    have h5 := List.all_eq_true.1 h4 j (by simpa using hji)
    rw [hp] at h5
    simp only [hps, if_true] at h5
    simpa using h5

/-- What the log tells. -/
theorem logOK_sound {ops : List Oper} {lg : List Acc} (h : logOK ops lg = true) {i j : Nat} {oi oj : Oper} (hi : ops[i]? = some oi) (hj : ops[j]? = some oj) (hl : isLd oi = true ∨ isAl oi = true) (hs : isSt oj = true) :
    (i < j ∧ i ∈ bindsOn oj) ∨ (¬ i < j ∧ j ∈ bindsOn oi) ∨ disjA (lg.getD i none) (lg.getD j none) = true := by
  unfold logOK at h
  have hil : i < ops.length := (List.getElem?_eq_some_iff.1 hi).1
  have hjl : j < ops.length := (List.getElem?_eq_some_iff.1 hj).1
  have h1 := List.all_eq_true.1 h i (by simpa using hil)
  have h2 := List.all_eq_true.1 h1 j (by simpa using hjl)
  rw [hi, hj] at h2
  simp only at h2
  rw [if_pos (by simp only [Bool.and_eq_true, Bool.or_eq_true]; exact ⟨hl, hs⟩)] at h2
  simp only [Bool.or_eq_true] at h2
  rcases h2 with h2 | h2
  · by_cases hij : i < j
    · rw [if_pos hij] at h2; exact .inl ⟨hij, by simpa using h2⟩
    · rw [if_neg hij] at h2; exact .inr (.inl ⟨hij, by simpa using h2⟩)
  · exact .inr (.inr h2)
end Go.Proofs.YtlihbielphcgbaaGreatDoor.Sx
