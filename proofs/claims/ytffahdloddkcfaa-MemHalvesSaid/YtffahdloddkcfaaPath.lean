/-
  A region that draws, in the text's order: what each operation comes to.
-/
import Derived.Test.YtffahdloddkcfaaLoopd
import Derived.Test.YtffahdloddkcfaaDraw
namespace Go.Proofs.Ytffahdloddkcfaa.Sx
open Go
set_option linter.unnecessarySimpa false
set_option linter.unusedSimpArgs false
set_option linter.unusedVariables false

/-- two slots that say the same of every value -/
def Eqv (ρ : List D) (s s' : S) : Prop := ∀ (I : Imm) (μ : Mu) (w : World) (v : Value), SR I μ w ρ s v ↔ SR I μ w ρ s' v
theorem Eqv.refl (ρ : List D) (s : S) : Eqv ρ s s := fun _ _ _ _ => Iff.rfl
theorem Eqv.trans {ρ : List D} {s s' s'' : S} (h : Eqv ρ s s') (h' : Eqv ρ s' s'') : Eqv ρ s s'' := fun I μ w v => (h I μ w v).trans (h' I μ w v)
theorem Eqv.symm {ρ : List D} {s s' : S} (h : Eqv ρ s s') : Eqv ρ s' s := fun I μ w v => (h I μ w v).symm

theorem sr_e {I : Imm} {μ : Mu} {w : World} {ρ : List D} {t : Ex} {v : Value} : SR I μ w ρ (.val false [.e t]) v ↔ ∃ d, t.eval ρ = some d ∧ DR I w d v := by
  constructor
  · rintro ⟨l, hl, h⟩
    simp only [List.cons.injEq, and_true] at hl
    subst hl
    exact h
  · intro h
    exact ⟨_, rfl, h⟩

theorem Eqv.ex {ρ : List D} {x y : Ex} {d : D} (hx : x.eval ρ = some d) (hy : y.eval ρ = some d) : Eqv ρ (.val false [.e x]) (.val false [.e y]) := fun I μ w v => by
  rw [sr_e, sr_e, hx, hy]

/-- the operation is wanted; is not -/
def Wanted (ρ : List D) (all : List Oper) (fr : List S) (o : Oper) : Prop :=
  match o.guard with
  | none => True
  | some (j, want) => ∃ d t, (all[j]?).bind (·.dst) = some d ∧ fr.getD d .x = .val false [.e t] ∧ t.eval ρ = some (.b want)
def Unwanted (ρ : List D) (all : List Oper) (fr : List S) (o : Oper) : Prop :=
  ∃ j want d, o.guard = some (j, want) ∧ (all[j]?).bind (·.dst) = some d ∧ (fr.getD d .x = .u ∨ ∃ t b, fr.getD d .x = .val false [.e t] ∧ t.eval ρ = some (.b b) ∧ b ≠ want)

def Callee (s : S) (f : FuncId) : Prop := s = .val false [.e (.c (.f f))] ∨ s = .val false [.clo f []]
def CalleeK (s : S) (f : FuncId) (caps : List (BR × Nat)) : Prop := (s = .val false [.e (.c (.f f))] ∧ caps = []) ∨ s = .val false [.clo f caps]

/-- what an operation comes to -/
inductive Step (C : Con) (E : Env) (all : List Oper) (ρ : List D) (o : Oper) (fr : List S) (h : Heap) : S → Heap → Prop
  | arith {t u : Ex} {d : D} (ht : arith E.P fr o.op = some t) (hd : t.eval ρ = some d) (hu : u.eval ρ = some d) : Step C E all ρ o fr h (.val false [.e u]) h
  | simple {cs : List Ex} {s : S} {h' : Heap} (hs : simple E.P E.G fr h o.op = some (cs, s, h')) (hc : ∀ c ∈ cs, c.eval ρ = some (.b true)) : Step C E all ρ o fr h s h'
  | call {f : FuncId} {g : Operand} {args : Array Operand} {tys : Array TypeId} {ps : List (Bool × List SL)} {xs : List XV} {az rs : List DV} {k : Nat}
      (ho : o.op = .call { callee := .value g, args := args, argTypes := tys }) (hg : Callee (opd fr g) f) (ha : argsOf (args.toList.map (opd fr)) = some ps) (hx : exVs ps = some xs) (he : evalVs ρ xs = some az)
      (hc : C f az rs) (hf : (∃ fn, E.P.funcs[f]? = some fn ∧ fn.body.isNone = false ∧ (fn.name == "runtime.NumGoroutine") = false) ∧ f < eatOff) (hv : VarsAt ρ k (leavesOf rs)) : Step C E all ρ o fr h (tupS (shapeVs k (shapeOf rs))) h
  | fresh {cs : List Ex} {t u : Ex} {d : D} (hs : freshOp E.P E.G all fr o = some (cs, t)) (hc : ∀ c ∈ cs, c.eval ρ = some (.b true)) (hd : t.eval ρ = some d) (hu : u.eval ρ = some d) : Step C E all ρ o fr h (.val false [.e u]) h
  | callK {f : FuncId} {g : Operand} {args : Array Operand} {tys : Array TypeId} {caps cs : List (BR × Nat)} {as : List S} {ps : List (Bool × List SL)} {xs cvs : List XV} {az caz rs : List DV} {k : Nat}
      (ho : o.op = .call { callee := .value g, args := args, argTypes := tys }) (hg : CalleeK (opd fr g) f caps) (hsp : splitCaps (args.toList.map (opd fr) ++ caps.map fun c => .val false [.p c.1 c.2]) = (as, cs)) (ha : argsOf as = some ps) (hx : exVs ps = some xs)
      (he : evalVs ρ xs = some az) (hcap : capsX h cs = some cvs) (hce : evalVs ρ cvs = some caz) (hst : all.all (fun o => !isSt o) = true) (hc : C (capOff + f) ((false, [.i .i64 (cs.length : Int)]) :: (az ++ caz)) rs)
      (hf : (∃ fn, E.P.funcs[f]? = some fn ∧ fn.body.isNone = false ∧ (fn.name == "runtime.NumGoroutine") = false) ∧ f < eatOff) (hv : VarsAt ρ k (leavesOf rs)) : Step C E all ρ o fr h (tupS (shapeVs k (shapeOf rs))) h

inductive Path (C : Con) (E : Env) (all : List Oper) (ρ : List D) : List Acc → List Oper → List S → Heap → List S → Heap → Prop
  | nil {fr : List S} {h : Heap} : Path C E all ρ [] [] fr h fr h
  | refine {lg : List Acc} {todo : List Oper} {fr frE : List S} {h hE : Heap} (d : Nat) (s : S) (he : Eqv ρ (fr.getD d .x) s) (hp : Path C E all ρ lg todo (fr.set d s) h frE hE) : Path C E all ρ lg todo fr h frE hE
  | skip {lg : List Acc} {o : Oper} {rest : List Oper} {fr frE : List S} {h hE : Heap} (hg : Unwanted ρ all fr o) (hp : Path C E all ρ lg rest (putS fr o.dst .u) h frE hE) : Path C E all ρ (opAcc E.P fr h o :: lg) (o :: rest) fr h frE hE
  | step {lg : List Acc} {o : Oper} {rest : List Oper} {fr frE : List S} {h h' hE : Heap} {s : S} (hg : Wanted ρ all fr o) (hs : Step C E all ρ o fr h s h') (hp : Path C E all ρ lg rest (putS fr o.dst s) h' frE hE) : Path C E all ρ (opAcc E.P fr h o :: lg) (o :: rest) fr h frE hE

theorem evalVs_pre {ρ ρ' : List D} (h : ρ <+: ρ') : ∀ {xs : List XV} {as : List DV}, evalVs ρ xs = some as → evalVs ρ' xs = some as
  | [], as, e => e
  | (g, es) :: r, as, e => by
    simp only [evalVs] at e ⊢
    split at e
    · rename_i ds vs h1 h2
      rw [Ex.evals_pre h es h1, evalVs_pre h h2]
      exact e
    · cases e

theorem VarsAt.pre {ρ ρ' : List D} (h : ρ <+: ρ') {k : Nat} {ds : List D} (hv : VarsAt ρ k ds) : VarsAt ρ' k ds := fun i d hd => pre_get h (hv i d hd)

variable {C : Con} {R : List DV → Prop} {E : Env}

theorem argsOf_ptr {c : BR × Nat} : ∀ {l : List S} {r : List (BR × Nat)} {ps : List (Bool × List SL)}, argsOf (l ++ (c :: r).map fun c => S.val false [.p c.1 c.2]) = some ps → exVs ps = none
  | [], r, ps, h => by
    simp only [List.nil_append, List.map_cons, argsOf] at h
    split at h
    · cases h
      simp [exVs, exLs]
    · cases h
  | .val g ls :: l, r, ps, h => by
    simp only [List.cons_append, argsOf] at h
    split at h
    · rename_i vs hvs
      cases h
      have := argsOf_ptr hvs
      simp only [exVs, this]
      split
      · rename_i h1 h2; cases h2
      · rfl
    · cases h
  | .x :: l, r, ps, h => by simp [argsOf] at h
  | .u :: l, r, ps, h => by simp [argsOf] at h
  | .tup _ :: l, r, ps, h => by simp [argsOf] at h

theorem evalVs_append {ρ : List D} : ∀ {xs ys : List XV} {az : List DV}, evalVs ρ (xs ++ ys) = some az → ∃ a b, evalVs ρ xs = some a ∧ evalVs ρ ys = some b ∧ az = a ++ b
  | [], ys, az, h => ⟨[], az, rfl, h, rfl⟩
  | (g, l) :: xs, ys, az, h => by
    simp only [List.cons_append, evalVs] at h
    split at h
    · rename_i ds vs h1 h2
      cases h
      obtain ⟨a, b, h3, h4, rfl⟩ := evalVs_append h2
      exact ⟨(g, ds) :: a, b, by simp only [evalVs, h1, h3], h4, rfl⟩
    · cases h
theorem sigOf_some {P : Program} {f : FuncId} {sh : Shape} (h : sigOf P f = some sh) : (∃ fn, P.funcs[f]? = some fn ∧ fn.body.isNone = false ∧ (fn.name == "runtime.NumGoroutine") = false) ∧ f < eatOff := by
  unfold sigOf at h
  split at h
  · rename_i fn hfn
    split at h
    · cases h
    · rename_i hb
      simp only [Bool.or_eq_true, not_or, Bool.not_eq_true, Bool.not_eq_false', decide_eq_true_eq] at hb
      exact ⟨⟨fn, hfn, hb.1.1, hb.1.2⟩, hb.2⟩
  · cases h

theorem go_inv {n : Nat} {lg : List Acc} {f : FuncId} {args : List S} {o : Oper} {all rest : List Oper} {st : St} {k : K} {ir : IR} {L : List Lp} {ρ : List D} (hx : dexec E (n + 1) lg (.go f args o all rest) st k = .ok ir) (hw : IR.wp C R ir L ρ) :
    (∃ ps xs az rs ir', argsOf args = some ps ∧ exVs ps = some xs ∧ evalVs ρ xs = some az ∧ C f az rs ∧ ((∃ fn, E.P.funcs[f]? = some fn ∧ fn.body.isNone = false ∧ (fn.name == "runtime.NumGoroutine") = false) ∧ f < eatOff) ∧
      dexec E n lg (.ops all rest) { st with fr := putS st.fr o.dst (tupS (shapeVs st.nv (shapeOf rs))), nv := st.nv + (leavesOf rs).length } k = .ok ir' ∧ IR.wp C R ir' L (ρ ++ leavesOf rs)) ∨
    (∃ as cs ps xs cvs az caz rs ir', splitCaps args = (as, cs) ∧ argsOf as = some ps ∧ exVs ps = some xs ∧ evalVs ρ xs = some az ∧ capsX st.h cs = some cvs ∧ evalVs ρ cvs = some caz ∧ all.all (fun o => !isSt o) = true ∧
      C (capOff + f) ((false, [.i .i64 (cs.length : Int)]) :: (az ++ caz)) rs ∧ ((∃ fn, E.P.funcs[f]? = some fn ∧ fn.body.isNone = false ∧ (fn.name == "runtime.NumGoroutine") = false) ∧ f < eatOff) ∧
      dexec E n lg (.ops all rest) { st with fr := putS st.fr o.dst (tupS (shapeVs st.nv (shapeOf rs))), nv := st.nv + (leavesOf rs).length } k = .ok ir' ∧ IR.wp C R ir' L (ρ ++ leavesOf rs)) := by
  simp only [dexec] at hx
  split at hx
  · right
    split at hx
    · rename_i ps hps
      split at hx
      · rename_i xs cvs sh hxs hcv hsh
        split at hx
        · rename_i hst
          split at hx
          · rename_i ir' hx'
            cases hx
            obtain ⟨az, rs, haz, hc, hrs, hw⟩ := hw
            subst hrs
            simp only [evalVs, Ex.evals, litN, Ex.eval] at haz
            split at haz
            · rename_i ds vs h1 h2
              cases haz
              cases h1
              obtain ⟨a, b, h3, h4, rfl⟩ := evalVs_append h2
              exact ⟨(splitCaps args).1, (splitCaps args).2, ps, xs, cvs, a, b, rs, ir', rfl, hps, hxs, h3, hcv, h4, hst, hc, sigOf_some hsh, by rw [← shapeLen_leaves]; exact hx', hw⟩
            · cases haz
          · rename_i z hz; exact absurd hx (hz _)
        · cases hx
      · cases hx
    · cases hx
  · left
    split at hx
    · rename_i ps hps
      split at hx
      · rename_i xs sh hxs hsh
        split at hx
        · rename_i ir' hx'
          cases hx
          obtain ⟨az, rs, haz, hc, hrs, hw⟩ := hw
          subst hrs
          exact ⟨ps, xs, az, rs, ir', hps, hxs, haz, hc, sigOf_some hsh, by rw [← shapeLen_leaves]; exact hx', hw⟩
        · rename_i z hz; exact absurd hx (hz _)
      · cases hx
    · cases hx

theorem path_of (all : List Oper) : ∀ (n : Nat) (lg : List Acc) (todo : List Oper) (st : St) (k : K) (ir : IR) (L : List Lp) (ρ : List D), dexec E n lg (.ops all todo) st k = .ok ir → IR.wp C R ir L ρ → ρ.length = st.nv →
    ∃ lg2 frE hE ρE ir', ρ <+: ρE ∧ Path C E all ρE lg2 todo st.fr st.h frE hE ∧ logOK all (lg ++ lg2) = true ∧ k .normal { fr := frE, h := hE, o := st.o, nv := ρE.length, lv := st.lv } = .ok ir' ∧ IR.wp C R ir' L ρE := by
  intro n
  induction n using Nat.strongRecOn with
  | ind n ih =>
    intro lg todo st k ir L ρ hx hw hn
    cases n with
    | zero => simp [dexec] at hx
    | succ n =>
      cases todo with
      | nil =>
        simp only [dexec] at hx
        split at hx
        · rename_i hlg
          exact ⟨[], st.fr, st.h, ρ, ir, List.prefix_refl _, .nil, by simpa using hlg, by rw [hn]; exact hx, hw⟩
        · cases hx
      | cons o rest =>
        simp only [dexec] at hx
        generalize hrec : (fun (t : Task) (s : St) (k : K) => match t with
          | .ops a r => if r.length = rest.length then dexec E n (lg ++ [opAcc E.P st.fr st.h o]) t s k else dexec E n lg t s k
          | .go .. => dexec E n (lg ++ [opAcc E.P st.fr st.h o]) t s k
          | t => Res.no "draw") = rec at hx
        have hr1 : ∀ s k, rec (.ops all rest) s k = dexec E n (lg ++ [opAcc E.P st.fr st.h o]) (.ops all rest) s k := fun s k => by rw [← hrec]; simp
        have hr2 : ∀ s k, rec (.ops all (o :: rest)) s k = dexec E n lg (.ops all (o :: rest)) s k := fun s k => by rw [← hrec]; simp
        have hr3 : ∀ f args s k, rec (.go f args o all rest) s k = dexec E n (lg ++ [opAcc E.P st.fr st.h o]) (.go f args o all rest) s k := fun f args s k => by rw [← hrec]
        -- a slot that is replaced
        have hset : ∀ (d : Nat) (s : S) (ir : IR), (∀ ρE, ρ <+: ρE → Eqv ρE (st.fr.getD d .x) s) → rec (.ops all (o :: rest)) { st with fr := st.fr.set d s } k = .ok ir → IR.wp C R ir L ρ →
            ∃ lg2 frE hE ρE ir', ρ <+: ρE ∧ Path C E all ρE lg2 (o :: rest) st.fr st.h frE hE ∧ logOK all (lg ++ lg2) = true ∧ k .normal { fr := frE, h := hE, o := st.o, nv := ρE.length, lv := st.lv } = .ok ir' ∧ IR.wp C R ir' L ρE := by
          intro d s ir he h1 h2
          rw [hr2] at h1
          obtain ⟨lg2, frE, hE, ρE, ir', h3, h4, hl, h5, h6⟩ := ih n (by omega) lg _ _ k ir L ρ h1 h2 hn
          exact ⟨lg2, frE, hE, ρE, ir', h3, .refine d s (he ρE h3) h4, hl, h5, h6⟩
        have hskip : ∀ ir, (∀ ρE, ρ <+: ρE → Unwanted ρE all st.fr o) → rec (.ops all rest) { st with fr := putS st.fr o.dst .u } k = .ok ir → IR.wp C R ir L ρ →
            ∃ lg2 frE hE ρE ir', ρ <+: ρE ∧ Path C E all ρE lg2 (o :: rest) st.fr st.h frE hE ∧ logOK all (lg ++ lg2) = true ∧ k .normal { fr := frE, h := hE, o := st.o, nv := ρE.length, lv := st.lv } = .ok ir' ∧ IR.wp C R ir' L ρE := by
          intro ir hu h1 h2
          rw [hr1] at h1
          obtain ⟨lg2, frE, hE, ρE, ir', h3, h4, hl, h5, h6⟩ := ih n (by omega) _ _ _ k ir L ρ h1 h2 hn
          exact ⟨_, frE, hE, ρE, ir', h3, .skip (hu ρE h3) h4, by simpa using hl, h5, h6⟩
        have hrun : ∀ ir, (∀ ρE, ρ <+: ρE → Wanted ρE all st.fr o) → runOp E false rec all o rest st k = .ok ir → IR.wp C R ir L ρ →
            ∃ lg2 frE hE ρE ir', ρ <+: ρE ∧ Path C E all ρE lg2 (o :: rest) st.fr st.h frE hE ∧ logOK all (lg ++ lg2) = true ∧ k .normal { fr := frE, h := hE, o := st.o, nv := ρE.length, lv := st.lv } = .ok ir' ∧ IR.wp C R ir' L ρE := by
          intro ir hwant hx hw
          unfold runOp at hx
          split at hx
          · -- a call
            rename_i g args argTypes ho
            have hcall : ∀ f (caps : List (BR × Nat)), CalleeK (opd st.fr g) f caps → rec (.go f (args.toList.map (opd st.fr) ++ caps.map fun c => .val false [.p c.1 c.2]) o all rest) st k = .ok ir →
                ∃ lg2 frE hE ρE ir', ρ <+: ρE ∧ Path C E all ρE lg2 (o :: rest) st.fr st.h frE hE ∧ logOK all (lg ++ lg2) = true ∧ k .normal { fr := frE, h := hE, o := st.o, nv := ρE.length, lv := st.lv } = .ok ir' ∧ IR.wp C R ir' L ρE := by
              intro f caps hcf hx
              rw [hr3] at hx
              cases n with
              | zero => simp [dexec] at hx
              | succ n =>
                rcases go_inv hx hw with ⟨ps, xs, az, rs, ir1, h1, h2, h3, h4, h5, h6, h7⟩ | ⟨as, cs, ps, xs, cvs, az, caz, rs, ir1, hsp, hps, hxs, haz, hcv, hcaz, hst, hc, hf, h6, h7⟩
                · cases caps with
                  | cons c r =>
                    rw [argsOf_ptr h1] at h2
                    cases h2
                  | nil =>
                    rw [List.map_nil, List.append_nil] at h1
                    obtain ⟨lg2, frE, hE, ρE, ir', h8, h9, hl, h10, h11⟩ := ih n (by omega) _ rest _ k ir1 L (ρ ++ leavesOf rs) h6 h7 (by simp [hn])
                    have hp : ρ <+: ρE := (pre_append _ _).trans h8
                    refine ⟨_, frE, hE, ρE, ir', hp, .step (hwant ρE hp) (.call ho (hcf.elim (fun h => .inl h.1) .inr) h1 h2 (evalVs_pre hp h3) h4 h5 (k := st.nv) ?_) h9, by simpa using hl, h10, h11⟩
                    rw [← hn]
                    exact (VarsAt.self ρ (leavesOf rs)).pre h8
                · obtain ⟨lg2, frE, hE, ρE, ir', h8, h9, hl, h10, h11⟩ := ih n (by omega) _ rest _ k ir1 L (ρ ++ leavesOf rs) h6 h7 (by simp [hn])
                  have hp : ρ <+: ρE := (pre_append _ _).trans h8
                  refine ⟨_, frE, hE, ρE, ir', hp, .step (hwant ρE hp) (.callK ho hcf hsp hps hxs (evalVs_pre hp haz) hcv (evalVs_pre hp hcaz) hst hc hf (k := st.nv) ?_) h9, by simpa using hl, h10, h11⟩
                  rw [← hn]
                  exact (VarsAt.self ρ (leavesOf rs)).pre h8
            split at hx
            · rename_i f hg
              exact hcall f [] (.inl ⟨hg, rfl⟩) (by simpa using hx)
            · rename_i f caps hg
              exact hcall f caps (.inr hg) hx
            · rename_i q x y hg
              split at hx
              · rename_i t
                obtain ⟨ia, ib, h1, h2, rfl⟩ := both_ok hx
                obtain ⟨tb, htb, hwa, hwb⟩ := hw
                have hg' : st.fr.getD t .x = .val false [.e (.ite q x y)] := hg
                have key : ∀ (z : Ex), (z = if tb then x else y) → ∀ ρE, ρ <+: ρE → Eqv ρE (st.fr.getD t .x) (.val false [.e z]) := by
                  intro z hz ρE hp I μ w v
                  have hq := Ex.eval_pre hp q htb
                  rw [hg']
                  have he : (Ex.ite q x y).eval ρE = z.eval ρE := by
                    simp only [Ex.eval, hq, hz]
                    cases tb <;> rfl
                  rw [sr_e, sr_e, he]
                cases tb
                · exact hset t _ ib (key y rfl) h2 (hwb rfl)
                · exact hset t _ ia (key x rfl) h1 (hwa rfl)
              · cases hx
            · cases hx
          · -- no call
            simp only [Bool.false_eq_true, if_false] at hx
            split at hx
            · -- new data
              rename_i cs t hfr
              obtain ⟨ir1, hx', hw', hcs⟩ := chks_ok hx hw
              split at hx'
              · rename_i ir2 hx2
                cases hx'
                rw [hr1] at hx2
                obtain ⟨d, hd, hw⟩ := hw'
                obtain ⟨lg2, frE, hE, ρE, ir', h3, h4, hl, h5, h6⟩ := ih n (by omega) _ _ _ k ir2 L (ρ ++ [d]) hx2 hw (by simp [hn])
                have hp : ρ <+: ρE := (pre_append _ _).trans h3
                refine ⟨_, frE, hE, ρE, ir', hp, .step (hwant ρE hp) (.fresh hfr (fun c hc => Ex.eval_pre hp c (hcs c hc)) (Ex.eval_pre hp t hd) (d := d) ?_) h4, by simpa using hl, h5, h6⟩
                simp only [Ex.eval]
                exact pre_get h3 (by rw [← hn]; simp)
              · rename_i z hz; exact absurd hx' (hz _)
            split at hx
            · rename_i d ha
              rw [hr1] at hx
              obtain ⟨lg2, frE, hE, ρE, ir', h3, h4, hl, h5, h6⟩ := ih n (by omega) _ _ _ k ir L ρ hx hw hn
              exact ⟨_, frE, hE, ρE, ir', h3, .step (hwant ρE h3) (.arith ha (d := d) (by simp [Ex.eval]) (by simp [Ex.eval])) h4, by simpa using hl, h5, h6⟩
            · rename_i t hne ha
              split at hx
              · rename_i ir1 hx'
                cases hx
                rw [hr1] at hx'
                obtain ⟨d, hd, hw⟩ := hw
                obtain ⟨lg2, frE, hE, ρE, ir', h3, h4, hl, h5, h6⟩ := ih n (by omega) _ _ _ k ir1 L (ρ ++ [d]) hx' hw (by simp [hn])
                have hp : ρ <+: ρE := (pre_append _ _).trans h3
                refine ⟨_, frE, hE, ρE, ir', hp, .step (hwant ρE hp) (.arith ha (Ex.eval_pre hp t hd) (d := d) ?_) h4, by simpa using hl, h5, h6⟩
                simp only [Ex.eval]
                exact pre_get h3 (by rw [← hn]; simp)
              · rename_i z hz; exact absurd hx (hz _)
            · split at hx
              · rename_i cs s h' hsim
                obtain ⟨ir1, hx', hw', hcs⟩ := chks_ok hx hw
                rw [hr1] at hx'
                obtain ⟨lg2, frE, hE, ρE, ir', h3, h4, hl, h5, h6⟩ := ih n (by omega) _ _ _ k ir1 L ρ hx' hw' hn
                exact ⟨_, frE, hE, ρE, ir', h3, .step (hwant ρE h3) (.simple hsim (fun c hc => Ex.eval_pre h3 c (hcs c hc))) h4, by simpa using hl, h5, h6⟩
              · split at hx
                · rename_i t ix nn hspan
                  split at hx
                  · refine fan_ok (fun m ir' h1 h2 h3 => ?_) nn 0 ir hx hw
                    refine hset t _ ir' (fun ρE hp => ?_) h1 h2
                    rw [spanOp_slot hspan]
                    exact Eqv.ex (Ex.eval_pre hp ix h3) rfl
                  · cases hx
                · cases hx
        unfold guardOp at hx
        split at hx
        · rename_i hg
          exact hrun ir (fun ρE _ => by simp [Wanted, hg]) hx hw
        · rename_i j want hg
          split at hx
          · rename_i d hd
            split at hx
            · rename_i hu
              exact hskip ir (fun ρE _ => ⟨j, want, d, hg, hd, .inl hu⟩) hx hw
            · rename_i t ht
              split at hx
              · rename_i b hb
                have hev : ∀ ρE, t.eval ρE = some (.b b) := fun ρE => bool?_eval hb
                split at hx
                · rename_i hbw
                  have : b = want := by simpa using hbw
                  subst this
                  exact hrun ir (fun ρE _ => by simp only [Wanted, hg]; exact ⟨d, t, hd, ht, hev ρE⟩) hx hw
                · rename_i hbw
                  exact hskip ir (fun ρE _ => ⟨j, want, d, hg, hd, .inr ⟨t, b, ht, hev ρE, by simpa using hbw⟩⟩) hx hw
              · obtain ⟨ia, ib, h1, h2, rfl⟩ := both_ok hx
                obtain ⟨tb, htb, hwa, hwb⟩ := hw
                have key : ∀ ρE, ρ <+: ρE → Eqv ρE (st.fr.getD d .x) (.val false [.e (.c (.b tb))]) := fun ρE hp => by
                  rw [ht]
                  exact Eqv.ex (Ex.eval_pre hp t htb) (by simp [Ex.eval])
                cases tb
                · exact hset d _ ib key h2 (hwb rfl)
                · exact hset d _ ia key h1 (hwa rfl)
            · cases hx
          · cases hx
end Go.Proofs.Ytffahdloddkcfaa.Sx
