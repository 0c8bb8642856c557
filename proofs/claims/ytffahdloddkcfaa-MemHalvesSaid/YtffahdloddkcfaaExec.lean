/-
  THE SOUNDNESS of the executor: what the IR says, the machine does.
-/
import Derived.Test.YtffahdloddkcfaaOwnd
namespace Go.Proofs.Ytffahdloddkcfaa.Sx
open Go
set_option linter.unnecessarySimpa false
set_option linter.unusedSimpArgs false
set_option linter.unusedVariables false

/-- A value of data, on the machine. -/
def DVR (I : Imm) (w : World) (p : DV) (v : Value) : Prop :=
  if p.1 then ∃ vs : List Value, v = .agg vs.toArray ∧ All2 (DR I w) p.2 vs else ∃ d, p.2 = [d] ∧ DR I w d v

def RsR (I : Imm) (w : World) (rs : List DV) (v : Value) : Prop :=
  match rs with
  | [r] => DVR I w r v
  | rs => ∃ vs : List Value, v = .tuple vs.toArray ∧ All2 (DVR I w) rs vs

/-- THE CONTRACT of a function at some data: called with these it returns those, and changes nothing that was. -/
def ConM (P : Program) (G : Glo) : Con := fun f as rs =>
  ∀ (I : Imm) (w : World) (vs : List Value), GR G I w → (∀ x, I x → x < w.heap.size) → All2 (DVR I w) as vs →
    Calls P f vs.toArray w fun e w' => ∃ v I', e = .returned v ∧ (∀ x, I x → I' x) ∧ (∀ x, I' x → I x ∨ w.heap.size ≤ x) ∧ (∀ x, I' x → x < w'.heap.size) ∧
      (∀ x, x < w.heap.size → w'.heap[x]? = w.heap[x]?) ∧ w.heap.size ≤ w'.heap.size ∧ (w'.os = w.os ∧ w'.output = w.output) ∧ RsR I' w' rs v

/-- a slice, if it is one, lies at the head of a plain block -/
def PlainV (w : World) (v : Value) : Prop := ∀ b l c, v = .slice (some b) l c → ∃ x cs ty, b = ⟨x, 0, none⟩ ∧ w.heap[x]? = some (.cells cs ty (0, 0))

/-- THE CONTRACT of a library's function that uses up a slice of the call's own: it returns one, and changes no block but that slice's. -/
def ConO (P : Program) (G : Glo) : Con := fun f as rs =>
  ∃ s0 s rows more rows', as = (false, [.sl s0 rows]) :: more ∧ rs = [(false, [.sl s rows'])] ∧
    ∀ (B : Nat) (I : Imm) (w : World) (v : Value) (vs : List Value), GR G I w → (∀ x, I x → x < w.heap.size) → B ≤ w.heap.size → OwnV B I w s0 rows v → All2 (DVR I w) more vs → (∀ u ∈ vs, PlainV w u) →
      Calls P f (v :: vs).toArray w fun e w' => ∃ v', e = .returned v' ∧ OwnV B I w' s rows' v' ∧ (∀ x, x < w.heap.size → v.ownBlock ≠ some x → w'.heap[x]? = w.heap[x]?) ∧ w.heap.size ≤ w'.heap.size ∧
        (w'.os = w.os ∧ w'.output = w.output) ∧ ∀ x, v'.ownBlock = some x → v.ownBlock = some x ∨ w.heap.size ≤ x

/-- what a variable's block holds, as data -/
def CellR (I : Imm) (w : World) (d : DV) (x : Nat) : Prop :=
  d.1 = true ∧ ∃ (vs : List Value) (ty : TypeId), w.heap[x]? = some (.cells vs.toArray ty (0, 0)) ∧ All2 (DR I w) d.2 vs

/-- THE CONTRACT of a function that is handed variables behind its arguments, and only reads them; its results hold no slice. -/
def ConK (P : Program) (G : Glo) : Con := fun f as rs =>
  ∃ az caz : List DV, as = (false, [.i .i64 (caz.length : Int)]) :: (az ++ caz) ∧
    ∀ (I : Imm) (w : World) (vs : List Value) (xs : List Nat), GR G I w → (∀ x, I x → x < w.heap.size) → All2 (DVR I w) az vs → All2 (CellR I w) caz xs →
      Calls P f (vs ++ xs.map fun x => Value.pointer (some ⟨x, 0, none⟩)).toArray w fun e w' => ∃ v, e = .returned v ∧ (∀ x, x < w.heap.size → w'.heap[x]? = w.heap[x]?) ∧ w.heap.size ≤ w'.heap.size ∧
        (w'.os = w.os ∧ w'.output = w.output) ∧ RsR I w' rs v

/-- the contracts, of all sorts -/
def ConX (P : Program) (G : Glo) : Con := fun f as rs => (f < eatOff → ConM P G f as rs) ∧ (eatOff ≤ f ∧ f < capOff → ConO P G (f - eatOff) as rs) ∧ (capOff ≤ f → ConK P G (f - capOff) as rs)

def xit : Xit → Exit
  | .normal => .normal
  | .exit id => .exit id
  | .ret => .ret

section
variable (C : Con) (R : List DV → Prop) (G : Glo) (B : Nat) (I₀ : Imm) (w₀ : World)

structure StR (st : St) (L : List Lp) (ρ : List D) (I : Imm) (μ : Mu) (w : World) (a : Act) : Prop where
  fr : FR I μ w ρ st.fr a
  wr : WR G B I₀ w₀ I μ w ρ st.h
  own : OwnR B I μ w ρ st.o
  nv : ρ.length = st.nv
  lv : L.length = st.lv

def Post (k : K) (L : List Lp) (ρ : List D) (I : Imm) (μ : Mu) (w : World) (Q : Exit → Act → World → Prop) : Prop :=
  ∀ e s ir' L' ρ' I' μ' w' a', k e s = .ok ir' → IR.wp C R ir' L' ρ' → L <+: L' → ρ <+: ρ' → StR G B I₀ w₀ s L' ρ' I' μ' w' a' → Evo I μ w I' μ' w' → Q (xit e) a' w'
end

section
variable {C : Con} {R : List DV → Prop} {G : Glo} {B : Nat} {I₀ : Imm} {w₀ : World}

theorem Post.mono {k : K} {L L' : List Lp} {ρ ρ' : List D} {I I' : Imm} {μ μ' : Mu} {w w' : World} {Q : Exit → Act → World → Prop} (h : Post C R G B I₀ w₀ k L ρ I μ w Q) (hL : L <+: L') (hρ : ρ <+: ρ') (he : Evo I μ w I' μ' w') :
    Post C R G B I₀ w₀ k L' ρ' I' μ' w' Q :=
  fun e s ir L'' ρ'' I'' μ'' w'' a h1 h2 h3 h4 h5 h6 => h e s ir L'' ρ'' I'' μ'' w'' a h1 h2 (hL.trans h3) (hρ.trans h4) h5 (he.trans h6)

theorem chks_ok {r : Res} {L : List Lp} {ρ : List D} : ∀ {cs : List Ex} {ir : IR}, chks cs r = .ok ir → IR.wp C R ir L ρ → ∃ ir', r = .ok ir' ∧ IR.wp C R ir' L ρ ∧ ∀ c ∈ cs, c.eval ρ = some (.b true)
  | [], ir, h, hw => ⟨ir, h, hw, fun _ h => by cases h⟩
  | e :: cs, ir, h, hw => by
    have main : ∀ ir, (match chks cs r with | .ok ir => Res.ok (.chk e ir) | z => z) = .ok ir → IR.wp C R ir L ρ → ∃ ir', r = .ok ir' ∧ IR.wp C R ir' L ρ ∧ ∀ c ∈ e :: cs, c.eval ρ = some (.b true) := by
      intro ir h hw
      split at h
      · rename_i ir1 h1
        cases h
        obtain ⟨hc, hw⟩ := hw
        obtain ⟨ir', h2, h3, h4⟩ := chks_ok h1 hw
        exact ⟨ir', h2, h3, fun c hcm => by rcases List.mem_cons.1 hcm with rfl | h'; exact hc; exact h4 c h'⟩
      · rename_i z hz
        exact absurd h (hz ir)
    rw [chks.eq_def] at h
    split at h
    · rename_i heq; cases heq
    · rename_i l heq
      cases heq
      obtain ⟨ir', h2, h3, h4⟩ := chks_ok h hw
      exact ⟨ir', h2, h3, fun c hcm => by rcases List.mem_cons.1 hcm with rfl | h'; simp [Ex.eval]; exact h4 c h'⟩
    · rename_i l hne heq
      cases heq
      exact main ir h hw

theorem both_ok {q : Ex} {x y : Res} {ir : IR} (h : both q x y = .ok ir) : ∃ a b, x = .ok a ∧ y = .ok b ∧ ir = .ite q a b := by
  unfold both at h
  split at h
  · split at h
    · cases h; exact ⟨_, _, rfl, rfl, rfl⟩
    · rename_i hz; exact absurd h (hz _)
  · rename_i hz; exact absurd h (hz _)

/-- a guard, looked at -/
theorem yielded_of {all : List Oper} {j : Nat} {d : Tmp} {tmps : Array Value} (hd : (all[j]?).bind (·.dst) = some d) (b : Bool) (hv : tmps.getD d undef = .bool b) : yielded all.toArray tmps j = some b := by
  unfold yielded
  have h1 : (all.toArray[j]?).bind (·.dst) = some d := by simpa using hd
  rw [h1]
  have h2 : tmps[d]? = some (.bool b) := by
    rw [Array.getD_eq_getD_getElem?] at hv
    cases h : tmps[d]? with
    | none => rw [h] at hv; simp [undef] at hv
    | some x => rw [h] at hv; simp at hv; rw [hv]
  simp [h2]

theorem yielded_undef {all : List Oper} {j : Nat} {d : Tmp} {tmps : Array Value} (hd : (all[j]?).bind (·.dst) = some d) (hv : tmps.getD d undef = undef) : yielded all.toArray tmps j = none := by
  unfold yielded
  have h1 : (all.toArray[j]?).bind (·.dst) = some d := by simpa using hd
  rw [h1]
  rw [Array.getD_eq_getD_getElem?] at hv
  cases h : tmps[d]? with
  | none => simp [h]
  | some x => rw [h] at hv; simp at hv; subst hv; simp [h, undef]

theorem wpList_go {P : Program} {ops : Array Oper} {Q : Exit → Act → World → Prop} {o : Oper} {rest : List Oper} {a : Act} {w : World} (hw : Region.wanted o (yielded ops a.tmps) = true)
    (h : o.wp P a w (wpList P ops Q rest) Q) : wpList P ops Q (o :: rest) a w := by
  unfold wpList; rw [if_pos hw]; exact .inl h

theorem wpList_skip {P : Program} {ops : Array Oper} {Q : Exit → Act → World → Prop} {o : Oper} {rest : List Oper} {a : Act} {w : World} (hw : Region.wanted o (yielded ops a.tmps) = false)
    (h : wpList P ops Q rest (a.put o.dst undef) w) : wpList P ops Q (o :: rest) a w := by
  unfold wpList; rw [if_neg (by simp [hw])]; exact h

theorem FR.set {I : Imm} {μ : Mu} {w : World} {ρ : List D} {fr : List S} {a : Act} (h : FR I μ w ρ fr a) {s : S} {t : Nat} (hs : SR I μ w ρ s (a.tmps.getD t undef)) : FR I μ w ρ (fr.set t s) a := by
  refine ⟨by simp [h.len], fun t' => ?_, h.defers⟩
  by_cases ht : t = t'
  · subst ht
    by_cases hl : t < fr.length
    · simpa [List.getD, hl] using hs
    · simp [List.getD, hl, SR]
  · have := h.at_ t'
    simpa [List.getD, List.getElem?_set_ne ht] using this

/-! ### results and arguments -/

section
variable {I : Imm} {μ : Mu} {w : World} {ρ : List D} {P : Program} {h : Heap}

/-- a result, read -/
def resSem (tmps : Array Value) : ResultVar → Sem Value
  | .tmp t => pure (tmps.getD t undef)
  | .cell x t => do loadVar t (← asAddr (tmps.getD x undef))

theorem results_eq (fn : Func) (tmps : Array Value) : results fn tmps = (do
    let vs ← fn.results.mapM (resSem tmps)
    pure (if h : vs.size = 1 then vs[0] else .tuple vs)) := rfl

theorem resultS_sound (hW : WR G B I₀ w₀ I μ w ρ h) {fr : List S} {a : Act} (hf : FR I μ w ρ fr a) {rv : ResultVar} {p : Bool × List SL} (hr : resultS P G fr h rv = some p) :
    ∃ v, (resSem a.tmps rv).run P w = .ok v w ∧ VR I μ w ρ p.1 p.2 v := by
  cases rv with
  | tmp t =>
    simp only [resultS] at hr
    split at hr
    · rename_i g ls hg
      cases hr
      have := hf.at_ t
      rw [hg] at this
      exact ⟨_, rfl, this⟩
    · cases hr
  | cell x t =>
    simp only [resultS] at hr
    split at hr
    · rename_i l g n hl hg hn
      split at hr
      · rename_i ls hls
        cases hr
        obtain ⟨blk, off, vs, hv, hlen, hc, hrl⟩ := loadLs_sound hW hls (l?_sound hl (hf.at_ x))
        cases g
        · match vs, hlen with
          | [v], _ =>
            have h0 := hc 0 v (by simp)
            simp only [Nat.add_zero] at h0
            cases hrl with | cons h1 h2 =>
            cases h2
            exact ⟨v, by simp [resSem, hv, asAddr, loadVar, run_isAgg hg, h0], _, rfl, h1⟩
        · simp only [if_true] at hlen
          subst hlen
          exact ⟨.agg vs.toArray, by simp [resSem, hv, asAddr, loadVar, run_isAgg hg, run_sizeT hn, run_loadCells_at hc], vs, rfl, hrl⟩
      · cases hr
    · cases hr

theorem results_list (hW : WR G B I₀ w₀ I μ w ρ h) {fr : List S} {a : Act} (hf : FR I μ w ρ fr a) : ∀ {rvs : List ResultVar} {ps : List (Bool × List SL)}, optAll (rvs.map (resultS P G fr h)) = some ps →
    ∃ vs : List Value, (rvs.mapM (resSem a.tmps)).run P w = .ok vs w ∧ All2 (fun (p : Bool × List SL) u => VR I μ w ρ p.1 p.2 u) ps vs
  | [], ps, hr => by simp [optAll] at hr; subst hr; exact ⟨[], by simp, .nil⟩
  | rv :: rvs, ps, hr => by
    simp only [List.map_cons] at hr
    cases hq : resultS P G fr h rv with
    | none => rw [hq] at hr; simp [optAll] at hr
    | some p =>
      rw [hq] at hr
      simp only [optAll] at hr
      split at hr
      · rename_i ps' hps
        cases hr
        obtain ⟨v, hv, hvr⟩ := resultS_sound (P := P) hW hf hq
        obtain ⟨vs, hvs, hvsr⟩ := results_list hW hf hps
        refine ⟨v :: vs, ?_, .cons hvr hvsr⟩
        simp only [List.mapM_cons, Sem.run_bind]
        rw [hv]
        simp only [Result.andThen_ok]
        rw [hvs]
        rfl
      · cases hr

theorem results_sound (hW : WR G B I₀ w₀ I μ w ρ h) {fr : List S} {a : Act} (hf : FR I μ w ρ fr a) {fn : Func} {ps : List (Bool × List SL)} (hr : resultsS P G fn fr h = some ps) :
    ∃ v, (results fn a.tmps).run P w = .ok v w ∧ SR I μ w ρ (tupS ps) v := by
  obtain ⟨vs, h1, h2⟩ := results_list hW hf hr
  have hrun : (results fn a.tmps).run P w = .ok (if h : vs.toArray.size = 1 then vs.toArray[0] else .tuple vs.toArray) w := by
    rw [results_eq, Sem.run_bind, Array.mapM_eq_mapM_toList, Sem.run_map]
    rw [h1]
    rfl
  refine ⟨_, hrun, ?_⟩
  match ps, vs, h2 with
  | [], [], _ => exact ⟨[], rfl, .nil⟩
  | [(g, ls)], [v], .cons hv .nil => exact hv
  | p :: q :: ps, v :: u :: vs, h2 => exact ⟨v :: u :: vs, by simp, h2⟩

theorem argsOf_sound : ∀ {args : List S} {vs : List Value} {ps : List (Bool × List SL)}, argsOf args = some ps → All2 (SR I μ w ρ) args vs → All2 (fun (p : Bool × List SL) u => VR I μ w ρ p.1 p.2 u) ps vs
  | [], _, ps, h, .nil => by simp [argsOf] at h; subst h; exact .nil
  | .val g ls :: r, _, ps, h, .cons a b => by
    simp only [argsOf] at h
    split at h
    · rename_i vs' h1; cases h; exact .cons a (argsOf_sound h1 b)
    · cases h
  | .x :: _, _, _, h, _ => by simp [argsOf] at h
  | .u :: _, _, _, h, _ => by simp [argsOf] at h
  | .tup _ :: _, _, _, h, _ => by simp [argsOf] at h

theorem lsR_data' : ∀ {es : List Ex} {ds : List D} {vs : List Value}, Ex.evals ρ es = some ds → LsR I μ w ρ (es.map .e) vs → All2 (DR I w) ds vs
  | [], ds, vs, he, hr => by simp [Ex.evals] at he; subst he; cases hr; exact .nil
  | e :: es, ds, vs, he, hr => by
    simp only [Ex.evals] at he
    split at he
    · rename_i d ds' h1 h2
      cases he
      cases hr with
      | cons a b =>
        obtain ⟨d', hd', hdr⟩ := a
        rw [h1] at hd'
        cases hd'
        exact .cons hdr (lsR_data' h2 b)
    · cases he

theorem lsR_data {ls : List SL} {es : List Ex} {ds : List D} {vs : List Value} (h : exLs ls = some es) (he : Ex.evals ρ es = some ds) (hr : LsR I μ w ρ ls vs) : All2 (DR I w) ds vs := by
  rw [exLs_get h] at hr
  exact lsR_data' he hr

theorem exVs_sound : ∀ {ps : List (Bool × List SL)} {xs : List XV} {as : List DV} {vs : List Value}, exVs ps = some xs → evalVs ρ xs = some as → All2 (fun (p : Bool × List SL) u => VR I μ w ρ p.1 p.2 u) ps vs → All2 (DVR I w) as vs
  | [], xs, as, _, h, he, .nil => by simp [exVs] at h; subst h; simp [evalVs] at he; subst he; exact .nil
  | (g, ls) :: r, xs, as, _, h, he, .cons a b => by
    simp only [exVs] at h
    split at h
    · rename_i es xs' h1 h2
      cases h
      simp only [evalVs] at he
      split at he
      · rename_i ds as' h3 h4
        cases he
        refine .cons ?_ (exVs_sound h2 h4 b)
        unfold DVR
        cases g
        · obtain ⟨l, rfl, hr⟩ := a
          have := lsR_data h1 h3 (All2.cons hr .nil)
          cases this with | cons p q => cases q; exact ⟨_, rfl, p⟩
        · obtain ⟨us, hv, hr⟩ := a
          exact ⟨us, hv, lsR_data h1 h3 hr⟩
      · cases he
    · cases h

theorem vars_data {env : List D} {k : Nat} {ds : List D} {vs : List Value} (hv : VarsAt env k ds) (hr : All2 (DR I w) ds vs) : LsR I μ w env (varsFrom k ds.length) vs := by
  refine All2.of_get (by simp [varsFrom]; exact hr.length) fun i l v hl hvi => ?_
  obtain ⟨d, hd, hdr⟩ := hr.get' hvi
  have hi : i < ds.length := (List.getElem?_eq_some_iff.1 hd).1
  simp [varsFrom, hi] at hl
  subst hl
  exact ⟨d, by simp only [Ex.eval]; exact hv i d hd, hdr⟩

theorem shapeVs_sound {env : List D} : ∀ {rs : List DV} {vs : List Value} {k : Nat}, VarsAt env k (leavesOf rs) → All2 (DVR I w) rs vs → All2 (fun (p : Bool × List SL) u => VR I μ w env p.1 p.2 u) (shapeVs k (shapeOf rs)) vs
  | [], _, k, _, .nil => .nil
  | (g, ds) :: r, _, k, hv, .cons a b => by
    simp only [leavesOf] at hv
    refine .cons ?_ (shapeVs_sound hv.right b)
    cases g
    · obtain ⟨d, hd, hr⟩ := a
      simp only at hd
      subst hd
      have := vars_data (μ := μ) hv.left (All2.cons hr .nil)
      cases this with | cons p q => cases q; exact ⟨_, rfl, p⟩
    · obtain ⟨us, hu, hr⟩ := a
      exact ⟨us, hu, vars_data hv.left hr⟩

theorem shapeLen_leaves : ∀ (rs : List DV), shapeLen (shapeOf rs) = (leavesOf rs).length
  | [] => rfl
  | (g, ds) :: r => by simp [shapeOf, shapeLen, leavesOf, shapeLen_leaves r]

theorem tupS_sound {env : List D} {rs : List DV} {v : Value} {k : Nat} (hv : VarsAt env k (leavesOf rs)) (hr : RsR I w rs v) : SR I μ w env (tupS (shapeVs k (shapeOf rs))) v := by
  match rs, hr with
  | [], hr => obtain ⟨vs, h1, h2⟩ := hr; exact ⟨vs, h1, shapeVs_sound hv h2⟩
  | [(g, ds)], hr =>
    have := shapeVs_sound (μ := μ) hv (All2.cons hr .nil)
    cases this with | cons p q => exact p
  | p :: q :: r, hr =>
    obtain ⟨vs, h1, h2⟩ := hr
    exact ⟨vs, h1, shapeVs_sound hv h2⟩

theorem VR.exs {g : Bool} {ls : List SL} {es : List Ex} {v : Value} {μ' : Mu} (h : exLs ls = some es) (hv : VR I μ w ρ g ls v) : VR I μ' w ρ g ls v := by
  have h1 := exLs_get h
  subst h1
  cases g
  · obtain ⟨l, hl, hr⟩ := hv
    match es, hl with
    | [e], hl => simp at hl; subst hl; exact ⟨_, rfl, hr⟩
  · obtain ⟨vs, hvv, hr⟩ := hv
    exact ⟨vs, hvv, All2.map_left (R := LR I μ' w ρ) ((All2.of_map_left (R := LR I μ w ρ) hr).imp fun _ _ h => h)⟩

theorem SR.exs {ps : List (Bool × List SL)} {xs : List XV} {v : Value} {μ' : Mu} (h : exVs ps = some xs) (hv : SR I μ w ρ (tupS ps) v) : SR I μ' w ρ (tupS ps) v := by
  have hall : ∀ {ps : List (Bool × List SL)} {xs : List XV} {vs : List Value}, exVs ps = some xs → All2 (fun (p : Bool × List SL) u => VR I μ w ρ p.1 p.2 u) ps vs → All2 (fun (p : Bool × List SL) u => VR I μ' w ρ p.1 p.2 u) ps vs := by
    intro ps
    induction ps with
    | nil => intro xs vs _ h; cases h; exact .nil
    | cons p r ih =>
      intro xs vs h h'
      obtain ⟨g, ls⟩ := p
      simp only [exVs] at h
      split at h
      · rename_i es xs' h1 h2
        cases h' with | cons a b => exact .cons (VR.exs h1 a) (ih h2 b)
      · cases h
  match ps, hv with
  | [], hv => obtain ⟨vs, h1, h2⟩ := hv; exact ⟨vs, h1, hall h h2⟩
  | [(g, ls)], hv =>
    have := hall h (All2.cons (b := v) (bs := []) hv .nil)
    cases this with | cons p q => exact p
  | p :: q :: r, hv => obtain ⟨vs, h1, h2⟩ := hv; exact ⟨vs, h1, hall h h2⟩
end

/-! ### the executor -/

variable (C R G B I₀ w₀) in
def SCode (E : Env) (n : Nat) : Prop := ∀ me c st k ir L ρ I μ w a Q, exec E n me (.code c) st k = .ok ir → IR.wp C R ir L ρ → StR E.G B I₀ w₀ st L ρ I μ w a → Post C R E.G B I₀ w₀ k L ρ I μ w Q → c.wp E.P Q a w
variable (C R G B I₀ w₀) in
def SLoop (E : Env) (n : Nat) : Prop := ∀ me b st k ir L ρ I μ w a Q, E.unr.contains me = true → exec E n me (.code (.loop b)) st k = .ok ir → IR.wp C R ir L ρ → StR E.G B I₀ w₀ st L ρ I μ w a → Post C R E.G B I₀ w₀ k L ρ I μ w Q → LW E.P b Q a w
variable (C R G B I₀ w₀) in
def SGen (E : Env) (n : Nat) : Prop := ∀ me b ms tries st k ir L ρ I μ w a Q, exec E n me (.gen b ms tries) st k = .ok ir → IR.wp C R ir L ρ → StR E.G B I₀ w₀ st L ρ I μ w a → Post C R E.G B I₀ w₀ k L ρ I μ w Q → LW E.P b Q a w
variable (C R G B I₀ w₀) in
def SOps (E : Env) (n : Nat) : Prop := ∀ me all todo st k ir L ρ I μ w a Q, exec E n me (.ops all todo) st k = .ok ir → IR.wp C R ir L ρ → StR E.G B I₀ w₀ st L ρ I μ w a → Post C R E.G B I₀ w₀ k L ρ I μ w Q → wpList E.P all.toArray Q todo a w
variable (C R G B I₀ w₀) in
def SGo (E : Env) (n : Nat) : Prop := ∀ me f args (o : Oper) all rest st k ir L ρ I μ w a Q vs, exec E n me (.go f args o all rest) st k = .ok ir → IR.wp C R ir L ρ → StR E.G B I₀ w₀ st L ρ I μ w a → All2 (SR I μ w ρ) args vs → Post C R E.G B I₀ w₀ k L ρ I μ w Q →
  (∃ fn, E.P.funcs[f]? = some fn ∧ fn.body.isNone = false ∧ (fn.name == "runtime.NumGoroutine") = false) ∧
  Calls E.P f vs.toArray w fun e w' => match e with
    | .returned v => wpList E.P all.toArray Q rest (a.put o.dst v) w'
    | _ => False

variable {E : Env}

theorem loop_step {n : Nat} (hC : SCode C R B I₀ w₀ E n) (hL : SLoop C R B I₀ w₀ E n) : SLoop C R B I₀ w₀ E (n + 1) := by
  intro me b st k ir L ρ I μ w a Q hu hx hw hs hk
  simp only [exec] at hx
  rw [if_pos hu] at hx
  refine .mk (fun a' w' => LW E.P b Q a' w') a w (hC me b st _ ir L ρ I μ w a _ hx hw hs ?_) (fun _ _ h => h)
  intro e s ir' L' ρ' I' μ' w' a' h1 h2 h3 h4 h5 h6
  cases e with
  | normal => exact hL me b s k ir' L' ρ' I' μ' w' a' Q hu h1 h2 h5 (hk.mono h3 h4 h6)
  | exit id => exact hk (.exit id) s ir' L' ρ' I' μ' w' a' h1 h2 h3 h4 h5 h6
  | ret => exact hk .ret s ir' L' ρ' I' μ' w' a' h1 h2 h3 h4 h5 h6

end
end Go.Proofs.Ytffahdloddkcfaa.Sx
