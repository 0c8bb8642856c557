/-
  What a loop's head forgets and makes general.
-/
import Derived.Test.YtffahdloddkcfaaSimpleb
namespace Go.Proofs.Ytffahdloddkcfaa.Sx
open Go
set_option linter.unnecessarySimpa false
set_option linter.unusedSimpArgs false
set_option linter.unusedVariables false

/-! ### the loop rule -/

/-- The body, again and again, comes to an end. -/
inductive LW (P : Program) (c : Code) (Q : Exit → Act → World → Prop) : Act → World → Prop
  | mk (next : Act → World → Prop) (a : Act) (w : World) (h : c.wp P (Exit.then next Q) a w) (hn : ∀ a' w', next a' w' → LW P c Q a' w') : LW P c Q a w

theorem wp_loop_LW {P : Program} {c : Code} {Q : Exit → Act → World → Prop} {a : Act} {w : World} (h : LW P c Q a w) : (Code.loop c).wp P Q a w := by
  intro b k cs
  have key : ∃ e a' w', Q e a' w' ∧ Arrives P (lone (b.at a (.code c :: .inLoop c :: k)) cs w) b k cs e a' w' := by
    induction h with
    | mk next a w h hn ih =>
      obtain ⟨e, a₁, w₁, hq, harr⟩ := h b (.inLoop c :: k) cs
      cases e with
      | normal =>
        obtain ⟨e₂, a₂, w₂, hq₂, harr₂⟩ := ih a₁ w₁ hq
        exact ⟨e₂, a₂, w₂, hq₂, .of_steps (Steps.trans harr (.one step_inLoop)) harr₂⟩
      | exit id => exact ⟨_, a₁, w₁, hq, .pass (x := .inLoop c) rfl (fun _ _ => .inl (by simp)) harr⟩
      | goto l => exact ⟨_, a₁, w₁, hq, .pass (x := .inLoop c) rfl (fun _ _ => .inl (by simp)) harr⟩
      | ret => exact ⟨_, a₁, w₁, hq, .pass (x := .inLoop c) rfl (fun _ _ => .inl (by simp)) harr⟩
      | panic ch => exact ⟨_, a₁, w₁, hq, .pass (x := .inLoop c) rfl (fun _ _ => .inl (by simp)) harr⟩
      | outgrown => exact ⟨_, a₁, w₁, hq, .pass (x := .inLoop c) rfl (fun _ _ => .inl (by simp)) harr⟩
  obtain ⟨e, a', w', hq, harr⟩ := key
  exact ⟨e, a', w', hq, .of_steps (.one step_loop) harr⟩

/-! ### what is the same -/

theorem D.same_eq {a b : D} (h : D.same a b = true) : a = b := by
  unfold D.same at h
  split at h
  · simp at h; rw [h]
  · simp at h; rw [h.1, h.2]
  · simp at h; rw [h]
  · simp at h; rw [h]
  · cases h

mutual
theorem Ex.same_eq : ∀ {a b : Ex}, Ex.same a b = true → a = b := by
  intro a b h
  unfold Ex.same at h
  split at h
  all_goals first
    | (simp only [Bool.and_eq_true, beq_iff_eq] at h)
    | skip
  · rw [h]
  · rw [D.same_eq h]
  · obtain ⟨⟨h1, h2⟩, h3⟩ := h; rw [h1, Ex.same_eq h2, Ex.same_eq h3]
  · obtain ⟨h1, h2⟩ := h; rw [h1, Ex.same_eq h2]
  · obtain ⟨h1, h2⟩ := h; rw [h1, Ex.same_eq h2]
  · obtain ⟨⟨h1, h2⟩, h3⟩ := h; rw [Ex.same_eq h1, Ex.same_eq h2, Ex.same_eq h3]
  · rw [Ex.same_eq h]
  · obtain ⟨h1, h2⟩ := h; rw [Ex.same_eq h1, h2]
  · obtain ⟨⟨h1, h2⟩, h3⟩ := h; rw [Ex.same_eq h1, Ex.same_eq h2, h3]
  · rw [Ex.sames_eq h]
  · obtain ⟨h1, h2⟩ := h; rw [Ex.same_eq h1, Ex.same_eq h2]
  · obtain ⟨⟨h1, h2⟩, h3⟩ := h; rw [h1, Ex.same_eq h2, Ex.same_eq h3]
  · obtain ⟨h1, h2⟩ := h; rw [Ex.same_eq h1, Ex.sames_eq h2]
  · obtain ⟨⟨⟨h1, h2⟩, h3⟩, h4⟩ := h; rw [Ex.same_eq h1, Ex.same_eq h2, h3, Ex.sames_eq h4]
  · obtain ⟨⟨h1, h2⟩, h3⟩ := h; rw [Ex.same_eq h1, Ex.same_eq h2, Ex.same_eq h3]
  · cases h
theorem Ex.sames_eq : ∀ {a b : List Ex}, Ex.sames a b = true → a = b := by
  intro a b h
  unfold Ex.sames at h
  split at h
  · rfl
  · simp only [Bool.and_eq_true] at h
    rw [Ex.same_eq h.1, Ex.sames_eq h.2]
  · cases h
end

section
variable {I : Imm} {μ : Mu} {w : World} {ρ : List D}

theorem SL.same_sound {g l : SL} {v : Value} (h : SL.same g l = true) (hr : LR I μ w ρ l v) : LR I μ w ρ g v := by
  unfold SL.same at h
  split at h
  · exact hr.one
  · rw [Ex.same_eq h]; exact hr
  · simp at h; rw [h.1, h.2]; exact hr
  · simp at h; obtain ⟨⟨⟨h1, h2⟩, h3⟩, h4⟩ := h; rw [h1, h2, h3, h4]; exact hr
  · simp at h; obtain ⟨⟨⟨⟨⟨h1, h2⟩, h3⟩, h4⟩, h5⟩, h6⟩ := h; rw [h1, h2, h3, h4, Ex.same_eq h5, h6]; exact hr
  · simp at h; obtain ⟨⟨⟨h1, h2⟩, h3⟩, h4⟩ := h; rw [Ex.same_eq h1, Ex.same_eq h2, h3, h4]; exact hr
  · simp at h; rw [h]; exact hr
  · simp at h; obtain ⟨⟨⟨h1, h2⟩, h3⟩, h4⟩ := h; rw [h1, Ex.same_eq h2, h3, h4]; exact hr
  · simp at h; obtain ⟨⟨h1, h2⟩, h3⟩ := h; rw [h1, h2, Ex.same_eq h3]; exact hr
  · simp at h; rw [h.1, h.2]; exact hr
  · cases h

theorem SL.sames_sound : ∀ {as l : List SL} {vs : List Value}, SL.sames as l = true → LsR I μ w ρ l vs → LsR I μ w ρ as vs
  | [], [], _, _, h => h
  | a :: as, b :: l, _, h, .cons h1 h2 => by
    simp only [SL.sames, Bool.and_eq_true] at h
    exact .cons (SL.same_sound h.1 h1) (SL.sames_sound h.2 h2)
  | [], _ :: _, _, h, _ => by simp [SL.sames] at h
  | _ :: _, [], _, h, _ => by simp [SL.sames] at h

theorem VR.same_sound {g : Bool} {l1 l2 : List SL} {v : Value} (h : SL.sames l1 l2 = true) (hr : VR I μ w ρ g l2 v) : VR I μ w ρ g l1 v := by
  cases g
  · obtain ⟨l, rfl, hr⟩ := hr
    match l1, h with
    | [g], h =>
      simp only [SL.sames, Bool.and_true] at h
      exact ⟨g, rfl, SL.same_sound h hr⟩
    | [], h => simp [SL.sames] at h
    | _ :: _ :: _, h => simp [SL.sames] at h
  · obtain ⟨vs, hv, hr⟩ := hr
    exact ⟨vs, hv, SL.sames_sound h hr⟩

theorem SL.samesT_sound : ∀ {a b : List (Bool × List SL)} {vs : List Value}, SL.samesT a b = true → All2 (fun (p : Bool × List SL) u => VR I μ w ρ p.1 p.2 u) b vs → All2 (fun (p : Bool × List SL) u => VR I μ w ρ p.1 p.2 u) a vs
  | [], [], _, _, h => h
  | (ga, la) :: a, (gb, lb) :: b, _, h, .cons h1 h2 => by
    simp only [SL.samesT, Bool.and_eq_true, beq_iff_eq] at h
    obtain ⟨⟨rfl, h3⟩, h4⟩ := h
    exact .cons (VR.same_sound h3 h1) (SL.samesT_sound h4 h2)
  | [], _ :: _, _, h, _ => by simp [SL.samesT] at h
  | _ :: _, [], _, h, _ => by simp [SL.samesT] at h

theorem S.same_sound {g s : S} {v : Value} (h : S.same g s = true) (hr : SR I μ w ρ s v) : SR I μ w ρ g v := by
  unfold S.same at h
  split at h
  · trivial
  · exact hr
  · rename_i g1 l1 g2 l2
    simp only [Bool.and_eq_true, beq_iff_eq] at h
    obtain ⟨rfl, h⟩ := h
    cases g1
    · obtain ⟨l, rfl, hr⟩ := hr
      match l1, h with
      | [g], h =>
        simp only [SL.sames, Bool.and_true] at h
        exact ⟨g, rfl, SL.same_sound h hr⟩
      | [], h => simp [SL.sames] at h
      | _ :: _ :: _, h => simp [SL.sames] at h
    · obtain ⟨vs, hv, hr⟩ := hr
      exact ⟨vs, hv, SL.sames_sound h hr⟩
  · obtain ⟨vs, hv, hr⟩ := hr
    exact ⟨vs, hv, SL.samesT_sound h hr⟩
  · cases h

/-! ### other variables -/

/-- what is defined by the first variables keeps its value, whatever stands behind them -/
theorem Ex.rebase {ρ₀ ρ' ρ'' : List D} {t : Ex} {d d' : D} (h0 : t.eval ρ₀ = some d') (h1 : ρ₀ <+: ρ') (h2 : ρ₀ <+: ρ'') (h : t.eval ρ' = some d) : t.eval ρ'' = some d := by
  have := Ex.eval_pre h1 t h0
  rw [this] at h
  cases h
  exact Ex.eval_pre h2 t h0

theorem LR.rebase {I₀ : Imm} {μ₀ : Mu} {w₀ : World} {ρ₀ ρ' ρ'' : List D} {l : SL} {v v₀ : Value} (h0 : LR I₀ μ₀ w₀ ρ₀ l v₀) (h1 : ρ₀ <+: ρ') (h2 : ρ₀ <+: ρ'') (h : LR I μ w ρ' l v) : LR I μ w ρ'' l v := by
  cases l with
  | x => exact h
  | e t => obtain ⟨d0, e0, _⟩ := h0; obtain ⟨d, e, hr⟩ := h; exact ⟨d, Ex.rebase e0 h1 h2 e, hr⟩
  | p r off => exact h
  | dyn r b s n i j =>
    obtain ⟨_, _, _, _, e0, _⟩ := h0
    obtain ⟨x, k, m, hx, hi, h3⟩ := h
    exact ⟨x, k, m, hx, Ex.rebase e0 h1 h2 hi, h3⟩
  | elt t i n j =>
    obtain ⟨_, _, _, _, _, _, e0, e1, _⟩ := h0
    obtain ⟨xs, k, m, r, blk, off, e2, e3, h3⟩ := h
    exact ⟨xs, k, m, r, blk, off, Ex.rebase e0 h1 h2 e2, Ex.rebase e1 h1 h2 e3, h3⟩
  | sc r b s n => exact h
  | g k => exact h
  | ge k i sz j =>
    obtain ⟨_, _, _, _, _, _, e0, _⟩ := h0
    obtain ⟨x, n, cap, kk, m, hx, hi, h3⟩ := h
    exact ⟨x, n, cap, kk, m, hx, Ex.rebase e0 h1 h2 hi, h3⟩
  | gs k sz lo =>
    obtain ⟨_, _, _, _, _, _, _, _, e0, _⟩ := h0
    obtain ⟨b, n, cap, kk, m, p, c, hx, hi, h3⟩ := h
    exact ⟨b, n, cap, kk, m, p, c, hx, Ex.rebase e0 h1 h2 hi, h3⟩
  | clo f c => exact h

theorem LsR.rebase {I₀ : Imm} {μ₀ : Mu} {w₀ : World} {ρ₀ ρ' ρ'' : List D} (h1 : ρ₀ <+: ρ') (h2 : ρ₀ <+: ρ'') : ∀ {ls : List SL} {vs vs₀ : List Value}, LsR I₀ μ₀ w₀ ρ₀ ls vs₀ → LsR I μ w ρ' ls vs → LsR I μ w ρ'' ls vs
  | [], _, _, .nil, .nil => .nil
  | _ :: _, _, _, .cons a0 b0, .cons a b => .cons (LR.rebase a0 h1 h2 a) (LsR.rebase h1 h2 b0 b)

theorem VR.rebase {I₀ : Imm} {μ₀ : Mu} {w₀ : World} {ρ₀ ρ' ρ'' : List D} {g : Bool} {ls : List SL} {v v₀ : Value} (h0 : VR I₀ μ₀ w₀ ρ₀ g ls v₀) (h1 : ρ₀ <+: ρ') (h2 : ρ₀ <+: ρ'') (h : VR I μ w ρ' g ls v) : VR I μ w ρ'' g ls v := by
  cases g
  · obtain ⟨l, rfl, h⟩ := h
    obtain ⟨l', e, h0⟩ := h0
    cases e
    exact ⟨l, rfl, LR.rebase h0 h1 h2 h⟩
  · obtain ⟨vs, hv, h⟩ := h
    obtain ⟨vs0, _, h0⟩ := h0
    exact ⟨vs, hv, LsR.rebase h1 h2 h0 h⟩

theorem SR.rebase {I₀ : Imm} {μ₀ : Mu} {w₀ : World} {ρ₀ ρ' ρ'' : List D} {s : S} {v v₀ : Value} (h0 : SR I₀ μ₀ w₀ ρ₀ s v₀) (h1 : ρ₀ <+: ρ') (h2 : ρ₀ <+: ρ'') (h : SR I μ w ρ' s v) : SR I μ w ρ'' s v := by
  cases s with
  | x => trivial
  | u => exact h
  | val g ls => exact VR.rebase h0 h1 h2 h
  | tup xs =>
    obtain ⟨vs, hv, h⟩ := h
    obtain ⟨vs0, hv0, h0⟩ := h0
    refine ⟨vs, hv, ?_⟩
    clear hv hv0
    induction h generalizing vs0 with
    | nil => exact .nil
    | cons a b ih =>
      cases h0 with
      | cons a0 b0 => exact .cons (VR.rebase a0 h1 h2 a) (ih _ b0)

/-! ### expressions of leaves, evaluated -/

theorem evals_length {ρ : List D} : ∀ {es : List Ex} {ds : List D}, Ex.evals ρ es = some ds → es.length = ds.length
  | [], ds, h => by simp [Ex.evals] at h; subst h; rfl
  | e :: es, ds, h => by
    simp only [Ex.evals] at h
    split at h
    · rename_i d ds' h1 h2; cases h; simp [evals_length h2]
    · cases h

theorem evals_get {ρ : List D} : ∀ {es : List Ex} {ds : List D}, Ex.evals ρ es = some ds → ∀ {i : Nat} {e : Ex}, es[i]? = some e → ∃ d, ds[i]? = some d ∧ e.eval ρ = some d
  | [], ds, h, i, e, he => by simp at he
  | e0 :: es, ds, h, i, e, he => by
    simp only [Ex.evals] at h
    split at h
    · rename_i d ds' h1 h2
      cases h
      cases i with
      | zero => simp at he; subst he; exact ⟨d, by simp, h1⟩
      | succ i => simpa using evals_get h2 (by simpa using he)
    · cases h

theorem evals_append {ρ : List D} : ∀ {es fs : List Ex} {ds : List D}, Ex.evals ρ (es ++ fs) = some ds → ∃ d1 d2, ds = d1 ++ d2 ∧ Ex.evals ρ es = some d1 ∧ Ex.evals ρ fs = some d2
  | [], fs, ds, h => ⟨[], ds, rfl, rfl, h⟩
  | e :: es, fs, ds, h => by
    simp only [List.cons_append, Ex.evals] at h
    split at h
    · rename_i d ds' h1 h2
      cases h
      obtain ⟨d1, d2, rfl, h3, h4⟩ := evals_append h2
      exact ⟨d :: d1, d2, rfl, by simp [Ex.evals, h1, h3], h4⟩
    · cases h

/-- the variables from k on hold these data -/
def VarsAt (env : List D) (k : Nat) (ds : List D) : Prop := ∀ i d, ds[i]? = some d → env[k + i]? = some d

theorem VarsAt.left {env : List D} {k : Nat} {d1 d2 : List D} (h : VarsAt env k (d1 ++ d2)) : VarsAt env k d1 := fun i d hd => h i d (by rw [List.getElem?_append_left (List.getElem?_eq_some_iff.1 hd).1]; exact hd)
theorem VarsAt.right {env : List D} {k : Nat} {d1 d2 : List D} (h : VarsAt env k (d1 ++ d2)) : VarsAt env (k + d1.length) d2 := fun i d hd => by
  have := h (d1.length + i) d (by rw [List.getElem?_append_right (by omega)]; simpa using hd)
  rwa [Nat.add_assoc]
theorem VarsAt.head {env : List D} {k : Nat} {d : D} {ds : List D} (h : VarsAt env k (d :: ds)) : env[k]? = some d := h 0 d (by simp)
theorem VarsAt.tail {env : List D} {k : Nat} {d : D} {ds : List D} (h : VarsAt env k (d :: ds)) : VarsAt env (k + 1) ds := fun i d' hd => by
  have := h (i + 1) d' (by simpa using hd)
  rwa [Nat.add_assoc, Nat.add_comm 1 i]
theorem VarsAt.self (ρ ds : List D) : VarsAt (ρ ++ ds) ρ.length ds := fun i d hd => by rw [List.getElem?_append_right (by omega)]; simpa using hd

/-- leaves that are expressions, and the variables that stand for them -/
theorem genLs_sound {env : List D} : ∀ {ls : List SL} {k : Nat} {es : List Ex} {ls' : List SL} {ds : List D} {vs : List Value}, genLs k ls = some (es, ls') → Ex.evals ρ es = some ds → VarsAt env k ds →
    LsR I μ w ρ ls vs → LsR I μ w env ls' vs
  | [], k, es, ls', ds, vs, h, _, _, hr => by simp [genLs] at h; obtain ⟨_, rfl⟩ := h; cases hr; exact .nil
  | .e t :: ls, k, es, ls', ds, vs, h, he, hv, hr => by
    simp only [genLs] at h
    split at h
    · rename_i es1 ls1 h1
      cases h
      simp only [Ex.evals] at he
      split at he
      · rename_i d ds' h2 h3
        cases he
        cases hr with
        | cons a b =>
          obtain ⟨d', e', hd⟩ := a
          rw [h2] at e'
          cases e'
          exact .cons ⟨d, by simp only [Ex.eval]; exact hv.head, hd⟩ (genLs_sound h1 h3 hv.tail b)
      · cases he
    · cases h
  | .x :: _, _, _, _, _, _, h, _, _, _ => by simp [genLs] at h
  | .p .. :: _, _, _, _, _, _, h, _, _, _ => by simp [genLs] at h
  | .dyn .. :: _, _, _, _, _, _, h, _, _, _ => by simp [genLs] at h
  | .elt .. :: _, _, _, _, _, _, h, _, _, _ => by simp [genLs] at h
  | .sc .. :: _, _, _, _, _, _, h, _, _, _ => by simp [genLs] at h
  | .g .. :: _, _, _, _, _, _, h, _, _, _ => by simp [genLs] at h
  | .ge .. :: _, _, _, _, _, _, h, _, _, _ => by simp [genLs] at h
  | .clo .. :: _, _, _, _, _, _, h, _, _, _ => by simp [genLs] at h

theorem genLs_shape : ∀ {ls : List SL} {k : Nat} {es : List Ex} {ls' : List SL}, genLs k ls = some (es, ls') → ls' = varsFrom k ls.length ∧ es.length = ls.length
  | [], k, es, ls', h => by simp [genLs] at h; obtain ⟨rfl, rfl⟩ := h; simp [varsFrom]
  | .e t :: ls, k, es, ls', h => by
    simp only [genLs] at h
    split at h
    · rename_i es1 ls1 h1
      cases h
      obtain ⟨h2, h3⟩ := genLs_shape h1
      refine ⟨?_, by simp [h3]⟩
      rw [h2]
      simp only [varsFrom, List.length_cons, List.range_succ_eq_map, List.map_cons, List.map_map, Nat.add_zero]
      congr 1
      apply List.map_congr_left
      intro j _
      simp only [Function.comp_apply]
      congr 2
      omega
    · cases h
  | .x :: _, _, _, _, h => by simp [genLs] at h
  | .p .. :: _, _, _, _, h => by simp [genLs] at h
  | .dyn .. :: _, _, _, _, h => by simp [genLs] at h
  | .elt .. :: _, _, _, _, h => by simp [genLs] at h
  | .sc .. :: _, _, _, _, h => by simp [genLs] at h
  | .g .. :: _, _, _, _, h => by simp [genLs] at h
  | .ge .. :: _, _, _, _, h => by simp [genLs] at h
  | .clo .. :: _, _, _, _, h => by simp [genLs] at h

/-- variables that hold data, as leaves -/
theorem varsFrom_sound {env : List D} : ∀ {ls : List SL} {es : List Ex} {ds : List D} {k : Nat} {vs : List Value}, exLs ls = some es → Ex.evals ρ es = some ds → VarsAt env k ds → LsR I μ w ρ ls vs → LsR I μ w env (varsFrom k ls.length) vs := by
  intro ls es ds k vs h he hv hr
  have h1 := exLs_get h
  subst h1
  have hr' := All2.of_map_left hr
  have hl := evals_length he
  refine All2.of_get (by simp [varsFrom]; have := hr'.length; simpa using this) fun i l v hi hvi => ?_
  obtain ⟨e, hei, d, hed, hd⟩ := hr'.get' hvi
  have hil : i < es.length := (List.getElem?_eq_some_iff.1 hei).1
  simp [varsFrom, hil] at hi
  subst hi
  refine ⟨d, ?_, hd⟩
  simp only [Ex.eval]
  obtain ⟨d', hd', he'⟩ := evals_get he hei
  rw [hed] at he'
  cases he'
  exact hv i d hd'

theorem getD_cons_succ {α : Type} (a d : α) (l : List α) (j : Nat) : (a :: l).getD (j + 1) d = l.getD j d := by simp [List.getD]

/-- the frame at the loop's head -/
theorem genFr_sound {env : List D} (hp : ρ <+: env) (ds : List Nat) : ∀ (fr : List S) (t k : Nat) {dd : List D}, Ex.evals ρ (genFr ds t k fr).1 = some dd → VarsAt env k dd →
    (genFr ds t k fr).2.length = fr.length ∧ ∀ j v, SR I μ w ρ (fr.getD j .x) v → SR I μ w env ((genFr ds t k fr).2.getD j .x) v
  | [], t, k, dd, _, _ => ⟨rfl, fun j v _ => by simp [genFr, SR]⟩
  | s :: r, t, k, dd, he, hv => by
    have hno : ∀ (s' : S), (genFr ds t k (s :: r)) = ((genFr ds (t + 1) k r).1, s' :: (genFr ds (t + 1) k r).2) → (∀ v, SR I μ w ρ s v → SR I μ w env s' v) →
        (genFr ds t k (s :: r)).2.length = (s :: r).length ∧ ∀ j v, SR I μ w ρ ((s :: r).getD j .x) v → SR I μ w env ((genFr ds t k (s :: r)).2.getD j .x) v := by
      intro s' heq hs'
      rw [heq] at he ⊢
      obtain ⟨h1, h2⟩ := genFr_sound hp ds r (t + 1) k he hv
      refine ⟨by simp [h1], fun j v hj => ?_⟩
      cases j with
      | zero => exact hs' v hj
      | succ j => rw [getD_cons_succ] at hj ⊢; exact h2 j v hj
    by_cases hds : ds.contains t = true
    · cases s with
      | val g ls =>
        cases hg : genLs k ls with
        | none => exact hno .x (by simp only [genFr]; rw [if_pos hds, hg]) (fun _ _ => trivial)
        | some q =>
          obtain ⟨es, ls'⟩ := q
          have heq : genFr ds t k (.val g ls :: r) = (es ++ (genFr ds (t + 1) (k + es.length) r).1, .val g ls' :: (genFr ds (t + 1) (k + es.length) r).2) := by
            simp only [genFr]; rw [if_pos hds, hg]
          rw [heq] at he ⊢
          obtain ⟨d1, d2, rfl, h1, h2⟩ := evals_append he
          have hl := evals_length h1
          obtain ⟨h3, h4⟩ := genFr_sound hp ds r (t + 1) (k + es.length) h2 (hl ▸ hv.right)
          refine ⟨by simp [h3], fun j v hj => ?_⟩
          cases j with
          | zero =>
            show VR I μ w env g ls' v
            have hj : VR I μ w ρ g ls v := hj
            cases g
            · obtain ⟨l, rfl, hr⟩ := hj
              have := genLs_sound hg h1 hv.left (All2.cons hr .nil)
              cases this with
              | cons a b => cases b; exact ⟨_, rfl, a⟩
            · obtain ⟨vs, hvv, hr⟩ := hj
              exact ⟨vs, hvv, genLs_sound hg h1 hv.left hr⟩
          | succ j => rw [getD_cons_succ] at hj ⊢; exact h4 j v hj
      | x => exact hno .x (by simp only [genFr]; rw [if_pos hds]) (fun _ _ => trivial)
      | u => exact hno .x (by simp only [genFr]; rw [if_pos hds]) (fun _ _ => trivial)
      | tup vs => exact hno .x (by simp only [genFr]; rw [if_pos hds]) (fun _ _ => trivial)
    · exact hno s (by simp only [genFr]; rw [if_neg hds]) (fun v h => h.mono (Evo.refl _ _ _) hp)

/-- the frame at the loop's end is the head's again -/
theorem backFr_sound {env ρ' : List D} {I₀ : Imm} {μ₀ : Mu} {w₀ : World} (hp : ρ <+: ρ') (hpe : ρ <+: env) (ds : List Nat) : ∀ (fr ss : List S) (t k : Nat) {es : List Ex} {dd : List D},
    (∀ j, ∃ v₀, SR I₀ μ₀ w₀ ρ (fr.getD j .x) v₀) → backFr ds t (genFr ds t k fr).2 ss = some es → Ex.evals ρ' es = some dd → VarsAt env k dd →
    ∀ j v, SR I μ w ρ' (ss.getD j .x) v → SR I μ w env ((genFr ds t k fr).2.getD j .x) v
  | [], ss, t, k, es, dd, _, _, _, _ => fun j v _ => by simp [genFr, SR]
  | s :: r, ss, t, k, es, dd, h0, hb, he, hv => by
    have h0r : ∀ j, ∃ v₀, SR I₀ μ₀ w₀ ρ (r.getD j .x) v₀ := fun j => by have := h0 (j + 1); rwa [getD_cons_succ] at this
    by_cases hds : ds.contains t = true
    · have hx : ∀ (heq : genFr ds t k (s :: r) = ((genFr ds (t + 1) k r).1, .x :: (genFr ds (t + 1) k r).2)), ∀ j v, SR I μ w ρ' (ss.getD j .x) v → SR I μ w env ((genFr ds t k (s :: r)).2.getD j .x) v := by
        intro heq j v hj
        rw [heq] at hb ⊢
        cases ss with
        | nil => simp [backFr] at hb
        | cons s' ss =>
          simp only [backFr] at hb
          rw [if_pos hds] at hb
          cases j with
          | zero => trivial
          | succ j => rw [getD_cons_succ] at hj ⊢; exact backFr_sound hp hpe ds r ss (t + 1) k h0r hb he hv j v hj
      cases s with
      | val g ls =>
        cases hg : genLs k ls with
        | none => exact hx (by simp only [genFr]; rw [if_pos hds, hg])
        | some q =>
          obtain ⟨es0, ls'⟩ := q
          have heq : genFr ds t k (.val g ls :: r) = (es0 ++ (genFr ds (t + 1) (k + es0.length) r).1, .val g ls' :: (genFr ds (t + 1) (k + es0.length) r).2) := by
            simp only [genFr]; rw [if_pos hds, hg]
          obtain ⟨hsh, hlen⟩ := genLs_shape hg
          rw [heq] at hb ⊢
          cases ss with
          | nil => simp [backFr] at hb
          | cons s' ss =>
            simp only [backFr] at hb
            rw [if_pos hds] at hb
            cases s' with
            | val g' ls1 =>
              simp only at hb
              split at hb
              · rename_i hgl
                simp only [Bool.and_eq_true, beq_iff_eq] at hgl
                obtain ⟨rfl, hl⟩ := hgl
                split at hb
                · rename_i es1 r1 h1 h2
                  cases hb
                  obtain ⟨d1, d2, rfl, h3, h4⟩ := evals_append he
                  have hl1 := evals_length h3
                  have he1 : es1.length = ls1.length := by have := congrArg List.length (exLs_get h1); simpa using this.symm
                  have hkk : k + es0.length = k + d1.length := by
                    rw [hsh] at hl
                    simp [varsFrom] at hl
                    omega
                  intro j v hj
                  cases j with
                  | zero =>
                    show VR I μ w env g ls' v
                    have hj : VR I μ w ρ' g ls1 v := hj
                    have hll : ls.length = ls1.length := by rw [hsh] at hl; simpa [varsFrom] using hl
                    rw [hsh, hll]
                    cases g
                    · obtain ⟨l, rfl, hr⟩ := hj
                      have := varsFrom_sound h1 h3 hv.left (All2.cons hr .nil)
                      cases this with
                      | cons a b => exact ⟨_, rfl, a⟩
                    · obtain ⟨vs, hvv, hr⟩ := hj
                      exact ⟨vs, hvv, varsFrom_sound h1 h3 hv.left hr⟩
                  | succ j =>
                    rw [getD_cons_succ] at hj ⊢
                    exact backFr_sound hp hpe ds r ss (t + 1) (k + es0.length) h0r h2 h4 (hkk ▸ hv.right) j v hj
                · cases hb
              · cases hb
            | x => simp at hb
            | u => simp at hb
            | tup vs => simp at hb
      | x => exact hx (by simp only [genFr]; rw [if_pos hds])
      | u => exact hx (by simp only [genFr]; rw [if_pos hds])
      | tup vs => exact hx (by simp only [genFr]; rw [if_pos hds])
    · have heq : genFr ds t k (s :: r) = ((genFr ds (t + 1) k r).1, s :: (genFr ds (t + 1) k r).2) := by simp only [genFr]; rw [if_neg hds]
      rw [heq] at hb ⊢
      cases ss with
      | nil => simp [backFr] at hb
      | cons s' ss =>
        simp only [backFr] at hb
        rw [if_neg hds] at hb
        split at hb
        · rename_i hsame
          intro j v hj
          cases j with
          | zero =>
            obtain ⟨v0, hv0⟩ := h0 0
            exact SR.rebase hv0 hp hpe (S.same_sound hsame hj)
          | succ j => rw [getD_cons_succ] at hj ⊢; exact backFr_sound hp hpe ds r ss (t + 1) k h0r hb he hv j v hj
        · cases hb

end
end Go.Proofs.Ytffahdloddkcfaa.Sx
