/-
  The heap at a loop's head; worlds behind calls.
-/
import Derived.Test.YtffahdloddkcfaaLoop
namespace Go.Proofs.Ytffahdloddkcfaa.Sx
open Go
set_option linter.unnecessarySimpa false
set_option linter.unusedSimpArgs false
set_option linter.unusedVariables false

theorem idxAt_some {x : Nat × Nat} : ∀ {ms : List (Nat × Nat)} {k i : Nat}, idxAt x ms k = some i → ∃ j, i = k + j ∧ ms[j]? = some x
  | [], k, i, h => by simp [idxAt] at h
  | y :: r, k, i, h => by
    simp only [idxAt] at h
    split at h
    · rename_i e; cases h; exact ⟨0, rfl, by simp [e]⟩
    · obtain ⟨j, h1, h2⟩ := idxAt_some h
      exact ⟨j + 1, by omega, by simpa using h2⟩

theorem idxAt_none {x : Nat × Nat} : ∀ {ms : List (Nat × Nat)} {k : Nat}, idxAt x ms k = none → x ∉ ms
  | [], k, _ => by simp
  | y :: r, k, h => by
    simp only [idxAt] at h
    split at h
    · cases h
    · rename_i e
      have := idxAt_none h
      simp only [List.mem_cons, not_or]
      exact ⟨fun h' => e h'.symm, this⟩

theorem backHp_get {h : Heap} : ∀ {ms : List (Nat × Nat)} {es : List Ex}, backHp h ms = some es → ∀ {j b o : Nat}, ms[j]? = some (b, o) → ∃ blk t, h[b]? = some blk ∧ blk.ls[o]? = some (.e t) ∧ es[j]? = some t
  | [], es, hb, j, b, o, hj => by simp at hj
  | (b0, o0) :: r, es, hb, j, b, o, hj => by
    simp only [backHp] at hb
    split at hb
    · rename_i blk hblk
      split at hb
      · rename_i t ht
        split at hb
        · rename_i es' hes
          cases hb
          cases j with
          | zero => simp at hj; obtain ⟨rfl, rfl⟩ := hj; exact ⟨blk, t, hblk, ht, by simp⟩
          | succ j => simpa using backHp_get hes (by simpa using hj)
        · cases hb
      · cases hb
    · cases hb

section
variable {I : Imm} {μ : Mu} {w : World} {ρ : List D} {G : Glo} {B : Nat} {I₀ : Imm} {w₀ : World} {h : Heap}

/-- some of the blocks, and of the slices that grow -/
def Mu.res (μ : Mu) (p q : Nat → Bool) : Mu := { m := fun b => if p b = true then μ b else none, v := fun k => if q k = true then μ.v k else none }

/-- The heap at the loop's head. -/
theorem genHeap_sound {env : List D} {hg : Heap} {ms : List (Nat × Nat)} {k : Nat} {ys : List Ex} {dd : List D} {p q : Nat → Bool} (hW : WR G B I₀ w₀ I μ w ρ h) (hpl : ∀ b, p b = true → b < hg.length)
    (H : ∀ b blk, p b = true → hg[b]? = some blk → ∃ blk', h[b]? = some blk' ∧ blk'.ro = blk.ro ∧ blk'.ls.length = blk.ls.length ∧
      ∀ o l l', blk.ls[o]? = some l → blk'.ls[o]? = some l' → (b, o) ∉ ms → ∀ v, LR I μ w ρ l' v → LR I (μ.res p q) w env l v)
    (hb : backHp h ms = some ys) (he : Ex.evals ρ ys = some dd) (hv : VarsAt env k dd) :
    WR G B I₀ w₀ I (μ.res p q) w env (genHeap ms k hg) := by
  have hmu : ∀ b x, (μ.res p q) b = some x → p b = true ∧ μ b = some x := fun b x hx => by
    unfold Mu.res at hx
    simp only at hx
    split at hx
    · rename_i hlt; exact ⟨hlt, hx⟩
    · cases hx
  refine ⟨fun b x hx => ?_, fun b b' x hx hx' => hW.inj b b' x (hmu b x hx).2 (hmu b' x hx').2, hW.glo, hW.old, hW.size, hW.imm, hW.imm0, hW.wd⟩
  obtain ⟨hpb, hx⟩ := hmu b x hx
  have hlt := hpl b hpb
  obtain ⟨blk', h1, vs, ty, h2, h3, h4⟩ := hW.blk b x hx
  have hgb : hg[b]? = some hg[b] := List.getElem?_eq_getElem hlt
  obtain ⟨blk'', h1', hro, hlen, hls⟩ := H b _ hpb hgb
  rw [h1] at h1'
  cases h1'
  refine ⟨_, by simp [genHeap, List.getElem?_mapIdx, hgb]; rfl, vs, ty, h2, ?_, ?_⟩
  · have hvl := h3.length
    refine All2.of_get (by simp; omega) fun o l v hl hvo => ?_
    simp only [List.getElem?_mapIdx] at hl
    have hol : o < (hg[b]).ls.length := by have := (List.getElem?_eq_some_iff.1 hvo).1; omega
    rw [List.getElem?_eq_getElem hol] at hl
    simp only [Option.map_some, Option.some.injEq] at hl
    obtain ⟨l', hl', hr'⟩ := h3.get' hvo
    split at hl
    · rename_i i hi
      subst hl
      obtain ⟨j, rfl, hj⟩ := idxAt_some hi
      obtain ⟨blk1, t, hb1, ht, hy⟩ := backHp_get hb hj
      rw [h1] at hb1
      cases hb1
      rw [hl'] at ht
      cases ht
      obtain ⟨d, hd, hdr⟩ := hr'
      obtain ⟨d', hd', he'⟩ := evals_get he hy
      rw [hd] at he'
      cases he'
      exact ⟨d, by simp only [Ex.eval]; exact hv j d hd', hdr⟩
    · rename_i hi
      subst hl
      exact hls o _ _ (List.getElem?_eq_getElem hol) hl' (idxAt_none hi) v hr'
  · simp only [← hro]
    exact h4

theorem LR.under {n : Nat} {l : SL} {v : Value} (hu : l.under n = true) (hr : LR I μ w ρ l v) : LR I (μ.res (fun b => decide (b < n)) fun _ => true) w ρ l v := by
  have hb : ∀ r x, (match r with | BR.loc b => decide (b < n) | BR.glo _ => true) = true → BRef μ r = some x → BRef (μ.res (fun b => decide (b < n)) fun _ => true) r = some x := fun r x h1 h2 => by
    cases r with
    | loc b => simp only [BRef, Mu.res, if_pos h1]; exact h2
    | glo g => exact h2
  cases l with
  | x => exact hr
  | e t => exact hr
  | p r off => obtain ⟨x, hx, h⟩ := hr; exact ⟨x, hb r x (by cases r <;> first | simpa [SL.under] using hu | rfl) hx, h⟩
  | dyn r b s m i j => obtain ⟨x, k, q, hx, h⟩ := hr; exact ⟨x, k, q, hb r x (by cases r <;> first | simpa [SL.under] using hu | rfl) hx, h⟩
  | elt t i m j => exact hr
  | sc r b s m => obtain ⟨x, c, hx, h⟩ := hr; exact ⟨x, c, hb r x (by cases r <;> first | simpa [SL.under] using hu | rfl) hx, h⟩
  | g k => obtain ⟨b, n, c, h1, h2⟩ := hr; exact ⟨b, n, c, h1, by simpa [Mu.res] using h2⟩
  | ge k i sz j => obtain ⟨x, n, c, kk, m, h1, h2⟩ := hr; exact ⟨x, n, c, kk, m, by simpa [Mu.res] using h1, h2⟩
  | gs k sz lo => obtain ⟨b, n, c, kk, m, p, c', h1, h2⟩ := hr; exact ⟨b, n, c, kk, m, p, c', by simpa [Mu.res] using h1, h2⟩
  | clo f caps =>
    obtain ⟨vs, hv, h⟩ := hr
    refine ⟨vs, hv, ?_⟩
    simp only [SL.under, List.all_eq_true] at hu
    clear hv
    induction h with
    | nil => exact .nil
    | cons a b ih =>
      obtain ⟨x, hx, h⟩ := a
      exact .cons ⟨x, hb _ x (hu _ (by simp)) hx, h⟩ (ih fun c hc => hu c (by simp [hc]))

/-- a leaf that could be told when there were only so many blocks speaks of no other -/
theorem LR.upto {I₀ : Imm} {μ₀ : Mu} {w₀ : World} {ρ₀ : List D} {p q : Nat → Bool} {l : SL} {v v₀ : Value} (h0 : LR I₀ μ₀ w₀ ρ₀ l v₀) (hm : ∀ b x, μ₀ b = some x → p b = true) (hq : ∀ k v, μ₀.v k = some v → q k = true) (hr : LR I μ w ρ l v) : LR I (μ.res p q) w ρ l v := by
  have hb : ∀ r x x0, BRef μ₀ r = some x0 → BRef μ r = some x → BRef (μ.res p q) r = some x := fun r x x0 h1 h2 => by
    cases r with
    | loc b => simp only [BRef, Mu.res, if_pos (hm b x0 h1)]; exact h2
    | glo g => exact h2
  cases l with
  | x => exact hr
  | e t => exact hr
  | p r off => obtain ⟨x0, hx0, _⟩ := h0; obtain ⟨x, hx, h⟩ := hr; exact ⟨x, hb r x x0 hx0 hx, h⟩
  | dyn r b s m i j => obtain ⟨x0, _, _, hx0, _⟩ := h0; obtain ⟨x, k, q, hx, h⟩ := hr; exact ⟨x, k, q, hb r x x0 hx0 hx, h⟩
  | elt t i m j => exact hr
  | sc r b s m => obtain ⟨x0, _, hx0, _⟩ := h0; obtain ⟨x, c, hx, h⟩ := hr; exact ⟨x, c, hb r x x0 hx0 hx, h⟩
  | g k => obtain ⟨_, _, _, _, h0⟩ := h0; obtain ⟨b, n, c, h1, h2⟩ := hr; exact ⟨b, n, c, h1, by simpa [Mu.res, hq k _ h0] using h2⟩
  | ge k i sz j => obtain ⟨_, _, _, _, _, h0, _⟩ := h0; obtain ⟨x, n, c, kk, m, h1, h2⟩ := hr; exact ⟨x, n, c, kk, m, by simpa [Mu.res, hq k _ h0] using h1, h2⟩
  | gs k sz lo => obtain ⟨_, _, _, _, _, _, _, h0, _⟩ := h0; obtain ⟨b, n, c, kk, m, p, c', h1, h2⟩ := hr; exact ⟨b, n, c, kk, m, p, c', by simpa [Mu.res, hq k _ h0] using h1, h2⟩
  | clo f caps =>
    obtain ⟨vs, hv, h⟩ := hr
    obtain ⟨vs0, hv0, h0⟩ := h0
    refine ⟨vs, hv, ?_⟩
    clear hv hv0
    induction h generalizing vs0 with
    | nil => exact .nil
    | cons a b ih =>
      cases h0 with
      | cons a0 b0 =>
        obtain ⟨x, hx, h⟩ := a
        obtain ⟨x0, hx0, _⟩ := a0
        exact .cons ⟨x, hb _ x x0 hx0 hx, h⟩ (ih _ b0)

theorem LsR.upto {I₀ : Imm} {μ₀ : Mu} {w₀ : World} {ρ₀ : List D} {p q : Nat → Bool} (hm : ∀ b x, μ₀ b = some x → p b = true) (hq : ∀ k v, μ₀.v k = some v → q k = true) : ∀ {ls : List SL} {vs vs₀ : List Value}, LsR I₀ μ₀ w₀ ρ₀ ls vs₀ → LsR I μ w ρ ls vs → LsR I (μ.res p q) w ρ ls vs
  | [], _, _, .nil, .nil => .nil
  | _ :: _, _, _, .cons a0 b0, .cons a b => .cons (LR.upto a0 hm hq a) (LsR.upto hm hq b0 b)

theorem VR.upto {I₀ : Imm} {μ₀ : Mu} {w₀ : World} {ρ₀ : List D} {p q : Nat → Bool} {g : Bool} {ls : List SL} {v v₀ : Value} (hm : ∀ b x, μ₀ b = some x → p b = true) (hq : ∀ k v, μ₀.v k = some v → q k = true) (h0 : VR I₀ μ₀ w₀ ρ₀ g ls v₀) (h : VR I μ w ρ g ls v) : VR I (μ.res p q) w ρ g ls v := by
  cases g
  · obtain ⟨l, rfl, h⟩ := h
    obtain ⟨l', e, h0⟩ := h0
    cases e
    exact ⟨l, rfl, LR.upto h0 hm hq h⟩
  · obtain ⟨vs, hv, h⟩ := h
    obtain ⟨vs0, _, h0⟩ := h0
    exact ⟨vs, hv, LsR.upto hm hq h0 h⟩

theorem SR.upto {I₀ : Imm} {μ₀ : Mu} {w₀ : World} {ρ₀ : List D} {p q : Nat → Bool} {s : S} {v v₀ : Value} (hm : ∀ b x, μ₀ b = some x → p b = true) (hq : ∀ k v, μ₀.v k = some v → q k = true) (h0 : SR I₀ μ₀ w₀ ρ₀ s v₀) (h : SR I μ w ρ s v) : SR I (μ.res p q) w ρ s v := by
  cases s with
  | x => trivial
  | u => exact h
  | val g ls => exact VR.upto hm hq h0 h
  | tup xs =>
    obtain ⟨vs, hv, h⟩ := h
    obtain ⟨vs0, hv0, h0⟩ := h0
    refine ⟨vs, hv, ?_⟩
    clear hv hv0
    induction h generalizing vs0 with
    | nil => exact .nil
    | cons a b ih =>
      cases h0 with
      | cons a0 b0 => exact .cons (VR.upto hm hq a0 a) (ih _ b0)

theorem WR.dom (hW : WR G B I₀ w₀ I μ w ρ h) {b x : Nat} (hb : μ b = some x) : b < h.length := by
  obtain ⟨blk, h1, _⟩ := hW.blk b x hb
  exact (List.getElem?_eq_some_iff.1 h1).1

/-- The heap is cut behind a call. -/
theorem WR.cut (hW : WR G B I₀ w₀ I μ w ρ h) {n : Nat} (hu : ((h.take n).all fun b => b.ls.all (SL.under n)) = true) : WR G B I₀ w₀ I (μ.res (fun b => decide (b < n)) fun _ => true) w ρ (h.take n) := by
  have hmu : ∀ b x, (μ.res (fun b => decide (b < n)) fun _ => true) b = some x → b < n ∧ μ b = some x := fun b x hx => by
    unfold Mu.res at hx
    simp only at hx
    split at hx
    · rename_i hlt; exact ⟨of_decide_eq_true hlt, hx⟩
    · cases hx
  refine ⟨fun b x hx => ?_, fun b b' x hx hx' => hW.inj b b' x (hmu b x hx).2 (hmu b' x hx').2, hW.glo, hW.old, hW.size, hW.imm, hW.imm0, hW.wd⟩
  obtain ⟨hlt, hx⟩ := hmu b x hx
  obtain ⟨blk, h1, vs, ty, h2, h3, h4⟩ := hW.blk b x hx
  have h1' : (h.take n)[b]? = some blk := by rw [List.getElem?_take, if_pos hlt]; exact h1
  refine ⟨blk, h1', vs, ty, h2, ?_, h4⟩
  have hall := List.all_eq_true.1 (List.all_eq_true.1 hu blk (List.mem_of_getElem? h1'))
  refine All2.of_get h3.length fun o l v hl hv => ?_
  obtain ⟨l', hl', hr⟩ := h3.get' hv
  rw [hl] at hl'
  cases hl'
  exact LR.under (hall l (List.mem_of_getElem? hl)) hr

theorem Evo.upto {I' : Imm} {μ' : Mu} {w' : World} {p q : Nat → Bool} (he : Evo I μ w I' μ' w') (hm : ∀ b x, μ b = some x → p b = true) (hq : ∀ k v, μ.v k = some v → q k = true) : Evo I μ w I' (μ'.res p q) w' :=
  ⟨he.imm, he.same, fun b x hb => by unfold Mu.res; simp only; rw [if_pos (hm b x hb)]; exact he.mu b x hb, fun k v hk => by unfold Mu.res; simp only; rw [if_pos (hq k v hk)]; exact he.hv k v hk⟩

/-- Behind a call that changes nothing that was. -/
theorem WR.call (hW : WR G B I₀ w₀ I μ w ρ h) {I' : Imm} {w' : World} (h1 : ∀ x, I x → I' x) (h2 : ∀ x, I' x → I x ∨ w.heap.size ≤ x) (h3 : ∀ x, I' x → x < w'.heap.size)
    (h4 : ∀ x, x < w.heap.size → w'.heap[x]? = w.heap[x]?) (h5 : w.heap.size ≤ w'.heap.size) (h6 : w'.os = w.os ∧ w'.output = w.output) : WR G B I₀ w₀ I' μ w' ρ h ∧ Evo I μ w I' μ w' := by
  have he : Evo I μ w I' μ w' := ⟨h1, fun x hx => h4 x (hW.imm x hx), fun _ _ h => h, fun _ _ h => h⟩
  refine ⟨⟨fun b x hb => ?_, fun b b' x hb hb' => (hW.inj b b' x hb hb').imp id (h1 x), hW.glo.mono h1 he.same, fun y hy => ?_, by have := hW.size; omega, h3, fun x hx => ?_, ⟨h6.1.trans hW.wd.1, h6.2.trans hW.wd.2⟩⟩, he⟩
  · obtain ⟨blk, hb1, vs, ty, hb2, hb3, hb4⟩ := hW.blk b x hb
    have hx : x < w.heap.size := (Array.getElem?_eq_some_iff.1 hb2).1
    refine ⟨blk, hb1, vs, ty, (h4 x hx).trans hb2, hb3.imp fun _ _ hr => hr.mono he (List.prefix_refl _), ?_⟩
    split
    · rename_i hro
      rw [if_pos hro] at hb4
      exact h1 x hb4
    · rename_i hro
      rw [if_neg hro] at hb4
      exact ⟨fun hI => by rcases h2 x hI with h | h; exact hb4.1 h; omega, hb4.2⟩
  · rw [h4 y (by have := hW.size; omega)]
    exact hW.old y hy
  · rcases h2 x hx with h | h
    · exact hW.imm0 x h
    · exact .inr (by have := hW.size; omega)

end
end Go.Proofs.Ytffahdloddkcfaa.Sx
