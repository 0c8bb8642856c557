/-
  Regions that draw: what the static check tells, and what each operation comes to, by its place.
-/
import Derived.Test.YtffahdloddkcfaaPath
namespace Go.Proofs.Ytffahdloddkcfaa.Sx
open Go
set_option linter.unnecessarySimpa false
set_option linter.unusedSimpArgs false
set_option linter.unusedVariables false

/-- What the static check tells of a region. -/
structure DrawOK (all : List Oper) : Prop where
  nd : ∀ (i j : Nat) (o p : Oper) (t : Tmp), all[i]? = some o → all[j]? = some p → o.dst = some t → p.dst = some t → i = j
  e1 : ∀ (i : Nat) (o : Oper), all[i]? = some o → ∀ e ∈ bindsOn o, e < i
  e2 : ∀ (i : Nat) (o : Oper), all[i]? = some o → ∀ t ∈ readsT o, ∀ (j : Nat) (p : Oper), all[j]? = some p → p.dst = some t → (isC p = true → i ∈ bindsOn p) ∧ (isC p = false → j ∈ bindsOn o)
  e3 : ∀ (i : Nat) (o : Oper) (g : Nat) (b : Bool), all[i]? = some o → o.guard = some (g, b) → g ∈ bindsOn o ∧ isC o = false
  e4 : ∀ (i : Nat) (o : Oper), all[i]? = some o → isSt o = true → ∀ (j : Nat) (p : Oper), j < i → all[j]? = some p → isSt p = true → j ∈ bindsOn o

theorem filterMap_nodup {α : Type} {f : α → Option Nat} : ∀ {l : List α}, (l.filterMap f).Nodup → ∀ (i j : Nat) (a b : α) (t : Nat), l[i]? = some a → l[j]? = some b → f a = some t → f b = some t → i = j
  | [], _, i, j, a, b, t, h, _, _, _ => by simp at h
  | x :: r, hn, i, j, a, b, t, ha, hb, hfa, hfb => by
    have hr : (r.filterMap f).Nodup := by
      rw [List.filterMap_cons] at hn
      split at hn
      · exact hn
      · exact (List.nodup_cons.1 hn).2
    have hx : ∀ (k : Nat) (c : α), r[k]? = some c → f c = some t → f x = some t → False := by
      intro k c hc hfc hfx
      rw [List.filterMap_cons, hfx] at hn
      exact (List.nodup_cons.1 hn).1 (List.mem_filterMap.2 ⟨c, List.mem_of_getElem? hc, hfc⟩)
    cases i with
    | zero =>
      cases j with
      | zero => rfl
      | succ j =>
        simp at ha hb
        subst ha
        exact (hx j b hb hfb hfa).elim
    | succ i =>
      cases j with
      | zero =>
        simp at ha hb
        subst hb
        exact (hx i a ha hfa hfb).elim
      | succ j =>
        simp at ha hb
        rw [filterMap_nodup hr i j a b t ha hb hfa hfb]

theorem drawB_sound {all : List Oper} (h : drawB all = true) : DrawOK all := by
  unfold drawB at h
  simp only [Bool.and_eq_true] at h
  obtain ⟨h1, h3⟩ := h
  have hop : ∀ (i : Nat) (o : Oper), all[i]? = some o → drawOp all i o = true := fun i o ho => by
    have hi : i < all.length := (List.getElem?_eq_some_iff.1 ho).1
    have := List.all_eq_true.1 h3 i (by simpa using hi)
    rw [ho] at this
    exact this
  have at_ : ∀ (q : Nat → Oper → Bool), (List.range all.length).all (fun j => match all[j]? with | some p => q j p | none => true) = true → ∀ (j : Nat) (p : Oper), all[j]? = some p → q j p = true := fun q hq j p hp => by
    have hj : j < all.length := (List.getElem?_eq_some_iff.1 hp).1
    have := List.all_eq_true.1 hq j (by simpa using hj)
    rw [hp] at this
    exact this
  refine ⟨fun i j o p t => filterMap_nodup (nodupB_sound h1) i j o p t, ?_, ?_, ?_, ?_⟩
  · intro i o ho e he
    have := hop i o ho
    simp only [drawOp, Bool.and_eq_true] at this
    simpa using List.all_eq_true.1 this.1.1.1 e he
  · intro i o ho t ht j p hp hd
    have := hop i o ho
    simp only [drawOp, Bool.and_eq_true] at this
    have h4 := at_ (fun j p => if p.dst == some t then (if isC p then (bindsOn p).contains i else (bindsOn o).contains j) else true) (List.all_eq_true.1 this.1.1.2 t ht) j p hp
    simp only [hd, beq_self_eq_true, if_true] at h4
    refine ⟨fun hc => ?_, fun hc => ?_⟩
    · rw [if_pos hc] at h4; simpa using h4
    · rw [if_neg (by simp [hc])] at h4; simpa using h4
  · intro i o g b ho hg
    have := hop i o ho
    simp only [drawOp, Bool.and_eq_true] at this
    have h4 := this.1.2
    rw [hg] at h4
    simp only [Bool.and_eq_true, Bool.not_eq_true'] at h4
    exact ⟨by simpa using h4.1, h4.2⟩
  · intro i o ho hc j p hji hp hps
    have := hop i o ho
    simp only [drawOp, Bool.and_eq_true] at this
    have h4 := this.2
    rw [if_pos hc] at h4
    have h5 := List.all_eq_true.1 h4 j (by simpa using hji)
    rw [hp] at h5
    simp only [hps, if_true] at h5
    simpa using h5

/-- What the log tells. -/
theorem logOK_sound {ops : List Oper} {lg : List Acc} (h : logOK ops lg = true) {i j : Nat} {oi oj : Oper} (hi : ops[i]? = some oi) (hj : ops[j]? = some oj) (hl : isLd oi = true ∨ isAl oi = true) (hs : isSt oj = true) :
    (i < j ∧ i ∈ bindsOn oj) ∨ (¬ i < j ∧ j ∈ bindsOn oi) ∨ disjA (lg.getD i none) (lg.getD j none) = true := by
  unfold logOK at h
  have hil : i < ops.length := (List.getElem?_eq_some_iff.1 hi).1
  have hjl : j < ops.length := (List.getElem?_eq_some_iff.1 hj).1
  have h1 := List.all_eq_true.1 h i (by simpa using hil)
  have h2 := List.all_eq_true.1 h1 j (by simpa using hjl)
  rw [hi, hj] at h2
  simp only at h2
  rw [if_pos (by simp only [Bool.and_eq_true, Bool.or_eq_true]; exact ⟨hl, hs⟩)] at h2
  simp only [Bool.or_eq_true] at h2
  rcases h2 with h2 | h2
  · by_cases hij : i < j
    · rw [if_pos hij] at h2; exact .inl ⟨hij, by simpa using h2⟩
    · rw [if_neg hij] at h2; exact .inr (.inl ⟨hij, by simpa using h2⟩)
  · exact .inr (.inr h2)
end Go.Proofs.Ytffahdloddkcfaa.Sx
