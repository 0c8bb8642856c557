/-
  Layer 19: an entry written, in plain data: no program in sight.
-/
import Derived.Test.YtnlilhpkjlodjaaDoorZTabr
namespace Go.Proofs.YtnlilhpkjlodjaaDoor.Sx
open Go
set_option linter.unusedVariables false
set_option linter.unusedSimpArgs false
set_option maxRecDepth 100000
theorem pw_all {α : Type} {R : α → α → Prop} (hs : ∀ a b, R a b → R b a) : ∀ {l : List α}, l.Pairwise R → ∀ x ∈ l, ∀ y ∈ l, x ≠ y → R x y
  | [], _, x, hx, _, _, _ => by cases hx
  | z :: l, h, x, hx, y, hy, hne => by
    obtain ⟨h1, h2⟩ := List.pairwise_cons.1 h
    rcases List.mem_cons.1 hx with e | hx'
    · rcases List.mem_cons.1 hy with e2 | hy'
      · exact absurd (e.trans e2.symm) hne
      · rw [e]; exact h1 y hy'
    · rcases List.mem_cons.1 hy with e2 | hy'
      · rw [e2]; exact hs _ _ (h1 x hx')
      · exact pw_all hs h2 x hx' y hy' hne
theorem TreeOk.head {s l t : Nat} {cs : List Cl} (h : TreeOk s cs l t) : t < s / 4096 := h.low t (by rw [frames_frE]; exact List.mem_cons_self ..)
theorem mem_frE {s t l j f : Nat} {cs : List Cl} (hj : j < 512) (h : f ∈ frE s cs t l j) : f ∈ framesN s cs l t := by
  rw [frames_frE]
  exact List.mem_cons_of_mem _ (List.mem_flatMap.2 ⟨j, List.mem_range.2 hj, h⟩)
theorem TreeOk.flat {s l t : Nat} {cs : List Cl} (h : TreeOk s cs l t) : t ∉ (List.range 512).flatMap (frE s cs t l) ∧ (∀ j, j < 512 → (frE s cs t l j).Nodup) ∧ ∀ i j, i < 512 → j < 512 → i ≠ j → ∀ f ∈ frE s cs t l i, f ∉ frE s cs t l j := by
  have h1 := h.nd
  rw [frames_frE] at h1
  obtain ⟨h2, h3⟩ := List.nodup_cons.1 h1
  have h4 := List.pairwise_flatMap.1 h3
  refine ⟨h2, fun j hj => h4.1 j (List.mem_range.2 hj), fun i j hi hj hne f hf hf2 => ?_⟩
  exact pw_all (R := fun a b => ∀ x ∈ frE s cs t l a, ∀ y ∈ frE s cs t l b, x ≠ y) (fun a b hab x hx y hy e => hab y hy x hx e.symm) h4.2 i (List.mem_range.2 hi) j (List.mem_range.2 hj) hne f hf f hf2 rfl
theorem TreeOk.sub {s l t j : Nat} {cs : List Cl} (h : TreeOk s cs (l + 1) t) (hj : j < 512) (hk : lnkE s cs t (l + 1) j = true) : TreeOk s cs l (ptN (entN s cs t j)).ppn ∧ t ∉ framesN s cs l (ptN (entN s cs t j)).ppn := by
  obtain ⟨h1, h2, _⟩ := h.flat
  have e : frE s cs t (l + 1) j = framesN s cs l (ptN (entN s cs t j)).ppn := if_pos hk
  refine ⟨⟨by rw [← e]; exact h2 j hj, fun f hf => h.low f (mem_frE hj (by rw [e]; exact hf))⟩, fun hm => h1 (List.mem_flatMap.2 ⟨j, List.mem_range.2 hj, by rw [e]; exact hm⟩)⟩
theorem TreeOk.apart {s l t i j f : Nat} {cs : List Cl} (h : TreeOk s cs (l + 1) t) (hi : i < 512) (hj : j < 512) (hne : i ≠ j) (hk : lnkE s cs t (l + 1) i = true) (hk2 : lnkE s cs t (l + 1) j = true) (hf : f ∈ framesN s cs l (ptN (entN s cs t i)).ppn) : f ∉ framesN s cs l (ptN (entN s cs t j)).ppn := by
  have e : frE s cs t (l + 1) i = framesN s cs l (ptN (entN s cs t i)).ppn := if_pos hk
  have e2 : frE s cs t (l + 1) j = framesN s cs l (ptN (entN s cs t j)).ppn := if_pos hk2
  rw [← e2]
  exact h.flat.2.2 i j hi hj hne f (by rw [e]; exact hf)
theorem reach_succ {s a w l t : Nat} {cs : List Cl} : reachN s cs a w (l + 1) t = if w < l + 1 ∧ lnkE s cs t (l + 1) (ixN a (l + 1)) = true then reachN s cs a w l (ptN (entN s cs t (ixN a (l + 1)))).ppn else (l + 1, t) := rfl
theorem reach_mem {s a w : Nat} {cs : List Cl} : ∀ {l t : Nat}, (reachN s cs a w l t).2 ∈ framesN s cs l t ∧ (reachN s cs a w l t).1 ≤ l
  | 0, t => ⟨List.mem_singleton_self t, Nat.le_refl 0⟩
  | l + 1, t => by
    rw [reach_succ]
    split
    · rename_i h
      obtain ⟨h1, h2⟩ := reach_mem (s := s) (a := a) (w := w) (cs := cs) (l := l) (t := (ptN (entN s cs t (ixN a (l + 1)))).ppn)
      exact ⟨mem_frE (j := ixN a (l + 1)) ixN_lt (by rw [frE, if_pos h.2]; exact h1), by omega⟩
    · exact ⟨by rw [frames_frE]; exact List.mem_cons_self .., Nat.le_refl _⟩
theorem ent_put {s t0 j0 v t j : Nat} {cs : List Cl} (hR : RM s cs) (ht0 : t0 < s / 4096) (hj0 : j0 < 512) (hj : j < 512) : entN s (putM cs (t0 * 512 + j0) v) t j = if t = t0 ∧ j = j0 then v else entN s cs t j := by
  have he := hR.even
  unfold entN
  by_cases ht : t < s / 4096
  · rw [word_put hR.asc (by omega)]
    by_cases h : t = t0 ∧ j = j0
    · rw [if_pos h, if_pos (by omega)]
    · rw [if_neg h, if_neg (by omega)]
  · rw [if_neg (by omega)]
    unfold wordN
    rw [if_pos (by omega), if_pos (by omega)]
theorem ent_else {s t0 j0 v t j : Nat} {cs : List Cl} (hR : RM s cs) (ht0 : t0 < s / 4096) (hj0 : j0 < 512) (hj : j < 512) (h : t ≠ t0) : entN s (putM cs (t0 * 512 + j0) v) t j = entN s cs t j := by
  rw [ent_put hR ht0 hj0 hj, if_neg (fun e => h e.1)]
theorem flat_congr {α : Type} {f g : Nat → List α} : ∀ {l : List Nat}, (∀ x ∈ l, f x = g x) → l.flatMap f = l.flatMap g
  | [], _ => rfl
  | x :: l, h => by rw [List.flatMap_cons, List.flatMap_cons, h x (List.mem_cons_self ..), flat_congr fun y hy => h y (List.mem_cons_of_mem _ hy)]
section
variable {s t0 j0 v : Nat} {cs : List Cl} (hR : RM s cs) (ht0 : t0 < s / 4096) (hj0 : j0 < 512)
include hR ht0 hj0
theorem else_frames : ∀ {l t : Nat}, t0 ∉ framesN s cs l t → framesN s (putM cs (t0 * 512 + j0) v) l t = framesN s cs l t
  | 0, t, h => rfl
  | l + 1, t, h => by
    rw [frames_frE] at h
    have hne : t ≠ t0 := fun e => h (by rw [e]; exact List.mem_cons_self ..)
    rw [frames_frE, frames_frE (cs := cs)]
    refine congrArg (t :: ·) (flat_congr fun j hj => ?_)
    have hj' := List.mem_range.1 hj
    have e := ent_else (v := v) hR ht0 hj0 hj' hne
    unfold frE lnkE
    rw [e]
    split
    · rename_i hk
      exact else_frames fun hm => h (List.mem_cons_of_mem _ (List.mem_flatMap.2 ⟨j, hj, by rw [frE, lnkE, if_pos hk]; exact hm⟩))
    · rfl
theorem else_reach {a w : Nat} : ∀ {l t : Nat}, t0 ∉ framesN s cs l t → reachN s (putM cs (t0 * 512 + j0) v) a w l t = reachN s cs a w l t
  | 0, t, h => rfl
  | l + 1, t, h => by
    have hne : t ≠ t0 := fun e => h (by rw [e, frames_frE]; exact List.mem_cons_self ..)
    have e := ent_else (v := v) (j := ixN a (l + 1)) hR ht0 hj0 ixN_lt hne
    rw [reach_succ, reach_succ (cs := cs)]
    unfold lnkE
    rw [e]
    split
    · rename_i hk
      exact else_reach fun hm => h (mem_frE (j := ixN a (l + 1)) ixN_lt (by rw [frE, lnkE, if_pos hk.2]; exact hm))
    · rfl
theorem else_pages : ∀ {l t b : Nat}, t0 ∉ framesN s cs l t → pgL s (putM cs (t0 * 512 + j0) v) l t b = pgL s cs l t b := by
  intro l
  induction l with
  | zero =>
    intro t b h
    have hne : t ≠ t0 := fun e => h (by rw [e, frames_frE]; exact List.mem_cons_self ..)
    rw [pgL, pgL]
    refine flat_congr fun j hj => ?_
    rw [ent_else (v := v) hR ht0 hj0 (List.mem_range.1 hj) hne]
  | succ l ih =>
    intro t b h
    have hne : t ≠ t0 := fun e => h (by rw [e, frames_frE]; exact List.mem_cons_self ..)
    rw [pgL, pgL]
    refine flat_congr fun j hj => ?_
    rw [ent_else (v := v) hR ht0 hj0 (List.mem_range.1 hj) hne]
    split
    · rfl
    · rename_i hb
      split
      · rfl
      · rename_i hlf
        refine ih fun hm => h (mem_frE (j := j) (List.mem_range.1 hj) ?_)
        have hb : (ptN (entN s cs t j)).bad ((l + 1 : Nat) : Int) = false := by simpa using hb
        have hlk : (ptN (entN s cs t j)).link = true := by
          cases hk' : (ptN (entN s cs t j)).link with
          | true => rfl
          | false => rw [Pt.leaf_of hb hk'] at hlf; exact absurd rfl hlf
        rw [frE, lnkE, lnkB, hlk, hb]
        exact hm
end
theorem put_reach {s a w v : Nat} {cs : List Cl} (hR : RM s cs) : ∀ {l t : Nat}, TreeOk s cs l t → lnkB (ptN v) (((reachN s cs a w l t).1 : Nat) : Int) = false →
    reachN s (putM cs ((reachN s cs a w l t).2 * 512 + ixN a (reachN s cs a w l t).1) v) a w l t = reachN s cs a w l t
  | 0, t, hT, hv => rfl
  | l + 1, t, hT, hv => by
    have hlow := hT.low _ (reach_mem (s := s) (a := a) (w := w) (cs := cs) (l := l + 1) (t := t)).1
    obtain ⟨r, hr⟩ : ∃ r, r = reachN s cs a w (l + 1) t := ⟨_, rfl⟩
    rw [← hr] at hlow hv ⊢
    rw [reach_succ] at hr
    by_cases hc : w < l + 1 ∧ lnkE s cs t (l + 1) (ixN a (l + 1)) = true
    · rw [if_pos hc] at hr
      obtain ⟨h1, h2⟩ := hT.sub ixN_lt hc.2
      have hm := (reach_mem (s := s) (a := a) (w := w) (cs := cs) (l := l) (t := (ptN (entN s cs t (ixN a (l + 1)))).ppn)).1
      rw [← hr] at hm
      have hne : t ≠ r.2 := fun e => h2 (by rw [e] at hm ⊢; exact hm)
      have ih := put_reach (s := s) (a := a) (w := w) (v := v) hR h1 (by rw [← hr]; exact hv)
      rw [← hr] at ih
      rw [reach_succ]
      unfold lnkE
      rw [ent_else hR hlow ixN_lt ixN_lt hne]
      unfold lnkE at hc
      rw [if_pos hc]
      exact ih
    · rw [if_neg hc] at hr
      subst hr
      have e : entN s (putM cs (t * 512 + ixN a (l + 1)) v) t (ixN a (l + 1)) = v := by rw [ent_put hR hlow ixN_lt ixN_lt, if_pos ⟨rfl, rfl⟩]
      rw [reach_succ]
      unfold lnkE
      rw [e, if_neg (fun h => by rw [hv] at h; cases h.2)]
theorem put_other {s a b w v : Nat} {cs : List Cl} (hR : RM s cs) : ∀ {l t : Nat}, TreeOk s cs l t →
    ¬ ((reachN s cs b w l t).2 = (reachN s cs a w l t).2 ∧ ixN a (reachN s cs a w l t).1 = ixN b (reachN s cs a w l t).1) →
    reachN s (putM cs ((reachN s cs a w l t).2 * 512 + ixN a (reachN s cs a w l t).1) v) b w l t = reachN s cs b w l t ∧
    entN s (putM cs ((reachN s cs a w l t).2 * 512 + ixN a (reachN s cs a w l t).1) v) (reachN s cs b w l t).2 (ixN b (reachN s cs b w l t).1) = entN s cs (reachN s cs b w l t).2 (ixN b (reachN s cs b w l t).1)
  | 0, t, hT, h => by
    have h' : ixN b 0 ≠ ixN a 0 := fun e => h ⟨rfl, e.symm⟩
    exact ⟨rfl, by
      show entN s (putM cs (t * 512 + ixN a 0) v) t (ixN b 0) = entN s cs t (ixN b 0)
      rw [ent_put hR hT.head ixN_lt ixN_lt, if_neg (fun e => h' e.2)]⟩
  | l + 1, t, hT, h => by
    have hlow := hT.low _ (reach_mem (s := s) (a := a) (w := w) (cs := cs) (l := l + 1) (t := t)).1
    obtain ⟨r, hr⟩ : ∃ r, r = reachN s cs a w (l + 1) t := ⟨_, rfl⟩
    obtain ⟨o, ho⟩ : ∃ o, o = reachN s cs b w (l + 1) t := ⟨_, rfl⟩
    rw [← hr] at hlow
    rw [← hr, ← ho] at h ⊢
    rw [reach_succ] at hr ho
    by_cases hc : w < l + 1 ∧ lnkE s cs t (l + 1) (ixN a (l + 1)) = true
    · rw [if_pos hc] at hr
      obtain ⟨h1, h2⟩ := hT.sub ixN_lt hc.2
      have hm := (reach_mem (s := s) (a := a) (w := w) (cs := cs) (l := l) (t := (ptN (entN s cs t (ixN a (l + 1)))).ppn)).1
      rw [← hr] at hm
      have hne : t ≠ r.2 := fun e => h2 (by rw [e] at hm ⊢; exact hm)
      have e := ent_else (v := v) (j := ixN b (l + 1)) hR hlow (ixN_lt (a := a) (l := r.1)) ixN_lt hne
      by_cases hd : w < l + 1 ∧ lnkE s cs t (l + 1) (ixN b (l + 1)) = true
      · rw [if_pos hd] at ho
        have hstep : reachN s (putM cs (r.2 * 512 + ixN a r.1) v) b w (l + 1) t = reachN s (putM cs (r.2 * 512 + ixN a r.1) v) b w l (ptN (entN s cs t (ixN b (l + 1)))).ppn := by
          rw [reach_succ]
          unfold lnkE
          rw [e]
          exact if_pos hd
        rw [hstep]
        by_cases hij : ixN a (l + 1) = ixN b (l + 1)
        · rw [← hij] at ho ⊢
          have ih := put_other (s := s) (a := a) (b := b) (w := w) (v := v) hR h1 (by rw [← hr, ← ho]; exact h)
          rw [← hr, ← ho] at ih
          exact ih
        · have hap := hT.apart ixN_lt ixN_lt hij hc.2 hd.2 hm
          have hm2 := (reach_mem (s := s) (a := b) (w := w) (cs := cs) (l := l) (t := (ptN (entN s cs t (ixN b (l + 1)))).ppn)).1
          rw [← ho] at hm2
          refine ⟨?_, ?_⟩
          · rw [else_reach hR hlow ixN_lt hap]
            exact ho.symm
          · exact ent_else hR hlow ixN_lt ixN_lt (fun e => hap (by rw [← e]; exact hm2))
      · rw [if_neg hd] at ho
        subst ho
        refine ⟨?_, e⟩
        rw [reach_succ]
        unfold lnkE
        rw [e]
        exact if_neg hd
    · rw [if_neg hc] at hr
      subst hr
      have hij : ixN b (l + 1) ≠ ixN a (l + 1) := fun e => by
        have hd : ¬ (w < l + 1 ∧ lnkE s cs t (l + 1) (ixN b (l + 1)) = true) := by rw [e]; exact hc
        rw [if_neg hd] at ho
        exact h ⟨by rw [ho], e.symm⟩
      have e : entN s (putM cs (t * 512 + ixN a (l + 1)) v) t (ixN b (l + 1)) = entN s cs t (ixN b (l + 1)) := by
        rw [ent_put hR hlow ixN_lt ixN_lt, if_neg (fun e => hij e.2)]
      by_cases hd : w < l + 1 ∧ lnkE s cs t (l + 1) (ixN b (l + 1)) = true
      · rw [if_pos hd] at ho
        obtain ⟨_, h2⟩ := hT.sub ixN_lt hd.2
        have hm2 := (reach_mem (s := s) (a := b) (w := w) (cs := cs) (l := l) (t := (ptN (entN s cs t (ixN b (l + 1)))).ppn)).1
        rw [← ho] at hm2
        refine ⟨?_, ?_⟩
        · rw [reach_succ]
          unfold lnkE
          rw [e]
          have hd' := hd
          unfold lnkE at hd'
          rw [if_pos hd', else_reach hR hlow ixN_lt h2]
          exact ho.symm
        · exact ent_else hR hlow ixN_lt ixN_lt (fun e => h2 (by have e' : o.2 = t := e; rw [e'] at hm2; exact hm2))
      · rw [if_neg hd] at ho
        subst ho
        refine ⟨?_, e⟩
        rw [reach_succ]
        unfold lnkE
        rw [e]
        exact if_neg hd
end Go.Proofs.YtnlilhpkjlodjaaDoor.Sx
