/-
 Layer 19: an entry written, in plain data: no program in sight.
-/
import Derived.Test.YtnkjmocacielmaaDoorZTabr
namespace Go.Proofs.YtnkjmocacielmaaDoor.Sx
open Go
set_option linter.unusedVariables false
set_option linter.unusedSimpArgs false
set_option maxRecDepth 100000
theorem pw_all {α : Type} {R : α → α → Prop} (hs : ∀ a b, R a b → R b a) : ∀ {l : List α}, l.Pairwise R → ∀ x ∈ l, ∀ y ∈ l, x ≠ y → R x y
 | [], _, x, hx, _, _, _ => by cases hx
 | z :: l, h, x, hx, y, hy, hne => by
  obtain ⟨h1, h2⟩ := List.pairwise_cons.1 h
  rcases List.mem_cons.1 hx with e | hx'
  ·rcases List.mem_cons.1 hy with e2 | hy'
   ·exact absurd (e.trans e2.symm) hne
   ·rw [e]; exact h1 y hy'
  ·rcases List.mem_cons.1 hy with e2 | hy'
   ·rw [e2]; exact hs _ _ (h1 x hx')
   ·exact pw_all hs h2 x hx' y hy' hne
theorem TreeOk.head {s l t : Nat} {cs : List Cl} (h : TreeOk s cs l t) : t < s / 4096 := h.low t (by rw [frames_frE]; exact List.mem_cons_self ..)
theorem mem_frE {s t l j f : Nat} {cs : List Cl} (hj : j < 512) (h : f ∈ frE s cs t l j) : f ∈ framesN s cs l t := by
 rw [frames_frE]
 exact List.mem_cons_of_mem _ (List.mem_flatMap.2 ⟨j, List.mem_range.2 hj, h⟩)
theorem TreeOk.flat {s l t : Nat} {cs : List Cl} (h : TreeOk s cs l t) : t ∉ (List.range 512).flatMap (frE s cs t l) ∧ (∀ j, j < 512 → (frE s cs t l j).Nodup) ∧ ∀ i j, i < 512 → j < 512 → i ≠ j → ∀ f ∈ frE s cs t l i, f ∉ frE s cs t l j := by
 have h1 := h.nd
 rw [frames_frE] at h1
 obtain ⟨h2, h3⟩ := List.nodup_cons.1 h1
 have h4 := List.pairwise_flatMap.1 h3
 refine ⟨h2, fun j hj => h4.1 j (List.mem_range.2 hj), fun i j hi hj hne f hf hf2 => ?_⟩
 exact pw_all (R := fun a b => ∀ x ∈ frE s cs t l a, ∀ y ∈ frE s cs t l b, x ≠ y) (fun a b hab x hx y hy e => hab y hy x hx e.symm) h4.2 i (List.mem_range.2 hi) j (List.mem_range.2 hj) hne f hf f hf2 rfl
theorem TreeOk.sub {s l t j : Nat} {cs : List Cl} (h : TreeOk s cs (l + 1) t) (hj : j < 512) (hk : lnkE s cs t (l + 1) j = true) : TreeOk s cs l (ptN (entN s cs t j)).ppn ∧ t ∉ framesN s cs l (ptN (entN s cs t j)).ppn := by
 obtain ⟨h1, h2, _⟩ := h.flat
 have e : frE s cs t (l + 1) j = framesN s cs l (ptN (entN s cs t j)).ppn := if_pos hk
 refine ⟨⟨by rw [← e]; exact h2 j hj, fun f hf => h.low f (mem_frE hj (by rw [e]; exact hf))⟩, fun hm => h1 (List.mem_flatMap.2 ⟨j, List.mem_range.2 hj, by rw [e]; exact hm⟩)⟩
theorem TreeOk.apart {s l t i j f : Nat} {cs : List Cl} (h : TreeOk s cs (l + 1) t) (hi : i < 512) (hj : j < 512) (hne : i ≠ j) (hk : lnkE s cs t (l + 1) i = true) (hk2 : lnkE s cs t (l + 1) j = true) (hf : f ∈ framesN s cs l (ptN (entN s cs t i)).ppn) : f ∉ framesN s cs l (ptN (entN s cs t j)).ppn := by
 have e : frE s cs t (l + 1) i = framesN s cs l (ptN (entN s cs t i)).ppn := if_pos hk
 have e2 : frE s cs t (l + 1) j = framesN s cs l (ptN (entN s cs t j)).ppn := if_pos hk2
 rw [← e2]
 exact h.flat.2.2 i j hi hj hne f (by rw [e]; exact hf)
theorem reach_succ {s a w l t : Nat} {cs : List Cl} : reachN s cs a w (l + 1) t = if w < l + 1 ∧ lnkE s cs t (l + 1) (ixN a (l + 1)) = true then reachN s cs a w l (ptN (entN s cs t (ixN a (l + 1)))).ppn else (l + 1, t) := rfl
theorem reach_mem {s a w : Nat} {cs : List Cl} : ∀ {l t : Nat}, (reachN s cs a w l t).2 ∈ framesN s cs l t ∧ (reachN s cs a w l t).1 ≤ l
 | 0, t => ⟨List.mem_singleton_self t, Nat.le_refl 0⟩
 | l + 1, t => by
  rw [reach_succ]
  split
  ·rename_i h
   obtain ⟨h1, h2⟩ := reach_mem (s := s) (a := a) (w := w) (cs := cs) (l := l) (t := (ptN (entN s cs t (ixN a (l + 1)))).ppn)
   exact ⟨mem_frE (j := ixN a (l + 1)) ixN_lt (by rw [frE, if_pos h.2]; exact h1), by omega⟩
  ·exact ⟨by rw [frames_frE]; exact List.mem_cons_self .., Nat.le_refl _⟩
theorem ent_put {s t0 j0 v t j : Nat} {cs : List Cl} (hR : RM s cs) (ht0 : t0 < s / 4096) (hj0 : j0 < 512) (hj : j < 512) : entN s (putM cs (t0 * 512 + j0) v) t j = if t = t0 ∧ j = j0 then v else entN s cs t j := by
 have he := hR.even
 unfold entN
 by_cases ht : t < s / 4096
 ·rw [word_put hR.asc (by omega)]
  by_cases h : t = t0 ∧ j = j0
  ·rw [if_pos h, if_pos (by omega)]
  ·rw [if_neg h, if_neg (by omega)]
 ·rw [if_neg (by omega)]
  unfold wordN
  rw [if_pos (by omega), if_pos (by omega)]
section
variable {s t0 j0 v : Nat} {cs : List Cl} (hR : RM s cs) (ht0 : t0 < s / 4096) (hj0 : j0 < 512)
include hR ht0 hj0
end
end Go.Proofs.YtnkjmocacielmaaDoor.Sx
