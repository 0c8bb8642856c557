/-
 Layer 20, plain: the way to a spot, and what becomes of it when an entry leads to a fresh table.
-/
import Derived.Test.YtnkjmocacielmaaDoorZSpb
namespace Go.Proofs.YtnkjmocacielmaaDoor.Sx
open Go
set_option linter.unusedVariables false
set_option linter.unusedSimpArgs false
set_option maxRecDepth 100000
theorem ent_clr {s fr t j : Nat} {cs : List Cl} (hs : Asc cs) (hj : j < 512) : entN s (clrF cs fr) t j = if t = fr then 0 else entN s cs t j := by
 unfold entN wordN
 by_cases h : s ≤ t * 4096 + j * 8
 ·rw [if_pos h, if_pos h]; split <;> rfl
 ·rw [if_neg h, if_neg h]
  unfold clrF
  rw [look_clr hs (by omega)]
  by_cases e : t = fr
  ·rw [if_pos e, if_pos ⟨by omega, by omega⟩]
  ·rw [if_neg e, if_neg (by omega)]
theorem clr_far {fr : Nat} {cs : List Cl} (hs : Asc cs) : ∀ c ∈ clrF cs fr, c.1 < fr * 512 ∨ fr * 512 + 512 ≤ c.1 := fun c hc => by
 unfold clrF at hc
 rw [clr_filter hs (by omega)] at hc
 have := (List.mem_filter.1 hc).2
 simp only [Bool.or_eq_true, decide_eq_true_eq] at this
 omega
def takeN (f : Nat) : Option Nat := (List.range 64).find? fun x => f.testBit x
theorem take_cases {b f : Nat} {m : Int} (h : PoolOk b m f) : (f = 0 ∧ takeN f = none) ∨ ∃ x : Nat, takeN f = some x ∧ (x : Int) < m ∧ f.testBit x = true ∧ ∀ j, j < x → f.testBit j = false := by
 have hhi := h.hi
 rcases h.none_or with rfl | ⟨n, h1, h2, h3⟩
 ·refine .inl ⟨rfl, List.find?_eq_none.2 fun x _ => by simp⟩
 ·refine .inr ⟨n, ?_, h1, h2, h3⟩
  have e : List.range 64 = List.range n ++ (n :: (List.range (63 - n)).map (n + 1 + ·)) := by
   rw [show List.range 64 = List.range (n + 1 + (63 - n)) by rw [show n + 1 + (63 - n) = 64 by omega], List.range_add, List.range_succ]
   simp
  rw [takeN, e, List.find?_append, List.find?_eq_none.2 (fun x hx => by rw [h3 x (List.mem_range.1 hx)]; decide), List.find?_cons, h2]
  rfl
theorem set_bit {f x v y : Nat} (hf : f < 18446744073709551616) (hx : x < 64) : (setN f x 1 v).testBit y = if y = x then v.testBit 0 else f.testBit y := by
 rw [setN_testBit]
 by_cases h : y = x
 ·subst h
  rw [if_pos rfl, if_pos ⟨Nat.le_refl _, by omega⟩, decide_eq_true hx, Nat.sub_self, Bool.true_and]
 ·rw [if_neg h, if_neg (by omega)]
  by_cases h64 : y < 64
  ·rw [decide_eq_true h64, Bool.true_and]
  ·rw [decide_eq_false h64, Bool.false_and, testBit_lt64 hf (by omega)]
theorem PoolOk.set {b f x v : Nat} {m : Int} (h : PoolOk b m f) (hx : (x : Int) < m) : PoolOk b m (setN f x 1 v) := by
 have hhi := h.hi
 refine ⟨h.lo, h.hi, h.bs, fun j h1 h2 => ?_, setN_lt ..⟩
 rw [set_bit h.f64 (by omega), if_neg (by omega)]
 exact h.fr j h1 h2
def pathN (s : Nat) (cs : List Cl) (a w : Nat) : Nat → Nat → List Nat
 | 0, t => [t]
 | l + 1, t => t :: (if w < l + 1 ∧ lnkE s cs t (l + 1) (ixN a (l + 1)) = true then pathN s cs a w l (ptN (entN s cs t (ixN a (l + 1)))).ppn else [])
theorem path_head {s a w l t : Nat} {cs : List Cl} : t ∈ pathN s cs a w l t := by
 cases l with
 | zero => exact List.mem_singleton_self t
 | succ l => exact List.mem_cons_self ..
theorem reach_path {s a w : Nat} {cs : List Cl} : ∀ {l t : Nat}, (reachN s cs a w l t).2 ∈ pathN s cs a w l t
 | 0, t => List.mem_singleton_self t
 | l + 1, t => by
  rw [reach_succ, pathN]
  split
  ·exact List.mem_cons_of_mem _ reach_path
  ·exact List.mem_cons_self ..
theorem reach_low {s a w : Nat} {cs : List Cl} : ∀ {l t : Nat}, w ≤ l → w ≤ (reachN s cs a w l t).1
 | 0, t, h => h
 | l + 1, t, h => by
  rw [reach_succ]
  split
  ·rename_i hc
   exact reach_low (by omega)
  ·exact h
theorem reach_stop {s a w : Nat} {cs : List Cl} : ∀ {l t : Nat}, w < (reachN s cs a w l t).1 → lnkE s cs (reachN s cs a w l t).2 (reachN s cs a w l t).1 (ixN a (reachN s cs a w l t).1) = false
 | 0, t, h => by simp [reachN] at h
 | l + 1, t, h => by
  rw [reach_succ] at h ⊢
  by_cases hc : w < l + 1 ∧ lnkE s cs t (l + 1) (ixN a (l + 1)) = true
  ·rw [if_pos hc] at h ⊢
   exact reach_stop h
  ·rw [if_neg hc] at h ⊢
   cases hk : lnkE s cs t (l + 1) (ixN a (l + 1)) with
   | false => rfl
   | true => exact absurd ⟨h, hk⟩ hc
theorem path_pre {s a w : Nat} {cs : List Cl} : ∀ {l t : Nat}, pathN s cs a w l t <+: pathN s cs a 0 l t
 | 0, t => List.prefix_refl _
 | l + 1, t => by
  rw [pathN, pathN]
  by_cases hc : w < l + 1 ∧ lnkE s cs t (l + 1) (ixN a (l + 1)) = true
  ·rw [if_pos hc, if_pos ⟨by omega, hc.2⟩]
   exact List.prefix_cons_inj _ |>.2 path_pre
  ·rw [if_neg hc]
   exact List.prefix_cons_inj _ |>.2 (List.nil_prefix)
theorem reach_on {s a w : Nat} {cs : List Cl} : ∀ {l t : Nat}, reachN s cs a 0 l t = reachN s cs a 0 (reachN s cs a w l t).1 (reachN s cs a w l t).2
 | 0, t => rfl
 | l + 1, t => by
  by_cases hc : w < l + 1 ∧ lnkE s cs t (l + 1) (ixN a (l + 1)) = true
  ·rw [reach_succ (w := w), if_pos hc, reach_succ (w := 0), if_pos ⟨by omega, hc.2⟩]
   exact reach_on
  ·rw [reach_succ (w := w), if_neg hc]
theorem reach_same {s a w l t : Nat} {cs : List Cl} (h : w < (reachN s cs a w l t).1) : reachN s cs a 0 l t = reachN s cs a w l t := by
 rw [reach_on (w := w)]
 have hs := reach_stop h
 cases hr : reachN s cs a w l t with
 | mk l' t' =>
  rw [hr] at hs h
  simp only at hs h ⊢
  cases l' with
  | zero => rfl
  | succ l' =>
   rw [reach_succ, if_neg (fun h => by rw [hs] at h; cases h.2)]
theorem way_put {s a w fr : Nat} {cs cs' : List Cl} : ∀ {l t : Nat}, (pathN s cs a w l t).Nodup → w < (reachN s cs a w l t).1 →
 (∀ t' ∈ pathN s cs a w l t, ∀ j, j < 512 → ¬ (t' = (reachN s cs a w l t).2 ∧ j = ixN a (reachN s cs a w l t).1) → entN s cs' t' j = entN s cs t' j) →
 lnkE s cs' (reachN s cs a w l t).2 (reachN s cs a w l t).1 (ixN a (reachN s cs a w l t).1) = true → (ptN (entN s cs' (reachN s cs a w l t).2 (ixN a (reachN s cs a w l t).1))).ppn = fr →
 reachN s cs' a w l t = reachN s cs' a w ((reachN s cs a w l t).1 - 1) fr ∧ pathN s cs' a w l t = pathN s cs a w l t ++ pathN s cs' a w ((reachN s cs a w l t).1 - 1) fr
 | 0, t, hn, hw, hA, hk, hp => by simp [reachN] at hw
 | l + 1, t, hn, hw, hA, hk, hp => by
  by_cases hc : w < l + 1 ∧ lnkE s cs t (l + 1) (ixN a (l + 1)) = true
  ·have e1 : reachN s cs a w (l + 1) t = reachN s cs a w l (ptN (entN s cs t (ixN a (l + 1)))).ppn := by rw [reach_succ, if_pos hc]
   have e2 : pathN s cs a w (l + 1) t = t :: pathN s cs a w l (ptN (entN s cs t (ixN a (l + 1)))).ppn := by rw [pathN, if_pos hc]
   rw [e1] at hw hA hk hp ⊢
   rw [e2] at hn hA ⊢
   obtain ⟨hn1, hn2⟩ := List.nodup_cons.1 hn
   have hrp := reach_path (s := s) (a := a) (w := w) (cs := cs) (l := l) (t := (ptN (entN s cs t (ixN a (l + 1)))).ppn)
   have hne : t ≠ (reachN s cs a w l (ptN (entN s cs t (ixN a (l + 1)))).ppn).2 := by
    generalize (ptN (entN s cs t (ixN a (l + 1)))).ppn = pp at hrp hn1
    intro e
    rw [← e] at hrp
    exact hn1 hrp
   have he := hA t (List.mem_cons_self ..) (ixN a (l + 1)) ixN_lt (fun h => hne h.1)
   have ih := way_put (l := l) (t := (ptN (entN s cs t (ixN a (l + 1)))).ppn) hn2 hw (fun t' ht' => hA t' (List.mem_cons_of_mem _ ht')) hk hp
   have hc' : w < l + 1 ∧ lnkE s cs' t (l + 1) (ixN a (l + 1)) = true := by
    refine ⟨hc.1, ?_⟩
    unfold lnkE at hc ⊢
    rw [he]
    exact hc.2
   rw [reach_succ, if_pos hc', he, pathN, if_pos hc', he]
   exact ⟨ih.1, by rw [ih.2]; rfl⟩
  ·have e1 : reachN s cs a w (l + 1) t = (l + 1, t) := by rw [reach_succ, if_neg hc]
   have e2 : pathN s cs a w (l + 1) t = [t] := by rw [pathN, if_neg hc]
   rw [e1] at hw hA hk hp ⊢
   rw [e2]
   simp only at hw hA hk hp ⊢
   rw [reach_succ, if_pos ⟨hw, hk⟩, hp, pathN, if_pos ⟨hw, hk⟩, hp]
   exact ⟨rfl, rfl⟩
theorem way_flat {s a w l t : Nat} {cs : List Cl} (h : ∀ j, j < 512 → (ptN (entN s cs t j)).link = false) : reachN s cs a w l t = (l, t) ∧ pathN s cs a w l t = [t] := by
 cases l with
 | zero => exact ⟨rfl, rfl⟩
 | succ l =>
  have hk : ¬ (w < l + 1 ∧ lnkE s cs t (l + 1) (ixN a (l + 1)) = true) := fun hc => by
   have := hc.2
   rw [lnkE, lnk_of_link (h _ ixN_lt)] at this
   cases this
  exact ⟨by rw [reach_succ, if_neg hk], by rw [pathN, if_neg hk]⟩
structure WayOk (s b f : Nat) (m : Int) (cs : List Cl) (a l t : Nat) : Prop where
 le : l ≤ 2
 rm : RM s cs
 cok : COk cs
 pool : PoolOk b m f
 room : ((b : Int) + m) * 4096 ≤ s
 nd : (pathN s cs a 0 l t).Nodup
 low : ∀ t' ∈ pathN s cs a 0 l t, t' < s / 4096
 used : ∀ t' ∈ pathN s cs a 0 l t, ∀ x, f.testBit x = true → t' ≠ b + x
 clean : (ptA s cs (reachN s cs a 0 l t).2 a (reachN s cs a 0 l t).1).isZ = true ∨ (ptA s cs (reachN s cs a 0 l t).2 a (reachN s cs a 0 l t).1).bad ((reachN s cs a 0 l t).1 : Nat) = false
theorem tree_path {s a : Nat} {cs : List Cl} : ∀ {l t : Nat}, TreeOk s cs l t → (pathN s cs a 0 l t).Nodup ∧ ∀ f ∈ pathN s cs a 0 l t, f ∈ framesN s cs l t
 | 0, t, h => ⟨List.nodup_cons.2 ⟨List.not_mem_nil, List.nodup_nil⟩, fun f hf => hf⟩
 | l + 1, t, h => by
  rw [pathN]
  split
  ·rename_i hc
   obtain ⟨h1, h2⟩ := h.sub ixN_lt hc.2
   obtain ⟨h3, h4⟩ := tree_path h1
   refine ⟨List.nodup_cons.2 ⟨fun hm => h2 (h4 t hm), h3⟩, fun f hf => ?_⟩
   rcases List.mem_cons.1 hf with rfl | hf
   ·rw [frames_frE]; exact List.mem_cons_self ..
   ·exact mem_frE (j := ixN a (l + 1)) ixN_lt (by rw [frE, if_pos hc.2]; exact h4 f hf)
  ·exact ⟨List.nodup_cons.2 ⟨List.not_mem_nil, List.nodup_nil⟩, fun f hf => by rw [List.mem_singleton.1 hf, frames_frE]; exact List.mem_cons_self ..⟩
theorem clean_end {s a : Nat} {cs : List Cl} : ∀ {l t : Nat}, cleanN s cs l t = true → (ptA s cs (reachN s cs a 0 l t).2 a (reachN s cs a 0 l t).1).isZ = true ∨ (ptA s cs (reachN s cs a 0 l t).2 a (reachN s cs a 0 l t).1).bad ((reachN s cs a 0 l t).1 : Nat) = false
 | 0, t, h => by
  rw [cleanN_eq] at h
  have h1 := List.all_eq_true.1 h (ixN a 0) (List.mem_range.2 ixN_lt)
  simp only [clE, Bool.or_eq_true, Bool.and_eq_true, Bool.not_eq_true'] at h1
  exact h1.imp id And.left
 | l + 1, t, h => by
  rw [cleanN_eq] at h
  have h1 := List.all_eq_true.1 h (ixN a (l + 1)) (List.mem_range.2 ixN_lt)
  simp only [clE, Bool.or_eq_true, Bool.and_eq_true, Bool.not_eq_true'] at h1
  rw [reach_succ]
  split
  ·rename_i hc
   have hk := hc.2
   simp only [lnkE, lnkB, Bool.and_eq_true, Bool.not_eq_true'] at hk
   rcases h1 with h1 | ⟨_, h1⟩
   ·rw [Pt.isZ_zero.1 h1] at hk
    exact absurd hk.1 (by decide)
   ·exact clean_end (h1.resolve_left (by rw [hk.1]; decide))
  ·exact h1.imp id And.left
theorem SpOk.way {s b f t l a : Nat} {m lv : Int} {cs : List Cl} (h : SpOk s b f m cs lv t l) (hC : COk cs) : WayOk s b f m cs a l t := by
 obtain ⟨h1, h2⟩ := tree_path (a := a) h.tree
 refine ⟨h.le, h.rm, hC, h.pool, h.room, h1, fun t' ht' => h.tree.low t' (h2 t' ht'), fun t' ht' x hx e => ?_, clean_end h.clean⟩
 have hxm : (x : Int) < m := by
  have hf := h.pool.f64
  refine Int.lt_of_not_ge fun hge => ?_
  by_cases h64 : x < 64
  ·rw [h.pool.fr x hge h64] at hx; cases hx
  ·rw [testBit_lt64 hf (by omega)] at hx; cases hx
 have hno : ¬ isP b m f t' = true := fun hp => by
  simp only [isP, Bool.and_eq_true, Bool.not_eq_true'] at hp
  rw [e, Nat.add_sub_cancel_left, hx] at hp
  cases hp.2
 have hin := h2 t' ht'
 rw [frames_frE] at hin
 rcases List.mem_cons.1 hin with rfl | hin
 ·refine hno (h.topu ?_)
  simp only [inP, Bool.and_eq_true, decide_eq_true_eq]
  omega
 ·exact hno (h.used t' (by rw [frames_frE]; exact hin))
theorem WayOk.len0 {s b f l t a : Nat} {m : Int} {cs : List Cl} (h : WayOk s b f m cs a l t) : t < s / 4096 := h.low t path_head
theorem WayOk.tail {s b f l t a : Nat} {m : Int} {cs : List Cl} (h : WayOk s b f m cs a (l + 1) t) (hk : lnkE s cs t (l + 1) (ixN a (l + 1)) = true) : WayOk s b f m cs a l (ptN (entN s cs t (ixN a (l + 1)))).ppn := by
 have hc : 0 < l + 1 ∧ lnkE s cs t (l + 1) (ixN a (l + 1)) = true := ⟨by omega, hk⟩
 have hp : pathN s cs a 0 (l + 1) t = t :: pathN s cs a 0 l (ptN (entN s cs t (ixN a (l + 1)))).ppn := by rw [pathN, if_pos hc]
 have hr : reachN s cs a 0 (l + 1) t = reachN s cs a 0 l (ptN (entN s cs t (ixN a (l + 1)))).ppn := by rw [reach_succ, if_pos hc]
 refine ⟨by have := h.le; omega, h.rm, h.cok, h.pool, h.room, (List.nodup_cons.1 (hp ▸ h.nd)).2, fun t' ht' => h.low t' (by rw [hp]; exact List.mem_cons_of_mem _ ht'), fun t' ht' => h.used t' (by rw [hp]; exact List.mem_cons_of_mem _ ht'), ?_⟩
 have := h.clean
 rwa [hr] at this
def lkP (fr : Nat) : Pt := ⟨true, false, false, false, false, false, false, false, 0, fr, 0⟩
theorem lkP_may {fr : Nat} (h : fr < 17592186044416) : (lkP fr).May := ⟨by show 0 < 4; decide, h, by show 0 < 1024; decide⟩
theorem lkP_lnk {fr l : Nat} (h : l ≠ 0) : lnkB (lkP fr) (l : Int) = true := by
 have : ((l : Int) == 0) = false := by simpa using h
 simp [lnkB, lkP, Pt.link, Pt.bad, this]
theorem way_step {s b f l t a w x : Nat} {m : Int} {cs cs' : List Cl} {g : Nat → Nat} (h : WayOk s b f m cs a l t) {r : Nat × Nat} (hr : reachN s cs a w l t = r) (h0 : w < r.1) (hx : (x : Int) < m) (hfx : f.testBit x = true)
 (hR : RM s cs') (hC : COk cs')
 (he : ∀ t' j, j < 512 → entN s cs' t' j = if t' = r.2 ∧ j = ixN a r.1 then wdN (lkP (b + x)) else if t' = b + x then g j else entN s cs t' j)
 (hg : ∀ j, j < 512 → (ptN (g j)).link = false) (hcl : (ptN (g (ixN a (r.1 - 1)))).isZ = true ∨ (ptN (g (ixN a (r.1 - 1)))).bad ((r.1 - 1 : Nat) : Int) = false) :
 reachN s cs' a w l t = (r.1 - 1, b + x) ∧ WayOk s b (setN f x 1 0) m cs' a l t ∧ ptN (entN s cs' r.2 (ixN a r.1)) = lkP (b + x) := by
 have hhi := h.pool.hi
 have hbs := h.pool.bs
 have hroom := h.room
 have hf := h.pool.f64
 have hr0 : reachN s cs a 0 l t = r := by rw [reach_same (w := w) (by rw [hr]; exact h0)]; exact hr
 have hnot : b + x ∉ pathN s cs a 0 l t := fun hm => h.used _ hm x hfx rfl
 have hend := reach_path (s := s) (a := a) (w := 0) (cs := cs) (l := l) (t := t)
 rw [hr0] at hend
 have hne : b + x ≠ r.2 := fun e => hnot (e ▸ hend)
 have hmay : (lkP (b + x)).May := lkP_may (by omega)
 have hlk : ptN (entN s cs' r.2 (ixN a r.1)) = lkP (b + x) := by
  rw [he _ _ ixN_lt, if_pos ⟨rfl, rfl⟩, ptN_wdN hmay]
 have hnew : ∀ j, j < 512 → entN s cs' (b + x) j = g j := fun j hj => by rw [he _ _ hj, if_neg (fun e => hne e.1), if_pos rfl]
 have hflat := fun v => way_flat (s := s) (cs := cs') (a := a) (w := v) (l := r.1 - 1) (t := b + x) (fun j hj => by rw [hnew j hj]; exact hg j hj)
 have hway := fun v (hv : reachN s cs a v l t = r) (hv2 : v < r.1) => way_put (s := s) (a := a) (w := v) (fr := b + x) (cs := cs) (cs' := cs') (l := l) (t := t) (path_pre.sublist.nodup h.nd) (by rw [hv]; exact hv2) (fun t' ht' j hj hn => by
  rw [hv] at hn
  rw [he _ _ hj, if_neg hn, if_neg (fun e => hnot (by rw [← e]; exact path_pre.subset ht'))]) (by rw [hv, lnkE, hlk]; exact lkP_lnk (by omega)) (by rw [hv, hlk]; rfl)
 obtain ⟨h1, h2⟩ := hway 0 hr0 (by omega)
 obtain ⟨h3, _⟩ := hway w hr h0
 rw [hr0, (hflat 0).1] at h1
 rw [hr0, (hflat 0).2] at h2
 rw [hr, (hflat w).1] at h3
 refine ⟨h3, ⟨h.le, hR, hC, h.pool.set hx, h.room, ?_, fun t' ht' => ?_, fun t' ht' y hy => ?_, ?_⟩, hlk⟩
 ·rw [h2]
  exact List.nodup_append.2 ⟨h.nd, List.nodup_cons.2 ⟨List.not_mem_nil, List.nodup_nil⟩, fun p hp q hq e => hnot (by rw [← List.mem_singleton.1 hq, ← e]; exact hp)⟩
 ·rw [h2] at ht'
  rcases List.mem_append.1 ht' with ht' | ht'
  ·exact h.low t' ht'
  ·rw [List.mem_singleton.1 ht']; omega
 ·rw [set_bit hf (by omega)] at hy
  rw [h2] at ht'
  split at hy
  ·simp at hy
  ·rename_i hyx
   rcases List.mem_append.1 ht' with ht' | ht'
   ·exact h.used t' ht' y hy
   ·rw [List.mem_singleton.1 ht']; omega
 ·rw [h1]
  show (ptN (entN s cs' (b + x) (ixN a (r.1 - 1)))).isZ = true ∨ (ptN (entN s cs' (b + x) (ixN a (r.1 - 1)))).bad _ = false
  rw [hnew _ ixN_lt]
  exact hcl
theorem WayOk.stop {s b f l t a w : Nat} {m : Int} {cs : List Cl} (h : WayOk s b f m cs a l t) {r : Nat × Nat} (hr : reachN s cs a w l t = r) (h0 : w < r.1) : (ptA s cs r.2 a r.1).v = (ptA s cs r.2 a r.1).leaf ∧ (ptA s cs r.2 a r.1).link = false ∧ ((ptA s cs r.2 a r.1).leaf = true → (ptA s cs r.2 a r.1).bad (r.1 : Nat) = false) := by
 have hr0 : reachN s cs a 0 l t = r := by rw [reach_same (w := w) (by rw [hr]; exact h0)]; exact hr
 have hs := reach_stop (s := s) (a := a) (w := w) (cs := cs) (l := l) (t := t) (by rw [hr]; exact h0)
 have hc := h.clean
 rw [hr] at hs
 rw [hr0] at hc
 change lnkB (ptA s cs r.2 a r.1) (r.1 : Nat) = false at hs
 generalize ptA s cs r.2 a r.1 = p at hs hc ⊢
 rcases hc with hc | hc
 ·rw [Pt.isZ_zero.1 hc]
  exact ⟨rfl, rfl, fun h => by cases h⟩
 ·rw [lnkB, hc] at hs
  have hk : p.link = false := by simpa using hs
  have hl := Pt.leaf_of hc hk
  refine ⟨?_, hk, fun _ => hc⟩
  rw [hl]
  simp only [Pt.leaf, Bool.and_eq_true] at hl
  exact hl.1
end Go.Proofs.YtnkjmocacielmaaDoor.Sx
