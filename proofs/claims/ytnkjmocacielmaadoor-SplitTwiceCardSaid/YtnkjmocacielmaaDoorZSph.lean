/-
 Layer 20: a way pruned: contracts.
-/
import Derived.Test.YtnkjmocacielmaaDoorZSpg
namespace Go.Proofs.YtnkjmocacielmaaDoor.Sx
open Go
set_option linter.unusedVariables false
set_option linter.unusedSimpArgs false
set_option maxRecDepth 100000
def pruQ (b a : Nat) (r : List Cl × Nat) (l t q : Nat) : List Cl × Nat := if noneF r.1 q = true then (putM (clrF r.1 q) (t * 512 + ixN a l) 0, setN r.2 (q - b) 1 1) else r
def prunS (s b a : Nat) : Nat → List Cl → Nat → Nat → List Cl × Nat
 | 0, cs, f, t => (cs, f)
 | l + 1, cs, f, t => if lnkE s cs t (l + 1) (ixN a (l + 1)) = true then pruQ b a (prunS s b a l cs f (ptA s cs t a (l + 1)).ppn) (l + 1) t (ptA s cs t a (l + 1)).ppn else (cs, f)
def lkOk (s : Nat) (cs : List Cl) (a : Nat) : Nat → Nat → Prop
 | 0, t => (ptA s cs t a 0).link = false
 | l + 1, t => ((ptA s cs t a (l + 1)).link = true → lnkE s cs t (l + 1) (ixN a (l + 1)) = true) ∧ (lnkE s cs t (l + 1) (ixN a (l + 1)) = true → lkOk s cs a l (ptA s cs t a (l + 1)).ppn)
structure PrOk (s b : Nat) (m : Int) (r : List Cl × Nat) : Prop where
 rm : RM s r.1
 cok : COk r.1
 pool : PoolOk b m r.2
 len : r.1.length ≤ 2000
theorem wd_zero : wdN Pt.zero = 0 := by kernel_rfl
theorem pr_ok {s b l t q a n : Nat} {m : Int} {r : List Cl × Nat} (h : PrOk s b m r) (hn : r.1.length + 1 ≤ n) (hn2 : n ≤ 2000) (hq : isP b m r.2 q = true) (ht : t < s / 4096) : PrOk s b m (pruQ b a r l t q) ∧ (pruQ b a r l t q).1.length ≤ n ∧ ∀ q', q' ≠ q → isP b m r.2 q' = true → isP b m (pruQ b a r l t q).2 q' = true := by
 have hix := ixN_lt (a := a) (l := l)
 have he := h.rm.even
 have hm := h.rm.most
 unfold pruQ
 split
 ·have hc := clrF_rm (fr := q) h.rm
  have hcl := clrF_len (fr := q) h.rm.asc
  have hln := len_put (cs := clrF r.1 q) (p := t * 512 + ixN a l) (v := 0)
  simp only [isP, Bool.and_eq_true, decide_eq_true_eq, Bool.not_eq_true'] at hq
  refine ⟨⟨hc.put (by omega), cok_put hc.asc (clrF_cok h.rm.asc h.cok) (by omega) (by decide), h.pool.set hq.1.2, by simp only; omega⟩, by simp only; omega, fun q' hne hq' => ?_⟩
  simp only [isP, Bool.and_eq_true, decide_eq_true_eq, Bool.not_eq_true'] at hq' ⊢
  have hhi := h.pool.hi
  refine ⟨hq'.1, ?_⟩
  rw [set_bit h.pool.f64 (by omega), if_neg (by omega)]
  exact hq'.2
 ·exact ⟨h, by omega, fun q' _ h => h⟩
theorem pr_ent {s b l t q a t' j : Nat} {m : Int} {r : List Cl × Nat} (h : PrOk s b m r) (ht : t < s / 4096) (hj : j < 512) (h1 : t' ≠ t) (h2 : t' ≠ q) : entN s (pruQ b a r l t q).1 t' j = entN s r.1 t' j := by
 unfold pruQ
 split
 ·rw [ent_put (clrF_rm h.rm) ht ixN_lt hj, if_neg (fun e => h1 e.1), ent_clr h.rm.asc hj, if_neg h2]
 ·rfl
theorem reach_self {s a l t : Nat} {cs : List Cl} : reachN s cs a l l t = (l, t) := by
 cases l with
 | zero => rfl
 | succ l => rw [reach_succ, if_neg (by omega)]
structure BelOk (s b : Nat) (m : Int) (r : List Cl × Nat) (t l q : Nat) : Prop where
 ok : PrOk s b m r
 t1 : t < s / 4096
 l2 : l ≤ 2
 q1 : q < s / 4096
 qp : isP b m r.2 q = true
theorem BelOk.empty {s b t l q : Nat} {m : Int} {cs : List Cl} {f : Nat} (h : BelOk s b m (cs, f) t l q) : Cn gAll 87 [md 2 s cs, u q] [bb (noneF cs q)] := by
 have hm := h.ok.rm.most
 have := h.ok.len
 have := h.q1
 rw [none_empty h.ok.rm h.q1]
 exact empty_con h.ok.rm.asc h.ok.cok (by simp only at *; omega) (by omega)
theorem BelOk.back {s b t l q : Nat} {m : Int} {cs : List Cl} {f : Nat} (h : BelOk s b m (cs, f) t l q) : Cn gAll 88 [md 2 s cs, plD b m f, u q] [md 2 s (clrF cs q), plD b m (setN f (q - b) 1 1)] := by
 have := h.ok.len
 exact back_con h.ok.pool h.qp h.ok.rm.asc (by simp only at *; omega)
theorem BelOk.wth {s b t l q a : Nat} {m : Int} {cs : List Cl} {f : Nat} {p : Pt} (h : BelOk s b m (cs, f) t l q) (ha : a < 18446744073709551616) : Cn gAll 29 [md 2 s (clrF cs q), (true, U t :: I l :: p.ds), u a, Pt.zero.dv] [md 2 s (putM (clrF cs q) (t * 512 + ixN a l) 0)] := by
 have := h.ok.len
 have hcl := clrF_len (fr := q) h.ok.rm.asc
 have := with_con (s := s) (t := t) (l := l) (a := a) (p := Pt.zero) (q := p) (clrF_rm (fr := q) h.ok.rm) (clrF_cok h.ok.rm.asc h.ok.cok) (by simp only at *; omega) ha h.l2 h.t1 ⟨by decide, by decide, by decide⟩
 rwa [wd_zero] at this
theorem BelOk.rempty {s b t l q : Nat} {m : Int} {cs : List Cl} {f : Nat} (h : BelOk s b m (cs, f) t l q) : Cn gAll 42 [md 2 s cs, u q] [bb (noneF cs q)] := by
 have := h.ok.len
 exact refEmpty_con h.ok.cok (by simp only at *; omega)
theorem BelOk.rback {s b t l q : Nat} {m : Int} {cs : List Cl} {f : Nat} (h : BelOk s b m (cs, f) t l q) : Cn gAll 43 [md 2 s cs, plD b m f, u q] [md 2 s (clrF cs q), plD b m (setN f (q - b) 1 1)] := by
 have := h.ok.len
 have hm := h.ok.rm.most
 exact refBack_con h.ok.pool h.qp h.ok.rm.asc (fun c hc => by have := h.ok.rm.low c hc; omega) (by simp only at *; omega)
theorem BelOk.rwth {s b t l q a : Nat} {m : Int} {cs : List Cl} {f : Nat} {p : Pt} (h : BelOk s b m (cs, f) t l q) (ha : a < 18446744073709551616) : Cn gAll 23 [md 2 s (clrF cs q), (true, U t :: I l :: p.ds), u a, Pt.zero.dv] [md 2 s (putM (clrF cs q) (t * 512 + ixN a l) 0)] := by
 have := h.ok.len
 have hcl := clrF_len (fr := q) h.ok.rm.asc
 have := refWith_con (s := s) (t := t) (l := l) (a := a) (p := Pt.zero) (q := p) (clrF_rm (fr := q) h.ok.rm) (by simp only at *; omega) ha h.l2 h.t1 ⟨by decide, by decide, by decide⟩
 rwa [wd_zero] at this
theorem pru_yes {b a l t q : Nat} {cs : List Cl} {f : Nat} (h : noneF cs q = true) : pruQ b a (cs, f) l t q = (putM (clrF cs q) (t * 512 + ixN a l) 0, setN f (q - b) 1 1) := if_pos h
theorem pru_no {b a l t q : Nat} {cs : List Cl} {f : Nat} (h : noneF cs q = false) : pruQ b a (cs, f) l t q = (cs, f) := if_neg (by rw [h]; decide)
def PruF (s b : Nat) (m : Int) (cs : List Cl) (f a : Nat) : Nat → Nat → Prop
 | 0, t => (ptA s cs t a 0).link = false
 | l + 1, t => ((ptA s cs t a (l + 1)).link = true → lnkE s cs t (l + 1) (ixN a (l + 1)) = true) ∧ (lnkE s cs t (l + 1) (ixN a (l + 1)) = true →
  PruF s b m cs f a l (ptA s cs t a (l + 1)).ppn ∧ BelOk s b m (prunS s b a l cs f (ptA s cs t a (l + 1)).ppn) t (l + 1) (ptA s cs t a (l + 1)).ppn ∧
  ptA s (prunS s b a l cs f (ptA s cs t a (l + 1)).ppn).1 t a (l + 1) = ptA s cs t a (l + 1))
theorem pru_all {s b f a : Nat} {m : Int} {cs : List Cl} (hO : PrOk s b m (cs, f)) (hlen : cs.length ≤ 1500) : ∀ {l t : Nat}, (pathN s cs a 0 l t).Nodup → (∀ q ∈ pathN s cs a 0 l t, q < s / 4096) → (∀ q ∈ (pathN s cs a 0 l t).tail, isP b m f q = true) → lkOk s cs a l t → l ≤ 2 →
 PruF s b m cs f a l t ∧ PrOk s b m (prunS s b a l cs f t) ∧ (prunS s b a l cs f t).1.length ≤ cs.length + l ∧ (∀ q', q' ∉ (pathN s cs a 0 l t).tail → isP b m f q' = true → isP b m (prunS s b a l cs f t).2 q' = true) ∧
  (∀ t' j, j < 512 → t' ∉ pathN s cs a 0 l t → entN s (prunS s b a l cs f t).1 t' j = entN s cs t' j)
 | 0, t, hn, hlow, hu, hk, hl => ⟨hk, hO, Nat.le_refl _, fun _ _ h => h, fun _ _ _ _ => rfl⟩
 | l + 1, t, hn, hlow, hu, hk, hl => by
  by_cases hc : lnkE s cs t (l + 1) (ixN a (l + 1)) = true
  ·have hp : pathN s cs a 0 (l + 1) t = t :: pathN s cs a 0 l (ptA s cs t a (l + 1)).ppn := by rw [pathN, if_pos ⟨by omega, hc⟩]; rfl
   rw [hp] at hn hlow hu ⊢
   obtain ⟨hn1, hn2⟩ := List.nodup_cons.1 hn
   rw [List.tail_cons] at hu ⊢
   obtain ⟨q, hq⟩ : ∃ q, q = (ptA s cs t a (l + 1)).ppn := ⟨_, rfl⟩
   have hk2 := hk.2 hc
   have hhead : q ∈ pathN s cs a 0 l q := path_head
   obtain ⟨tl, htl⟩ : ∃ tl, pathN s cs a 0 l q = q :: tl := by
    cases l with
    | zero => exact ⟨[], rfl⟩
    | succ l => exact ⟨_, rfl⟩
   rw [← hq] at hn1 hn2 hlow hu hk2
   have hqt : q ∉ tl := by rw [htl] at hn2; exact (List.nodup_cons.1 hn2).1
   obtain ⟨i1, i2, i3, i4, i5⟩ := pru_all hO hlen (l := l) (t := q) hn2 (fun x hx => hlow x (List.mem_cons_of_mem _ hx)) (fun x hx => hu x (List.mem_of_mem_tail hx)) hk2 (by omega)
   have hE : prunS s b a (l + 1) cs f t = pruQ b a (prunS s b a l cs f q) (l + 1) t q := by rw [prunS, if_pos hc, hq]
   have ht : t < s / 4096 := hlow t (List.mem_cons_self ..)
   have hqp : isP b m (prunS s b a l cs f q).2 q = true := i4 q (by rw [htl]; exact hqt) (hu q hhead)
   have hbel : BelOk s b m (prunS s b a l cs f q) t (l + 1) q := ⟨i2, ht, by omega, hlow q (List.mem_cons_of_mem _ hhead), hqp⟩
   obtain ⟨j1, j2, j3⟩ := pr_ok (a := a) (l := l + 1) i2 (n := cs.length + (l + 1)) (by omega) (by omega) hqp ht
   rw [hE, ← hq]
   refine ⟨⟨hk.1, fun _ => ?_⟩, j1, j2, fun q' hq' hi => j3 q' (fun e => hq' (by rw [e]; exact hhead)) (i4 q' (fun e => hq' (List.mem_of_mem_tail e)) hi), fun t' j hj ht' => ?_⟩
   ·rw [← hq]
    exact ⟨i1, hbel, by rw [ptA, i5 t _ ixN_lt hn1]; rfl⟩
   ·rw [pr_ent i2 ht hj (fun e => ht' (by rw [e]; exact List.mem_cons_self ..)) (fun e => ht' (by rw [e]; exact List.mem_cons_of_mem _ hhead)), i5 t' j hj (fun e => ht' (List.mem_cons_of_mem _ e))]
  ·have hE : prunS s b a (l + 1) cs f t = (cs, f) := by rw [prunS, if_neg hc]
   rw [hE]
   exact ⟨⟨hk.1, fun h => absurd h hc⟩, hO, by simp only; omega, fun _ _ h => h, fun _ _ _ _ => rfl⟩
theorem lk_of_clean {s a : Nat} {cs : List Cl} : ∀ {l t : Nat}, cleanN s cs l t = true → lkOk s cs a l t
 | 0, t, h => by
  rw [cleanN_eq] at h
  have h1 := List.all_eq_true.1 h (ixN a 0) (List.mem_range.2 ixN_lt)
  simp only [clE, Bool.or_eq_true, Bool.and_eq_true, Bool.not_eq_true'] at h1
  show (ptN (entN s cs t (ixN a 0))).link = false
  rcases h1 with h1 | ⟨h1, _⟩
  ·rw [Pt.isZ_zero.1 h1]; rfl
  ·exact Pt.link_low h1
 | l + 1, t, h => by
  rw [cleanN_eq] at h
  have h1 := List.all_eq_true.1 h (ixN a (l + 1)) (List.mem_range.2 ixN_lt)
  simp only [clE, Bool.or_eq_true, Bool.and_eq_true, Bool.not_eq_true'] at h1
  refine ⟨fun hk => ?_, fun hk => ?_⟩
  ·change (ptN (entN s cs t (ixN a (l + 1)))).link = true at hk
   rcases h1 with h1 | ⟨h1, _⟩
   ·rw [Pt.isZ_zero.1 h1] at hk; cases hk
   ·rw [lnkE, lnkB, hk, h1]; rfl
  ·rw [lnkE, lnkB, Bool.and_eq_true, Bool.not_eq_true'] at hk
   rcases h1 with h1 | ⟨_, h1⟩
   ·rw [Pt.isZ_zero.1 h1] at hk; exact absurd hk.1 (by decide)
   ·exact lk_of_clean (h1.resolve_left (by rw [hk.1]; decide))
theorem path_tail {s a : Nat} {cs : List Cl} : ∀ {l t : Nat}, ∀ q ∈ (pathN s cs a 0 l t).tail, q ∈ (framesN s cs l t).tail
 | 0, t => fun q hq => by cases hq
 | l + 1, t => fun q hq => by
  rw [pathN, List.tail_cons] at hq
  split at hq
  ·rename_i hc
   rw [frames_frE, List.tail_cons]
   refine List.mem_flatMap.2 ⟨ixN a (l + 1), List.mem_range.2 ixN_lt, ?_⟩
   rw [frE, if_pos hc.2]
   have key : ∀ {l t : Nat}, ∀ f ∈ pathN s cs a 0 l t, f ∈ framesN s cs l t := fun {l t} f hf => by
    have : ∀ {l t : Nat}, ∀ f ∈ pathN s cs a 0 l t, f ∈ framesN s cs l t := by
     intro l
     induction l with
     | zero => exact fun f hf => hf
     | succ l ih =>
      intro t f hf
      rw [pathN] at hf
      rw [frames_frE]
      rcases List.mem_cons.1 hf with rfl | hf
      ·exact List.mem_cons_self ..
      ·split at hf
       ·rename_i hc
        exact List.mem_cons_of_mem _ (List.mem_flatMap.2 ⟨ixN a (l + 1), List.mem_range.2 ixN_lt, by rw [frE, if_pos hc.2]; exact ih f hf⟩)
       ·cases hf
    exact this f hf
   exact key q hq
  ·cases hq
theorem SpOk.pru {s b f t l a : Nat} {m lv : Int} {cs : List Cl} (h : SpOk s b f m cs lv t l) (hC : COk cs) : PrOk s b m (cs, f) ∧ PruF s b m cs f a l t ∧ PrOk s b m (prunS s b a l cs f t) ∧ (prunS s b a l cs f t).1.length ≤ cs.length + l := by
 have hw := h.way (a := a) hC
 have hO : PrOk s b m (cs, f) := ⟨h.rm, hC, h.pool, by have := h.len; simp only; omega⟩
 obtain ⟨h1, h2, h3, _⟩ := pru_all hO h.len hw.nd hw.low (fun q hq => h.used q (path_tail q hq)) (lk_of_clean h.clean) h.le
 exact ⟨hO, h1, h2, h3⟩
end Go.Proofs.YtnkjmocacielmaaDoor.Sx
