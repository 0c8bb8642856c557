/-
 Layer 20: a leaf split: contracts.
-/
import Derived.Test.YtnkjmocacielmaaDoorZSpd
namespace Go.Proofs.YtnkjmocacielmaaDoor.Sx
open Go
set_option linter.unusedVariables false
set_option linter.unusedSimpArgs false
set_option maxRecDepth 100000
def rowL (fr : Nat) (g : Nat → Nat) (n : Nat) : List Cl := (List.range n).map fun j => (fr * 512 + j, g j)
def rowC (c : List Cl) (fr : Nat) (g : Nat → Nat) (n : Nat) : List Cl := below c (fr * 512) ++ (rowL fr g n ++ above c (fr * 512))
theorem row_zero {c : List Cl} {fr : Nat} {g : Nat → Nat} (hs : Asc c) : rowC c fr g 0 = c := by
 rw [rowC, rowL, List.range_zero, List.map_nil, List.nil_append, ← take_low hs, ← drop_low hs, List.take_append_drop]
theorem rowL_succ {fr n : Nat} {g : Nat → Nat} : rowL fr g (n + 1) = rowL fr g n ++ [(fr * 512 + n, g n)] := by
 rw [rowL, rowL, List.range_succ, List.map_append]; rfl
theorem row_next {c : List Cl} {fr n : Nat} {g : Nat → Nat} (hs : Asc (rowC c fr g n)) (hfar : ∀ x ∈ c, x.1 < fr * 512 ∨ fr * 512 + 512 ≤ x.1) (hn : n < 512) (hg : g n ≠ 0) : putM (rowC c fr g n) (fr * 512 + n) (g n) = rowC c fr g (n + 1) := by
 have hB : ∀ x ∈ below c (fr * 512), x.1 < fr * 512 := fun x hx => (mem_below.1 hx).2
 have hA : ∀ x ∈ above c (fr * 512), fr * 512 + 512 ≤ x.1 := fun x hx => by
  have h1 := (mem_above.1 hx)
  have := hfar x h1.1
  omega
 have hr : ∀ x ∈ rowL fr g n, fr * 512 ≤ x.1 ∧ x.1 < fr * 512 + n := fun x hx => by
  obtain ⟨j, hj, rfl⟩ := List.mem_map.1 hx
  have := List.mem_range.1 hj
  exact ⟨by simp only; omega, by simp only; omega⟩
 rw [putM_eq hs, if_neg hg]
 have e1 : below (rowC c fr g n) (fr * 512 + n) = below c (fr * 512) ++ rowL fr g n := by
  unfold rowC
  rw [below, List.filter_append, List.filter_append, List.filter_eq_self.2 (fun x hx => by have := hB x hx; simp only [decide_eq_true_eq]; omega), List.filter_eq_self.2 (fun x hx => by have := hr x hx; simp only [decide_eq_true_eq]; omega),
   List.filter_eq_nil_iff.2 (fun x hx => by have := hA x hx; simp only [decide_eq_true_eq]; omega), List.append_nil]
 have e2 : above (rowC c fr g n) (fr * 512 + n + 1) = above c (fr * 512) := by
  unfold rowC
  rw [above, List.filter_append, List.filter_append, List.filter_eq_nil_iff.2 (fun x hx => by have := hB x hx; simp only [decide_eq_true_eq]; omega), List.filter_eq_nil_iff.2 (fun x hx => by have := hr x hx; simp only [decide_eq_true_eq]; omega),
   List.filter_eq_self.2 (fun x hx => by have := hA x hx; simp only [decide_eq_true_eq]; omega), List.nil_append, List.nil_append]
 rw [e1, e2, rowC, rowL_succ]
 simp only [List.append_assoc]
structure RowOk (s : Nat) (c : List Cl) (fr : Nat) (g : Nat → Nat) (n : Nat) : Prop where
 rm : RM s (rowC c fr g n)
 cok : COk (rowC c fr g n)
 len : (rowC c fr g n).length = c.length + n
 ent : ∀ t j, j < 512 → entN s (rowC c fr g n) t j = if t = fr ∧ j < n then g j else entN s c t j
theorem row_ok {s : Nat} {c : List Cl} {fr : Nat} {g : Nat → Nat} (hR : RM s c) (hC : COk c) (hfr : fr < s / 4096) (hfar : ∀ x ∈ c, x.1 < fr * 512 ∨ fr * 512 + 512 ≤ x.1) (hg : ∀ j, j < 512 → g j ≠ 0 ∧ g j < 18446744073709551616) : ∀ n, n ≤ 512 → RowOk s c fr g n := by
 have he := hR.even
 have hm := hR.most
 intro n
 induction n with
 | zero => exact fun _ => ⟨by rw [row_zero hR.asc]; exact hR, by rw [row_zero hR.asc]; exact hC, by rw [row_zero hR.asc]; rfl, fun t j hj => by rw [row_zero hR.asc, if_neg (by omega)]⟩
 | succ n ih =>
  intro hn
  obtain ⟨h1, h2, h3, h4⟩ := ih (by omega)
  have hx := row_next h1.asc hfar (by omega) (hg n (by omega)).1
  refine ⟨by rw [← hx]; exact h1.put (by omega), by rw [← hx]; exact cok_put h1.asc h2 (by omega) (hg n (by omega)).2, ?_, fun t j hj => ?_⟩
  ·rw [rowC, rowL_succ]
   rw [rowC] at h3
   simp only [List.length_append, List.length_singleton] at h3 ⊢
   omega
  ·rw [← hx, ent_put h1 hfr (by omega) hj, h4 t j hj]
   by_cases e : t = fr ∧ j = n
   ·rw [if_pos e, if_pos ⟨e.1, by omega⟩, e.2]
   ·rw [if_neg e]
    by_cases e2 : t = fr ∧ j < n
    ·rw [if_pos e2, if_pos ⟨e2.1, by omega⟩]
    ·rw [if_neg e2, if_neg (by omega)]
def partP (p : Pt) (l j : Nat) : Pt := { p with ppn := p.ppn + j * pgN ((l - 1 : Nat) : Int) }
structure SplOk (p : Pt) (l : Nat) : Prop where
 l1 : 1 ≤ l
 l2 : l ≤ 2
 may : p.May
 leaf : p.leaf = true
 good : p.bad (l : Int) = false
theorem pg_lv {l : Nat} (h1 : 1 ≤ l) (h2 : l ≤ 2) : pgN (l : Int) = 512 * pgN ((l - 1 : Nat) : Int) ∧ pgN ((l - 1 : Nat) : Int) ≤ 512 ∧ 1 ≤ pgN ((l - 1 : Nat) : Int) := by
 obtain rfl | rfl : l = 1 ∨ l = 2 := by omega
 ·exact ⟨rfl, by decide, by decide⟩
 ·exact ⟨rfl, by decide, by decide⟩
theorem SplOk.al {p : Pt} {l : Nat} (h : SplOk p l) : p.ppn % pgN (l : Int) = 0 := by
 have hg := h.good
 have hl := h.leaf
 simp only [Pt.bad, Bool.or_eq_false_iff] at hg
 simp only [Pt.leaf, Bool.and_eq_true] at hl
 have h2 := hg.2
 split at h2
 ·rename_i hc
  simp only [Bool.and_eq_true, Bool.not_eq_true'] at hc
  rw [hc.1, hc.2] at hl
  exact absurd hl.2 (by decide)
 ·simpa using h2
theorem SplOk.top {p : Pt} {l : Nat} (h : SplOk p l) : p.ppn + pgN (l : Int) ≤ 17592186044416 := by
 have hal := h.al
 have hm := h.may.2.1
 have h1 := h.l1
 have h2 := h.l2
 obtain rfl | rfl : l = 1 ∨ l = 2 := by omega
 ·simp only [show pgN ((1 : Nat) : Int) = 512 from rfl] at *; omega
 ·simp only [show pgN ((2 : Nat) : Int) = 262144 from rfl] at *; omega
theorem SplOk.ppn {p : Pt} {l j : Nat} (h : SplOk p l) (hj : j < 512) : p.ppn + j * pgN ((l - 1 : Nat) : Int) < 17592186044416 := by
 have ht := h.top
 obtain ⟨h1, h2, h3⟩ := pg_lv h.l1 h.l2
 have : j * pgN ((l - 1 : Nat) : Int) < 512 * pgN ((l - 1 : Nat) : Int) := Nat.mul_lt_mul_of_pos_right hj (by omega)
 omega
theorem SplOk.part {p : Pt} {l j : Nat} (h : SplOk p l) (hj : j < 512) : (partP p l j).May ∧ (partP p l j).leaf = true ∧ (partP p l j).bad ((l - 1 : Nat) : Int) = false := by
 have hal := h.al
 have hg := h.good
 have hl := h.leaf
 have hpp := h.ppn hj
 obtain ⟨h1, h2, h3⟩ := pg_lv h.l1 h.l2
 refine ⟨⟨h.may.1, hpp, h.may.2.2⟩, hl, ?_⟩
 simp only [Pt.bad, Bool.or_eq_false_iff] at hg ⊢
 refine ⟨hg.1, ?_⟩
 have hnl : ¬ ((!p.r && !p.x) = true) := fun hc => by
  simp only [Bool.and_eq_true, Bool.not_eq_true'] at hc
  simp only [Pt.leaf, Bool.and_eq_true, hc.1, hc.2] at hl
  exact absurd hl.2 (by decide)
 show (if (!p.r && !p.x) = true then _ else (p.ppn + j * pgN ((l - 1 : Nat) : Int)) % pgN ((l - 1 : Nat) : Int) != 0) = false
 rw [if_neg hnl]
 have : (p.ppn + j * pgN ((l - 1 : Nat) : Int)) % pgN ((l - 1 : Nat) : Int) = 0 := by
  rw [Nat.add_mul_mod_self_right]
  rw [h1] at hal
  exact Nat.mod_eq_zero_of_dvd (Nat.dvd_trans ⟨512, by rw [Nat.mul_comm]⟩ (Nat.dvd_of_mod_eq_zero hal))
 rw [this]
 rfl
def gP (p : Pt) (l j : Nat) : Nat := wdN (partP p l j)
theorem SplOk.gP {p : Pt} {l j : Nat} (h : SplOk p l) (hj : j < 512) : gP p l j ≠ 0 ∧ gP p l j < 18446744073709551616 ∧ ptN (gP p l j) = partP p l j := by
 obtain ⟨h1, h2, _⟩ := h.part hj
 have e := ptN_wdN h1
 refine ⟨fun h0 => ?_, wdN_lt, e⟩
 rw [show wdN (partP p l j) = 0 from h0, ptN_zero] at e
 rw [← e] at h2
 cases h2
def lfM (b a : Nat) (cs : List Cl) (l t x : Nat) (p : Pt) : List Cl := putM (rowC (clrF cs (b + x)) (b + x) (gP p l) 512) (t * 512 + ixN a l) (wdN (lkP (b + x)))
theorem lf_step {s b f l t a w x : Nat} {m : Int} {cs : List Cl} (h : WayOk s b f m cs a l t) {r : Nat × Nat} (hr : reachN s cs a w l t = r) (h0 : w < r.1) (hx : (x : Int) < m) (hfx : f.testBit x = true) (hp : SplOk (ptA s cs r.2 a r.1) r.1) :
 reachN s (lfM b a cs r.1 r.2 x (ptA s cs r.2 a r.1)) a w l t = (r.1 - 1, b + x) ∧ WayOk s b (setN f x 1 0) m (lfM b a cs r.1 r.2 x (ptA s cs r.2 a r.1)) a l t ∧ (lfM b a cs r.1 r.2 x (ptA s cs r.2 a r.1)).length ≤ cs.length + 513 := by
 have hlow : r.2 < s / 4096 := h.low _ (path_pre.subset (hr ▸ reach_path (s := s) (a := a) (w := w) (cs := cs) (l := l) (t := t)))
 have hix := ixN_lt (a := a) (l := r.1)
 have he := h.rm.even
 have hm := h.rm.most
 have hbs := h.pool.bs
 have hhi := h.pool.hi
 have hroom := h.room
 have hc := clrF_rm (fr := b + x) h.rm
 have hcl := clrF_len (fr := b + x) h.rm.asc
 obtain ⟨p, hpe⟩ : ∃ p, p = ptA s cs r.2 a r.1 := ⟨_, rfl⟩
 rw [← hpe] at hp ⊢
 obtain ⟨r1, r2, r3, r4⟩ := row_ok (s := s) (fr := b + x) (g := gP p r.1) hc (clrF_cok h.rm.asc h.cok) (by omega) (clr_far h.rm.asc) (fun j hj => ⟨(hp.gP hj).1, (hp.gP hj).2.1⟩) 512 (Nat.le_refl _)
 have hln := len_put (cs := rowC (clrF cs (b + x)) (b + x) (gP p r.1) 512) (p := r.2 * 512 + ixN a r.1) (v := wdN (lkP (b + x)))
 obtain ⟨h1, h2, h3⟩ := way_step (cs' := lfM b a cs r.1 r.2 x p) (g := gP p r.1) h hr h0 hx hfx (r1.put (by omega)) (cok_put r1.asc r2 (by omega) wdN_lt) (fun t' j hj => by
  rw [lfM, ent_put r1 hlow ixN_lt hj, r4 t' j hj, ent_clr h.rm.asc hj]
  by_cases e : t' = b + x
  ·rw [if_pos (show t' = b + x ∧ j < 512 from ⟨e, hj⟩), if_pos e]
  ·rw [if_neg (show ¬ (t' = b + x ∧ j < 512) from fun h => e h.1), if_neg e, if_neg e]) (fun j hj => by
   rw [(hp.gP hj).2.2]
   have := (hp.part hj).2.1
   cases hk : (partP p r.1 j).link with
   | false => rfl
   | true => rw [leafless hk] at this; cases this) (.inr (by rw [(hp.gP ixN_lt).2.2]; exact (hp.part ixN_lt).2.2))
 exact ⟨h1, h2, by unfold lfM; omega⟩
end Go.Proofs.YtnkjmocacielmaaDoor.Sx
