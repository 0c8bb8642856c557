/-
  Layer 19: the pages of a tree, and walks, in plain data: no program in sight.
-/
import Derived.Test.YtnlilhpkjlodjaaDoorZTabo
namespace Go.Proofs.YtnlilhpkjlodjaaDoor.Sx
open Go
set_option linter.unusedVariables false
set_option linter.unusedSimpArgs false
set_option maxRecDepth 100000
theorem sz0 : szN ((0 : Nat) : Int) = 4096 := rfl
theorem sz1 : szN ((1 : Nat) : Int) = 2097152 := rfl
theorem sz2 : szN ((2 : Nat) : Int) = 1073741824 := rfl
theorem lv3 {l : Nat} (h : l ≤ 2) : l = 0 ∨ l = 1 ∨ l = 2 := by omega
theorem ix_in {y l b : Nat} (hl : l ≤ 2) (hb : b % (512 * szN (l : Int)) = 0) (hb2 : b + 512 * szN (l : Int) ≤ 549755813888) (h1 : b ≤ y % 549755813888) (h2 : y % 549755813888 < b + 512 * szN (l : Int)) :
    b + ixN y l * szN (l : Int) ≤ y % 549755813888 ∧ y % 549755813888 < b + ixN y l * szN (l : Int) + szN (l : Int) := by
  unfold ixN
  rcases lv3 hl with rfl | rfl | rfl
  · rw [sz0] at *; omega
  · rw [sz1] at *; omega
  · rw [sz2] at *; omega
theorem ix_of {y l b j : Nat} (hl : l ≤ 2) (hj : j < 512) (hb : b % (512 * szN (l : Int)) = 0) (hb2 : b + 512 * szN (l : Int) ≤ 549755813888) (h1 : b + j * szN (l : Int) ≤ y % 549755813888) (h2 : y % 549755813888 < b + j * szN (l : Int) + szN (l : Int)) : ixN y l = j := by
  unfold ixN
  rcases lv3 hl with rfl | rfl | rfl
  · rw [sz0] at *; omega
  · rw [sz1] at *; omega
  · rw [sz2] at *; omega
theorem ent_slot {s t a l : Nat} {cs : List Cl} : wordN s cs (slotN t a l) = entN s cs t (ixN a l) := by
  unfold entN slotN ixN
  rw [Nat.mul_comm 4096 t, Nat.mul_comm 8]
theorem slot_in {s t a l : Nat} (h : t < s / 4096) : ¬ s ≤ slotN t a l := by
  have := ixN_lt (a := a) (l := l)
  unfold slotN
  unfold ixN at this
  omega
theorem sub_base {l b j : Nat} (hl : l + 1 ≤ 2) (hj : j < 512) (hb : b % (512 * szN ((l + 1 : Nat) : Int)) = 0) (hb2 : b + 512 * szN ((l + 1 : Nat) : Int) ≤ 549755813888) :
    (b + j * szN ((l + 1 : Nat) : Int)) % (512 * szN (l : Int)) = 0 ∧ 512 * szN (l : Int) = szN ((l + 1 : Nat) : Int) ∧ b + j * szN ((l + 1 : Nat) : Int) + szN ((l + 1 : Nat) : Int) ≤ b + 512 * szN ((l + 1 : Nat) : Int) := by
  obtain rfl | rfl : l = 0 ∨ l = 1 := by omega
  · rw [show ((0 + 1 : Nat) : Int) = ((1 : Nat) : Int) from rfl, sz1] at *
    rw [sz0] at *
    omega
  · rw [show ((1 + 1 : Nat) : Int) = ((2 : Nat) : Int) from rfl, sz2] at *
    rw [sz1] at *
    omega
theorem al_base {l b j : Nat} (hl : l ≤ 2) (hj : j < 512) (hb : b % (512 * szN (l : Int)) = 0) : (b + j * szN (l : Int)) % szN (l : Int) = 0 ∧ b + j * szN (l : Int) + szN (l : Int) ≤ b + 512 * szN (l : Int) := by
  rcases lv3 hl with rfl | rfl | rfl
  · rw [sz0] at *; omega
  · rw [sz1] at *; omega
  · rw [sz2] at *; omega
theorem frames_sub {s l t j : Nat} {cs : List Cl} (h : ∀ f ∈ framesN s cs (l + 1) t, f < s / 4096) (hj : j < 512) (hk : lnkE s cs t (l + 1) j = true) : ∀ f ∈ framesN s cs l (ptN (entN s cs t j)).ppn, f < s / 4096 := fun f hf => h f (mem_frE hj (by rw [frE, if_pos hk]; exact hf))
structure PgOk (s : Nat) (cs : List Cl) (l t b : Nat) (x : Pg) : Prop where
  lv : x.2.1 ≤ l
  lo : b ≤ x.1
  hi : x.1 + szN (x.2.1 : Int) ≤ b + 512 * szN (l : Int)
  al : x.1 % szN (x.2.1 : Int) = 0
  pp : x.2.2.ppn < 17592186044416
  walk : ∀ (y : Nat) (g : Bool), x.1 ≤ y % 549755813888 → y % 549755813888 < x.1 + szN (x.2.1 : Int) → ∃ pl g', downN s cs y l t g = .leaf ⟨x.2.1, pl, { x.2.2 with g := g' }⟩
theorem page_at {s : Nat} {cs : List Cl} (hC : COk cs) : ∀ {l t b : Nat}, l ≤ 2 → (∀ f ∈ framesN s cs l t, f < s / 4096) → b % (512 * szN (l : Int)) = 0 → b + 512 * szN (l : Int) ≤ 549755813888 → ∀ x ∈ pgL s cs l t b, PgOk s cs l t b x := by
  intro l
  induction l with
  | zero =>
    intro t b hl hF hb hb2 x hx
    have ht : t < s / 4096 := hF t (List.mem_singleton_self t)
    rw [pgL_eq] at hx
    obtain ⟨j, hj, hx⟩ := List.mem_flatMap.1 hx
    have hj := List.mem_range.1 hj
    rw [pgE_stop lnkE_low] at hx
    split at hx
    · cases hx
    rename_i hbd
    obtain rfl := List.mem_singleton.1 hx
    have hal := al_base hl hj hb
    refine ⟨Nat.le_refl _, Nat.le_add_right _ _, hal.2, hal.1, (ptN_may (wordN_lt hC)).2.1, fun y g h1 h2 => ?_⟩
    have hix := ix_of hl hj hb hb2 h1 h2
    have hbf : (ptN (entN s cs t j)).bad ((0 : Nat) : Int) = false := by simpa using hbd
    rw [down_eq, if_neg (slot_in ht), ent_slot, hix, if_neg hbd, if_neg (by rw [Pt.link_low hbf]; decide)]
    exact ⟨_, _, rfl⟩
  | succ l ih =>
    intro t b hl hF hb hb2 x hx
    have ht : t < s / 4096 := hF t (by rw [frames_frE]; exact List.mem_cons_self ..)
    rw [pgL_eq] at hx
    obtain ⟨j, hj, hx⟩ := List.mem_flatMap.1 hx
    have hj := List.mem_range.1 hj
    cases hk : lnkE s cs t (l + 1) j with
    | true =>
      rw [pgE_lnk hk, Nat.add_sub_cancel] at hx
      obtain ⟨q1, q2, q3⟩ := sub_base hl hj hb hb2
      have h := ih (by omega) (frames_sub hF hj hk) q1 (by rw [q2]; omega) x hx
      have hlo := h.lo
      have hhi := h.hi
      refine ⟨Nat.le_succ_of_le h.lv, by omega, by rw [q2] at hhi; omega, h.al, h.pp, fun y g h1 h2 => ?_⟩
      have hix := ix_of (y := y) hl hj hb hb2 (by omega) (by rw [q2] at hhi; omega)
      simp only [lnkE, lnkB, Bool.and_eq_true, Bool.not_eq_true'] at hk
      rw [down_eq, if_neg (slot_in ht), ent_slot, hix, if_neg (by rw [hk.2]; decide), if_pos hk.1]
      exact h.walk y _ h1 h2
    | false =>
      rw [pgE_stop hk] at hx
      split at hx
      · cases hx
      rename_i hbd
      obtain rfl := List.mem_singleton.1 hx
      have hal := al_base hl hj hb
      refine ⟨Nat.le_refl _, Nat.le_add_right _ _, hal.2, hal.1, (ptN_may (wordN_lt hC)).2.1, fun y g h1 h2 => ?_⟩
      have hix := ix_of hl hj hb hb2 h1 h2
      have hbf : (ptN (entN s cs t j)).bad ((l + 1 : Nat) : Int) = false := by simpa using hbd
      have hnl : (ptN (entN s cs t j)).link = false := by
        rw [lnkE, lnkB, hbf] at hk
        simpa using hk
      rw [down_eq, if_neg (slot_in ht), ent_slot, hix, if_neg hbd, if_neg (by rw [hnl]; decide)]
      exact ⟨_, _, rfl⟩
def apartP (x y : Pg) : Prop := x.1 + szN (x.2.1 : Int) ≤ y.1
theorem pgE_in {s l t b j : Nat} {cs : List Cl} (hC : COk cs) (hl : l ≤ 2) (hF : ∀ f ∈ framesN s cs l t, f < s / 4096) (hb : b % (512 * szN (l : Int)) = 0) (hb2 : b + 512 * szN (l : Int) ≤ 549755813888) (hj : j < 512) : ∀ x ∈ pgE s cs l t b j, b + j * szN (l : Int) ≤ x.1 ∧ x.1 + szN (x.2.1 : Int) ≤ b + (j + 1) * szN (l : Int) := by
  intro x hx
  have e : b + (j + 1) * szN (l : Int) = b + j * szN (l : Int) + szN (l : Int) := by rw [Nat.add_mul, Nat.one_mul, Nat.add_assoc]
  cases hk : lnkE s cs t l j with
  | true =>
    rw [pgE_lnk hk] at hx
    cases l with
    | zero => rw [lnkE_low] at hk; cases hk
    | succ l =>
      rw [Nat.add_sub_cancel] at hx
      obtain ⟨q1, q2, q3⟩ := sub_base hl hj hb hb2
      have h := page_at hC (by omega) (frames_sub hF hj hk) q1 (by rw [q2]; omega) x hx
      have h1 := h.lo
      have h2 := h.hi
      rw [q2] at h2
      omega
  | false =>
    rw [pgE_stop hk] at hx
    split at hx
    · cases hx
    obtain rfl := List.mem_singleton.1 hx
    simp only
    omega
theorem pages_order {s : Nat} {cs : List Cl} (hC : COk cs) : ∀ {l t b : Nat}, l ≤ 2 → (∀ f ∈ framesN s cs l t, f < s / 4096) → b % (512 * szN (l : Int)) = 0 → b + 512 * szN (l : Int) ≤ 549755813888 → (pgL s cs l t b).Pairwise apartP := by
  have hbetween : ∀ {l t b : Nat}, l ≤ 2 → (∀ f ∈ framesN s cs l t, f < s / 4096) → b % (512 * szN (l : Int)) = 0 → b + 512 * szN (l : Int) ≤ 549755813888 → List.Pairwise (fun i j => ∀ x ∈ pgE s cs l t b i, ∀ y ∈ pgE s cs l t b j, apartP x y) (List.range 512) := by
    intro l t b hl hF hb hb2
    have hlt : List.Pairwise (fun i j => i < 512 → j < 512 → ∀ x ∈ pgE s cs l t b i, ∀ y ∈ pgE s cs l t b j, apartP x y) (List.range 512) := List.Pairwise.imp (fun {i j} hij hi hj x hx y hy => by
      have h1 := (pgE_in hC hl hF hb hb2 hi x hx).2
      have h2 := (pgE_in hC hl hF hb hb2 hj y hy).1
      have h3 : (i + 1) * szN (l : Int) ≤ j * szN (l : Int) := Nat.mul_le_mul_right _ hij
      unfold apartP
      omega) (List.pairwise_lt_range (n := 512))
    exact List.Pairwise.imp_of_mem (fun {i j} hi hj h => h (List.mem_range.1 hi) (List.mem_range.1 hj)) hlt
  intro l
  induction l with
  | zero =>
    intro t b hl hF hb hb2
    rw [pgL_eq, List.pairwise_flatMap]
    refine ⟨fun j hj => ?_, hbetween hl hF hb hb2⟩
    rw [pgE_stop lnkE_low]
    split
    · exact .nil
    · exact List.pairwise_singleton _ _
  | succ l ih =>
    intro t b hl hF hb hb2
    rw [pgL_eq, List.pairwise_flatMap]
    refine ⟨fun j hj => ?_, hbetween hl hF hb hb2⟩
    have hj := List.mem_range.1 hj
    cases hk : lnkE s cs t (l + 1) j with
    | true =>
      rw [pgE_lnk hk, Nat.add_sub_cancel]
      obtain ⟨q1, q2, q3⟩ := sub_base hl hj hb hb2
      exact ih (by omega) (frames_sub hF hj hk) q1 (by rw [q2]; omega)
    | false =>
      rw [pgE_stop hk]
      split
      · exact .nil
      · exact List.pairwise_singleton _ _
theorem pages_cover {s y : Nat} {cs : List Cl} {r : Lf} : ∀ {l t b : Nat} {g : Bool}, l ≤ 2 → b % (512 * szN (l : Int)) = 0 → b + 512 * szN (l : Int) ≤ 549755813888 → b ≤ y % 549755813888 → y % 549755813888 < b + 512 * szN (l : Int) → downN s cs y l t g = .leaf r → ∃ x ∈ pgL s cs l t b, x.1 ≤ y % 549755813888 ∧ y % 549755813888 < x.1 + szN (x.2.1 : Int) := by
  intro l
  induction l with
  | zero =>
    intro t b g hl hb hb2 h1 h2 hd
    have hin := ix_in hl hb hb2 h1 h2
    rw [down_eq] at hd
    split at hd
    · cases hd
    split at hd
    · cases hd
    rename_i hbd
    rw [ent_slot] at hbd
    refine ⟨(b + ixN y 0 * szN ((0 : Nat) : Int), 0, ptN (entN s cs t (ixN y 0))), ?_, hin⟩
    rw [pgL_eq]
    refine List.mem_flatMap.2 ⟨ixN y 0, List.mem_range.2 ixN_lt, ?_⟩
    rw [pgE_stop lnkE_low, if_neg hbd]
    exact List.mem_singleton_self _
  | succ l ih =>
    intro t b g hl hb hb2 h1 h2 hd
    have hin := ix_in hl hb hb2 h1 h2
    rw [down_eq] at hd
    split at hd
    · cases hd
    split at hd
    · cases hd
    rename_i hbd
    rw [ent_slot] at hbd hd
    have hbf : (ptN (entN s cs t (ixN y (l + 1)))).bad ((l + 1 : Nat) : Int) = false := by simpa using hbd
    split at hd
    · rename_i hlk
      have hk : lnkE s cs t (l + 1) (ixN y (l + 1)) = true := by rw [lnkE, lnkB, hlk, hbf]; rfl
      obtain ⟨q1, q2, q3⟩ := sub_base hl (ixN_lt (a := y) (l := l + 1)) hb hb2
      obtain ⟨x, hx, hx2⟩ := ih (by omega) q1 (by rw [q2]; omega) hin.1 (by rw [q2]; exact hin.2) hd
      refine ⟨x, ?_, hx2⟩
      rw [pgL_eq]
      refine List.mem_flatMap.2 ⟨ixN y (l + 1), List.mem_range.2 ixN_lt, ?_⟩
      rw [pgE_lnk hk]
      exact hx
    · rename_i hlk
      have hk : lnkE s cs t (l + 1) (ixN y (l + 1)) = false := by
        rw [lnkE, lnkB, hbf]
        simpa using hlk
      refine ⟨(b + ixN y (l + 1) * szN ((l + 1 : Nat) : Int), l + 1, ptN (entN s cs t (ixN y (l + 1)))), ?_, hin⟩
      rw [pgL_eq]
      refine List.mem_flatMap.2 ⟨ixN y (l + 1), List.mem_range.2 ixN_lt, ?_⟩
      rw [pgE_stop hk, if_neg hbd]
      exact List.mem_singleton_self _
def exN (a : Nat) : Nat := if a < 274877906944 then a else a + 18446743523953737728
theorem vaN_ex {a : Nat} (ha : a < 549755813888) (h0 : a % 4096 = 0) : vaN (a / 4096) = exN a := by
  unfold vaN exN
  rw [show a / 4096 % 134217728 * 4096 = a by omega]
  have hb38 : a.testBit 38 = decide (¬ a < 274877906944) := by
    rw [Nat.testBit_eq_decide_div_mod_eq, show (2 : Nat) ^ 38 = 274877906944 from rfl]
    rw [decide_eq_decide]
    omega
  refine Nat.eq_of_testBit_eq fun i => ?_
  unfold signN
  rw [ofF_testBit]
  by_cases h : a < 274877906944
  · rw [if_pos h]
    by_cases hi : i < 39
    · rw [show min i (39 - 1) = i by omega, decide_eq_true (show i < 64 by omega), Bool.true_and]
    · rw [show min i (39 - 1) = 38 by omega, hb38, decide_eq_false (show ¬ ¬ a < 274877906944 by omega), Bool.and_false]
      exact (Nat.testBit_lt_two_pow (Nat.lt_of_lt_of_le ha (show (549755813888 : Nat) ≤ 2 ^ i from Nat.pow_le_pow_right (n := 2) (by decide) (show 39 ≤ i by omega)))).symm
  · rw [if_neg h, show a + 18446743523953737728 = 2 ^ 39 * 33554431 + a by omega, Nat.testBit_two_pow_mul_add _ ha]
    by_cases hi : i < 39
    · rw [if_pos hi, show min i (39 - 1) = i by omega, decide_eq_true (show i < 64 by omega), Bool.true_and]
    · rw [if_neg hi, show min i (39 - 1) = 38 by omega, hb38, decide_eq_true h, Bool.and_true, show (33554431 : Nat) = 2 ^ 25 - 1 from rfl, Nat.testBit_two_pow_sub_one]
      rw [decide_eq_decide]
      omega
theorem exN_mod {a : Nat} (ha : a < 549755813888) : exN a % 549755813888 = a := by
  unfold exN
  split <;> omega
theorem exN_va {y : Nat} (hy : y < 18446744073709551616) (h : isVaB y = true) : exN (y % 549755813888) = y := by
  unfold isVaB at h
  have h := of_decide_eq_true h
  unfold exN
  split <;> omega
end Go.Proofs.YtnlilhpkjlodjaaDoor.Sx
