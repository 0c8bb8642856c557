/-
  slices.Grow at lists of pages, and at truth values, on the machine (printed by wip/tools/slt.py).
-/
import Derived.Test.YtlihbielphcgbaaGreatDoorFsd
namespace Go.Proofs.YtlihbielphcgbaaGreatDoor.Sx
open Go Go.Shelf Go.RowKit Go.Lib
set_option linter.unusedVariables false
set_option linter.unusedSimpArgs false
set_option maxRecDepth 1000000

theorem tELs (w : World) : (Go.sizeOf 38).run Tryz.prog w = .ok 1 w := by kernel_rfl
theorem tSLs : Tryz.prog.underlying 36 = some (.slice 38) := by kernel_rfl
theorem tILs : Tryz.prog.underlying 3 = some (.int .i64) := by kernel_rfl
theorem tBLs : Tryz.prog.underlying 4 = some .bool := by kernel_rfl
theorem mixedLs : Tryz.prog.follows .mixedOrders = true := by kernel_rfl
theorem cellInfo_isLs : ∃ i z, Tryz.prog.info? 38 = some i ∧ i.size = 1 ∧ i.zero = some z ∧ z.cells = #[.slice none 0 0] ∧ i.bytes = 24 := by
  have h : (Tryz.prog.info? 38).map (fun i => (i.zero, i.size, i.bytes)) = some (some (Value.slice none 0 0), 1, 24) := by kernel_rfl
  obtain ⟨i, hi, h1, h2, h3⟩ := info_parts h
  exact ⟨i, _, hi, h2, h1, rfl, h3⟩
set_option maxHeartbeats 8000000 in
theorem grow_noneLs (w : World) : Calls Tryz.prog 97 #[.slice none 0 0, .int .i64 0] w fun e w' => e = .returned (.slice none 0 0) ∧ w' = w := by
  have t0 := tELs; have t1 := tSLs; have t2 := tILs; have t3 := tBLs; have mixedLs := mixedLs
  have u1 := run_underlying tSLs; have u2 := run_underlying tILs; have u3 := run_underlying tBLs
  go_enter Tryz.func97, Tryz.ntmps97
  go_wp2
  all_goals (go_ret; exact ⟨rfl, rfl⟩)
set_option maxHeartbeats 8000000 in
theorem grow_someLs (n : Nat) (w : World) (hn : 0 < n) (hbig : n * 24 ≤ 140737488355328) : Calls Tryz.prog 97 #[.slice none 0 0, .int .i64 n] w fun e w' => ∃ (ROW : Array Value) (G : Nat), e = .returned (.slice (some ⟨w.heap.size, 0, none⟩) 0 G) ∧
      w' = w.drew.alloc (.cells ROW 38) ∧ ROW.size = G * 1 ∧ G ≤ 9223372036854775807 := by
  have t0 := tELs; have t1 := tSLs; have t2 := tILs; have t3 := tBLs; have mixedLs := mixedLs
  have u1 := run_underlying tSLs; have u2 := run_underlying tILs; have u3 := run_underlying tBLs
  obtain ⟨ci, cz, hci, his, hiz, hizc, hib⟩ := cellInfo_isLs
  obtain ⟨G, hG⟩ : ∃ G, G = grownCap w (0 + n) 0 38 := ⟨_, rfl⟩
  obtain ⟨ROW, hROW⟩ : ∃ ROW : Array Value, ROW = ([] : List Value).toArray ++ Builtin.zeroCells cz.cells n ++ Builtin.zeroCells cz.cells (G - (0 + n)) := ⟨_, rfl⟩
  obtain ⟨W1, hW1⟩ : ∃ W1, W1 = w.drew.alloc (.cells ROW 38) := ⟨_, rfl⟩
  have hGn : 0 + n ≤ G := by rw [hG]; exact grownCap_ge w _ _ _
  have hG63 : G ≤ 9223372036854775807 := by
    have := grownCap_le_maxLen w (0 + n) 0 38 (by unfold maxLen; omega)
    rw [← hG] at this
    unfold maxLen at this
    omega
  have hzs : ∀ m, (Builtin.zeroCells cz.cells m).size = m * 1 := fun m => by rw [size_zeroCells, hizc]; rfl
  have hRs : ROW.size = G * 1 := by
    rw [hROW, Array.size_append, Array.size_append, hzs, hzs]
    simp
    omega
  have hrz : ∀ ty, (Builtin.append_ #[36, 3] ty #[.slice none 0 0, .int .i64 (n : Int)]).run Tryz.prog w = .ok (.slice (some ⟨w.heap.size, 0, none⟩) n G) W1 := fun ty => by
    have h := Lib.run_append_grow_zeros w 36 3 ty 38 ci _ .i64 .i64 tSLs tILs hci hiz none 0 0 [] (by rw [his]; exact run_firstCells_none w.drew 1 0 0 0) n hn (by omega) (by omega) (by omega) (by rw [hib]; omega) (by rw [hib]; exact growslice_fits (by omega) (by omega))
    rw [hW1, hROW, hG]
    rw [h, Nat.zero_add]
  have hWh : Hid (W1 = w.drew.alloc (.cells ROW 38)) := hW1
  have hf : Hid (ROW.size = G * 1 ∧ G ≤ 9223372036854775807) := ⟨hRs, hG63⟩
  have hnn : ¬ ((n : Int) < 0) := by omega
  have hnp : (0 : Int) < (n : Int) := by omega
  clear hW1 hROW hG hRs hGn
  go_enter Tryz.func97, Tryz.ntmps97
  go_wp2_with (at_builtin; refine Lib.wpList_append_run _ rfl _ _ _ _ rfl _ _ rfl rfl _ _ (hrz _) ?_)
  go_ret
  exact ⟨ROW, G, rfl, hWh.out, by have := hf.out; rwa [Nat.mul_one] at this⟩

theorem grow_conLs {G : Glo} {n : Nat} (hbig : n * 24 ≤ 140737488355328) : ConO Tryz.prog G 97 [(false, [.sl 0 []]), (false, [.i .i64 (n : Int)])] [(false, [.sl 1 []])] := by
  refine ⟨0, 1, [], _, [], rfl, rfl, fun B I w v vs hG hI hB hV ha hpl => ?_⟩
  obtain rfl : vs = [.int .i64 (n : Int)] := by
    cases ha with
    | cons h1 h =>
      cases h
      obtain ⟨d1, e1, h1⟩ := h1
      cases e1
      rw [h1.i_inv]
  have hnil : v = .slice none 0 0 := by
    rcases hV.2 with ⟨h, _⟩ | ⟨_, _, _, _, _, _, h0, _⟩
    · exact h
    · omega
  subst hnil
  by_cases hn : n = 0
  · subst hn
    refine (grow_noneLs w).mono ?_
    rintro e w' ⟨rfl, rfl⟩
    exact ⟨_, rfl, ⟨fun r hr => (by cases hr), .inl ⟨rfl, rfl⟩⟩, fun _ _ _ => rfl, Nat.le_refl _, ⟨rfl, rfl⟩, fun x hx => .inl hx⟩
  · refine (grow_someLs n w (by omega) hbig).mono ?_
    rintro e w' ⟨ROW, g, rfl, rfl, hRs, hg⟩
    refine ⟨_, rfl, ⟨fun r hr => (by cases hr), .inr ⟨w.heap.size, g, ROW, _, rfl, hB, by omega, heap_alloc_new w.drew _, Nat.zero_le _, by unfold maxLen; omega, hRs, fun q r jj d hq => by simp at hq, fun h => by have := hI _ h; omega⟩⟩, fun x hx _ => heap_alloc_old w.drew _ hx, by simp, ⟨rfl, rfl⟩, fun x hx => .inr ?_⟩
    simp only [Value.ownBlock, Option.some.injEq] at hx
    omega
theorem tEBo (w : World) : (Go.sizeOf 4).run Tryz.prog w = .ok 1 w := by kernel_rfl
theorem tSBo : Tryz.prog.underlying 37 = some (.slice 4) := by kernel_rfl
theorem tIBo : Tryz.prog.underlying 3 = some (.int .i64) := by kernel_rfl
theorem tBBo : Tryz.prog.underlying 4 = some .bool := by kernel_rfl
theorem mixedBo : Tryz.prog.follows .mixedOrders = true := by kernel_rfl
theorem cellInfo_isBo : ∃ i z, Tryz.prog.info? 4 = some i ∧ i.size = 1 ∧ i.zero = some z ∧ z.cells = #[.bool false] ∧ i.bytes = 1 := by
  have h : (Tryz.prog.info? 4).map (fun i => (i.zero, i.size, i.bytes)) = some (some (Value.bool false), 1, 1) := by kernel_rfl
  obtain ⟨i, hi, h1, h2, h3⟩ := info_parts h
  exact ⟨i, _, hi, h2, h1, rfl, h3⟩
set_option maxHeartbeats 8000000 in
theorem grow_noneBo (w : World) : Calls Tryz.prog 96 #[.slice none 0 0, .int .i64 0] w fun e w' => e = .returned (.slice none 0 0) ∧ w' = w := by
  have t0 := tEBo; have t1 := tSBo; have t2 := tIBo; have t3 := tBBo; have mixedBo := mixedBo
  have u1 := run_underlying tSBo; have u2 := run_underlying tIBo; have u3 := run_underlying tBBo
  go_enter Tryz.func96, Tryz.ntmps96
  go_wp2
  all_goals (go_ret; exact ⟨rfl, rfl⟩)
set_option maxHeartbeats 8000000 in
theorem grow_someBo (n : Nat) (w : World) (hn : 0 < n) (hbig : n * 1 ≤ 140737488355328) : Calls Tryz.prog 96 #[.slice none 0 0, .int .i64 n] w fun e w' => ∃ (ROW : Array Value) (G : Nat), e = .returned (.slice (some ⟨w.heap.size, 0, none⟩) 0 G) ∧
      w' = w.drew.alloc (.cells ROW 4) ∧ ROW.size = G * 1 ∧ G ≤ 9223372036854775807 := by
  have t0 := tEBo; have t1 := tSBo; have t2 := tIBo; have t3 := tBBo; have mixedBo := mixedBo
  have u1 := run_underlying tSBo; have u2 := run_underlying tIBo; have u3 := run_underlying tBBo
  obtain ⟨ci, cz, hci, his, hiz, hizc, hib⟩ := cellInfo_isBo
  obtain ⟨G, hG⟩ : ∃ G, G = grownCap w (0 + n) 0 4 := ⟨_, rfl⟩
  obtain ⟨ROW, hROW⟩ : ∃ ROW : Array Value, ROW = ([] : List Value).toArray ++ Builtin.zeroCells cz.cells n ++ Builtin.zeroCells cz.cells (G - (0 + n)) := ⟨_, rfl⟩
  obtain ⟨W1, hW1⟩ : ∃ W1, W1 = w.drew.alloc (.cells ROW 4) := ⟨_, rfl⟩
  have hGn : 0 + n ≤ G := by rw [hG]; exact grownCap_ge w _ _ _
  have hG63 : G ≤ 9223372036854775807 := by
    have := grownCap_le_maxLen w (0 + n) 0 4 (by unfold maxLen; omega)
    rw [← hG] at this
    unfold maxLen at this
    omega
  have hzs : ∀ m, (Builtin.zeroCells cz.cells m).size = m * 1 := fun m => by rw [size_zeroCells, hizc]; rfl
  have hRs : ROW.size = G * 1 := by
    rw [hROW, Array.size_append, Array.size_append, hzs, hzs]
    simp
    omega
  have hrz : ∀ ty, (Builtin.append_ #[37, 3] ty #[.slice none 0 0, .int .i64 (n : Int)]).run Tryz.prog w = .ok (.slice (some ⟨w.heap.size, 0, none⟩) n G) W1 := fun ty => by
    have h := Lib.run_append_grow_zeros w 37 3 ty 4 ci _ .i64 .i64 tSBo tIBo hci hiz none 0 0 [] (by rw [his]; exact run_firstCells_none w.drew 1 0 0 0) n hn (by omega) (by omega) (by omega) (by rw [hib]; omega) (by rw [hib]; exact growslice_fits (by omega) (by omega))
    rw [hW1, hROW, hG]
    rw [h, Nat.zero_add]
  have hWh : Hid (W1 = w.drew.alloc (.cells ROW 4)) := hW1
  have hf : Hid (ROW.size = G * 1 ∧ G ≤ 9223372036854775807) := ⟨hRs, hG63⟩
  have hnn : ¬ ((n : Int) < 0) := by omega
  have hnp : (0 : Int) < (n : Int) := by omega
  clear hW1 hROW hG hRs hGn
  go_enter Tryz.func96, Tryz.ntmps96
  go_wp2_with (at_builtin; refine Lib.wpList_append_run _ rfl _ _ _ _ rfl _ _ rfl rfl _ _ (hrz _) ?_)
  go_ret
  exact ⟨ROW, G, rfl, hWh.out, by have := hf.out; rwa [Nat.mul_one] at this⟩

theorem grow_conBo {G : Glo} {n : Nat} (hbig : n * 1 ≤ 140737488355328) : ConO Tryz.prog G 96 [(false, [.sl 0 []]), (false, [.i .i64 (n : Int)])] [(false, [.sl 1 []])] := by
  refine ⟨0, 1, [], _, [], rfl, rfl, fun B I w v vs hG hI hB hV ha hpl => ?_⟩
  obtain rfl : vs = [.int .i64 (n : Int)] := by
    cases ha with
    | cons h1 h =>
      cases h
      obtain ⟨d1, e1, h1⟩ := h1
      cases e1
      rw [h1.i_inv]
  have hnil : v = .slice none 0 0 := by
    rcases hV.2 with ⟨h, _⟩ | ⟨_, _, _, _, _, _, h0, _⟩
    · exact h
    · omega
  subst hnil
  by_cases hn : n = 0
  · subst hn
    refine (grow_noneBo w).mono ?_
    rintro e w' ⟨rfl, rfl⟩
    exact ⟨_, rfl, ⟨fun r hr => (by cases hr), .inl ⟨rfl, rfl⟩⟩, fun _ _ _ => rfl, Nat.le_refl _, ⟨rfl, rfl⟩, fun x hx => .inl hx⟩
  · refine (grow_someBo n w (by omega) hbig).mono ?_
    rintro e w' ⟨ROW, g, rfl, rfl, hRs, hg⟩
    refine ⟨_, rfl, ⟨fun r hr => (by cases hr), .inr ⟨w.heap.size, g, ROW, _, rfl, hB, by omega, heap_alloc_new w.drew _, Nat.zero_le _, by unfold maxLen; omega, hRs, fun q r jj d hq => by simp at hq, fun h => by have := hI _ h; omega⟩⟩, fun x hx _ => heap_alloc_old w.drew _ hx, by simp, ⟨rfl, rfl⟩, fun x hx => .inr ?_⟩
    simp only [Value.ownBlock, Option.some.injEq] at hx
    omega
end Go.Proofs.YtlihbielphcgbaaGreatDoor.Sx
