/-
 slices.Grow of no cells, on the machine.
-/
import Derived.Test.YtnkjmocacielmaaDoorZSli
namespace Go.Proofs.YtnkjmocacielmaaDoor.Sx
open Go Go.Shelf Go.RowKit Go.Lib
set_option linter.unusedVariables false
set_option linter.unusedSimpArgs false
set_option maxRecDepth 1000000
set_option maxHeartbeats 8000000 in
theorem grow_none (w : World) : Calls Tryd.prog 105 #[.slice none 0 0, .int .i64 0] w fun e w' => e = .returned (.slice none 0 0) ∧ w' = w := by
 have t0 := tE; have t1 := tS; have t2 := tI; have t3 := tB; have mixed := mixed
 have u1 := run_underlying tS; have u2 := run_underlying tI; have u3 := run_underlying tB
 go_enter Tryd.func105, Tryd.ntmps105
 go_wp2
 all_goals (go_ret; exact ⟨rfl, rfl⟩)
set_option maxHeartbeats 8000000 in
theorem grow_some (n : Nat) (w : World) (hn : 0 < n) (hbig : n * 16 ≤ 140737488355328) : Calls Tryd.prog 105 #[.slice none 0 0, .int .i64 n] w fun e w' => ∃ (ROW : Array Value) (G : Nat), e = .returned (.slice (some ⟨w.heap.size, 0, none⟩) 0 G) ∧
 w' = w.drew.alloc (.cells ROW 69) ∧ ROW.size = G * 2 ∧ G ≤ 9223372036854775807 := by
 have t0 := tE; have t1 := tS; have t2 := tI; have t3 := tB; have mixed := mixed
 have u1 := run_underlying tS; have u2 := run_underlying tI; have u3 := run_underlying tB
 obtain ⟨ci, cz, hci, his, hiz, hizc, hib⟩ := cellInfo_is
 obtain ⟨G, hG⟩ : ∃ G, G = grownCap w (0 + n) 0 69 := ⟨_, rfl⟩
 obtain ⟨ROW, hROW⟩ : ∃ ROW : Array Value, ROW = ([] : List Value).toArray ++ Builtin.zeroCells cz.cells n ++ Builtin.zeroCells cz.cells (G - (0 + n)) := ⟨_, rfl⟩
 obtain ⟨W1, hW1⟩ : ∃ W1, W1 = w.drew.alloc (.cells ROW 69) := ⟨_, rfl⟩
 have hGn : 0 + n ≤ G := by rw [hG]; exact grownCap_ge w _ _ _
 have hG63 : G ≤ 9223372036854775807 := by
  have := grownCap_le_maxLen w (0 + n) 0 69 (by unfold maxLen; omega)
  rw [← hG] at this
  unfold maxLen at this
  omega
 have hzs : ∀ m, (Builtin.zeroCells cz.cells m).size = m * 2 := fun m => by rw [size_zeroCells, hizc]; rfl
 have hRs : ROW.size = G * 2 := by
  rw [hROW, Array.size_append, Array.size_append, hzs, hzs]
  simp
  omega
 have hrz : ∀ ty, (Builtin.append_ #[23, 3] ty #[.slice none 0 0, .int .i64 (n : Int)]).run Tryd.prog w = .ok (.slice (some ⟨w.heap.size, 0, none⟩) n G) W1 := fun ty => by
  have h := Lib.run_append_grow_zeros w 23 3 ty 69 ci _ .i64 .i64 tS tI hci hiz none 0 0 [] (by rw [his]; exact run_firstCells_none w.drew 2 0 0 0) n hn (by omega) (by omega) (by omega) (by rw [hib]; omega) (by rw [hib]; exact growslice_fits (by omega) (by omega))
  rw [hW1, hROW, hG]
  rw [h, Nat.zero_add]
 have hWh : Hid (W1 = w.drew.alloc (.cells ROW 69)) := hW1
 have hf : Hid (ROW.size = G * 2 ∧ G ≤ 9223372036854775807) := ⟨hRs, hG63⟩
 have hnn : ¬ ((n : Int) < 0) := by omega
 have hnp : (0 : Int) < (n : Int) := by omega
 clear hW1 hROW hG hRs hGn
 go_enter Tryd.func105, Tryd.ntmps105
 go_wp2_with (at_builtin; refine Lib.wpList_append_run _ rfl _ _ _ _ rfl _ _ rfl rfl _ _ (hrz _) ?_)
 go_ret
 exact ⟨ROW, G, rfl, hWh.out, hf.out⟩
theorem grow_con {G : Glo} {n : Nat} (hbig : n * 16 ≤ 140737488355328) : ConO Tryd.prog G 105 [(false, [.sl 0 []]), (false, [.i .i64 (n : Int)])] [(false, [.sl 2 []])] := by
 refine ⟨0, 2, [], _, [], rfl, rfl, fun B I w v vs hG hI hB hV ha hpl => ?_⟩
 obtain rfl : vs = [.int .i64 (n : Int)] := by
  cases ha with
  | cons h1 h =>
   cases h
   obtain ⟨d1, e1, h1⟩ := h1
   cases e1
   rw [h1.i_inv]
 have hnil : v = .slice none 0 0 := by
  rcases hV.2 with ⟨h, _⟩ | ⟨_, _, _, _, _, _, h0, _⟩
  ·exact h
  ·omega
 subst hnil
 by_cases hn : n = 0
 ·subst hn
  refine (grow_none w).mono ?_
  rintro e w' ⟨rfl, rfl⟩
  exact ⟨_, rfl, ⟨fun r hr => (by cases hr), .inl ⟨rfl, rfl⟩⟩, fun _ _ _ => rfl, Nat.le_refl _, ⟨rfl, rfl⟩, fun x hx => .inl hx⟩
 ·refine (grow_some n w (by omega) hbig).mono ?_
  rintro e w' ⟨ROW, g, rfl, rfl, hRs, hg⟩
  refine ⟨_, rfl, ⟨fun r hr => (by cases hr), .inr ⟨w.heap.size, g, ROW, _, rfl, hB, by omega, heap_alloc_new w.drew _, Nat.zero_le _, by unfold maxLen; omega, hRs, fun q r jj d hq => by simp at hq, fun h => by have := hI _ h; omega⟩⟩, fun x hx _ => heap_alloc_old w.drew _ hx, by simp, ⟨rfl, rfl⟩, fun x hx => .inr ?_⟩
  simp only [Value.ownBlock, Option.some.injEq] at hx
  omega
end Go.Proofs.YtnkjmocacielmaaDoor.Sx
