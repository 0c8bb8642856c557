/-
  slices.Delete, slices.Grow at pages, on the machine (printed by wip/tools/slt.py out of the walks at cells).
-/
import Derived.Test.YtlihbielphcgbaaGreatDoorSli
import Derived.Shelf.RegionOpenPlain
import Derived.WalkKit
import Derived.Deep.LoopGhost
import Derived.Deep.RegionLaw
import Derived.Lib.Walk
import Derived.Lib.SliceRun
import Derived.Lib.SlicesDelete
import Derived.Shelf.Spec.SlicesInsertGrow
namespace Go.Proofs.YtlihbielphcgbaaGreatDoor.Sx
open Go Go.Shelf Go.RowKit Go.Lib
set_option linter.unusedVariables false
set_option linter.unusedSimpArgs false
set_option maxRecDepth 1000000

theorem tEPg (w : World) : (Go.sizeOf 68).run Tryz.prog w = .ok 8 w := by kernel_rfl
theorem tSPg : Tryz.prog.underlying 38 = some (.slice 68) := by kernel_rfl
theorem tIPg : Tryz.prog.underlying 3 = some (.int .i64) := by kernel_rfl
theorem tBPg : Tryz.prog.underlying 4 = some .bool := by kernel_rfl
theorem mixedPg : Tryz.prog.follows .mixedOrders = true := by kernel_rfl
set_option maxHeartbeats 4000000 in
theorem delete_samePg (a : Option Addr) (n c i : Nat) (w : World) (hi : i ≤ n) (hn : n ≤ c) (hc : c ≤ 9223372036854775807) :
    Calls Tryz.prog 75 #[.slice a n c, .int .i64 i, .int .i64 i] w fun e w' => e = .returned (.slice a n c) ∧ w' = w := by
  have t0 := tEPg; have t1 := tSPg; have t2 := tIPg; have t3 := tBPg
  have u1 := run_underlying tSPg; have u2 := run_underlying tIPg; have u3 := run_underlying tBPg
  go_enter Tryz.func75, Tryz.ntmps75
  go_wp2
  all_goals (go_ret; exact ⟨rfl, rfl⟩)

theorem cellInfo_isPg : ∃ i z, Tryz.prog.info? 68 = some i ∧ i.size = 8 ∧ i.zero = some z ∧ z.cells = #[.int .u64 0, .int .u64 0, .int .i64 0, .bool false, .bool false, .bool false, .bool false, .bool false] ∧ i.bytes = 32 := by
  have h : (Tryz.prog.info? 68).map (fun i => (i.zero, i.size, i.bytes)) = some (some (Value.agg #[.int .u64 0, .int .u64 0, .int .i64 0, .bool false, .bool false, .bool false, .bool false, .bool false]), 8, 32) := by kernel_rfl
  obtain ⟨i, hi, h1, h2, h3⟩ := info_parts h
  exact ⟨i, _, hi, h2, h1, rfl, h3⟩
/-- the cells behind the elements' move, and behind the clearing -/
def delCellsPg (cur : List Value) (n i j : Nat) : List Value := cur.take (i * 8) ++ (cur.drop (j * 8)).take ((n - j) * 8) ++ cur.drop (i * 8 + (n - j) * 8)
def zPg : List Value := [.int .u64 0, .int .u64 0, .int .i64 0, .bool false, .bool false, .bool false, .bool false, .bool false]
def clrCellsPg (cur : List Value) (lo m : Nat) : List Value := cur.take (lo * 8) ++ (List.replicate m zPg).flatten ++ cur.drop (lo * 8 + m * 8)
set_option maxHeartbeats 8000000 in
theorem delete_runPg (x n c i j : Nat) (cur : Array Value) (tyy : TypeId) (w : World) (hx : w.heap[x]? = some (.cells cur tyy (0, 0))) (hsz : cur.size = c * 8) (hij : i < j) (hj : j ≤ n) (hn : n ≤ c) (hc : c ≤ 9223372036854775807)
    (h1 : ∀ q u, q < n * 8 → cur[q]? = some u → u.oneCell' = true) :
    Calls Tryz.prog 75 #[.slice (some ⟨x, 0, none⟩) n c, .int .i64 i, .int .i64 j] w fun e w' => e = .returned (.slice (some ⟨x, 0, none⟩) (n - (j - i)) c) ∧
      w' = (w.drew.setRow x (delCellsPg cur.toList n i j).toArray).setRow x (clrCellsPg (delCellsPg cur.toList n i j) (i + (n - j)) (j - i)).toArray := by
  have t0 := tEPg; have t1 := tSPg; have t2 := tIPg; have t3 := tBPg; have mixedPg := mixedPg
  have u1 := run_underlying tSPg; have u2 := run_underlying tIPg; have u3 := run_underlying tBPg
  obtain ⟨ci, cz, hi, his, hiz, hizc, hib⟩ := cellInfo_isPg
  have hlt : (cur.toList.drop (j * 8)).length = c * 8 - j * 8 := by simp [hsz]
  have hLl : ((cur.toList.drop (j * 8)).take ((n - j) * 8)).length = (n - j) * 8 := by rw [List.length_take, hlt]; omega
  have hxd : w.drew.heap[x]? = some (.cells cur tyy (0, 0)) := hx
  obtain ⟨A, hA, hsrc⟩ : ∃ A : Addr, (if c = j then some (⟨x, 0, none⟩ : Addr) else some ⟨x, j * 8, none⟩) = some A ∧ Hid (∀ t u, ((cur.toList.drop (j * 8)).take ((n - j) * 8))[t]? = some u → w.drew.cell? (A.add t) = some u) := by
    by_cases h : c = j
    · refine ⟨⟨x, 0, none⟩, by simp [h], fun t u hu => ?_⟩
      rw [List.getElem?_take] at hu
      rw [if_neg (by omega)] at hu
      cases hu
    · refine ⟨⟨x, j * 8, none⟩, by simp [h], fun t u hu => ?_⟩
      rw [List.getElem?_take] at hu
      split at hu
      · rw [addr_add, cell_of_row _ x _ cur tyy (0, 0) hxd]
        rw [List.getElem?_drop] at hu
        simpa using hu
      · cases hu
  have happ : ∀ ty, (Builtin.append_ #[38, 38] ty #[.slice (some ⟨x, 0, none⟩) i c, .slice (some A) (n - j) (c - j)]).run Tryz.prog w.drew = .ok (.slice (some ⟨x, 0, none⟩) (i + (n - j)) c) (w.drew.setRow x (delCellsPg cur.toList n i j).toArray) := fun ty => by
    have := run_append_fit (ty := ty) (n1 := i) (cap := c) (m := n - j) (c := c - j) (A := A) tSPg hi his hxd (by omega) hsz hLl hsrc.out (fun u hu => by
      obtain ⟨q, hq⟩ := List.getElem?_of_mem hu
      rw [List.getElem?_take] at hq
      split at hq
      · rw [List.getElem?_drop] at hq
        exact h1 (j * 8 + q) u (by omega) (by simpa using hq)
      · cases hq)
    rw [hLl] at this
    exact this
  obtain ⟨W1, hW1⟩ : ∃ W1, W1 = w.drew.setRow x (delCellsPg cur.toList n i j).toArray := ⟨_, rfl⟩
  have hx1 : W1.heap[x]? = some (.cells (delCellsPg cur.toList n i j).toArray tyy (0, 0)) := by rw [hW1]; exact setRow_heap _ x cur _ tyy _ hxd
  have hdl : (delCellsPg cur.toList n i j).length = c * 8 := by
    have : cur.toList.length = c * 8 := by simpa using hsz
    simp only [delCellsPg, List.length_append, hLl, List.length_take, List.length_drop, this]
    omega
  have hcl : ∀ ty, (Builtin.clear_ #[38] ty #[.slice (some ⟨x, (i + (n - j)) * 8, none⟩) (n - (i + (n - j))) (c - (i + (n - j)))]).run Tryz.prog W1 = .ok (.tuple #[]) (W1.setRow x (clrCellsPg (delCellsPg cur.toList n i j) (i + (n - j)) (j - i)).toArray) := fun ty => by
    have h := run_clear_fit (ty := ty) (lo := i + (n - j)) (m := n - (i + (n - j))) (c := c - (i + (n - j))) tSPg hi hiz (k := 8) (by rw [hizc]; rfl) hx1 (by omega) (by rw [List.size_toArray, hdl]; omega) (by rw [hizc]; decide)
    rw [h, hizc, show n - (i + (n - j)) = j - i by omega]
    simp only [clrCellsPg]
    congr 3
    simp [zPg]
  rw [← hW1] at happ
  have hic : i ≤ c := by omega
  have hjc : j ≤ c := by omega
  have hWh : Hid (W1 = w.drew.setRow x (delCellsPg cur.toList n i j).toArray) := hW1
  clear hsrc hW1
  go_enter Tryz.func75, Tryz.ntmps75
  go_wp2_with fail
  go_region_law_o (refine step_append_runI rfl (.tmp 22) (.tmp 25) 38 38 rfl _ _ (by simp [Act.eval, Act.put]) (by simp [Act.eval, Act.put]) (happ _) ?_)
  go_wp2
  go_ret
  refine ⟨by rw [show n - (j - i) = i + (n - j) by omega]; rfl, ?_⟩
  rw [← hWh.out]

theorem del_lenPg {cur : List Value} {n i j c : Nat} (hc : cur.length = c * 8) (hij : i ≤ j) (hj : j ≤ n) (hn : n ≤ c) : (delCellsPg cur n i j).length = c * 8 := by
  simp only [delCellsPg, List.length_append, List.length_take, List.length_drop, hc]
  omega
theorem clr_lenPg {cur : List Value} {lo m c : Nat} (hc : cur.length = c * 8) (h : lo + m ≤ c) : (clrCellsPg cur lo m).length = c * 8 := by
  simp only [clrCellsPg, List.length_append, List.length_take, List.length_drop, hc]
  simp [zPg]
  omega
theorem clr_getPg {cur : List Value} {lo m c q : Nat} (hc : cur.length = c * 8) (h : lo ≤ c) (hq : q < lo * 8) : (clrCellsPg cur lo m)[q]? = cur[q]? := by
  unfold clrCellsPg
  rw [List.append_assoc, List.getElem?_append_left (by rw [List.length_take]; omega), List.getElem?_take, if_pos hq]
theorem del_getPg {cur : List Value} {n i j c q : Nat} (hc : cur.length = c * 8) (hij : i ≤ j) (hj : j ≤ n) (hn : n ≤ c) (hq : q < (i + (n - j)) * 8) : (delCellsPg cur n i j)[q]? = if q < i * 8 then cur[q]? else cur[j * 8 + (q - i * 8)]? := by
  have h1 : (cur.take (i * 8)).length = i * 8 := by rw [List.length_take]; omega
  have h2 : ((cur.drop (j * 8)).take ((n - j) * 8)).length = (n - j) * 8 := by rw [List.length_take, List.length_drop]; omega
  unfold delCellsPg
  split
  · rename_i h
    rw [List.append_assoc, List.getElem?_append_left (by omega), List.getElem?_take, if_pos h]
  · rename_i h
    rw [List.append_assoc, List.getElem?_append_right (by omega), h1, List.getElem?_append_left (by omega), List.getElem?_take, if_pos (by omega), List.getElem?_drop]
theorem row_twoPg {rows : List (List D)} {r : List D} {q : Nat} (hw : ∀ r ∈ rows, r.length = 8) (h : q < rows.length * 8) : ∃ r d, rows[q / 8]? = some r ∧ r[q % 8]? = some d := by
  have h1 : q / 8 < rows.length := by omega
  have h2 := hw rows[q / 8] (List.getElem_mem h1)
  exact ⟨_, _, List.getElem?_eq_getElem h1, List.getElem?_eq_getElem (by omega)⟩
theorem delete_conPg {G : Glo} {rows : List (List D)} {i j : Nat} (hij : i ≤ j) (hj : j ≤ rows.length) :
    ConO Tryz.prog G 75 [(false, [.sl 8 rows]), (false, [.i .i64 (i : Int)]), (false, [.i .i64 (j : Int)])] [(false, [.sl 8 (rows.take i ++ rows.drop j)])] := by
  refine ⟨8, 8, rows, _, _, rfl, rfl, fun B I w v vs hG hI hB hV ha hpl => ?_⟩
  obtain rfl := args_two ha
  have hwid : ∀ r ∈ rows.take i ++ rows.drop j, r.length = 8 := fun r hr => (List.mem_append.1 hr).elim (fun h => hV.1 r (List.mem_of_mem_take h)) (fun h => hV.1 r (List.mem_of_mem_drop h))
  by_cases heq : i = j
  · subst heq
    obtain ⟨b, c, rfl⟩ := hV.slice
    have hcap : rows.length ≤ c ∧ c ≤ maxLen := by
      rcases hV.2 with ⟨e, hr⟩ | ⟨x, cap, cur, ty, e, _, _, _, h4, h5, _⟩
      · subst hr
        have := congrArg (fun v => match v with | Value.slice _ _ c => c | _ => 0) e
        simp only at this
        rw [this]
        exact ⟨Nat.le_refl _, Nat.zero_le _⟩
      · have := congrArg (fun v => match v with | Value.slice _ _ c => c | _ => 0) e
        simp only at this
        rw [this]
        exact ⟨h4, h5⟩
    refine (delete_samePg b rows.length c i w hj hcap.1 (by have := hcap.2; unfold maxLen at this; omega)).mono ?_
    rintro e w' ⟨rfl, rfl⟩
    refine ⟨_, rfl, ?_, fun _ _ _ => rfl, Nat.le_refl _, ⟨rfl, rfl⟩, fun x hx => .inl hx⟩
    rw [List.take_append_drop]
    exact hV
  · rcases hV.2 with ⟨_, hr⟩ | ⟨x, cap, cur, ty, rfl, h1, h2, h3, h4, h5, h6, h7, h8⟩
    · rw [hr] at hj
      simp at hj
      omega
    have hcl : cur.toList.length = cap * 8 := by simpa using h6
    refine (delete_runPg x rows.length cap i j cur ty w h3 h6 (by omega) hj h4 (by unfold maxLen at h5; omega) (fun q u hq hu => ?_)).mono ?_
    · obtain ⟨r, d, hr, hd⟩ := row_twoPg (r := []) hV.1 hq
      obtain ⟨u', hu', hdr⟩ := h7 _ _ _ _ hr hd
      rw [show q / 8 * 8 + q % 8 = q by omega, hu] at hu'
      cases hu'
      exact hdr.one
    · rintro e w' ⟨rfl, rfl⟩
      have hd3 : w.drew.heap[x]? = some (.cells cur ty (0, 0)) := h3
      have hs1 := setRow_heap w.drew x cur (delCellsPg cur.toList rows.length i j).toArray ty _ hd3
      have hs2 := setRow_heap _ x _ (clrCellsPg (delCellsPg cur.toList rows.length i j) (i + (rows.length - j)) (j - i)).toArray ty _ hs1
      have hdl := del_lenPg hcl hij hj h4
      have hoth : ∀ y, y ≠ x → (((w.drew.setRow x (delCellsPg cur.toList rows.length i j).toArray).setRow x (clrCellsPg (delCellsPg cur.toList rows.length i j) (i + (rows.length - j)) (j - i)).toArray).heap[y]? = w.heap[y]?) := fun y hy => by
        rw [setRow_other _ x y _ hy, setRow_other _ x y _ hy]
        rfl
      have hlen : (rows.take i ++ rows.drop j).length = rows.length - (j - i) := by rw [List.length_append, List.length_take, List.length_drop]; omega
      refine ⟨_, rfl, ⟨hwid, .inr ⟨x, cap, _, ty, by rw [hlen], h1, h2, hs2, by rw [hlen]; omega, h5, ?_, fun q r jj d hq hjj => ?_, h8⟩⟩, fun y _ hy => hoth y (fun e => hy (by simp [Value.ownBlock, e])), by rw [setRow_size, setRow_size]; exact Nat.le_refl _, ⟨rfl, rfl⟩, fun y hy => .inl hy⟩
      · rw [List.size_toArray, clr_lenPg hdl (by omega)]
      · have hql := (List.getElem?_eq_some_iff.1 hq).1
        have hjl : jj < 8 := by have := (List.getElem?_eq_some_iff.1 hjj).1; rw [hwid r (List.mem_of_getElem? hq)] at this; exact this
        rw [hlen] at hql
        rw [List.getElem?_toArray, clr_getPg hdl (by omega) (by omega), del_getPg hcl hij hj h4 (by omega)]
        by_cases hqi : q < i
        · rw [List.getElem?_append_left (by rw [List.length_take]; omega), List.getElem?_take, if_pos hqi] at hq
          obtain ⟨u, hu, hd⟩ := h7 q r jj d hq hjj
          rw [if_pos (by omega)]
          exact ⟨u, by simpa using hu, hd.mono (fun _ h => h) fun y hy => hoth y (fun e => h8 (e ▸ hy))⟩
        · rw [List.getElem?_append_right (by rw [List.length_take]; omega), List.length_take, Nat.min_eq_left (by omega), List.getElem?_drop] at hq
          obtain ⟨u, hu, hd⟩ := h7 _ r jj d hq hjj
          rw [if_neg (by omega), show j * 8 + (q * 8 + jj - i * 8) = (j + (q - i)) * 8 + jj by omega]
          exact ⟨u, by simpa using hu, hd.mono (fun _ h => h) fun y hy => hoth y (fun e => h8 (e ▸ hy))⟩
set_option maxHeartbeats 8000000 in
theorem grow_nonePg (w : World) : Calls Tryz.prog 104 #[.slice none 0 0, .int .i64 0] w fun e w' => e = .returned (.slice none 0 0) ∧ w' = w := by
  have t0 := tEPg; have t1 := tSPg; have t2 := tIPg; have t3 := tBPg; have mixedPg := mixedPg
  have u1 := run_underlying tSPg; have u2 := run_underlying tIPg; have u3 := run_underlying tBPg
  go_enter Tryz.func104, Tryz.ntmps104
  go_wp2
  all_goals (go_ret; exact ⟨rfl, rfl⟩)
set_option maxHeartbeats 8000000 in
theorem grow_somePg (n : Nat) (w : World) (hn : 0 < n) (hbig : n * 32 ≤ 140737488355328) : Calls Tryz.prog 104 #[.slice none 0 0, .int .i64 n] w fun e w' => ∃ (ROW : Array Value) (G : Nat), e = .returned (.slice (some ⟨w.heap.size, 0, none⟩) 0 G) ∧
      w' = w.drew.alloc (.cells ROW 68) ∧ ROW.size = G * 8 ∧ G ≤ 9223372036854775807 := by
  have t0 := tEPg; have t1 := tSPg; have t2 := tIPg; have t3 := tBPg; have mixedPg := mixedPg
  have u1 := run_underlying tSPg; have u2 := run_underlying tIPg; have u3 := run_underlying tBPg
  obtain ⟨ci, cz, hci, his, hiz, hizc, hib⟩ := cellInfo_isPg
  obtain ⟨G, hG⟩ : ∃ G, G = grownCap w (0 + n) 0 68 := ⟨_, rfl⟩
  obtain ⟨ROW, hROW⟩ : ∃ ROW : Array Value, ROW = ([] : List Value).toArray ++ Builtin.zeroCells cz.cells n ++ Builtin.zeroCells cz.cells (G - (0 + n)) := ⟨_, rfl⟩
  obtain ⟨W1, hW1⟩ : ∃ W1, W1 = w.drew.alloc (.cells ROW 68) := ⟨_, rfl⟩
  have hGn : 0 + n ≤ G := by rw [hG]; exact grownCap_ge w _ _ _
  have hG63 : G ≤ 9223372036854775807 := by
    have := grownCap_le_maxLen w (0 + n) 0 68 (by unfold maxLen; omega)
    rw [← hG] at this
    unfold maxLen at this
    omega
  have hzs : ∀ m, (Builtin.zeroCells cz.cells m).size = m * 8 := fun m => by rw [size_zeroCells, hizc]; rfl
  have hRs : ROW.size = G * 8 := by
    rw [hROW, Array.size_append, Array.size_append, hzs, hzs]
    simp
    omega
  have hrz : ∀ ty, (Builtin.append_ #[38, 3] ty #[.slice none 0 0, .int .i64 (n : Int)]).run Tryz.prog w = .ok (.slice (some ⟨w.heap.size, 0, none⟩) n G) W1 := fun ty => by
    have h := Lib.run_append_grow_zeros w 38 3 ty 68 ci _ .i64 .i64 tSPg tIPg hci hiz none 0 0 [] (by rw [his]; exact run_firstCells_none w.drew 8 0 0 0) n hn (by omega) (by omega) (by omega) (by rw [hib]; omega) (by rw [hib]; exact growslice_fits (by omega) (by omega))
    rw [hW1, hROW, hG]
    rw [h, Nat.zero_add]
  have hWh : Hid (W1 = w.drew.alloc (.cells ROW 68)) := hW1
  have hf : Hid (ROW.size = G * 8 ∧ G ≤ 9223372036854775807) := ⟨hRs, hG63⟩
  have hnn : ¬ ((n : Int) < 0) := by omega
  have hnp : (0 : Int) < (n : Int) := by omega
  clear hW1 hROW hG hRs hGn
  go_enter Tryz.func104, Tryz.ntmps104
  go_wp2_with (at_builtin; refine Lib.wpList_append_run _ rfl _ _ _ _ rfl _ _ rfl rfl _ _ (hrz _) ?_)
  go_ret
  exact ⟨ROW, G, rfl, hWh.out, hf.out⟩

theorem grow_conPg {G : Glo} {n : Nat} (hbig : n * 32 ≤ 140737488355328) : ConO Tryz.prog G 104 [(false, [.sl 0 []]), (false, [.i .i64 (n : Int)])] [(false, [.sl 8 []])] := by
  refine ⟨0, 8, [], _, [], rfl, rfl, fun B I w v vs hG hI hB hV ha hpl => ?_⟩
  obtain rfl : vs = [.int .i64 (n : Int)] := by
    cases ha with
    | cons h1 h =>
      cases h
      obtain ⟨d1, e1, h1⟩ := h1
      cases e1
      rw [h1.i_inv]
  have hnil : v = .slice none 0 0 := by
    rcases hV.2 with ⟨h, _⟩ | ⟨_, _, _, _, _, _, h0, _⟩
    · exact h
    · omega
  subst hnil
  by_cases hn : n = 0
  · subst hn
    refine (grow_nonePg w).mono ?_
    rintro e w' ⟨rfl, rfl⟩
    exact ⟨_, rfl, ⟨fun r hr => (by cases hr), .inl ⟨rfl, rfl⟩⟩, fun _ _ _ => rfl, Nat.le_refl _, ⟨rfl, rfl⟩, fun x hx => .inl hx⟩
  · refine (grow_somePg n w (by omega) hbig).mono ?_
    rintro e w' ⟨ROW, g, rfl, rfl, hRs, hg⟩
    refine ⟨_, rfl, ⟨fun r hr => (by cases hr), .inr ⟨w.heap.size, g, ROW, _, rfl, hB, by omega, heap_alloc_new w.drew _, Nat.zero_le _, by unfold maxLen; omega, hRs, fun q r jj d hq => by simp at hq, fun h => by have := hI _ h; omega⟩⟩, fun x hx _ => heap_alloc_old w.drew _ hx, by simp, ⟨rfl, rfl⟩, fun x hx => .inr ?_⟩
    simp only [Value.ownBlock, Option.some.injEq] at hx
    omega
end Go.Proofs.YtlihbielphcgbaaGreatDoor.Sx
