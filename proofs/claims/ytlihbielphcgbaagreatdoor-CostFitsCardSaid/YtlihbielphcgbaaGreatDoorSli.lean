/-
  slices.Insert of one cell, on the machine.
-/
import Derived.Test.YtlihbielphcgbaaGreatDoorSlc
import Derived.Shelf.Spec.SlicesInsertGrow
namespace Go.Proofs.YtlihbielphcgbaaGreatDoor.Sx
open Go Go.Shelf Go.RowKit Go.Lib
set_option linter.unusedVariables false
set_option linter.unusedSimpArgs false
set_option maxRecDepth 1000000

section
variable {P : Program} {w : World}
theorem run_copy_fit {t ty el : TypeId} {i : TypeInfo} (ht : P.underlying t = some (.slice el)) (hi : P.info? el = some i) {k : Nat} (hk : i.size = k) {x off dLen dCap sLen sCap m : Nat} {cur : Array Value} {tyy : TypeId} {A : Addr} {L : List Value}
    (hx : w.heap[x]? = some (.cells cur tyy (0, 0))) (hm : Nat.min sLen dLen = m) (hsz : off + m * k ≤ cur.size) (hL : L.length = m * k) (hLc : ∀ j u, L[j]? = some u → w.cell? (A.add j) = some u) (hL1 : ∀ u ∈ L, u.oneCell' = true) :
    (Builtin.copy_ #[t, t] ty #[.slice (some ⟨x, off, none⟩) dLen dCap, .slice (some A) sLen sCap]).run P w = .ok (goInt m)
            (w.setRow x (cur.toList.take off ++ L ++ cur.toList.drop (off + L.length)).toArray) := by
  subst hk
  have hf := run_firstCells_some (P := P) w i.size m A sLen sCap L hL hLc
  have hst := run_storeCells_at P x off tyy L 0 cur w hx (by rw [hL]; simpa using hsz) hL1
  simp only [Nat.add_zero] at hst
  simp [Builtin.copy_, run_underlying ht, sizeOf, typeInfo, hi, Builtin.lenOf, hm, hf, hst]
theorem plain_shape {x : Nat} {cs : Array Value} {ty : TypeId} (h : w.heap[x]? = some (.cells cs ty (0, 0))) : w.shape? x = some (ty, cs.size) := by
  simp [World.shape?, h]
theorem plain_thawed {x o : Nat} {cs : Array Value} {ty : TypeId} (h : w.heap[x]? = some (.cells cs ty (0, 0))) : w.frozen? ⟨x, o, none⟩ = false := by
  simp [World.frozen?, h]
end

/-- the cells behind the move to the right, and behind the writing -/
def gapCells (cur : List Value) (n i : Nat) : List Value := cur.take ((i + 1) * 2) ++ (cur.drop (i * 2)).take ((n - i) * 2) ++ cur.drop ((i + 1) * 2 + (n - i) * 2)
def setCellsAt (cur : List Value) (i : Nat) (a b : Value) : List Value := cur.take (i * 2) ++ [a, b] ++ cur.drop (i * 2 + 2)
set_option maxHeartbeats 16000000 in
theorem insert_room (x y n c i vc : Nat) (cur vcs : Array Value) (tyy vty : TypeId) (a b : Value) (w : World) (hx : w.heap[x]? = some (.cells cur tyy (0, 0))) (hy : w.heap[y]? = some (.cells vcs vty (0, 0))) (hxy : y ≠ x) (hsz : cur.size = c * 2) (hi : i < n) (hn : n + 1 ≤ c)
    (hc : c ≤ 9223372036854775807) (h1 : ∀ q u, q < n * 2 → cur[q]? = some u → u.oneCell' = true) (ha : vcs[0]? = some a) (hb : vcs[1]? = some b) (ha1 : a.oneCell' = true) (hb1 : b.oneCell' = true) :
    Calls Tryz.prog 129 #[.slice (some ⟨x, 0, none⟩) n c, .int .i64 i, .slice (some ⟨y, 0, none⟩) 1 vc] w fun e w' => e = .returned (.slice (some ⟨x, 0, none⟩) (n + 1) c) ∧
      w' = (w.drew.setRow x (gapCells cur.toList n i).toArray).setRow x (setCellsAt (gapCells cur.toList n i) i a b).toArray := by
  have t0 := tE; have t1 := tS; have t2 := tI; have t3 := tB; have mixed := mixed
  have u1 := run_underlying tS; have u2 := run_underlying tI; have u3 := run_underlying tB
  obtain ⟨ci, cz, hci, his, hiz, hizc, hib⟩ := cellInfo_is
  have hz2 : ¬ ((i : Int) = (n : Int)) := by omega
  have hov : ∀ lb cb, (callFunc 147 #[.slice (some ⟨y, 0, none⟩) 1 vc, .slice (some ⟨x, (i + 1) * 2, none⟩) lb cb]).run Tryz.prog w = .ok (.value (.bool false)) w := fun lb cb => by
    rw [run_callFunc_extern Tryz.func147 (by kernel_rfl) (by kernel_rfl) (by kernel_rfl) (e := Extern.SlicesOverlaps.overlaps #[33, 33] #[4]) (by kernel_rfl),
      Lib.run_overlaps_apart w 33 4 148 tS 2 tE ⟨y, 0, none⟩ ⟨x, (i + 1) * 2, none⟩ 1 vc lb cb hxy vty tyy vcs.size cur.size (plain_shape hy) (plain_shape hx) (by omega) (plain_thawed hy) (plain_thawed hy)]
    rfl
  have hcl : cur.toList.length = c * 2 := by simpa using hsz
  have hLl : ((cur.toList.drop (i * 2)).take ((n - i) * 2)).length = (n - i) * 2 := by rw [List.length_take, List.length_drop]; omega
  have hxd : w.drew.heap[x]? = some (.cells cur tyy (0, 0)) := hx
  have hcp1 : ∀ ty dc sc, (Builtin.copy_ #[33, 33] ty #[.slice (some ⟨x, (i + 1) * 2, none⟩) (n - i) dc, .slice (some ⟨x, i * 2, none⟩) (n + 1 - i) sc]).run Tryz.prog w.drew = .ok (goInt ((n - i : Nat) : Int)) (w.drew.setRow x (gapCells cur.toList n i).toArray) := fun ty dc sc => by
    have := run_copy_fit (ty := ty) (off := (i + 1) * 2) (dLen := n - i) (dCap := dc) (sLen := n + 1 - i) (sCap := sc) (m := n - i) (A := ⟨x, i * 2, none⟩) tS hci his hxd (by simp only [Nat.min_def]; split <;> omega) (by omega) hLl (fun t u hu => by
      rw [List.getElem?_take] at hu
      split at hu
      · rw [addr_add, cell_of_row _ x _ cur tyy (0, 0) hxd]
        rw [List.getElem?_drop] at hu
        simpa using hu
      · cases hu) (fun u hu => by
      obtain ⟨q, hq⟩ := List.getElem?_of_mem hu
      rw [List.getElem?_take] at hq
      split at hq
      · rw [List.getElem?_drop] at hq
        exact h1 (i * 2 + q) u (by omega) (by simpa using hq)
      · cases hq)
    rw [hLl] at this
    exact this
  obtain ⟨W1, hW1⟩ : ∃ W1, W1 = w.drew.setRow x (gapCells cur.toList n i).toArray := ⟨_, rfl⟩
  have hx1 : W1.heap[x]? = some (.cells (gapCells cur.toList n i).toArray tyy (0, 0)) := by rw [hW1]; exact setRow_heap _ x cur _ tyy _ hxd
  have hy1 : W1.heap[y]? = some (.cells vcs vty (0, 0)) := by rw [hW1, setRow_other _ x y _ hxy]; exact hy
  have hgl : (gapCells cur.toList n i).length = c * 2 := by
    simp only [gapCells, List.length_append, hLl, List.length_take, List.length_drop, hcl]
    omega
  have hcp2 : ∀ ty dc, (Builtin.copy_ #[33, 33] ty #[.slice (some ⟨x, i * 2, none⟩) (n + 1 - i) dc, .slice (some ⟨y, 0, none⟩) 1 vc]).run Tryz.prog W1 = .ok (goInt 1) (W1.setRow x (setCellsAt (gapCells cur.toList n i) i a b).toArray) := fun ty dc => by
    have := run_copy_fit (ty := ty) (off := i * 2) (dLen := n + 1 - i) (dCap := dc) (sLen := 1) (sCap := vc) (m := 1) (A := ⟨y, 0, none⟩) (L := [a, b]) tS hci his hx1 (by simp only [Nat.min_def]; split <;> omega) (by rw [List.size_toArray, hgl]; omega) rfl (fun t u hu => by
      rw [addr_add, Nat.zero_add, cell_of_row _ y _ vcs vty (0, 0) hy1]
      match t, hu with
      | 0, hu => cases hu; exact ha
      | 1, hu => cases hu; exact hb
      | t + 2, hu => simp at hu) (fun u hu => by
      simp only [List.mem_cons, List.not_mem_nil, or_false] at hu
      rcases hu with rfl | rfl <;> assumption)
    exact this
  have hWh : Hid (W1 = w.drew.setRow x (gapCells cur.toList n i).toArray) := hW1
  rw [← hW1] at hcp1
  have hw1 : IntKind.i64.wrap ((i : Int) + 1) = (i : Int) + 1 := by rw [IntKind.wrap_i64]; omega
  have hw2 : IntKind.i64.wrap ((n : Int) + 1) = (n : Int) + 1 := by rw [IntKind.wrap_i64]; omega
  have hb1 : (0 : Int) ≤ (i : Int) + 1 := by omega
  have hin : i ≤ n := by omega
  have htn : ((i : Int) + 1).toNat = i + 1 := by omega
  have htn2 : ((n : Int) + 1).toNat = n + 1 := by omega
  have hb2 : ¬ (c = i + 1) := by omega
  have hb3 : (i : Int) ≤ (n : Int) + 1 := by omega
  have hb4 : ¬ (c = i) := by omega
  have hb5 : ¬ ((c : Int) < (n : Int) + 1) := by omega
  have hb6 : (n : Int) + 1 ≤ (c : Int) := by omega
  clear hW1 hx1 hy1 hgl hLl hxd
  go_enter Tryz.func129, Tryz.ntmps129
  go_wp2_with (simp only [hov])
  go_region_law_o (refine step_copy_runI rfl _ _ 33 33 rfl _ _ (by simp [Act.eval, Act.put]) (by simp [Act.eval, Act.put]) (hcp1 _ _ _) ?_)
  go_wp2_with (at_builtin; refine wpList_copy_runI _ rfl _ _ 33 33 rfl _ _ rfl rfl (hcp2 _ _) ?_)
  go_ret
  refine ⟨rfl, ?_⟩
  rw [← hWh.out]

/-- the cells that come behind: those of a slice from i on, laid behind a gap -/
def tailCells (r cur : List Value) (n i : Nat) : List Value := r.take ((i + 1) * 2) ++ (cur.drop (i * 2)).take ((n - i) * 2) ++ r.drop ((i + 1) * 2 + (n - i) * 2)
set_option maxHeartbeats 16000000 in
theorem insert_grow (x y n c i vc : Nat) (cur vcs : Array Value) (tyy vty : TypeId) (a b : Value) (w : World) (hx : w.heap[x]? = some (.cells cur tyy (0, 0))) (hy : w.heap[y]? = some (.cells vcs vty (0, 0))) (hsz : cur.size = c * 2) (hi : i < n) (hnc : n ≤ c) (hn : c < n + 1)
    (hbig : (n + 1) * 16 ≤ 140737488355328) (h1 : ∀ q u, q < n * 2 → cur[q]? = some u → u.oneCell' = true) (ha : vcs[0]? = some a) (hb : vcs[1]? = some b) (ha1 : a.oneCell' = true) (hb1 : b.oneCell' = true) :
    Calls Tryz.prog 129 #[.slice (some ⟨x, 0, none⟩) n c, .int .i64 i, .slice (some ⟨y, 0, none⟩) 1 vc] w fun e w' => ∃ (ROW : Array Value) (G : Nat), e = .returned (.slice (some ⟨w.heap.size, 0, none⟩) (n + 1) G) ∧
      w' = (((w.drew.alloc (.cells ROW 148)).setRow w.heap.size (setCellsAt ROW.toList i a b).toArray).drew).setRow w.heap.size (tailCells (setCellsAt ROW.toList i a b) cur.toList n i).toArray ∧
      ROW.size = G * 2 ∧ n + 1 ≤ G ∧ G ≤ 9223372036854775807 ∧ ∀ q, q < i * 2 → ROW[q]? = cur[q]? := by
  have t0 := tE; have t1 := tS; have t2 := tI; have t3 := tB; have mixed := mixed
  have u1 := run_underlying tS; have u2 := run_underlying tI; have u3 := run_underlying tB
  obtain ⟨ci, cz, hci, his, hiz, hizc, hib⟩ := cellInfo_is
  have hz2 : ¬ ((i : Int) = (n : Int)) := by omega
  have hcl : cur.toList.length = c * 2 := by simpa using hsz
  have hLl : ((cur.toList.drop (i * 2)).take ((n - i) * 2)).length = (n - i) * 2 := by rw [List.length_take, List.length_drop]; omega
  have hxd : w.drew.heap[x]? = some (.cells cur tyy (0, 0)) := hx
  have hxN : x < w.heap.size := (Array.getElem?_eq_some_iff.1 hx).1
  have hyN : y < w.heap.size := (Array.getElem?_eq_some_iff.1 hy).1
  have hold : (Builtin.firstCells ci.size i (.slice (some ⟨x, 0, none⟩) i c)).run Tryz.prog w.drew = .ok (cur.toList.take (i * 2)).toArray w.drew := by
    rw [his]
    exact run_firstCells_some w.drew 2 i ⟨x, 0, none⟩ i c (cur.toList.take (i * 2)) (by rw [List.length_take]; omega) (fun j v hj => by
      rw [addr_add, Nat.zero_add, cell_of_row _ x _ cur tyy (0, 0) hxd]
      rw [List.getElem?_take] at hj
      split at hj
      · simpa using hj
      · cases hj)
  obtain ⟨G, hG⟩ : ∃ G, G = grownCap w (n + 1) c 148 := ⟨_, rfl⟩
  obtain ⟨ROW, hROW⟩ : ∃ ROW : Array Value, ROW = (cur.toList.take (i * 2)).toArray ++ Builtin.zeroCells cz.cells (n + 1 - i) ++ Builtin.zeroCells cz.cells (G - (n + 1)) := ⟨_, rfl⟩
  obtain ⟨W1, hW1⟩ : ∃ W1, W1 = w.drew.alloc (.cells ROW 148) := ⟨_, rfl⟩
  have hik : i + (n + 1 - i) = n + 1 := by omega
  have hkk : (n : Int) + 1 - (i : Int) = ((n + 1 - i : Nat) : Int) := by omega
  have hrz : ∀ ty, (Builtin.append_ #[33, 3] ty #[.slice (some ⟨x, 0, none⟩) i c, .int .i64 ((n : Int) + 1 - (i : Int))]).run Tryz.prog w = .ok (.slice (some ⟨w.heap.size, 0, none⟩) (n + 1) G) W1 := fun ty => by
    have h := Lib.run_append_grow_zeros w 33 3 ty 148 ci _ .i64 .i64 tS tI hci hiz (some ⟨x, 0, none⟩) i c (cur.toList.take (i * 2)) hold (n + 1 - i) (by omega) (by omega) (by omega) (by omega) (by rw [hib]; omega) (by rw [hib, hik]; exact growslice_fits hn hbig)
    rw [hik] at h
    rw [hkk, hW1, hROW, hG]
    exact h
  have hGn : n + 1 ≤ G := by rw [hG]; exact grownCap_ge w _ _ _
  have hG63 : G ≤ 9223372036854775807 := by
    have := grownCap_le_maxLen w (n + 1) c 148 (by unfold maxLen; omega)
    rw [← hG] at this
    unfold maxLen at this
    omega
  have hzs : ∀ m, (Builtin.zeroCells cz.cells m).size = m * 2 := fun m => by rw [size_zeroCells, hizc]; rfl
  have hRs : ROW.size = G * 2 := by
    rw [hROW, Array.size_append, Array.size_append, hzs, hzs, List.size_toArray, List.length_take]
    omega
  have hRp : ∀ q, q < i * 2 → ROW[q]? = cur[q]? := fun q hq => by
    rw [hROW, Array.append_assoc, Array.getElem?_append_left (by rw [List.size_toArray, List.length_take]; omega), List.getElem?_toArray, List.getElem?_take, if_pos hq]
    simp
  have hx1 : W1.heap[w.heap.size]? = some (.cells ROW 148 (0, 0)) := by rw [hW1]; exact heap_alloc_new w.drew _
  have hxo : W1.heap[x]? = some (.cells cur tyy (0, 0)) := by rw [hW1]; exact (heap_alloc_old w.drew _ hxN).trans hx
  have hyo : W1.heap[y]? = some (.cells vcs vty (0, 0)) := by rw [hW1]; exact (heap_alloc_old w.drew _ hyN).trans hy
  have hRl : ROW.toList.length = G * 2 := by simpa using hRs
  have hcpA : ∀ ty dc, (Builtin.copy_ #[33, 33] ty #[.slice (some ⟨w.heap.size, i * 2, none⟩) (n + 1 - i) dc, .slice (some ⟨y, 0, none⟩) 1 vc]).run Tryz.prog W1 = .ok (goInt 1) (W1.setRow w.heap.size (setCellsAt ROW.toList i a b).toArray) := fun ty dc => by
    have := run_copy_fit (ty := ty) (off := i * 2) (dLen := n + 1 - i) (dCap := dc) (sLen := 1) (sCap := vc) (m := 1) (A := ⟨y, 0, none⟩) (L := [a, b]) tS hci his hx1 (by simp only [Nat.min_def]; split <;> omega) (by omega) rfl (fun t u hu => by
      rw [addr_add, Nat.zero_add, cell_of_row _ y _ vcs vty (0, 0) hyo]
      match t, hu with
      | 0, hu => cases hu; exact ha
      | 1, hu => cases hu; exact hb
      | t + 2, hu => simp at hu) (fun u hu => by
      simp only [List.mem_cons, List.not_mem_nil, or_false] at hu
      rcases hu with rfl | rfl <;> assumption)
    exact this
  obtain ⟨W2, hW2⟩ : ∃ W2, W2 = W1.setRow w.heap.size (setCellsAt ROW.toList i a b).toArray := ⟨_, rfl⟩
  have hsl : (setCellsAt ROW.toList i a b).length = G * 2 := by
    simp only [setCellsAt, List.length_append, List.length_take, List.length_drop, hRl, List.length_cons, List.length_nil]
    omega
  have hx2 : W2.drew.heap[w.heap.size]? = some (.cells (setCellsAt ROW.toList i a b).toArray 148 (0, 0)) := by
    show W2.heap[w.heap.size]? = _
    rw [hW2]; exact setRow_heap _ _ ROW _ _ _ hx1
  have hxo2 : W2.drew.heap[x]? = some (.cells cur tyy (0, 0)) := by
    show W2.heap[x]? = _
    rw [hW2, setRow_other _ _ x _ (by omega)]; exact hxo
  have hcpB : ∀ ty dc sc, (Builtin.copy_ #[33, 33] ty #[.slice (some ⟨w.heap.size, (i + 1) * 2, none⟩) (n - i) dc, .slice (some ⟨x, i * 2, none⟩) (n - i) sc]).run Tryz.prog W2.drew = .ok (goInt ((n - i : Nat) : Int)) (W2.drew.setRow w.heap.size (tailCells (setCellsAt ROW.toList i a b) cur.toList n i).toArray) := fun ty dc sc => by
    have := run_copy_fit (ty := ty) (off := (i + 1) * 2) (dLen := n - i) (dCap := dc) (sLen := n - i) (sCap := sc) (m := n - i) (A := ⟨x, i * 2, none⟩) tS hci his hx2 (by simp only [Nat.min_def]; split <;> omega) (by rw [List.size_toArray, hsl]; omega) hLl (fun t u hu => by
      rw [List.getElem?_take] at hu
      split at hu
      · rw [addr_add, cell_of_row _ x _ cur tyy (0, 0) hxo2]
        rw [List.getElem?_drop] at hu
        simpa using hu
      · cases hu) (fun u hu => by
      obtain ⟨q, hq⟩ := List.getElem?_of_mem hu
      rw [List.getElem?_take] at hq
      split at hq
      · rw [List.getElem?_drop] at hq
        exact h1 (i * 2 + q) u (by omega) (by simpa using hq)
      · cases hq)
    rw [hLl] at this
    exact this
  rw [← hW2] at hcpA
  have hWh : Hid (W1 = w.drew.alloc (.cells ROW 148)) := hW1
  have hWi : Hid (W2 = W1.setRow w.heap.size (setCellsAt ROW.toList i a b).toArray) := hW2
  have hw1 : IntKind.i64.wrap ((i : Int) + 1) = (i : Int) + 1 := by rw [IntKind.wrap_i64]; omega
  have hw2 : IntKind.i64.wrap ((n : Int) + 1) = (n : Int) + 1 := by rw [IntKind.wrap_i64]; omega
  have hw3 : IntKind.i64.wrap ((n : Int) + 1 - (i : Int)) = (n : Int) + 1 - (i : Int) := by rw [IntKind.wrap_i64]; omega
  have hb1' : (0 : Int) ≤ (i : Int) + 1 := by omega
  have hin : i ≤ n := by omega
  have hic : i ≤ c := by omega
  have htn : ((i : Int) + 1).toNat = i + 1 := by omega
  have hb2 : ¬ (G = i + 1) := by omega
  have hb3 : (i : Int) ≤ (n : Int) := by omega
  have hb4 : ¬ (c = i) := by omega
  have hb5 : (c : Int) < (n : Int) + 1 := by omega
  have hb6 : ¬ (G = i) := by omega
  have hc63 : c ≤ 9223372036854775807 := by omega
  have hfin : Hid (ROW.size = G * 2 ∧ n + 1 ≤ G ∧ G ≤ 9223372036854775807 ∧ ∀ q, q < i * 2 → ROW[q]? = cur[q]?) := ⟨hRs, hGn, hG63, hRp⟩
  clear hW1 hW2 hx1 hxo hyo hx2 hxo2 hsl hRl hRp hRs hROW hG hold hkk hik hLl hxd
  go_enter Tryz.func129, Tryz.ntmps129
  go_wp2_with (first
    | (at_builtin; refine Lib.wpList_append_run _ rfl _ _ _ _ rfl _ _ rfl rfl _ _ (hrz _) ?_)
    | (at_builtin; refine wpList_copy_runI _ rfl _ _ 33 33 rfl _ _ rfl rfl (hcpA _ _) ?_))
  go_region_law_o (refine step_copy_runI rfl _ _ 33 33 rfl _ _ (by simp [Act.eval, Act.put]) (by simp [Act.eval, Act.put]) (hcpB _ _ _) ?_)
  go_wp2
  go_ret
  refine ⟨ROW, G, rfl, ?_, hfin.out⟩
  rw [← hWh.out, ← hWi.out]

set_option maxHeartbeats 16000000 in
theorem insert_end (bs bv : Option Addr) (n c vc : Nat) (w w1 : World) (v1 : Value) (hn : n ≤ c) (hc : c ≤ 9223372036854775807)
    (hr : (Builtin.append_ #[33, 33] 33 #[.slice bs n c, .slice bv 1 vc]).run Tryz.prog w = .ok v1 w1) :
    Calls Tryz.prog 129 #[.slice bs n c, .int .i64 n, .slice bv 1 vc] w fun e w' => e = .returned v1 ∧ w' = w1 := by
  have t0 := tE; have t1 := tS; have t2 := tI; have t3 := tB; have mixed := mixed
  have u1 := run_underlying tS; have u2 := run_underlying tI; have u3 := run_underlying tB
  go_enter Tryz.func129, Tryz.ntmps129
  go_wp2_with (at_builtin; refine Lib.wpList_append_run _ rfl _ _ _ _ rfl _ _ rfl rfl _ _ hr ?_)
  all_goals (go_ret; exact ⟨rfl, rfl⟩)

theorem args_ins {I : Imm} {w : World} {i : Int} {d0 d1 : D} {vs : List Value} (h : All2 (DVR I w) [(false, [.i .i64 i]), (false, [.sl 2 [[d0, d1]]])] vs) (hp : ∀ u ∈ vs, PlainV w u) :
    ∃ y cap vcs vty a b, vs = [.int .i64 i, .slice (some ⟨y, 0, none⟩) 1 cap] ∧ I y ∧ w.heap[y]? = some (.cells vcs vty (0, 0)) ∧ vcs[0]? = some a ∧ vcs[1]? = some b ∧ DR I w d0 a ∧ DR I w d1 b := by
  cases h with
  | cons h1 h =>
    cases h with
    | @cons _ v2 _ _ h2 h =>
      cases h
      obtain ⟨d, e1, h1⟩ := h1
      obtain ⟨d', e2, h2⟩ := h2
      cases e1
      cases e2
      obtain rfl := h1.i_inv
      have hpv := hp v2 (by simp)
      generalize hxs : ([[d0, d1]] : List (List D)) = xs at h2
      cases h2 with
      | nil => cases hxs
      | sl _ _ blk off cap vals hpos hw hcap hI hc hd =>
        subst hxs
        obtain ⟨x, cs, ty, e, hh⟩ := hpv _ _ _ rfl
        cases e
        have c0 := hc 0 _ 0 d0 rfl rfl
        have c1 := hc 0 _ 1 d1 rfl rfl
        rw [cell_of_row _ _ _ cs ty (0, 0) hh] at c0 c1
        exact ⟨blk, cap, cs, ty, _, _, rfl, hI, hh, by simpa using c0, by simpa using c1, hd 0 _ 0 d0 rfl rfl, hd 0 _ 1 d1 rfl rfl⟩

theorem gap_get {cur : List Value} {n i c q : Nat} (hc : cur.length = c * 2) (hi : i ≤ n) (hn : n + 1 ≤ c) (hq : q < (n + 1) * 2) (hq' : q < i * 2 ∨ (i + 1) * 2 ≤ q) : (gapCells cur n i)[q]? = if q < i * 2 then cur[q]? else cur[q - 2]? := by
  have h1 : (cur.take ((i + 1) * 2)).length = (i + 1) * 2 := by rw [List.length_take]; omega
  have h2 : ((cur.drop (i * 2)).take ((n - i) * 2)).length = (n - i) * 2 := by rw [List.length_take, List.length_drop]; omega
  unfold gapCells
  split
  · rw [List.append_assoc, List.getElem?_append_left (by omega), List.getElem?_take, if_pos (by omega)]
  · rw [List.append_assoc, List.getElem?_append_right (by omega), h1, List.getElem?_append_left (by omega), List.getElem?_take, if_pos (by omega), List.getElem?_drop]
    congr 1
    omega
theorem gap_len {cur : List Value} {n i c : Nat} (hc : cur.length = c * 2) (hi : i ≤ n) (hn : n + 1 ≤ c) : (gapCells cur n i).length = c * 2 := by
  simp only [gapCells, List.length_append, List.length_take, List.length_drop, hc]
  omega
theorem tail_len {r cur : List Value} {n i c g : Nat} (hr : r.length = g * 2) (hc : cur.length = c * 2) (hi : i ≤ n) (hn : n ≤ c) (hg : n + 1 ≤ g) : (tailCells r cur n i).length = g * 2 := by
  simp only [tailCells, List.length_append, List.length_take, List.length_drop, hc, hr]
  omega
theorem tail_get {r cur : List Value} {n i c g q : Nat} (hr : r.length = g * 2) (hc : cur.length = c * 2) (hi : i ≤ n) (hn : n ≤ c) (hg : n + 1 ≤ g) (hq : q < (n + 1) * 2) : (tailCells r cur n i)[q]? = if q < (i + 1) * 2 then r[q]? else cur[q - 2]? := by
  have h1 : (r.take ((i + 1) * 2)).length = (i + 1) * 2 := by rw [List.length_take]; omega
  have h2 : ((cur.drop (i * 2)).take ((n - i) * 2)).length = (n - i) * 2 := by rw [List.length_take, List.length_drop]; omega
  unfold tailCells
  split
  · rename_i h
    rw [List.append_assoc, List.getElem?_append_left (by omega), List.getElem?_take, if_pos h]
  · rename_i h
    rw [List.append_assoc, List.getElem?_append_right (by omega), h1, List.getElem?_append_left (by omega), List.getElem?_take, if_pos (by omega), List.getElem?_drop]
    congr 1
    omega
theorem seta_len {cur : List Value} {i g : Nat} {a b : Value} (hc : cur.length = g * 2) (hi : i < g) : (setCellsAt cur i a b).length = g * 2 := by
  simp only [setCellsAt, List.length_append, List.length_take, List.length_drop, hc, List.length_cons, List.length_nil]
  omega
theorem seta_get {cur : List Value} {i g q : Nat} {a b : Value} (hc : cur.length = g * 2) (hi : i < g) : (setCellsAt cur i a b)[q]? = if q = i * 2 then some a else if q = i * 2 + 1 then some b else cur[q]? := by
  have h1 : (cur.take (i * 2)).length = i * 2 := by rw [List.length_take]; omega
  unfold setCellsAt
  by_cases hq : q < i * 2
  · rw [List.append_assoc, List.getElem?_append_left (by omega), List.getElem?_take, if_pos hq, if_neg (by omega), if_neg (by omega)]
  · rw [List.append_assoc, List.getElem?_append_right (by omega), h1]
    by_cases h2 : q = i * 2
    · rw [if_pos h2, h2, Nat.sub_self]; rfl
    · by_cases h3 : q = i * 2 + 1
      · rw [if_neg h2, if_pos h3, h3, show i * 2 + 1 - i * 2 = 1 by omega]; rfl
      · rw [if_neg h2, if_neg h3, List.getElem?_append_right (by simp; omega), List.getElem?_drop]
        congr 1
        simp
        omega
/-- the rows with one more -/
def insR (rows : List (List D)) (i : Nat) (r : List D) : List (List D) := rows.take i ++ (r :: rows.drop i)
theorem insR_get {rows : List (List D)} {i q : Nat} {r : List D} (hi : i ≤ rows.length) : (insR rows i r)[q]? = if q < i then rows[q]? else if q = i then some r else rows[q - 1]? := by
  have h1 : (rows.take i).length = i := by rw [List.length_take]; omega
  unfold insR
  by_cases hq : q < i
  · rw [List.getElem?_append_left (by omega), List.getElem?_take, if_pos hq, if_pos hq]
  · rw [List.getElem?_append_right (by omega), h1, if_neg hq]
    by_cases h2 : q = i
    · rw [if_pos h2, h2, Nat.sub_self]; rfl
    · rw [if_neg h2]
      obtain ⟨t, ht⟩ : ∃ t, q - i = t + 1 := ⟨q - i - 1, by omega⟩
      rw [ht, List.getElem?_cons_succ, List.getElem?_drop]
      congr 1
      omega
theorem insR_len {rows : List (List D)} {i : Nat} {r : List D} (hi : i ≤ rows.length) : (insR rows i r).length = rows.length + 1 := by
  unfold insR
  rw [List.length_append, List.length_take, List.length_cons, List.length_drop]
  omega

theorem insert_con {G : Glo} {s0 : Nat} {rows : List (List D)} {i : Nat} {d0 d1 : D} (hs0 : s0 = 2 ∨ (s0 = 0 ∧ rows = [])) (hi : i ≤ rows.length) (hbig : (rows.length + 1) * 17 ≤ 2 ^ 40) :
    ConO Tryz.prog G 129 [(false, [.sl s0 rows]), (false, [.i .i64 (i : Int)]), (false, [.sl 2 [[d0, d1]]])] [(false, [.sl 2 (insR rows i [d0, d1])])] := by
  refine ⟨s0, 2, rows, _, _, rfl, rfl, fun B I w v vs hG hI hB hV ha hpl => ?_⟩
  obtain ⟨y, vc, vcs, vty, a, b, rfl, hIy, hy, ha0, hb0, hda, hdb⟩ := args_ins ha hpl
  by_cases hin : i = rows.length
  · subst hin
    obtain ⟨ci, cz, hci, his, hiz, hizc, hib⟩ := cellInfo_is
    have hsrc : SrcV I w 2 [[d0, d1]] (.slice (some ⟨y, 0, none⟩) 1 vc) := by
      refine ⟨by simp, some ⟨y, 0, none⟩, vc, rfl, .inr ⟨_, rfl, [a, b], rfl, fun ii r j d hii hj => ?_, fun q u hu => ?_, fun u hu => ?_⟩⟩
      · match ii, hii with
        | 0, hii =>
          cases hii
          match j, hj with
          | 0, hj => cases hj; exact ⟨a, rfl, hda⟩
          | 1, hj => cases hj; exact ⟨b, rfl, hdb⟩
          | j + 2, hj => simp at hj
        | ii + 1, hii => simp at hii
      · rw [addr_add, Nat.zero_add, cell_of_row _ y _ vcs vty (0, 0) hy]
        match q, hu with
        | 0, hu => cases hu; exact ha0
        | 1, hu => cases hu; exact hb0
        | q + 2, hu => simp at hu
      · simp only [List.mem_cons, List.not_mem_nil, or_false] at hu
        rcases hu with rfl | rfl
        · exact hda.one
        · exact hdb.one
    obtain ⟨v', w', hr, hV', hgr, hblk⟩ := run_appendV (ty := 33) tS hci hiz his (by rw [hizc]; rfl) (by omega) hV (hs0.imp id fun h => h.1) hsrc (by rw [hib]; simpa using hbig) hB hI
    obtain ⟨bs, c, rfl⟩ := hV.slice
    have hcap : rows.length ≤ c ∧ c ≤ maxLen := by
      rcases hV.2 with ⟨e, hr⟩ | ⟨x, cap, cur, ty, e, _, _, _, h4, h5, _⟩
      · subst hr
        have := congrArg (fun v => match v with | Value.slice _ _ c => c | _ => 0) e
        simp only at this
        rw [this]
        exact ⟨Nat.le_refl _, Nat.zero_le _⟩
      · have := congrArg (fun v => match v with | Value.slice _ _ c => c | _ => 0) e
        simp only at this
        rw [this]
        exact ⟨h4, h5⟩
    refine (insert_end bs (some ⟨y, 0, none⟩) rows.length c vc w w' v' hcap.1 (by have := hcap.2; unfold maxLen at this; omega) hr).mono ?_
    rintro e w'' ⟨rfl, rfl⟩
    refine ⟨v', rfl, ?_, fun x hx hne => hgr.block x hx (fun e => hne e.symm), hgr.size, ⟨hgr.os, hgr.output⟩, hblk⟩
    have : insR rows rows.length [d0, d1] = rows ++ [[d0, d1]] := by simp [insR]
    rw [this]
    exact hV'
  · have hlt : i < rows.length := by omega
    obtain rfl : s0 = 2 := by
      rcases hs0 with h | ⟨_, h⟩
      · exact h
      · rw [h] at hlt; simp at hlt
    rcases hV.2 with ⟨_, hr⟩ | ⟨x, cap, cur, ty, rfl, h1, h2, h3, h4, h5, h6, h7, h8⟩
    · rw [hr] at hlt
      simp at hlt
    have hcl : cur.toList.length = cap * 2 := by simpa using h6
    have hxy : y ≠ x := fun e => h8 (e ▸ hIy)
    have hone : ∀ q u, q < rows.length * 2 → cur[q]? = some u → u.oneCell' = true := fun q u hq hu => by
      obtain ⟨r, d, hr, hd⟩ := row_two (r := []) hV.1 hq
      obtain ⟨u', hu', hdr⟩ := h7 _ _ _ _ hr hd
      rw [show q / 2 * 2 + q % 2 = q by omega, hu] at hu'
      cases hu'
      exact hdr.one
    have hwid : ∀ r ∈ insR rows i [d0, d1], r.length = 2 := fun r hr => by
      rcases List.mem_append.1 hr with h | h
      · exact hV.1 r (List.mem_of_mem_take h)
      · rcases List.mem_cons.1 h with rfl | h
        · rfl
        · exact hV.1 r (List.mem_of_mem_drop h)
    have hlen : (insR rows i [d0, d1]).length = rows.length + 1 := insR_len hi
    by_cases hroom : rows.length + 1 ≤ cap
    · refine (insert_room x y rows.length cap i vc cur vcs ty vty a b w h3 hy hxy h6 hlt hroom (by unfold maxLen at h5; omega) hone ha0 hb0 hda.one hdb.one).mono ?_
      rintro e w' ⟨rfl, rfl⟩
      have hd3 : w.drew.heap[x]? = some (.cells cur ty (0, 0)) := h3
      have hs1 := setRow_heap w.drew x cur (gapCells cur.toList rows.length i).toArray ty _ hd3
      have hs2 := setRow_heap _ x _ (setCellsAt (gapCells cur.toList rows.length i) i a b).toArray ty _ hs1
      have hgl := gap_len hcl hi hroom
      have hoth : ∀ z, z ≠ x → (((w.drew.setRow x (gapCells cur.toList rows.length i).toArray).setRow x (setCellsAt (gapCells cur.toList rows.length i) i a b).toArray).heap[z]? = w.heap[z]?) := fun z hz => by
        rw [setRow_other _ x z _ hz, setRow_other _ x z _ hz]
        rfl
      have hmono : ∀ {d : D} {u : Value}, DR I w d u → DR I ((w.drew.setRow x (gapCells cur.toList rows.length i).toArray).setRow x (setCellsAt (gapCells cur.toList rows.length i) i a b).toArray) d u := fun h => h.mono (fun _ h => h) fun z hz => hoth z (fun e => h8 (e ▸ hz))
      refine ⟨_, rfl, ⟨hwid, .inr ⟨x, cap, _, ty, by rw [hlen], h1, h2, hs2, by rw [hlen]; exact hroom, h5, ?_, fun q r jj d hq hjj => ?_, h8⟩⟩, fun z _ hz => hoth z (fun e => hz (by simp [Value.ownBlock, e])), by rw [setRow_size, setRow_size]; exact Nat.le_refl _, ⟨rfl, rfl⟩, fun z hz => .inl hz⟩
      · rw [List.size_toArray, seta_len hgl (by omega)]
      · have hql := (List.getElem?_eq_some_iff.1 hq).1
        have hjl : jj < 2 := by have := (List.getElem?_eq_some_iff.1 hjj).1; rw [hwid r (List.mem_of_getElem? hq)] at this; exact this
        rw [hlen] at hql
        rw [List.getElem?_toArray, seta_get hgl (by omega)]
        rw [insR_get hi] at hq
        by_cases hqi : q < i
        · rw [if_pos hqi] at hq
          obtain ⟨u, hu, hd⟩ := h7 q r jj d hq hjj
          rw [if_neg (by omega), if_neg (by omega), gap_get hcl hi hroom (by omega) (.inl (by omega)), if_pos (by omega)]
          exact ⟨u, by simpa using hu, hmono hd⟩
        · rw [if_neg hqi] at hq
          by_cases hqe : q = i
          · rw [if_pos hqe] at hq
            cases hq
            subst hqe
            match jj, hjj with
            | 0, hjj => cases hjj; rw [if_pos (by omega)]; exact ⟨a, rfl, hmono hda⟩
            | 1, hjj => cases hjj; rw [if_neg (by omega), if_pos rfl]; exact ⟨b, rfl, hmono hdb⟩
            | jj + 2, hjj => omega
          · rw [if_neg hqe] at hq
            obtain ⟨u, hu, hd⟩ := h7 _ r jj d hq hjj
            rw [if_neg (by omega), if_neg (by omega), gap_get hcl hi hroom (by omega) (.inr (by omega)), if_neg (by omega), show q * 2 + jj - 2 = (q - 1) * 2 + jj by omega]
            exact ⟨u, by simpa using hu, hmono hd⟩
    · refine (insert_grow x y rows.length cap i vc cur vcs ty vty a b w h3 hy h6 hlt h4 (by omega) (by omega) hone ha0 hb0 hda.one hdb.one).mono ?_
      rintro e w' ⟨ROW, g, rfl, rfl, hRs, hg1, hg2, hRp⟩
      have hRl : ROW.toList.length = g * 2 := by simpa using hRs
      have hn0 : (w.drew.alloc (.cells ROW 148)).heap[w.heap.size]? = some (.cells ROW 148 (0, 0)) := heap_alloc_new w.drew _
      have hn1 := setRow_heap _ w.heap.size ROW (setCellsAt ROW.toList i a b).toArray 148 _ hn0
      have hn1' : ((w.drew.alloc (.cells ROW 148)).setRow w.heap.size (setCellsAt ROW.toList i a b).toArray).drew.heap[w.heap.size]? = some (.cells (setCellsAt ROW.toList i a b).toArray 148 (0, 0)) := hn1
      have hn2 := setRow_heap _ w.heap.size _ (tailCells (setCellsAt ROW.toList i a b) cur.toList rows.length i).toArray 148 _ hn1'
      have hsl : (setCellsAt ROW.toList i a b).length = g * 2 := seta_len hRl (by omega)
      have hoth : ∀ z, z < w.heap.size → ((((w.drew.alloc (.cells ROW 148)).setRow w.heap.size (setCellsAt ROW.toList i a b).toArray).drew).setRow w.heap.size (tailCells (setCellsAt ROW.toList i a b) cur.toList rows.length i).toArray).heap[z]? = w.heap[z]? := fun z hz => by
        rw [setRow_other _ _ z _ (by omega)]
        show ((w.drew.alloc (.cells ROW 148)).setRow w.heap.size (setCellsAt ROW.toList i a b).toArray).heap[z]? = _
        rw [setRow_other _ _ z _ (by omega)]
        exact heap_alloc_old w.drew _ hz
      have hmono : ∀ {d : D} {u : Value}, DR I w d u → DR I ((((w.drew.alloc (.cells ROW 148)).setRow w.heap.size (setCellsAt ROW.toList i a b).toArray).drew).setRow w.heap.size (tailCells (setCellsAt ROW.toList i a b) cur.toList rows.length i).toArray) d u := fun h => h.mono (fun _ h => h) fun z hz => hoth z (hI z hz)
      refine ⟨_, rfl, ⟨hwid, .inr ⟨w.heap.size, g, _, _, by rw [hlen], hB, h2, hn2, by rw [hlen]; exact hg1, by unfold maxLen; omega, ?_, fun q r jj d hq hjj => ?_, fun h => by have := hI _ h; omega⟩⟩, fun z hz _ => hoth z hz, ?_, ⟨rfl, rfl⟩, fun z hz => .inr ?_⟩
      · rw [List.size_toArray, tail_len hsl hcl hi h4 hg1]
      · have hql := (List.getElem?_eq_some_iff.1 hq).1
        have hjl : jj < 2 := by have := (List.getElem?_eq_some_iff.1 hjj).1; rw [hwid r (List.mem_of_getElem? hq)] at this; exact this
        rw [hlen] at hql
        rw [List.getElem?_toArray, tail_get hsl hcl hi h4 hg1 (by omega)]
        rw [insR_get hi] at hq
        by_cases hqi : q < i
        · rw [if_pos hqi] at hq
          obtain ⟨u, hu, hd⟩ := h7 q r jj d hq hjj
          rw [if_pos (by omega), seta_get hRl (by omega), if_neg (by omega), if_neg (by omega)]
          refine ⟨u, ?_, hmono hd⟩
          rw [Array.getElem?_toList, hRp _ (by omega)]
          exact hu
        · rw [if_neg hqi] at hq
          by_cases hqe : q = i
          · rw [if_pos hqe] at hq
            cases hq
            subst hqe
            rw [if_pos (by omega), seta_get hRl (by omega)]
            match jj, hjj with
            | 0, hjj => cases hjj; rw [if_pos (by omega)]; exact ⟨a, rfl, hmono hda⟩
            | 1, hjj => cases hjj; rw [if_neg (by omega), if_pos rfl]; exact ⟨b, rfl, hmono hdb⟩
            | jj + 2, hjj => omega
          · rw [if_neg hqe] at hq
            obtain ⟨u, hu, hd⟩ := h7 _ r jj d hq hjj
            rw [if_neg (by omega), show q * 2 + jj - 2 = (q - 1) * 2 + jj by omega]
            exact ⟨u, by simpa using hu, hmono hd⟩
      · rw [setRow_size]
        show _ ≤ ((w.drew.alloc (.cells ROW 148)).setRow w.heap.size (setCellsAt ROW.toList i a b).toArray).heap.size
        rw [setRow_size]
        simp
      · simp only [Value.ownBlock, Option.some.injEq] at hz
        omega

/-- a contract of a function that uses up a slice, as the IR names it -/
theorem con_eat {P : Program} {G : Glo} {f : FuncId} {az rs : List DV} (hf : f < eatOff) (h : ConO P G f az rs) : ConX P G (eatOff + f) az rs := by
  refine ⟨fun h' => absurd h' (Nat.not_lt.2 (Nat.le_add_right _ _)), fun _ => ?_, fun h' => ?_⟩
  rotate_left
  · have h2 : eatOff + f < eatOff + eatOff := Nat.add_lt_add_left hf _
    have h3 : capOff = eatOff + eatOff := rfl
    rw [h3] at h'
    exact absurd h' (Nat.not_le.2 h2)
  rw [Nat.add_sub_cancel_left]
  exact h
end Go.Proofs.YtlihbielphcgbaaGreatDoor.Sx
