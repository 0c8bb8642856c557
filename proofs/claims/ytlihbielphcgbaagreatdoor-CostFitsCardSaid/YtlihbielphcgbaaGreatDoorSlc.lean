/-
  slices.Delete at cells, on the machine.
-/
import Derived.Test.YtlihbielphcgbaaGreatDoorBe
import Derived.Test.YtlihbielphcgbaaGreatDoorProg
import Derived.Shelf.RegionOpenPlain
import Derived.WalkKit
import Derived.Deep.LoopGhost
import Derived.Deep.RegionLaw
import Derived.Lib.Walk
import Derived.Lib.SliceRun
import Derived.Lib.SlicesDelete
namespace Go.Proofs.YtlihbielphcgbaaGreatDoor.Sx
open Go Go.Shelf Go.RowKit Go.Lib
set_option linter.unusedVariables false
set_option linter.unusedSimpArgs false
set_option maxRecDepth 1000000

/-- an append, and a clearing, as steps of a walk, where the run is known -/
theorem step_append_runI {P : Program} {ops : Array Oper} {o : Oper} {a : Act} {w : World} {K : Act → World → Prop} {Q : Exit → Act → World → Prop} {E : Prop}
    (hg : o.guard = none) (d x : Operand) (dT sT : TypeId) (hop : o.op = Op.call { callee := Callee.builtin Builtin.append, args := #[d, x], argTypes := #[dT, sT] })
    (v u : Value) (hd : a.eval d = v) (hx : a.eval x = u) {v' : Value} {w' : World} (hr : (Builtin.append_ #[dT, sT] o.type #[v, u]).run P w = .ok v' w') (hK : K (a.put o.dst v') w') :
    if Region.wanted o (yielded ops a.tmps) = true then Oper.wp P o a w K Q else E := by
  have hw : Region.wanted o (yielded ops a.tmps) = true := by simp [Region.wanted, hg]
  rw [if_pos hw]
  unfold Oper.wp
  simp [execOp, hop, resolve, invoke, builtin, hd, hx, hr, Result.andThen]
  exact hK

theorem tE (w : World) : (Go.sizeOf 148).run Tryz.prog w = .ok 2 w := by kernel_rfl
theorem tS : Tryz.prog.underlying 33 = some (.slice 148) := by kernel_rfl
theorem tI : Tryz.prog.underlying 3 = some (.int .i64) := by kernel_rfl
theorem tB : Tryz.prog.underlying 4 = some .bool := by kernel_rfl
theorem mixed : Tryz.prog.follows .mixedOrders = true := by kernel_rfl

set_option maxHeartbeats 4000000 in
theorem delete_same (a : Option Addr) (n c i : Nat) (w : World) (hi : i ≤ n) (hn : n ≤ c) (hc : c ≤ 9223372036854775807) :
    Calls Tryz.prog 128 #[.slice a n c, .int .i64 i, .int .i64 i] w fun e w' => e = .returned (.slice a n c) ∧ w' = w := by
  have t0 := tE; have t1 := tS; have t2 := tI; have t3 := tB
  have u1 := run_underlying tS; have u2 := run_underlying tI; have u3 := run_underlying tB
  go_enter Tryz.func128, Tryz.ntmps128
  go_wp2
  all_goals (go_ret; exact ⟨rfl, rfl⟩)

section
variable {P : Program} {w : World}
theorem run_append_fit {t ty el : TypeId} {i : TypeInfo} (ht : P.underlying t = some (.slice el)) (hi : P.info? el = some i) {k : Nat} (hk : i.size = k) {x n1 cap m c : Nat} {cur : Array Value} {tyy : TypeId} {A : Addr} {L : List Value}
    (hx : w.heap[x]? = some (.cells cur tyy (0, 0))) (hfit : n1 + m ≤ cap) (hsz : cur.size = cap * k) (hL : L.length = m * k) (hLc : ∀ j u, L[j]? = some u → w.cell? (A.add j) = some u) (hL1 : ∀ u ∈ L, u.oneCell' = true) :
    (Builtin.append_ #[t, t] ty #[.slice (some ⟨x, 0, none⟩) n1 cap, .slice (some A) m c]).run P w = .ok (.slice (some ⟨x, 0, none⟩) (n1 + m) cap)
            (w.setRow x (cur.toList.take (n1 * k) ++ L ++ cur.toList.drop (n1 * k + L.length)).toArray) := by
  subst hk
  have hf := run_firstCells_some (P := P) w i.size m A m c L hL hLc
  have hsp : n1 * i.size + L.length ≤ cur.size := by rw [hL, hsz, ← Nat.add_mul]; exact Nat.mul_le_mul_right _ hfit
  have hst := run_storeCells_at P x (n1 * i.size) tyy L 0 cur w hx (by simpa using hsp) hL1
  simp only [Nat.add_zero] at hst
  simp [Builtin.append_, run_underlying ht, sizeOf, typeInfo, hi, Builtin.lenOf, hfit, hf, Addr.add_lit, hst]
theorem run_clear_fit {t ty el : TypeId} {i : TypeInfo} {z : Value} (ht : P.underlying t = some (.slice el)) (hi : P.info? el = some i) (hz : i.zero = some z) {k : Nat} (hk : z.cells.size = k) {x lo m c : Nat} {cur : Array Value} {tyy : TypeId}
    (hx : w.heap[x]? = some (.cells cur tyy (0, 0))) (hm : 0 < m) (hsz : lo * k + m * k ≤ cur.size) (h1 : ∀ u ∈ z.cells.toList, u.oneCell' = true) :
    (Builtin.clear_ #[t] ty #[.slice (some ⟨x, lo * k, none⟩) m c]).run P w = .ok (.tuple #[])
            (w.setRow x (cur.toList.take (lo * k) ++ (List.replicate m z.cells.toList).flatten ++ cur.toList.drop (lo * k + (List.replicate m z.cells.toList).flatten.length)).toArray) := by
  subst hk
  obtain ⟨q, rfl⟩ : ∃ q, m = q + 1 := ⟨m - 1, by omega⟩
  have hL : (Builtin.zeroCells z.cells (q + 1)).toList = (List.replicate (q + 1) z.cells.toList).flatten := zeros_list z.cells _
  have hLl : (List.replicate (q + 1) z.cells.toList).flatten.length = (q + 1) * z.cells.size := by simp
  have hst := run_storeCells_at (P := P) x (lo * z.cells.size) tyy ((List.replicate (q + 1) z.cells.toList).flatten) 0 cur w hx (by rw [hLl]; omega) (fun u hu => by
    obtain ⟨l, hl, hul⟩ := List.mem_flatten.1 hu
    rw [(List.mem_replicate.1 hl).2] at hul
    exact h1 u hul)
  simp only [Nat.add_zero] at hst
  rw [← hL] at hst ⊢
  have hzr : ∀ w : World, (zeroValue el).run P w = .ok z w := fun w => by simp [zeroValue, typeInfo, hi, hz]
  simp [Builtin.clear_, run_underlying ht, hzr, hst]
end

theorem cellInfo_is : ∃ i z, Tryz.prog.info? 148 = some i ∧ i.size = 2 ∧ i.zero = some z ∧ z.cells = #[.int .u64 0, .int .u64 0] ∧ i.bytes = 16 := by
  have h : (Tryz.prog.info? 148).map (fun i => (i.zero, i.size, i.bytes)) = some (some (Value.agg #[.int .u64 0, .int .u64 0]), 2, 16) := by kernel_rfl
  obtain ⟨i, hi, h1, h2, h3⟩ := info_parts h
  exact ⟨i, _, hi, h2, h1, rfl, h3⟩
/-- the cells behind the elements' move, and behind the clearing -/
def delCells (cur : List Value) (n i j : Nat) : List Value := cur.take (i * 2) ++ (cur.drop (j * 2)).take ((n - j) * 2) ++ cur.drop (i * 2 + (n - j) * 2)
def clrCells (cur : List Value) (lo m : Nat) : List Value := cur.take (lo * 2) ++ (List.replicate m [Value.int .u64 0, Value.int .u64 0]).flatten ++ cur.drop (lo * 2 + m * 2)
set_option maxHeartbeats 8000000 in
theorem delete_run (x n c i j : Nat) (cur : Array Value) (tyy : TypeId) (w : World) (hx : w.heap[x]? = some (.cells cur tyy (0, 0))) (hsz : cur.size = c * 2) (hij : i < j) (hj : j ≤ n) (hn : n ≤ c) (hc : c ≤ 9223372036854775807)
    (h1 : ∀ q u, q < n * 2 → cur[q]? = some u → u.oneCell' = true) :
    Calls Tryz.prog 128 #[.slice (some ⟨x, 0, none⟩) n c, .int .i64 i, .int .i64 j] w fun e w' => e = .returned (.slice (some ⟨x, 0, none⟩) (n - (j - i)) c) ∧
      w' = (w.drew.setRow x (delCells cur.toList n i j).toArray).setRow x (clrCells (delCells cur.toList n i j) (i + (n - j)) (j - i)).toArray := by
  have t0 := tE; have t1 := tS; have t2 := tI; have t3 := tB; have mixed := mixed
  have u1 := run_underlying tS; have u2 := run_underlying tI; have u3 := run_underlying tB
  obtain ⟨ci, cz, hi, his, hiz, hizc, hib⟩ := cellInfo_is
  have hlt : (cur.toList.drop (j * 2)).length = c * 2 - j * 2 := by simp [hsz]
  have hLl : ((cur.toList.drop (j * 2)).take ((n - j) * 2)).length = (n - j) * 2 := by rw [List.length_take, hlt]; omega
  have hxd : w.drew.heap[x]? = some (.cells cur tyy (0, 0)) := hx
  obtain ⟨A, hA, hsrc⟩ : ∃ A : Addr, (if c = j then some (⟨x, 0, none⟩ : Addr) else some ⟨x, j * 2, none⟩) = some A ∧ Hid (∀ t u, ((cur.toList.drop (j * 2)).take ((n - j) * 2))[t]? = some u → w.drew.cell? (A.add t) = some u) := by
    by_cases h : c = j
    · refine ⟨⟨x, 0, none⟩, by simp [h], fun t u hu => ?_⟩
      rw [List.getElem?_take] at hu
      rw [if_neg (by omega)] at hu
      cases hu
    · refine ⟨⟨x, j * 2, none⟩, by simp [h], fun t u hu => ?_⟩
      rw [List.getElem?_take] at hu
      split at hu
      · rw [addr_add, cell_of_row _ x _ cur tyy (0, 0) hxd]
        rw [List.getElem?_drop] at hu
        simpa using hu
      · cases hu
  have happ : ∀ ty, (Builtin.append_ #[33, 33] ty #[.slice (some ⟨x, 0, none⟩) i c, .slice (some A) (n - j) (c - j)]).run Tryz.prog w.drew = .ok (.slice (some ⟨x, 0, none⟩) (i + (n - j)) c) (w.drew.setRow x (delCells cur.toList n i j).toArray) := fun ty => by
    have := run_append_fit (ty := ty) (n1 := i) (cap := c) (m := n - j) (c := c - j) (A := A) tS hi his hxd (by omega) hsz hLl hsrc.out (fun u hu => by
      obtain ⟨q, hq⟩ := List.getElem?_of_mem hu
      rw [List.getElem?_take] at hq
      split at hq
      · rw [List.getElem?_drop] at hq
        exact h1 (j * 2 + q) u (by omega) (by simpa using hq)
      · cases hq)
    rw [hLl] at this
    exact this
  obtain ⟨W1, hW1⟩ : ∃ W1, W1 = w.drew.setRow x (delCells cur.toList n i j).toArray := ⟨_, rfl⟩
  have hx1 : W1.heap[x]? = some (.cells (delCells cur.toList n i j).toArray tyy (0, 0)) := by rw [hW1]; exact setRow_heap _ x cur _ tyy _ hxd
  have hdl : (delCells cur.toList n i j).length = c * 2 := by
    have : cur.toList.length = c * 2 := by simpa using hsz
    simp only [delCells, List.length_append, hLl, List.length_take, List.length_drop, this]
    omega
  have hcl : ∀ ty, (Builtin.clear_ #[33] ty #[.slice (some ⟨x, (i + (n - j)) * 2, none⟩) (n - (i + (n - j))) (c - (i + (n - j)))]).run Tryz.prog W1 = .ok (.tuple #[]) (W1.setRow x (clrCells (delCells cur.toList n i j) (i + (n - j)) (j - i)).toArray) := fun ty => by
    have h := run_clear_fit (ty := ty) (lo := i + (n - j)) (m := n - (i + (n - j))) (c := c - (i + (n - j))) tS hi hiz (k := 2) (by rw [hizc]; rfl) hx1 (by omega) (by rw [List.size_toArray, hdl]; omega) (by rw [hizc]; decide)
    rw [h, hizc, show n - (i + (n - j)) = j - i by omega]
    simp only [clrCells]
    congr 3
    simp
  rw [← hW1] at happ
  have hic : i ≤ c := by omega
  have hjc : j ≤ c := by omega
  have hWh : Hid (W1 = w.drew.setRow x (delCells cur.toList n i j).toArray) := hW1
  clear hsrc hW1
  go_enter Tryz.func128, Tryz.ntmps128
  go_wp2_with fail
  go_region_law_o (refine step_append_runI rfl (.tmp 22) (.tmp 25) 33 33 rfl _ _ (by simp [Act.eval, Act.put]) (by simp [Act.eval, Act.put]) (happ _) ?_)
  go_wp2
  go_ret
  refine ⟨by rw [show n - (j - i) = i + (n - j) by omega]; rfl, ?_⟩
  rw [← hWh.out]

theorem setRow_size {w : World} {x : Nat} {cs : Array Value} : (w.setRow x cs).heap.size = w.heap.size := by simp [World.setRow]
theorem del_len {cur : List Value} {n i j c : Nat} (hc : cur.length = c * 2) (hij : i ≤ j) (hj : j ≤ n) (hn : n ≤ c) : (delCells cur n i j).length = c * 2 := by
  simp only [delCells, List.length_append, List.length_take, List.length_drop, hc]
  omega
theorem clr_len {cur : List Value} {lo m c : Nat} (hc : cur.length = c * 2) (h : lo + m ≤ c) : (clrCells cur lo m).length = c * 2 := by
  simp only [clrCells, List.length_append, List.length_take, List.length_drop, hc]
  simp
  omega
theorem clr_get {cur : List Value} {lo m c q : Nat} (hc : cur.length = c * 2) (h : lo ≤ c) (hq : q < lo * 2) : (clrCells cur lo m)[q]? = cur[q]? := by
  unfold clrCells
  rw [List.append_assoc, List.getElem?_append_left (by rw [List.length_take]; omega), List.getElem?_take, if_pos hq]
theorem del_get {cur : List Value} {n i j c q : Nat} (hc : cur.length = c * 2) (hij : i ≤ j) (hj : j ≤ n) (hn : n ≤ c) (hq : q < (i + (n - j)) * 2) : (delCells cur n i j)[q]? = if q < i * 2 then cur[q]? else cur[j * 2 + (q - i * 2)]? := by
  have h1 : (cur.take (i * 2)).length = i * 2 := by rw [List.length_take]; omega
  have h2 : ((cur.drop (j * 2)).take ((n - j) * 2)).length = (n - j) * 2 := by rw [List.length_take, List.length_drop]; omega
  unfold delCells
  split
  · rename_i h
    rw [List.append_assoc, List.getElem?_append_left (by omega), List.getElem?_take, if_pos h]
  · rename_i h
    rw [List.append_assoc, List.getElem?_append_right (by omega), h1, List.getElem?_append_left (by omega), List.getElem?_take, if_pos (by omega), List.getElem?_drop]
theorem row_two {rows : List (List D)} {r : List D} {q : Nat} (hw : ∀ r ∈ rows, r.length = 2) (h : q < rows.length * 2) : ∃ r d, rows[q / 2]? = some r ∧ r[q % 2]? = some d := by
  have h1 : q / 2 < rows.length := by omega
  have h2 := hw rows[q / 2] (List.getElem_mem h1)
  exact ⟨_, _, List.getElem?_eq_getElem h1, List.getElem?_eq_getElem (by omega)⟩
theorem args_two {I : Imm} {w : World} {i j : Int} {vs : List Value} (h : All2 (DVR I w) [(false, [.i .i64 i]), (false, [.i .i64 j])] vs) : vs = [.int .i64 i, .int .i64 j] := by
  cases h with
  | cons h1 h =>
    cases h with
    | cons h2 h =>
      cases h
      obtain ⟨d1, e1, h1⟩ := h1
      obtain ⟨d2, e2, h2⟩ := h2
      cases e1
      cases e2
      rw [h1.i_inv, h2.i_inv]
theorem delete_con {G : Glo} {rows : List (List D)} {i j : Nat} (hij : i ≤ j) (hj : j ≤ rows.length) :
    ConO Tryz.prog G 128 [(false, [.sl 2 rows]), (false, [.i .i64 (i : Int)]), (false, [.i .i64 (j : Int)])] [(false, [.sl 2 (rows.take i ++ rows.drop j)])] := by
  refine ⟨2, 2, rows, _, _, rfl, rfl, fun B I w v vs hG hI hB hV ha hpl => ?_⟩
  obtain rfl := args_two ha
  have hwid : ∀ r ∈ rows.take i ++ rows.drop j, r.length = 2 := fun r hr => (List.mem_append.1 hr).elim (fun h => hV.1 r (List.mem_of_mem_take h)) (fun h => hV.1 r (List.mem_of_mem_drop h))
  by_cases heq : i = j
  · subst heq
    obtain ⟨b, c, rfl⟩ := hV.slice
    have hcap : rows.length ≤ c ∧ c ≤ maxLen := by
      rcases hV.2 with ⟨e, hr⟩ | ⟨x, cap, cur, ty, e, _, _, _, h4, h5, _⟩
      · subst hr
        have := congrArg (fun v => match v with | Value.slice _ _ c => c | _ => 0) e
        simp only at this
        rw [this]
        exact ⟨Nat.le_refl _, Nat.zero_le _⟩
      · have := congrArg (fun v => match v with | Value.slice _ _ c => c | _ => 0) e
        simp only at this
        rw [this]
        exact ⟨h4, h5⟩
    refine (delete_same b rows.length c i w hj hcap.1 (by have := hcap.2; unfold maxLen at this; omega)).mono ?_
    rintro e w' ⟨rfl, rfl⟩
    refine ⟨_, rfl, ?_, fun _ _ _ => rfl, Nat.le_refl _, ⟨rfl, rfl⟩, fun x hx => .inl hx⟩
    rw [List.take_append_drop]
    exact hV
  · rcases hV.2 with ⟨_, hr⟩ | ⟨x, cap, cur, ty, rfl, h1, h2, h3, h4, h5, h6, h7, h8⟩
    · rw [hr] at hj
      simp at hj
      omega
    have hcl : cur.toList.length = cap * 2 := by simpa using h6
    refine (delete_run x rows.length cap i j cur ty w h3 h6 (by omega) hj h4 (by unfold maxLen at h5; omega) (fun q u hq hu => ?_)).mono ?_
    · obtain ⟨r, d, hr, hd⟩ := row_two (r := []) hV.1 hq
      obtain ⟨u', hu', hdr⟩ := h7 _ _ _ _ hr hd
      rw [show q / 2 * 2 + q % 2 = q by omega, hu] at hu'
      cases hu'
      exact hdr.one
    · rintro e w' ⟨rfl, rfl⟩
      have hd3 : w.drew.heap[x]? = some (.cells cur ty (0, 0)) := h3
      have hs1 := setRow_heap w.drew x cur (delCells cur.toList rows.length i j).toArray ty _ hd3
      have hs2 := setRow_heap _ x _ (clrCells (delCells cur.toList rows.length i j) (i + (rows.length - j)) (j - i)).toArray ty _ hs1
      have hdl := del_len hcl hij hj h4
      have hoth : ∀ y, y ≠ x → (((w.drew.setRow x (delCells cur.toList rows.length i j).toArray).setRow x (clrCells (delCells cur.toList rows.length i j) (i + (rows.length - j)) (j - i)).toArray).heap[y]? = w.heap[y]?) := fun y hy => by
        rw [setRow_other _ x y _ hy, setRow_other _ x y _ hy]
        rfl
      have hlen : (rows.take i ++ rows.drop j).length = rows.length - (j - i) := by rw [List.length_append, List.length_take, List.length_drop]; omega
      refine ⟨_, rfl, ⟨hwid, .inr ⟨x, cap, _, ty, by rw [hlen], h1, h2, hs2, by rw [hlen]; omega, h5, ?_, fun q r jj d hq hjj => ?_, h8⟩⟩, fun y _ hy => hoth y (fun e => hy (by simp [Value.ownBlock, e])), by rw [setRow_size, setRow_size]; exact Nat.le_refl _, ⟨rfl, rfl⟩, fun y hy => .inl hy⟩
      · rw [List.size_toArray, clr_len hdl (by omega)]
      · have hql := (List.getElem?_eq_some_iff.1 hq).1
        have hjl : jj < 2 := by have := (List.getElem?_eq_some_iff.1 hjj).1; rw [hwid r (List.mem_of_getElem? hq)] at this; exact this
        rw [hlen] at hql
        rw [List.getElem?_toArray, clr_get hdl (by omega) (by omega), del_get hcl hij hj h4 (by omega)]
        by_cases hqi : q < i
        · rw [List.getElem?_append_left (by rw [List.length_take]; omega), List.getElem?_take, if_pos hqi] at hq
          obtain ⟨u, hu, hd⟩ := h7 q r jj d hq hjj
          rw [if_pos (by omega)]
          exact ⟨u, by simpa using hu, hd.mono (fun _ h => h) fun y hy => hoth y (fun e => h8 (e ▸ hy))⟩
        · rw [List.getElem?_append_right (by rw [List.length_take]; omega), List.length_take, Nat.min_eq_left (by omega), List.getElem?_drop] at hq
          obtain ⟨u, hu, hd⟩ := h7 _ r jj d hq hjj
          rw [if_neg (by omega), show j * 2 + (q * 2 + jj - i * 2) = (j + (q - i)) * 2 + jj by omega]
          exact ⟨u, by simpa using hu, hd.mono (fun _ h => h) fun y hy => hoth y (fun e => h8 (e ▸ hy))⟩
end Go.Proofs.YtlihbielphcgbaaGreatDoor.Sx
