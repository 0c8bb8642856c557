/-
  slices.SortFunc at pages: in place, of a slice of the call's own; of data that is sorted.
-/
import Derived.Test.YtlihbielphcgbaaGreatDoorBf
import Derived.Test.YtlihbielphcgbaaGreatDoorBg
import Derived.Test.YtlihbielphcgbaaGreatDoorSh
import Derived.Shelf.SlSortCmp.NoneTotal
import Derived.WalkKit
import Derived.Lib.Walk
namespace Go.Proofs.YtlihbielphcgbaaGreatDoor.Sx
open Go Go.Shelf Go.RowKit Go.Lib Go.Sort
set_option linter.unusedVariables false
set_option linter.unusedSimpArgs false
set_option maxRecDepth 1000000

/-- a page's leaves -/
structure PgD where
  va : Int
  pa : Int
  lv : Int
  r : Bool
  w : Bool
  x : Bool
  u : Bool
  st : Bool
  deriving Inhabited, DecidableEq
def PgD.ds (p : PgD) : List D := [.i .u64 p.va, .i .u64 p.pa, .i .i64 p.lv, .b p.r, .b p.w, .b p.x, .b p.u, .b p.st]
def PgD.enc (p : PgD) : List Value := [.int .u64 p.va, .int .u64 p.pa, .int .i64 p.lv, .bool p.r, .bool p.w, .bool p.x, .bool p.u, .bool p.st]

set_option maxHeartbeats 4000000 in
theorem nanU (x : Int) (W : World) : Calls Tryz.prog 121 #[.int .u64 x] W fun e w' => e = .returned (.bool false) ∧ w' = W := by
  go_enter Tryz.func121, Tryz.ntmps121
  go_wp2
  go_ret
  exact ⟨by simp, rfl⟩
set_option maxHeartbeats 4000000 in
theorem cmpU (x y : Int) (W : World) : Calls Tryz.prog 100 #[.int .u64 x, .int .u64 y] W fun e w' => e = .returned (.int .i64 (Lib.compareInt x y)) ∧ w' = W := by
  go_enter Tryz.func100, Tryz.ntmps100
  go_wp2_with (go_at_call 121; refine (nanU _ _).mono ?_; rintro e w' ⟨rfl, hw⟩; rw [hw])
  all_goals (go_ret; refine ⟨?_, rfl⟩; unfold Lib.compareInt; (repeat' split) <;> first | rfl | (exfalso; omega))
def cfU (p q : PgD) : Int := Lib.compareInt p.va q.va
set_option maxHeartbeats 8000000 in
theorem withC' (p q : PgD) (W : World) : Calls Tryz.prog 99 #[.agg #[.int .u64 p.va, .int .u64 p.pa, .int .i64 p.lv, .bool p.r, .bool p.w, .bool p.x, .bool p.u, .bool p.st], .agg #[.int .u64 q.va, .int .u64 q.pa, .int .i64 q.lv, .bool q.r, .bool q.w, .bool q.x, .bool q.u, .bool q.st]] W fun e w' => e = .returned (.int .i64 (cfU p q)) ∧ ∃ m os', w' = grow (W.drewN m) os' := by
  obtain ⟨pv, pp, pl, pr, pw, px, pu, ps⟩ := p
  obtain ⟨qv, qp, ql, qr, qw, qx, qu, qs⟩ := q
  have hcon := fun W' => cmpU pv qv W'
  unfold cfU
  dsimp only
  generalize Lib.compareInt pv qv = r at hcon ⊢
  go_enter Tryz.func99, Tryz.ntmps99
  go_wp2_with (go_at_call 100; refine (hcon _).mono ?_; rintro e w' ⟨rfl, rfl⟩)
  go_ret
  exact ⟨rfl, 0, _, by rw [alloc_eq_grow, alloc_eq_grow, grow_grow]; rfl⟩
theorem withC (p q : PgD) (W : World) : Calls Tryz.prog 99 (#[.agg p.enc.toArray, .agg q.enc.toArray] ++ #[]) W fun e w' => e = .returned (.int .i64 (cfU p q)) ∧ ∃ m os', w' = grow (W.drewN m) os' := withC' p q W
theorem ltU (p q : PgD) : ltOf cfU p q = decide (p.va < q.va) := by
  unfold ltOf cfU Lib.compareInt
  by_cases h1 : p.va < q.va
  · simp [h1]
  · by_cases h2 : q.va < p.va <;> simp [h1, h2]
theorem swoU : SWO (ltOf cfU) where
  irrefl x := by rw [ltU]; simp
  trans x y z h1 h2 := by rw [ltU] at *; simp at *; omega
  ntrans x y z h1 h2 := by rw [ltU] at *; simp at *; omega
theorem encLt (p : PgD) {j : Nat} (hj : j < 8) : ∃ d, p.ds[j]? = some d ∧ (∀ (I : Imm) (w : World) (u : Value), DR I w d u → u = p.enc[j]!) ∧ ∀ (I : Imm) (w : World), DR I w d p.enc[j]! := by
  match j, hj with
  | 0, _ => exact ⟨_, rfl, fun I w u h => by cases h; rfl, fun I w => .i _ _⟩
  | 1, _ => exact ⟨_, rfl, fun I w u h => by cases h; rfl, fun I w => .i _ _⟩
  | 2, _ => exact ⟨_, rfl, fun I w u h => by cases h; rfl, fun I w => .i _ _⟩
  | 3, _ => exact ⟨_, rfl, fun I w u h => by cases h; rfl, fun I w => .b _⟩
  | 4, _ => exact ⟨_, rfl, fun I w u h => by cases h; rfl, fun I w => .b _⟩
  | 5, _ => exact ⟨_, rfl, fun I w u h => by cases h; rfl, fun I w => .b _⟩
  | 6, _ => exact ⟨_, rfl, fun I w u h => by cases h; rfl, fun I w => .b _⟩
  | 7, _ => exact ⟨_, rfl, fun I w u h => by cases h; rfl, fun I w => .b _⟩
/-- the order that the sort lays -/
def sortA (l : List PgD) : Array PgD := pdq (ltOf cfU) l.toArray 0 l.toArray.size (Lib.bitLen l.toArray.size) true true
def sortP (l : List PgD) : List PgD := (sortA l).toList
theorem sortA_ok (l : List PgD) : PermIn 0 l.length l.toArray (sortA l) ∧ SortedIn (ltOf cfU) 0 l.length (sortA l) := by
  have h := pdq_sorts (ltOf cfU) swoU l.toArray 0 l.toArray.size (Lib.bitLen l.toArray.size) true true (Nat.zero_le _) (Nat.le_refl _) (Or.inl rfl)
  exact h
theorem sortA_size (l : List PgD) : (sortA l).size = l.length := by simpa using (sortA_ok l).1.1
theorem sortP_len (l : List PgD) : (sortP l).length = l.length := by simpa [sortP] using sortA_size l
theorem sortP_perm (l : List PgD) : (sortP l).Perm l := by
  have h := (sortA_ok l).1.2.2
  have hs := sortA_size l
  rw [show (sortA l).extract 0 l.length = sortA l by rw [← hs]; simp] at h
  simpa [sortP] using h
theorem sortP_sorted (l : List PgD) (i j : Nat) (hij : i < j) (hj : j < l.length) : ((sortA l)[i]!).va ≤ ((sortA l)[j]!).va := by
  have h := (sortA_ok l).2 i j (Nat.zero_le _) hij hj
  rw [ltU] at h
  simpa using h
/-- the row's cells are the pages' leaves -/
theorem holdsU {l : List PgD} {I : Imm} {w : World} {x ty : Nat} {cur : Array Value} (hx : w.heap[x]? = some (.cells cur ty (0, 0)))
    (h : ∀ (i : Nat) (r : List D) (j : Nat) (d : D), (l.map PgD.ds)[i]? = some r → r[j]? = some d → ∃ u, cur[i * 8 + j]? = some u ∧ DR I w d u) : HoldsK PgD.enc 8 w x 0 l.toArray := by
  intro j hj
  rw [size_flatK] at hj
  have hj' : j < l.length * 8 := by simpa using hj
  have h1 : j / 8 < l.length := by omega
  have h2 : j % 8 < 8 := Nat.mod_lt _ (by omega)
  obtain ⟨d, hd, hu, _⟩ := encLt l[j / 8] h2
  obtain ⟨u, hc, hr⟩ := h (j / 8) _ (j % 8) d (by rw [List.getElem?_map, List.getElem?_eq_getElem h1]; rfl) hd
  rw [show j / 8 * 8 + j % 8 = j by omega] at hc
  rw [get_flatK _ _ _ _ hj]
  constructor
  · simp only [World.cell?, hx, Nat.zero_add, Option.isSome_none, Bool.false_eq_true, if_false, hc, id]
    rw [hu I w u hr]
    simp [h1]
  · simp [World.frozen?, hx]
theorem con_srt {P : Program} {G : Glo} {f : FuncId} {az rs : List DV} (hf : f < eatOff) (h : ConS P G f az rs) : ConX P G (srtOff + f) az rs := by
  refine ⟨fun h' => absurd h' (Nat.not_lt.2 (Nat.le_trans (by decide) (Nat.le_add_right srtOff f))), fun h' => absurd h'.2 (Nat.not_lt.2 (Nat.le_trans (by decide) (Nat.le_add_right srtOff f))), fun _ => ⟨fun h' => absurd h' (Nat.not_lt.2 (Nat.le_trans (by decide) (Nat.le_add_right srtOff f))), fun _ h' => absurd h' (Nat.not_lt.2 (Nat.le_trans (by decide) (Nat.le_add_right srtOff f))), fun _ => ⟨fun h' => absurd h' (Nat.not_lt.2 (Nat.le_add_right srtOff f)), fun _ => ?_⟩⟩⟩
  refine ⟨fun _ => ?_, fun h' => absurd h' (Nat.not_le.2 (Nat.lt_of_lt_of_le (Nat.add_lt_add_left hf srtOff) (by decide)))⟩
  rw [Nat.add_sub_cancel_left]
  exact h
/-- the sort of a row that is no nil -/
theorem sort_run (l : List PgD) (hl : l.length < 4611686018427387904) (x cap : Nat) (w : World) (hx : x < w.heap.size) (hH : HoldsK PgD.enc 8 w x 0 l.toArray) :
    Calls Tryz.prog 98 #[.slice (some ⟨x, 0, none⟩) l.length cap, .func (.func 99) #[] #[]] w fun e w' => e = .returned (.tuple #[]) ∧ ∃ n os, w' = sortWorldK PgD.enc 8 w x 0 n (sortA l) os := by
  have eg : ∀ args w, (callFunc 99 args).run Tryz.prog w = .ok (.enter 99 args) w := enters_of Tryz.func99 (by kernel_rfl) rfl
  exact AnyQ.slices_SortFunc_eq Tryz.sortPg 8 Tryz.isAgg68 Tryz.sizeOf68 PgD.enc (fun _ => rfl) (fun p v hv => by simp [PgD.enc] at hv; rcases hv with rfl | rfl | rfl | rfl | rfl | rfl | rfl | rfl <;> rfl) cfU swoU 99 #[] x 0 cap l.toArray w eg (fun _ _ _ _ p q => withC p q _) hH hx (by simpa using hl)
theorem sort_heap {l : List PgD} {x n : Nat} {w : World} {os : Array Obj} : Gr w (sortWorldK PgD.enc 8 w x 0 n (sortA l) os) (some x) := by
  refine ⟨rfl, rfl, ?_, fun k hk hne => ?_⟩
  · simp [sortWorldK, grow, putRowK, putRow, mapBlock, ahead]
  · have hne' : ¬ x = k := fun e => hne (by rw [e])
    rw [show (sortWorldK PgD.enc 8 w x 0 n (sortA l) os).heap[k]? = (w.heap.modify x (onCells (putCells id 0 (flatK PgD.enc 8 (sortA l)))))[k]? from Sort.heap_grow_old _ os (by simpa [putRowK, putRow, mapBlock, ahead] using hk), Array.getElem?_modify, if_neg hne']
theorem sort_blk {l : List PgD} {x n ty : Nat} {w : World} {os : Array Obj} {cur : Array Value} (hx : w.heap[x]? = some (.cells cur ty (0, 0))) :
    (sortWorldK PgD.enc 8 w x 0 n (sortA l) os).heap[x]? = some (.cells (putCells id 0 (flatK PgD.enc 8 (sortA l)) cur) ty (0, 0)) := by
  have hk : x < w.heap.size := (Array.getElem?_eq_some_iff.1 hx).1
  rw [show (sortWorldK PgD.enc 8 w x 0 n (sortA l) os).heap[x]? = (w.heap.modify x (onCells (putCells id 0 (flatK PgD.enc 8 (sortA l)))))[x]? from Sort.heap_grow_old _ os (by simpa [putRowK, putRow, mapBlock, ahead] using hk), Array.getElem?_modify, if_pos rfl, hx]
  rfl
theorem sort_S (l : List PgD) (hl : l.length < 4611686018427387904) : Cn gAll (srtOff + 98) [(false, [.sl 8 (l.map PgD.ds)]), (false, [.f 99])] [(false, [.sl 8 ((sortP l).map PgD.ds)])] := by
  refine con_srt (by decide) ⟨8, l.map PgD.ds, .f 99, (sortP l).map PgD.ds, rfl, rfl, ?_⟩
  intro B I w v u hG hI hB hV hu
  have hu := hu.f_inv
  subst hu
  have hrows : ∀ r ∈ (sortP l).map PgD.ds, r.length = 8 := fun r hr => by
    obtain ⟨p, _, rfl⟩ := List.mem_map.1 hr
    rfl
  rcases hV.2 with ⟨rfl, hnil⟩ | ⟨x, cap, cur, ty, rfl, h1, h2, h3, h4, h5, h6, h7, h8⟩
  · have hl0 : l = [] := by simpa using hnil
    subst hl0
    refine (AnyF.slices_SortFunc_none { Tryz.sortPg with } none 0 _ w).mono ?_
    rintro e w' ⟨rfl, rfl⟩
    have h0 : sortP [] = [] := List.length_eq_zero_iff.1 (sortP_len [])
    exact ⟨rfl, ⟨hrows, .inl ⟨rfl, by rw [h0]; rfl⟩⟩, rfl, rfl, Nat.le_refl _, fun _ _ _ => rfl⟩
  · have hx : x < w.heap.size := (Array.getElem?_eq_some_iff.1 h3).1
    have hH := holdsU (l := l) h3 h7
    rw [List.length_map] at h4 ⊢
    refine (sort_run l hl x cap w hx hH).mono ?_
    rintro e w' ⟨rfl, n, os, rfl⟩
    refine ⟨rfl, ⟨hrows, .inr ⟨x, cap, _, ty, by rw [List.length_map, sortP_len], h1, h2, sort_blk h3, by rw [List.length_map, sortP_len]; exact h4, h5, by simp [putCells, h6], fun i r j d hr hd => ?_, h8⟩⟩, sort_heap⟩
    rw [List.getElem?_map] at hr
    obtain ⟨p, hp, rfl⟩ := Option.map_eq_some_iff.1 hr
    have hi : i < l.length := by rw [← sortP_len l]; exact (List.getElem?_eq_some_iff.1 hp).1
    have hj : j < 8 := (List.getElem?_eq_some_iff.1 hd).1
    obtain ⟨d', hd', _, hdr⟩ := encLt p hj
    rw [hd'] at hd
    cases hd
    refine ⟨p.enc[j]!, ?_, hdr _ _⟩
    have ht : i * 8 + j < l.length * 8 := by omega
    have htc : i * 8 + j < cur.size := by rw [h6]; exact Nat.lt_of_lt_of_le ht (Nat.mul_le_mul_right _ h4)
    have hfl : i * 8 + j < (sortA l).size * 8 := by rw [sortA_size]; exact ht
    unfold putCells
    rw [Array.getElem?_mapIdx, Array.getElem?_eq_getElem htc]
    have hc : 0 ≤ i * 8 + j ∧ i * 8 + j < 0 + (flatK PgD.enc 8 (sortA l)).size := by rw [size_flatK]; omega
    simp only [Option.map_some, if_pos hc, id, Nat.sub_zero]
    rw [get_flatK _ _ _ _ hfl, show (i * 8 + j) / 8 = i by omega, show (i * 8 + j) % 8 = j by omega]
    have : (sortA l)[i]! = p := by
      have hp' : (sortA l)[i]? = some p := by simpa [sortP] using hp
      rw [getElem!_def, hp']
    rw [this]
end Go.Proofs.YtlihbielphcgbaaGreatDoor.Sx
