/-
  flat.need: how many tables pages need: a map as a set.
-/
import Derived.Test.YtlihbielphcgbaaGreatDoorFsm
import Derived.Maps.OwnSet
import Derived.Maps.Views
import Derived.DeepKeys4
import Derived.StillTailTactics
namespace Go.Proofs.YtlihbielphcgbaaGreatDoor.Sx
open Go Go.Shelf Go.RowKit Go.Lib Go.Maps
set_option linter.unusedVariables false
set_option linter.unusedSimpArgs false
set_option maxRecDepth 1000000

theorem nLaid : laidOutB Tryz.prog = true := by kernel_rfl
theorem nLaw : WideMaps.KeyLaw Tryz.prog 150 := deep_law_laid nLaid (m := 2) (by omega) (of_decide_eq_true (by kernel_rfl)) (by kernel_rfl) (by kernel_rfl)
theorem nKeyed : Keyed Tryz.prog 150 := Keyed.of_law nLaw

/-- an address's index at a level -/
def ixN (a k : Nat) : Nat := a / 2 ^ (12 + 9 * k) % 512
/-- the keys that a page lays -/
def keysP (top : Int) (p : PgD) : List (Int × Int) := (if p.lv < 2 ∧ top = 2 then [((ixN p.va.toNat 2 : Int), -1)] else []) ++ if p.lv = 0 then [((ixN p.va.toNat 2 : Int), (ixN p.va.toNat 1 : Int))] else []
def keyV (q : Int × Int) : Value := .agg #[.int .i64 q.1, .int .i64 q.2]
noncomputable def keyL (q : Int × Int) : Lit := (keyOf Tryz.prog 150 (keyV q)).getD (.bool true)
def wfI (a : Int) : Prop := -9223372036854775808 ≤ a ∧ a < 9223372036854775808
theorem keyL_ok {q : Int × Int} (h1 : wfI q.1) (h2 : wfI q.2) : keyOf Tryz.prog 150 (keyV q) = some (keyL q) := by
  have : (keyOf Tryz.prog 150 (keyV q)).isSome = true := by
    obtain ⟨n, hn⟩ : ∃ n, Tryz.prog.types.size = n + 1 := ⟨Tryz.prog.types.size - 1, (Nat.succ_pred_eq_of_pos (of_decide_eq_true (by kernel_rfl))).symm⟩
    have h1 := Tryz.underlying150
    have h2 : Tryz.prog.underlying 3 = some (.int .i64) := Tryz.underlying3
    have h3 : Tryz.prog.keyType 150 = true := by kernel_rfl
    have h4 : Tryz.prog.cellsOf 150 = 2 := by kernel_rfl
    have h5 : Tryz.prog.cellsOf 3 = 1 := by kernel_rfl
    have w1 : (Lit.int .i64 q.1).wf = true := by
      have e1 : IntKind.i64.min = -9223372036854775808 := rfl
      have e2 : IntKind.i64.max = 9223372036854775807 := rfl
      unfold wfI at *
      simp only [Lit.wf, e1, e2, Bool.and_eq_true, decide_eq_true_eq]
      omega
    have w2 : (Lit.int .i64 q.2).wf = true := by
      have e1 : IntKind.i64.min = -9223372036854775808 := rfl
      have e2 : IntKind.i64.max = 9223372036854775807 := rfl
      unfold wfI at *
      simp only [Lit.wf, e1, e2, Bool.and_eq_true, decide_eq_true_eq]
      omega
    unfold keyOf
    rw [h1]
    simp only [hn, Program.keyLits, h1, h2, h4, h5, keyV, Value.cells, Value.formed, h3]
    have hr : List.range 2 = [0, 1] := rfl
    simp [hr, w1, w2]
  obtain ⟨x, hx⟩ := Option.isSome_iff_exists.1 this
  rw [keyL, hx]; rfl
theorem ixN_wf (a k : Nat) : wfI (ixN a k : Int) := by
  unfold wfI ixN
  have : a / 2 ^ (12 + 9 * k) % 512 < 512 := Nat.mod_lt _ (by decide)
  omega
noncomputable def Sk (top : Int) (l : List PgD) (k : Nat) : DataW Unit := setOf (.lit (.bool true)) (((l.take k).flatMap (keysP top)).map keyL)
theorem Sk_succ {top : Int} {l : List PgD} {k : Nat} {p : PgD} (h : l[k]? = some p) : Sk top l (k + 1) = ((keysP top p).map keyL).foldl (fun m x => m.put x (.lit (.bool true))) (Sk top l k) := by
  unfold Sk setOf
  rw [List.take_add_one, h]
  simp [List.flatMap_append, List.foldl_append]
/-- a page's number -/
def vaOk (p : PgD) : Prop := 0 ≤ p.va ∧ p.va < 18446744073709551616
theorem page_kept {wr w1 : World} {m ty q : Nat} {cs : Array Value} {v : Value} (hm : m < wr.heap.size) (hg : (wr.alloc (.cells cs ty)).grownBy w1 (some m)) (hq : cs[q]? = some v) : w1.cell? ⟨wr.heap.size, q, none⟩ = some v := by
  have h1 : w1.heap[wr.heap.size]? = (wr.alloc (.cells cs ty)).heap[wr.heap.size]? := hg.block wr.heap.size (by simp) (by intro e; cases e; omega)
  rw [heap_alloc_new] at h1
  rw [cell_of_row w1 _ _ cs ty (0, 0) h1]
  exact hq
theorem grown_drew {w w' : World} {r : Option Nat} (h : w.drew.grownBy w' r) : w.grownBy w' r := ⟨h.os, h.tape, h.output, h.size, h.block⟩
theorem below1 {w wr W1 : World} {o : Obj} (hnx : Below w.heap.size w wr) (hlt : w.heap.size < wr.heap.size) (hg : (wr.alloc o).grownBy W1 (some w.heap.size)) : Below w.heap.size w W1 :=
  (hnx.alloc (Nat.le_of_lt hlt) _).grown hg (Nat.le_trans (Nat.le_of_lt hlt) (by simp)) (fun j hj => by cases hj; exact Nat.le_refl _)
set_option maxHeartbeats 16000000 in
theorem need_walk (b off cap : Nat) (l : List PgD) (top : Int) (w : World) (hl : l.length < 1000000) (hv : ∀ p ∈ l, vaOk p) (hb : b < w.heap.size)
    (hc : ∀ j p, l[j]? = some p → ∀ q, q < 8 → w.cell? ⟨b, off + j * 8 + q, none⟩ = some p.enc[q]!) :
    Calls Tryz.prog 95 #[.slice (some ⟨b, off, none⟩) l.length cap, .int .i64 top] w fun e w' => e = .returned (.int .i64 (Maps.size (Sk top l l.length))) ∧ (∀ x, x < w.heap.size → w'.heap[x]? = w.heap[x]?) ∧ w.heap.size ≤ w'.heap.size ∧ w'.os = w.os ∧ w'.output = w.output := by
  have hmm := @run_makeMap Tryz.prog
  go_enter Tryz.func95, Tryz.ntmps95
  go_wp2
  go_loopw [11] (fun i wr => ∃ k : Nat, k ≤ l.length ∧ i = .int .i64 k ∧ wr.ownsMap Tryz.prog 150 (plainElem Tryz.prog 4) w.heap.size (2 * k) (Sk top l k) ∧ Below w.heap.size w wr)
    (fun i _ => l.length - (intOf i).toNat)
  case atStart => exact ⟨0, Nat.zero_le _, rfl, by simpa [Sk, setOf] using World.ownsMap_made _ _ _ _, (Below.refl _ _).alloc (Nat.le_refl _) _⟩
  case round =>
    obtain ⟨k, hk, rfl, hown, hnx⟩ := hrel
    by_cases hkl : k < l.length
    · obtain ⟨p, hp⟩ : ∃ p, l[k]? = some p := ⟨_, List.getElem?_eq_getElem hkl⟩
      have hpm := List.mem_of_getElem? hp
      have hcx : ∀ q, q < 8 → wr.cell? ⟨b, off + k * 8 + q, none⟩ = some p.enc[q]! := fun q hq => (hnx.cell (by exact hb)).trans (hc k p hp q hq)
      have hSk := Sk_succ (top := top) hp
      have hvp := hv p hpm
      obtain ⟨pv, pp, pl, pr, pw, px, pu, ps⟩ := p
      obtain ⟨a, rfl⟩ : ∃ a : Nat, pv = a := ⟨pv.toNat, by have := hvp.1; simp only at this; omega⟩
      have ha : a < 18446744073709551616 := by have := hvp.2; simp only at this; omega
      have c0 : wr.cell? ⟨b, off + k * 8, none⟩ = some (.int .u64 a) := hcx 0 (by decide)
      have c1 : wr.cell? ⟨b, off + k * 8 + 1, none⟩ = some (.int .u64 pp) := hcx 1 (by decide)
      have c2 : wr.cell? ⟨b, off + k * 8 + 2, none⟩ = some (.int .i64 pl) := hcx 2 (by decide)
      have c3 : wr.cell? ⟨b, off + k * 8 + 3, none⟩ = some (.bool pr) := hcx 3 (by decide)
      have c4 : wr.cell? ⟨b, off + k * 8 + 4, none⟩ = some (.bool pw) := hcx 4 (by decide)
      have c5 : wr.cell? ⟨b, off + k * 8 + 5, none⟩ = some (.bool px) := hcx 5 (by decide)
      have c6 : wr.cell? ⟨b, off + k * 8 + 6, none⟩ = some (.bool pu) := hcx 6 (by decide)
      have c7 : wr.cell? ⟨b, off + k * 8 + 7, none⟩ = some (.bool ps) := hcx 7 (by decide)
      have hkl' : (k : Int) < (l.length : Int) := by omega
      clear hcx hc
      obtain ⟨x1, hx1⟩ : ∃ x1 : Int, x1 = (ixN a 1 : Int) := ⟨_, rfl⟩
      obtain ⟨x2, hx2⟩ : ∃ x2 : Int, x2 = (ixN a 2 : Int) := ⟨_, rfl⟩
      have hi1 : ∀ W, Calls Tryz.prog 103 #[.int .u64 a, .int .i64 1] W fun e w' => e = .returned (.int .i64 x1) ∧ w' = W := fun W => hx1 ▸ idxC a 1 W ha (by decide)
      have hi2 : ∀ W, Calls Tryz.prog 103 #[.int .u64 a, .int .i64 2] W fun e w' => e = .returned (.int .i64 x2) ∧ w' = W := fun W => hx2 ▸ idxC a 2 W ha (by decide)
      have hf1 : wfI x1 := hx1 ▸ ixN_wf a 1
      have hf2 : wfI x2 := hx2 ▸ ixN_wf a 2
      have hfm : wfI (-1) := by unfold wfI; decide
      unfold keysP at hSk
      simp only [Int.toNat_natCast, ← hx1, ← hx2] at hSk
      clear hx1 hx2
      have hlt : w.heap.size < wr.heap.size := hown.lt
      go_wp2_with (first
        | (go_at_call 103; (first | refine (hi2 _).mono ?_ | refine (hi1 _).mono ?_); rintro e w' ⟨rfl, hw⟩; rw [hw])
        | (at_mapUpdate; refine wpList_mapUpdate_own _ rfl _ _ _ 149 rfl 150 4 nKeyed Tryz.underlying149 (plainElem (H := Unit) Tryz.prog 4) w.heap.size (2 * k + 1) _ rfl (hown1) (by unfold maxLen; omega) _ _ _ rfl rfl (keyL_ok (q := (_, _)) hf2 (by first | exact hf1 | exact hfm)) _ [] (plainElem_bool Tryz.underlying4 true) ?_; intro w2 hown2 hgrow2)
        | (at_mapUpdate; refine wpList_mapUpdate_own _ rfl _ _ _ 149 rfl 150 4 nKeyed Tryz.underlying149 (plainElem (H := Unit) Tryz.prog 4) w.heap.size (2 * k + 1) _ rfl (hown1.drew) (by unfold maxLen; omega) _ _ _ rfl rfl (keyL_ok (q := (_, _)) hf2 (by first | exact hf1 | exact hfm)) _ [] (plainElem_bool Tryz.underlying4 true) ?_; intro w2 hown2 hgrow2)
        | (at_mapUpdate; refine wpList_mapUpdate_own _ rfl _ _ _ 149 rfl 150 4 nKeyed Tryz.underlying149 (plainElem (H := Unit) Tryz.prog 4) w.heap.size (2 * k) _ rfl (hown.alloc _) (by unfold maxLen; omega) _ _ _ rfl rfl (keyL_ok (q := (_, _)) hf2 (by first | exact hf1 | exact hfm)) _ [] (plainElem_bool Tryz.underlying4 true) ?_; intro w1 hown1 hgrow1; have p2 := page_kept (q := 2) hlt hgrow1 rfl; have p0 := page_kept (q := 0) hlt hgrow1 rfl)
        | (at_mapUpdate; refine wpList_mapUpdate_own _ rfl _ _ _ 149 rfl 150 4 nKeyed Tryz.underlying149 (plainElem (H := Unit) Tryz.prog 4) w.heap.size (2 * k) _ rfl ((hown.alloc _).drew) (by unfold maxLen; omega) _ _ _ rfl rfl (keyL_ok (q := (_, _)) hf2 (by first | exact hf1 | exact hfm)) _ [] (plainElem_bool Tryz.underlying4 true) ?_; intro w1 hown1 hgrow1; have p2 := page_kept (q := 2) hlt hgrow1 rfl; have p0 := page_kept (q := 0) hlt hgrow1 rfl)
        | go_in)
      · go_still_tail 8, (by kernel_rfl)
        still_call (hi2 _)
        repeat still_step
        still_call (hi1 _)
        repeat still_step
        refine wpStill_nil ?_
        change wpList _ _ _ _ _ w1.drew
        refine wpList_mapUpdate_own _ rfl _ _ _ 149 rfl 150 4 nKeyed Tryz.underlying149 (plainElem (H := Unit) Tryz.prog 4) w.heap.size (2 * k + 1) _ rfl (hown1.drew) (by unfold maxLen; omega) _ _ _ rfl rfl (keyL_ok (q := (_, _)) hf2 hf1) _ [] (plainElem_bool Tryz.underlying4 true) ?_
        intro w2 hown2 hgrow2
        go_wp2
        go_roundw
        case rel =>
          refine ⟨k + 1, by omega, by go_num, ?_, (below1 hnx hlt hgrow1).drew.grown hgrow2 (Nat.le_trans (Nat.le_of_lt hlt) (Nat.le_trans (by simp) hgrow1.size)) (fun j hj => by cases hj; exact Nat.le_refl _)⟩
          rw [hSk, if_pos ⟨by assumption, (beq_iff_eq.1 (by assumption) : top = 2)⟩, if_pos (beq_iff_eq.1 (by assumption))]
          exact hown2
        case measure => simp [intOf]; omega
      · go_roundw
        case rel =>
          refine ⟨k + 1, by omega, by go_num, ?_, below1 hnx hlt hgrow1⟩
          rw [hSk, if_pos ⟨by assumption, (beq_iff_eq.1 (by assumption) : top = 2)⟩, if_neg (by simp_all)]
          exact hown1.mono (by omega)
        case measure => simp [intOf]; omega
      · obtain ⟨W1, hW1⟩ : ∃ W1, W1 = wr.alloc (Obj.cells #[.int .u64 a, .int .u64 pp, .int .i64 pl, .bool pr, .bool pw, .bool px, .bool pu, .bool ps] 68) := ⟨_, rfl⟩
        have p0 : W1.cell? ⟨wr.heap.size, 0, none⟩ = some (.int .u64 a) := by rw [hW1, cell_of_row _ _ _ _ _ (0, 0) (heap_alloc_new wr _)]; rfl
        have hownA : W1.ownsMap Tryz.prog 150 (plainElem Tryz.prog 4) w.heap.size (2 * k) (Sk top l k) := hW1 ▸ hown.alloc _
        rw [← hW1]
        have hWh : Hid (W1 = wr.alloc (Obj.cells #[.int .u64 a, .int .u64 pp, .int .i64 pl, .bool pr, .bool pw, .bool px, .bool pu, .bool ps] 68)) := hW1
        clear hW1
        go_still_tail 8, (by kernel_rfl)
        still_call (hi2 _)
        repeat still_step
        still_call (hi1 _)
        repeat still_step
        refine wpStill_nil ?_
        change wpList _ _ _ _ _ W1.drew
        refine wpList_mapUpdate_own _ rfl _ _ _ 149 rfl 150 4 nKeyed Tryz.underlying149 (plainElem (H := Unit) Tryz.prog 4) w.heap.size (2 * k) _ rfl (hownA.drew) (by unfold maxLen; omega) _ _ _ rfl rfl (keyL_ok (q := (_, _)) hf2 hf1) _ [] (plainElem_bool Tryz.underlying4 true) ?_
        intro w2 hown2 hgrow2
        go_wp2
        go_roundw
        case rel =>
          refine ⟨k + 1, by omega, by go_num, ?_, below1 hnx hlt (hWh.out ▸ grown_drew hgrow2)⟩
          rw [hSk, if_neg (by rintro ⟨h1, h2⟩; simp_all), if_pos (beq_iff_eq.1 (by assumption))]
          exact hown2.mono (by omega)
        case measure => simp [intOf]; omega
      · go_roundw
        case rel =>
          refine ⟨k + 1, by omega, by go_num, ?_, hnx.alloc (Nat.le_of_lt hlt) _⟩
          rw [hSk, if_neg (by rintro ⟨h1, h2⟩; simp_all), if_neg (by simp_all)]
          exact (hown.alloc _).mono (by omega)
        case measure => simp [intOf]; omega
      · go_roundw
        case rel =>
          refine ⟨k + 1, by omega, by go_num, ?_, hnx.alloc (Nat.le_of_lt hlt) _⟩
          rw [hSk, if_neg (by rintro ⟨h1, h2⟩; simp_all), if_neg (by simp_all)]
          exact (hown.alloc _).mono (by omega)
        case measure => simp [intOf]; omega
    · have : k = l.length := by omega
      subst this
      have hkl' : ¬ (l.length : Int) < (l.length : Int) := by omega
      go_wp2_with (first
        | (at_len; refine wpList_len_own _ rfl _ 149 rfl 150 4 Tryz.underlying149 _ w.heap.size (2 * l.length) _ rfl hown ?_)
        | go_in)
      go_ret
      exact ⟨rfl, hnx.block, hnx.size, hnx.os, hnx.output⟩
set_option maxHeartbeats 16000000 in
theorem need_none (a : Option Addr) (cap : Nat) (top : Int) (w : World) : Calls Tryz.prog 95 #[.slice a 0 cap, .int .i64 top] w fun e w' => e = .returned (.int .i64 0) ∧ Below w.heap.size w w' := by
  have hmm := @run_makeMap Tryz.prog
  go_enter Tryz.func95, Tryz.ntmps95
  go_wp2
  refine wp_loop_rounds 1 ?_
  rw [rounds_succ]
  go_wp2_with (first
    | (at_len; refine wpList_len_own _ rfl _ 149 rfl 150 4 Tryz.underlying149 (plainElem (H := Unit) Tryz.prog 4) w.heap.size 0 (.map []) rfl (World.ownsMap_made _ _ _ _) ?_)
    | go_in)
  go_ret
  exact ⟨rfl, (Below.refl _ _).alloc (Nat.le_refl _) _⟩

/-- unlike pairs -/
def addP (acc : List (Int × Int)) (x : Int × Int) : List (Int × Int) := if x ∈ acc then acc else acc ++ [x]
def distP (l : List (Int × Int)) : List (Int × Int) := l.foldl addP []
def needN (l : List PgD) (top : Int) : Nat := (distP (l.flatMap (keysP top))).length
theorem keysP_wf {top : Int} {p : PgD} {q : Int × Int} (h : q ∈ keysP top p) : wfI q.1 ∧ wfI q.2 := by
  unfold keysP at h
  rcases List.mem_append.1 h with h | h <;> (split at h <;> simp at h)
  · subst h
    exact ⟨ixN_wf _ _, by unfold wfI; simp⟩
  · subst h
    exact ⟨ixN_wf _ _, ixN_wf _ _⟩
theorem keyL_inj {q q' : Int × Int} (h : wfI q.1 ∧ wfI q.2) (h' : wfI q'.1 ∧ wfI q'.2) (he : keyL q = keyL q') : q = q' := by
  have h1 := keyL_ok h.1 h.2
  have h2 := keyL_ok h'.1 h'.2
  rw [← he] at h2
  have := nKeyed.inj h1 h2
  simp only [keyV, Value.agg.injEq] at this
  have e := congrArg Array.toList this
  simp at e
  exact Prod.ext e.1 e.2
theorem fold_keys : ∀ (xs acc : List (Int × Int)), (∀ q ∈ xs, wfI q.1 ∧ wfI q.2) → (∀ q ∈ acc, wfI q.1 ∧ wfI q.2) → (xs.map keyL).foldl addKey (acc.map keyL) = (xs.foldl addP acc).map keyL
  | [], acc, _, _ => rfl
  | x :: r, acc, hx, ha => by
    have hw := hx x (List.mem_cons_self ..)
    have hk := nKeyed.key (keyL_ok hw.1 hw.2)
    have hany : (acc.map keyL).any (fun y => y.sameKey (keyL x)) = decide (x ∈ acc) := by
      rw [Bool.eq_iff_iff, List.any_eq_true, decide_eq_true_eq]
      constructor
      · rintro ⟨y, hy, hs⟩
        obtain ⟨z, hz, rfl⟩ := List.mem_map.1 hy
        have := (WideAt.sameKey_iff hk).1 hs
        rw [← keyL_inj (ha z hz) hw this]
        exact hz
      · intro h
        exact ⟨keyL x, List.mem_map_of_mem h, (WideAt.sameKey_iff hk).2 rfl⟩
    rw [List.map_cons, List.foldl_cons, List.foldl_cons]
    have hstep : addKey (acc.map keyL) (keyL x) = (addP acc x).map keyL := by
      unfold addKey addP
      rw [hany]
      by_cases h : x ∈ acc
      · simp [h]
      · simp [h]
    rw [hstep]
    refine fold_keys r _ (fun q hq => hx q (List.mem_cons_of_mem _ hq)) fun q hq => ?_
    unfold addP at hq
    split at hq
    · exact ha q hq
    · rcases List.mem_append.1 hq with h | h
      · exact ha q h
      · rw [List.mem_singleton.1 h]; exact hw
theorem size_needN (l : List PgD) (top : Int) : Maps.size (Sk top l l.length) = needN l top := by
  have hwf : ∀ q ∈ l.flatMap (keysP top), wfI q.1 ∧ wfI q.2 := fun q hq => by
    obtain ⟨p, _, h⟩ := List.mem_flatMap.1 hq
    exact keysP_wf h
  unfold Sk needN distP
  rw [List.take_length, size_setOf _ _ (fun x hx => by
    obtain ⟨q, hq, rfl⟩ := List.mem_map.1 hx
    exact nKeyed.key (keyL_ok (hwf q hq).1 (hwf q hq).2)), ← List.map_nil (f := keyL), fold_keys _ [] hwf (fun q h => by cases h), List.length_map]
theorem con_plain {P : Program} {G : Glo} {f : FuncId} {az rs : List DV} (hf : f < eatOff) (h : ConM P G f az rs) : ConX P G f az rs :=
  ⟨fun _ => h, fun h' => absurd h'.1 (Nat.not_le.2 hf), fun h' => absurd h' (Nat.not_le.2 (Nat.lt_trans hf (by decide)))⟩
theorem need_con {s : Nat} {l : List PgD} {top : Int} (hs : s = 8 ∨ l = []) (hl : l.length < 1000000) (hv : ∀ p ∈ l, vaOk p) : Cn gAll 95 [(false, [.sl s (l.map PgD.ds)]), (false, [.i .i64 top])] [(false, [.i .i64 (needN l top : Nat)])] := by
  refine con_plain (by decide) ?_
  intro I w vs hG hI hargs
  cases hargs with
  | cons h1 h2 =>
  cases h2 with
  | cons h2 h3 =>
  cases h3
  obtain ⟨d1, e1, h1⟩ := h1
  obtain ⟨d2, e2, h2⟩ := h2
  cases e1
  cases e2
  rw [h2.i_inv]
  have fin : ∀ {e : Ending} {w' : World}, e = .returned (.int .i64 (needN l top : Nat)) → (∀ x, x < w.heap.size → w'.heap[x]? = w.heap[x]?) ∧ w.heap.size ≤ w'.heap.size ∧ w'.os = w.os ∧ w'.output = w.output → ∃ v I', e = .returned v ∧ (∀ x, I x → I' x) ∧ (∀ x, I' x → I x ∨ w.heap.size ≤ x) ∧ (∀ x, I' x → x < w'.heap.size) ∧
      (∀ x, x < w.heap.size → w'.heap[x]? = w.heap[x]?) ∧ w.heap.size ≤ w'.heap.size ∧ (w'.os = w.os ∧ w'.output = w.output) ∧ RsR I' w' [(false, [.i .i64 (needN l top : Nat)])] v := fun {e w'} he hh =>
    ⟨_, I, he, fun _ h => h, fun x h => .inl h, fun x h => Nat.lt_of_lt_of_le (hI x h) hh.2.1, hh.1, hh.2.1, hh.2.2, ⟨_, rfl, .i _ _⟩⟩
  generalize hrows : l.map PgD.ds = rows at h1
  cases h1 with
  | nil _ p cap hz =>
    have h0 : l = [] := by simpa using hrows
    subst h0
    refine (need_none p cap top w).mono ?_
    rintro e w' ⟨rfl, hb⟩
    exact fin rfl ⟨hb.block, hb.size, hb.os, hb.output⟩
  | sl _ _ blk off cap vs hpos hw hcap hIb hc hd hf =>
    subst hrows
    rcases hs with rfl | rfl
    · rw [List.length_map]
      have hcl : ∀ j p, l[j]? = some p → ∀ q, q < 8 → w.cell? ⟨blk, off + j * 8 + q, none⟩ = some p.enc[q]! := fun j p hp q hq => by
        obtain ⟨d, hdd, hu, _⟩ := encLt p hq
        have hr : (l.map PgD.ds)[j]? = some p.ds := by rw [List.getElem?_map, hp]; rfl
        rw [Nat.add_assoc, hc j _ q d hr hdd]
        rw [hu I w _ (hd j _ q d hr hdd)]
      refine (need_walk blk off cap l top w hl hv (hI _ hIb) hcl).mono ?_
      rintro e w' ⟨rfl, hh⟩
      rw [size_needN]
      exact fin rfl hh
    · refine (need_none _ cap top w).mono ?_
      rintro e w' ⟨rfl, hb⟩
      exact fin rfl ⟨hb.block, hb.size, hb.os, hb.output⟩
end Go.Proofs.YtlihbielphcgbaaGreatDoor.Sx
