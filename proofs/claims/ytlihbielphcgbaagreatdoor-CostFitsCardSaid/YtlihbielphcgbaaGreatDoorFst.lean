/-
  slices.SortFunc at pages that rise: nothing moves. The contract at data.
-/
import Derived.Test.YtlihbielphcgbaaGreatDoorFsr
namespace Go.Proofs.YtlihbielphcgbaaGreatDoor.Sx
open Go Go.Shelf Go.RowKit Go.Lib Go.Sort
set_option linter.unusedVariables false
set_option linter.unusedSimpArgs false
set_option maxRecDepth 1000000

/-- pages that rise -/
def Rise (l : List PgD) : Prop := l.Pairwise fun p q => p.va < q.va
theorem sortP_weak (l : List PgD) : (sortP l).Pairwise fun p q => p.va ≤ q.va := by
  rw [List.pairwise_iff_getElem]
  intro i j hi hj hij
  have hl : j < l.length := by rw [sortP_len] at hj; exact hj
  have h := sortP_sorted l i j hij hl
  have hs : (sortA l).size = l.length := sortA_size l
  have e : ∀ (t : Nat) (ht : t < (sortP l).length), (sortP l)[t] = (sortA l)[t]! := fun t ht => by
    have : t < (sortA l).size := by simpa [sortP] using ht
    simp [sortP, getElem!_pos (sortA l) t this]
  rw [e i hi, e j hj]
  exact h
theorem rise_eq : ∀ {l l' : List PgD}, Rise l → l'.Perm l → (l'.Pairwise fun p q => p.va ≤ q.va) → l' = l
  | [], l', _, hp, _ => by simpa using hp
  | p :: l, l', hr, hp, hw => by
    obtain ⟨h1, h2⟩ := List.pairwise_cons.1 hr
    match l', hp, hw with
    | [], hp, _ => have := hp.length_eq; simp at this
    | q :: l', hp, hw =>
      obtain ⟨h3, h4⟩ := List.pairwise_cons.1 hw
      have hq : q = p := by
        have hm : q ∈ p :: l := hp.subset (List.mem_cons_self ..)
        rcases List.mem_cons.1 hm with h | h
        · exact h
        · have a1 := h1 q h
          have hp' : p ∈ q :: l' := hp.symm.subset (List.mem_cons_self ..)
          rcases List.mem_cons.1 hp' with h' | h'
          · exact h'.symm
          · have := h3 p h'
            omega
      subst hq
      rw [rise_eq h2 (List.Perm.cons_inv hp) h4]
theorem sortP_eq {l l' : List PgD} (h : Rise l') (hp : l'.Perm l) : sortP l = l' := rise_eq h ((sortP_perm l).trans hp.symm) (sortP_weak l)
theorem sortP_rise {l : List PgD} (h : Rise l) : sortP l = l := sortP_eq h (List.Perm.refl _)
theorem put_same {cur : Array Value} {off : Nat} {d : Array Value} (h : ∀ j, j < d.size → cur[off + j]? = d[j]?) : putCells id off d cur = cur := by
  refine Array.ext (by simp [putCells]) fun t h1 h2 => ?_
  simp only [putCells, Array.getElem_mapIdx]
  split
  · rename_i hc
    have := h (t - off) (by omega)
    rw [show off + (t - off) = t by omega, Array.getElem?_eq_getElem h2] at this
    have hlt : t - off < d.size := by omega
    rw [Array.getElem?_eq_getElem hlt] at this
    simp only [id]
    rw [getElem!_pos d _ hlt]
    exact (Option.some.inj this).symm
  · rfl
/-- THE SORT OF DATA THAT RISES. -/
theorem sort_M {s : Nat} {l : List PgD} (hs : s = 8 ∨ l = []) (hl : l.length < 4611686018427387904) (hr : Rise l) : Cn gAll 98 [(false, [.sl s (l.map PgD.ds)]), (false, [.f 99])] [] := by
  refine con_plain (by decide) ?_
  intro I w vs hG hI hargs
  cases hargs with
  | cons h1 h2 =>
  cases h2 with
  | cons h2 h3 =>
  cases h3
  obtain ⟨d1, e1, h1⟩ := h1
  obtain ⟨d2, e2, h2⟩ := h2
  cases e1
  cases e2
  have := h2.f_inv
  subst this
  have fin : ∀ {e : Ending} {w' : World}, e = .returned (.tuple #[]) → (∀ x, x < w.heap.size → w'.heap[x]? = w.heap[x]?) → w.heap.size ≤ w'.heap.size → w'.os = w.os ∧ w'.output = w.output → ∃ v I', e = .returned v ∧ (∀ x, I x → I' x) ∧ (∀ x, I' x → I x ∨ w.heap.size ≤ x) ∧ (∀ x, I' x → x < w'.heap.size) ∧
      (∀ x, x < w.heap.size → w'.heap[x]? = w.heap[x]?) ∧ w.heap.size ≤ w'.heap.size ∧ (w'.os = w.os ∧ w'.output = w.output) ∧ RsR I' w' [] v := fun {e w'} he h1 h2 h3 =>
    ⟨_, I, he, fun _ h => h, fun x h => .inl h, fun x h => Nat.lt_of_lt_of_le (hI x h) h2, h1, h2, h3, [], rfl, .nil⟩
  generalize hrows : l.map PgD.ds = rows at h1
  cases h1 with
  | nil _ p cap hz =>
    refine (AnyF.slices_SortFunc_none Tryz.sortPg p cap _ w).mono ?_
    rintro e w' ⟨rfl, rfl⟩
    exact fin rfl (fun _ _ => rfl) (Nat.le_refl _) ⟨rfl, rfl⟩
  | sl _ _ blk off cap vs hpos hw hcap hIb hc hd hf =>
    subst hrows
    rcases hs with rfl | rfl
    · obtain ⟨cs, ty, hblk⟩ := hf rfl
      rw [List.length_map]
      have hx := hI _ hIb
      have hcell : ∀ j, j < l.length * 8 → cs[off + j]? = some ((flatK PgD.enc 8 l.toArray)[j]!) ∧ w.cell? ⟨blk, off + j, none⟩ = some ((flatK PgD.enc 8 l.toArray)[j]!) := fun j hj => by
        have h1 : j / 8 < l.length := by omega
        have h2 : j % 8 < 8 := Nat.mod_lt _ (by omega)
        obtain ⟨d, hdd, hu, _⟩ := encLt l[j / 8] h2
        have hr : (l.map PgD.ds)[j / 8]? = some l[j / 8].ds := by rw [List.getElem?_map, List.getElem?_eq_getElem h1]; rfl
        have hcj := hc (j / 8) _ (j % 8) d hr hdd
        rw [hu I w _ (hd (j / 8) _ (j % 8) d hr hdd), show j / 8 * 8 + j % 8 = j by omega] at hcj
        have hg : (flatK PgD.enc 8 l.toArray)[j]! = (l[j / 8]).enc[j % 8]! := by
          rw [get_flatK _ _ _ _ (by simpa using hj)]
          simp [h1]
        rw [hg]
        refine ⟨?_, hcj⟩
        rw [cell_of_row w blk _ cs ty (0, 0) hblk] at hcj
        exact hcj
      have hH : HoldsK PgD.enc 8 w blk off l.toArray := fun j hj => by
        rw [size_flatK] at hj
        refine ⟨(hcell j (by simpa using hj)).2, by simp [World.frozen?, hblk]⟩
      have eg : ∀ args w, (callFunc 99 args).run Tryz.prog w = .ok (.enter 99 args) w := enters_of Tryz.func99 (by kernel_rfl) rfl
      refine (AnyQ.slices_SortFunc_eq Tryz.sortPg 8 Tryz.isAgg68 Tryz.sizeOf68 PgD.enc (fun _ => rfl) (fun p v hv => by simp [PgD.enc] at hv; rcases hv with rfl | rfl | rfl | rfl | rfl | rfl | rfl | rfl <;> rfl) cfU swoU 99 #[] blk off cap l.toArray w eg (fun _ _ _ _ p q => withC p q _) hH hx (by simpa using hl)).mono ?_
      rintro e w' ⟨rfl, n, os, rfl⟩
      have hsa : pdq (ltOf cfU) l.toArray 0 l.toArray.size (Lib.bitLen l.toArray.size) true true = l.toArray := by
        have h := sortP_rise hr
        unfold sortP at h
        have : sortA l = l.toArray := Array.toList_inj.1 (by simpa using h)
        exact this
      rw [hsa]
      have hold : ∀ k, k < w.heap.size → (sortWorldK PgD.enc 8 w blk off n l.toArray os).heap[k]? = w.heap[k]? := fun k hk => by
        rw [show (sortWorldK PgD.enc 8 w blk off n l.toArray os).heap[k]? = (w.heap.modify blk (onCells (putCells id off (flatK PgD.enc 8 l.toArray))))[k]? from Sort.heap_grow_old _ os (by simpa [putRowK, putRow, mapBlock, ahead] using hk), Array.getElem?_modify]
        split
        · rename_i e
          subst e
          rw [hblk]
          simp only [Option.map_some, onCells]
          rw [put_same fun j hj => ?_]
          rw [size_flatK] at hj
          rw [(hcell j (by simpa using hj)).1, Array.getElem?_eq_getElem (by rw [size_flatK]; exact hj), getElem!_pos _ j (by rw [size_flatK]; exact hj)]
        · rfl
      exact fin rfl hold (by simp [sortWorldK, grow, putRowK, putRow, mapBlock, ahead]) ⟨rfl, rfl⟩
    · refine (AnyF.slices_SortFunc_none Tryz.sortPg _ cap _ w).mono ?_
      rintro e w' ⟨rfl, rfl⟩
      exact fin rfl (fun _ _ => rfl) (Nat.le_refl _) ⟨rfl, rfl⟩
end Go.Proofs.YtlihbielphcgbaaGreatDoor.Sx
