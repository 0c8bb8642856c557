/-
  An argument, or a listed variable, that the row reads is data: leaves of its type's kinds.
-/
import Derived.Test.YtffahdloddkcfaaExecc
import Derived.LaidLaws
import Derived.LaidHandle
import Derived.ChangeArms
import Derived.ChangeSame
import Derived.Carry
import Derived.OpenShut
namespace Go.Proofs.Ytffahdloddkcfaa.Sx
open Go
set_option linter.unnecessarySimpa false
set_option linter.unusedSimpArgs false
set_option linter.unusedVariables false

/-- The leaves' types. -/
inductive LT where
  | b
  | i (k : IntKind)
  | sl (es : List LT)
  deriving Inhabited

def fieldTys (P : Program) (g : TypeId → Option (List LT)) : Nat → List Field → Option (List LT)
  | _, [] => some []
  | off, f :: r =>
    if f.offset = off then
      match g f.type, fieldTys P g (off + P.cellsOf f.type) r with
      | some a, some b => if a.length = P.cellsOf f.type then some (a ++ b) else none
      | _, _ => none
    else none

def leafTys (P : Program) : Nat → TypeId → Option (List LT)
  | 0, _ => none
  | n + 1, t =>
    match P.underlying t with
    | some .bool => some [.b]
    | some (.int k) => some [.i k]
    | some (.slice e) =>
      match leafTys P n e with
      | some es => if es.length = P.cellsOf e ∧ 0 < es.length then some [.sl es] else none
      | none => none
    | some (.struct fs) =>
      match fieldTys P (leafTys P n) 0 fs.toList with
      | some es => if es.length = P.cellsOf t then some es else none
      | none => none
    | some (.array m e) =>
      match leafTys P n e with
      | some es => if es.length = P.cellsOf e ∧ P.cellsOf t = m * es.length then some (List.replicate m es).flatten else none
      | none => none
    | _ => none

/-- Data of a leaf type. -/
inductive HasTy : LT → D → Prop
  | b (x : Bool) : HasTy .b (.b x)
  | i (k : IntKind) (z : Int) (h : (Lit.int k z).wf = true) : HasTy (.i k) (.i k z)
  | sl (es : List LT) (xs : List (List D)) (hm : xs.length ≤ maxLen) (hl : ∀ r ∈ xs, r.length = es.length)
      (h : ∀ (i j : Nat) r t d, xs[i]? = some r → es[j]? = some t → r[j]? = some d → HasTy t d) : HasTy (.sl es) (.sl es.length xs)

section
variable {H : Type} {enc : TypeId × Value → H} {P : Program} {w : World} {base : Nat} {spare : Nat → Bool} {held : Bool} {I : Imm}

/-- cells read as data of these types -/
def Reads (I : Imm) (w : World) (lts : List LT) (cs : List Value) : Prop := ∃ ds, All2 (DR I w) ds cs ∧ All2 HasTy lts ds

theorem choose2 {α β : Type} {p : Nat → α → β → Prop} {n : Nat} (h : ∀ i, i < n → ∃ a b, p i a b) (hn : ∀ _ : n = 0, (∃ _ : α, True) ∧ ∃ _ : β, True) : ∃ (f : Nat → α) (g : Nat → β), ∀ i, i < n → p i (f i) (g i) := by
  classical
  rcases Nat.eq_zero_or_pos n with h0 | h0
  · obtain ⟨⟨a, _⟩, b, _⟩ := hn h0
    exact ⟨fun _ => a, fun _ => b, fun i hi => by omega⟩
  · obtain ⟨a0, b0, _⟩ := h 0 h0
    refine ⟨fun i => if hi : i < n then (h i hi).choose else a0, fun i => if hi : i < n then (h i hi).choose_spec.choose else b0, fun i hi => ?_⟩
    simp only [hi, dif_pos]
    exact (h i hi).choose_spec.choose_spec

theorem rows_of {sz : Nat} : ∀ {m : Nat} {cs : List Value} {lts : List LT}, cs.length = m * sz → lts.length = sz → (∀ i, i < m → Reads I w lts ((cs.drop (i * sz)).take sz)) → Reads I w (List.replicate m lts).flatten cs
  | 0, cs, lts, hl, _, _ => by
    have : cs = [] := List.length_eq_zero_iff.1 (by simpa using hl)
    subst this
    exact ⟨[], .nil, .nil⟩
  | m + 1, cs, lts, hl, hs, h => by
    obtain ⟨ds, h1, h2⟩ := h 0 (by omega)
    simp only [Nat.zero_mul, List.drop_zero] at h1
    have hl' : (cs.drop sz).length = m * sz := by rw [List.length_drop, hl, Nat.succ_mul]; omega
    obtain ⟨ds', h3, h4⟩ := rows_of (cs := cs.drop sz) (lts := lts) hl' hs (fun i hi => by
      have := h (i + 1) (by omega)
      rwa [Nat.succ_mul, Nat.add_comm, ← List.drop_drop] at this)
    refine ⟨ds ++ ds', ?_, ?_⟩
    · have := h1.append h3
      rwa [List.take_append_drop] at this
    · rw [List.replicate_succ, List.flatten_cons]
      exact h2.append h4

theorem fields_of {g : TypeId → Option (List LT)} {cs : List Value} (hg : ∀ t lts, g t = some lts → ∀ fs : Field, True) :
    ∀ (fs : List Field) (off : Nat) (lts : List LT), fieldTys P g off fs = some lts → cs.length = off + lts.length →
      (∀ f ∈ fs, ∀ es, g f.type = some es → Reads I w es ((cs.drop f.offset).take (P.cellsOf f.type))) → Reads I w lts (cs.drop off)
  | [], off, lts, h, hl, _ => by
    simp only [fieldTys, Option.some.injEq] at h
    subst h
    rw [List.drop_of_length_le (by simp at hl; omega)]
    exact ⟨[], .nil, .nil⟩
  | f :: r, off, lts, h, hl, hr => by
    unfold fieldTys at h
    split at h
    · rename_i hoff
      split at h
      · rename_i a b ha hb
        split at h
        · rename_i hal
          cases h
          obtain ⟨d1, h1, h2⟩ := hr f (List.mem_cons_self ..) a ha
          obtain ⟨d2, h3, h4⟩ := fields_of hg r (off + P.cellsOf f.type) b hb (by rw [hl, List.length_append, hal]; omega) (fun f' hf' => hr f' (List.mem_cons_of_mem _ hf'))
          refine ⟨d1 ++ d2, ?_, h2.append h4⟩
          have := h1.append h3
          rw [hoff] at this
          rwa [← List.drop_drop, List.take_append_drop] at this
        · cases h
      · cases h
    · cases h

/-- WHAT THE ROW READS IS DATA. -/
theorem reads_of (hI : ∀ x, x < w.heap.size → I x) : ∀ (m : Nat) (fuel : Nat) (t : TypeId) (cs : List Value) (x : DataW H × List MemPlace) (lts : List LT),
    leafTys P m t = some lts → DataW.trod enc P w base spare held fuel t cs = some x → Reads I w lts cs
  | 0, _, _, _, _, _, h, _ => by simp [leafTys] at h
  | m + 1, fuel, t, cs, x, lts, h, hx => by
    unfold leafTys at h
    split at h
    · rename_i hu
      cases h
      obtain ⟨b, rfl, _⟩ := DataW.trod_bool hu hx
      exact ⟨[.b b], .cons (.b b) .nil, .cons (.b b) .nil⟩
    · rename_i k hu
      cases h
      obtain ⟨z, rfl, _, hw⟩ := DataW.trod_int hu hx
      exact ⟨[.i k z], .cons (.i k z) .nil, .cons (.i k z hw) .nil⟩
    · rename_i e hu
      split at h
      · rename_i es hes
        split at h
        · rename_i hse
          cases h
          rcases DataW.trod_slice hu hx with ⟨rfl, _⟩ | ⟨a, len, cap, elems, rest, n, _, rfl, rfl, hb, hl, hm, hlen, hel, _, _⟩
          · exact ⟨[.sl es.length []], .cons (.nil _ _ _ fun h0 => absurd h0 (by omega)) .nil, .cons (.sl es [] (by simp) (by simp) (fun i j r t d hi => by simp at hi)) .nil⟩
          · rcases Nat.eq_zero_or_pos len with h0 | h0
            · subst h0
              exact ⟨[.sl es.length []], .cons (.nil _ _ _ fun h0 => absurd h0 (by omega)) .nil, .cons (.sl es [] (by simp) (by simp) (fun i j r t d hi => by simp at hi)) .nil⟩
            · have hall : ∀ i, i < len → ∃ cs' ds, (w.cells? base (a.add (i * P.cellsOf e)) (P.cellsOf e) = some cs' ∧ All2 (DR I w) ds cs' ∧ All2 HasTy es ds) := fun i hi => by
                have := hel i hi
                rw [List.getElem?_eq_getElem (by omega)] at this
                obtain ⟨cs', h1, h2⟩ := Option.bind_eq_some_iff.1 this
                obtain ⟨ds, h3, h4⟩ := reads_of hI m n e cs' _ es hes h2
                exact ⟨cs', ds, h1, h3, h4⟩
              obtain ⟨F, G, hFG⟩ := choose2 hall (fun h => by omega)
              have hcell : ∀ i, i < len → ∀ j, j < P.cellsOf e → w.cell? ((a.add (i * P.cellsOf e)).add j) = (F i)[j]? := fun i hi => (World.cells?_some (hFG i hi).1).2.2
              have hfl : ∀ i, i < len → (F i).length = P.cellsOf e := fun i hi => (World.cells?_some (hFG i hi).1).2.1
              have hpos : 0 < P.cellsOf e := by omega
              have h00 := hcell 0 h0 0 hpos
              have hsp : a.spot = none ∧ a.block < w.heap.size := by
                have hne : (F 0)[0]? = some ((F 0)[0]'(by rw [hfl 0 h0]; exact hpos)) := List.getElem?_eq_getElem _
                rw [hne] at h00
                simp only [Nat.zero_mul, Addr.add, if_true, World.cell?] at h00
                split at h00
                · rename_i c t' fz hc
                  refine ⟨?_, (Array.getElem?_eq_some_iff.1 hc).1⟩
                  split at h00
                  · cases h00
                  · rename_i hs; simpa using hs
                · cases h00
              obtain ⟨blk, off, sp⟩ := a
              obtain ⟨hs1, hs2⟩ := hsp
              simp only at hs1 hs2
              subst hs1
              have hadd : ∀ i j, ((⟨blk, off, none⟩ : Addr).add (i * P.cellsOf e)).add j = ⟨blk, off + (i * es.length + j), none⟩ := fun i j => by
                rw [hse.1]
                simp only [Addr.add]
                split <;> split <;> simp_all <;> omega
              have hlenG : ∀ i, i < len → (G i).length = es.length := fun i hi => (hFG i hi).2.2.length.symm
              refine ⟨[.sl es.length ((List.range len).map G)], .cons ?_ .nil, .cons (.sl es _ (by simp; omega) ?_ ?_) .nil⟩
              · have := DR.sl (I := I) (w := w) es.length ((List.range len).map G) blk off cap (fun i j => (F i).getD j undef) hse.2 (fun r hr => by
                    obtain ⟨i, hi, rfl⟩ := List.mem_map.1 hr
                    exact hlenG i (by simpa using hi)) (by simpa using hl) (hI _ hs2) (fun i r j d hi hj => ?_) (fun i r j d hi hj => ?_)
                · simpa using this
                · have hil : i < len := by
                    have := (List.getElem?_eq_some_iff.1 hi).1
                    simpa using this
                  have hr : r = G i := by simpa [hil] using hi.symm
                  subst hr
                  have hjl : j < P.cellsOf e := by
                    have := (List.getElem?_eq_some_iff.1 hj).1
                    rw [hlenG i hil] at this
                    omega
                  rw [← hadd, hcell i hil j hjl, List.getD_eq_getElem?_getD, List.getElem?_eq_getElem (by rw [hfl i hil]; exact hjl)]
                  rfl
                · have hil : i < len := by
                    have := (List.getElem?_eq_some_iff.1 hi).1
                    simpa using this
                  have hr : r = G i := by simpa [hil] using hi.symm
                  subst hr
                  obtain ⟨v, hv, hd⟩ := (hFG i hil).2.1.get hj
                  rw [List.getD_eq_getElem?_getD, hv]
                  exact hd
              · intro r hr
                obtain ⟨i, hi, rfl⟩ := List.mem_map.1 hr
                exact hlenG i (by simpa using hi)
              · intro i j r t' d hi ht hj
                have hil : i < len := by
                  have := (List.getElem?_eq_some_iff.1 hi).1
                  simpa using this
                have hr : r = G i := by simpa [hil] using hi.symm
                subst hr
                obtain ⟨t'', ht'', hd⟩ := (hFG i hil).2.2.get' hj
                rw [ht] at ht''
                cases ht''
                exact hd
        · cases h
      · cases h
    · rename_i fs hu
      split at h
      · rename_i es hes
        split at h
        · rename_i hle
          cases h
          obtain ⟨xs, n, _, _, hl, hlen, hf⟩ := DataW.trod_struct hu hx
          have := fields_of (P := P) (I := I) (w := w) (cs := cs) (fun _ _ _ _ => trivial) fs.toList 0 lts hes (by rw [hl, hle]; omega) (fun f hfm es' hes' => by
            obtain ⟨i, hi⟩ := List.getElem?_of_mem hfm
            have h1 := hf i f (by simpa using hi)
            have hi' : i < xs.length := by
              have := (List.getElem?_eq_some_iff.1 hi).1
              simp at this
              omega
            rw [List.getElem?_eq_getElem hi'] at h1
            exact reads_of hI m n f.type _ _ es' hes' h1)
          simpa using this
        · cases h
      · cases h
    · rename_i k e hu
      split at h
      · rename_i es hes
        split at h
        · rename_i hle
          cases h
          obtain ⟨xs, n, _, _, hl, hlen, hf⟩ := DataW.trod_array hu hx
          refine rows_of (by rw [hl, hle.2]) rfl (fun i hi => ?_)
          have h1 := hf i hi
          rw [List.getElem?_eq_getElem (by omega)] at h1
          rw [hle.1]
          exact reads_of hI m n e _ _ es hes h1
        · cases h
      · cases h
    · cases h

end
end Go.Proofs.Ytffahdloddkcfaa.Sx
