/-
  An argument, or a listed variable, that the row reads is data: leaves of its type's kinds.
  A listed variable holds the leaves of what the row lists.
  From a function's contract at all data of its parameters' types to what a law's row asks of its call.
-/
import Derived.Test.YtlihbielphcgbaaGreatDoorBe
import Derived.LaidLaws
import Derived.LaidHandle
import Derived.ChangeArms
import Derived.ChangeSame
import Derived.Carry
import Derived.OpenShut
import GoSem.ClaimSeven
namespace Go.Proofs.YtlihbielphcgbaaGreatDoor.Sx
open Go
set_option linter.unnecessarySimpa false
set_option linter.unusedSimpArgs false
set_option linter.unusedVariables false

/-- The leaves' types. -/
inductive LT where
  | b
  | i (k : IntKind)
  | sl (es : List LT)
  deriving Inhabited

def fieldTys (P : Program) (g : TypeId → Option (List LT)) : Nat → List Field → Option (List LT)
  | _, [] => some []
  | off, f :: r =>
    if f.offset = off then
      match g f.type, fieldTys P g (off + P.cellsOf f.type) r with
      | some a, some b => if a.length = P.cellsOf f.type then some (a ++ b) else none
      | _, _ => none
    else none

def leafTys (P : Program) : Nat → TypeId → Option (List LT)
  | 0, _ => none
  | n + 1, t =>
    match P.underlying t with
    | some .bool => some [.b]
    | some (.int k) => some [.i k]
    | some (.slice e) =>
      match leafTys P n e with
      | some es => if es.length = P.cellsOf e ∧ 0 < es.length ∧ es.length ≠ frzW then some [.sl es] else none
      | none => none
    | some (.struct fs) =>
      match fieldTys P (leafTys P n) 0 fs.toList with
      | some es => if es.length = P.cellsOf t then some es else none
      | none => none
    | some (.array m e) =>
      match leafTys P n e with
      | some es => if es.length = P.cellsOf e ∧ P.cellsOf t = m * es.length then some (List.replicate m es).flatten else none
      | none => none
    | _ => none

/-- Data of a leaf type. -/
inductive HasTy : LT → D → Prop
  | b (x : Bool) : HasTy .b (.b x)
  | i (k : IntKind) (z : Int) (h : (Lit.int k z).wf = true) : HasTy (.i k) (.i k z)
  | sl (es : List LT) (xs : List (List D)) (hm : xs.length ≤ maxLen) (hl : ∀ r ∈ xs, r.length = es.length)
      (h : ∀ (i j : Nat) r t d, xs[i]? = some r → es[j]? = some t → r[j]? = some d → HasTy t d) : HasTy (.sl es) (.sl es.length xs)

section
variable {H : Type} {enc : TypeId × Value → H} {P : Program} {w : World} {base : Nat} {spare : Nat → Bool} {held : Bool} {I : Imm}

/-- cells read as data of these types -/
def Reads (I : Imm) (w : World) (lts : List LT) (cs : List Value) : Prop := ∃ ds, All2 (DR I w) ds cs ∧ All2 HasTy lts ds

theorem choose2 {α β : Type} {p : Nat → α → β → Prop} {n : Nat} (h : ∀ i, i < n → ∃ a b, p i a b) (hn : ∀ _ : n = 0, (∃ _ : α, True) ∧ ∃ _ : β, True) : ∃ (f : Nat → α) (g : Nat → β), ∀ i, i < n → p i (f i) (g i) := by
  classical
  rcases Nat.eq_zero_or_pos n with h0 | h0
  · obtain ⟨⟨a, _⟩, b, _⟩ := hn h0
    exact ⟨fun _ => a, fun _ => b, fun i hi => by omega⟩
  · obtain ⟨a0, b0, _⟩ := h 0 h0
    refine ⟨fun i => if hi : i < n then (h i hi).choose else a0, fun i => if hi : i < n then (h i hi).choose_spec.choose else b0, fun i hi => ?_⟩
    simp only [hi, dif_pos]
    exact (h i hi).choose_spec.choose_spec

theorem rows_of {sz : Nat} : ∀ {m : Nat} {cs : List Value} {lts : List LT}, cs.length = m * sz → lts.length = sz → (∀ i, i < m → Reads I w lts ((cs.drop (i * sz)).take sz)) → Reads I w (List.replicate m lts).flatten cs
  | 0, cs, lts, hl, _, _ => by
    have : cs = [] := List.length_eq_zero_iff.1 (by simpa using hl)
    subst this
    exact ⟨[], .nil, .nil⟩
  | m + 1, cs, lts, hl, hs, h => by
    obtain ⟨ds, h1, h2⟩ := h 0 (by omega)
    simp only [Nat.zero_mul, List.drop_zero] at h1
    have hl' : (cs.drop sz).length = m * sz := by rw [List.length_drop, hl, Nat.succ_mul]; omega
    obtain ⟨ds', h3, h4⟩ := rows_of (cs := cs.drop sz) (lts := lts) hl' hs (fun i hi => by
      have := h (i + 1) (by omega)
      rwa [Nat.succ_mul, Nat.add_comm, ← List.drop_drop] at this)
    refine ⟨ds ++ ds', ?_, ?_⟩
    · have := h1.append h3
      rwa [List.take_append_drop] at this
    · rw [List.replicate_succ, List.flatten_cons]
      exact h2.append h4

theorem fields_of {g : TypeId → Option (List LT)} {cs : List Value} (hg : ∀ t lts, g t = some lts → ∀ fs : Field, True) :
    ∀ (fs : List Field) (off : Nat) (lts : List LT), fieldTys P g off fs = some lts → cs.length = off + lts.length →
      (∀ f ∈ fs, ∀ es, g f.type = some es → Reads I w es ((cs.drop f.offset).take (P.cellsOf f.type))) → Reads I w lts (cs.drop off)
  | [], off, lts, h, hl, _ => by
    simp only [fieldTys, Option.some.injEq] at h
    subst h
    rw [List.drop_of_length_le (by simp at hl; omega)]
    exact ⟨[], .nil, .nil⟩
  | f :: r, off, lts, h, hl, hr => by
    unfold fieldTys at h
    split at h
    · rename_i hoff
      split at h
      · rename_i a b ha hb
        split at h
        · rename_i hal
          cases h
          obtain ⟨d1, h1, h2⟩ := hr f (List.mem_cons_self ..) a ha
          obtain ⟨d2, h3, h4⟩ := fields_of hg r (off + P.cellsOf f.type) b hb (by rw [hl, List.length_append, hal]; omega) (fun f' hf' => hr f' (List.mem_cons_of_mem _ hf'))
          refine ⟨d1 ++ d2, ?_, h2.append h4⟩
          have := h1.append h3
          rw [hoff] at this
          rwa [← List.drop_drop, List.take_append_drop] at this
        · cases h
      · cases h
    · cases h

/-- WHAT THE ROW READS IS DATA. -/
theorem reads_of (hI : ∀ x, x < w.heap.size → I x) : ∀ (m : Nat) (fuel : Nat) (t : TypeId) (cs : List Value) (x : DataW H × List MemPlace) (lts : List LT),
    leafTys P m t = some lts → DataW.trod enc P w base spare held fuel t cs = some x → Reads I w lts cs
  | 0, _, _, _, _, _, h, _ => by simp [leafTys] at h
  | m + 1, fuel, t, cs, x, lts, h, hx => by
    unfold leafTys at h
    split at h
    · rename_i hu
      cases h
      obtain ⟨b, rfl, _⟩ := DataW.trod_bool hu hx
      exact ⟨[.b b], .cons (.b b) .nil, .cons (.b b) .nil⟩
    · rename_i k hu
      cases h
      obtain ⟨z, rfl, _, hw⟩ := DataW.trod_int hu hx
      exact ⟨[.i k z], .cons (.i k z) .nil, .cons (.i k z hw) .nil⟩
    · rename_i e hu
      split at h
      · rename_i es hes
        split at h
        · rename_i hse
          cases h
          rcases DataW.trod_slice hu hx with ⟨rfl, _⟩ | ⟨a, len, cap, elems, rest, n, _, rfl, rfl, hb, hl, hm, hlen, hel, _, _⟩
          · exact ⟨[.sl es.length []], .cons (.nil _ _ _ fun h0 => absurd h0 (by omega)) .nil, .cons (.sl es [] (by simp) (by simp) (fun i j r t d hi => by simp at hi)) .nil⟩
          · rcases Nat.eq_zero_or_pos len with h0 | h0
            · subst h0
              exact ⟨[.sl es.length []], .cons (.nil _ _ _ fun h0 => absurd h0 (by omega)) .nil, .cons (.sl es [] (by simp) (by simp) (fun i j r t d hi => by simp at hi)) .nil⟩
            · have hall : ∀ i, i < len → ∃ cs' ds, (w.cells? base (a.add (i * P.cellsOf e)) (P.cellsOf e) = some cs' ∧ All2 (DR I w) ds cs' ∧ All2 HasTy es ds) := fun i hi => by
                have := hel i hi
                rw [List.getElem?_eq_getElem (by omega)] at this
                obtain ⟨cs', h1, h2⟩ := Option.bind_eq_some_iff.1 this
                obtain ⟨ds, h3, h4⟩ := reads_of hI m n e cs' _ es hes h2
                exact ⟨cs', ds, h1, h3, h4⟩
              obtain ⟨F, G, hFG⟩ := choose2 hall (fun h => by omega)
              have hcell : ∀ i, i < len → ∀ j, j < P.cellsOf e → w.cell? ((a.add (i * P.cellsOf e)).add j) = (F i)[j]? := fun i hi => (World.cells?_some (hFG i hi).1).2.2
              have hfl : ∀ i, i < len → (F i).length = P.cellsOf e := fun i hi => (World.cells?_some (hFG i hi).1).2.1
              have hpos : 0 < P.cellsOf e := by omega
              have h00 := hcell 0 h0 0 hpos
              have hsp : a.spot = none ∧ a.block < w.heap.size := by
                have hne : (F 0)[0]? = some ((F 0)[0]'(by rw [hfl 0 h0]; exact hpos)) := List.getElem?_eq_getElem _
                rw [hne] at h00
                simp only [Nat.zero_mul, Addr.add, if_true, World.cell?] at h00
                split at h00
                · rename_i c t' fz hc
                  refine ⟨?_, (Array.getElem?_eq_some_iff.1 hc).1⟩
                  split at h00
                  · cases h00
                  · rename_i hs; simpa using hs
                · cases h00
              obtain ⟨blk, off, sp⟩ := a
              obtain ⟨hs1, hs2⟩ := hsp
              simp only at hs1 hs2
              subst hs1
              have hadd : ∀ i j, ((⟨blk, off, none⟩ : Addr).add (i * P.cellsOf e)).add j = ⟨blk, off + (i * es.length + j), none⟩ := fun i j => by
                rw [hse.1]
                simp only [Addr.add]
                split <;> split <;> simp_all <;> omega
              have hlenG : ∀ i, i < len → (G i).length = es.length := fun i hi => (hFG i hi).2.2.length.symm
              refine ⟨[.sl es.length ((List.range len).map G)], .cons ?_ .nil, .cons (.sl es _ (by simp; omega) ?_ ?_) .nil⟩
              · have := DR.sl (I := I) (w := w) es.length ((List.range len).map G) blk off cap (fun i j => (F i).getD j undef) hse.2.1 (fun r hr => by
                    obtain ⟨i, hi, rfl⟩ := List.mem_map.1 hr
                    exact hlenG i (by simpa using hi)) (by simpa using hl) (hI _ hs2) (fun i r j d hi hj => ?_) (fun i r j d hi hj => ?_) (fun e => absurd e hse.2.2)
                · simpa using this
                · have hil : i < len := by
                    have := (List.getElem?_eq_some_iff.1 hi).1
                    simpa using this
                  have hr : r = G i := by simpa [hil] using hi.symm
                  subst hr
                  have hjl : j < P.cellsOf e := by
                    have := (List.getElem?_eq_some_iff.1 hj).1
                    rw [hlenG i hil] at this
                    omega
                  rw [← hadd, hcell i hil j hjl, List.getD_eq_getElem?_getD, List.getElem?_eq_getElem (by rw [hfl i hil]; exact hjl)]
                  rfl
                · have hil : i < len := by
                    have := (List.getElem?_eq_some_iff.1 hi).1
                    simpa using this
                  have hr : r = G i := by simpa [hil] using hi.symm
                  subst hr
                  obtain ⟨v, hv, hd⟩ := (hFG i hil).2.1.get hj
                  rw [List.getD_eq_getElem?_getD, hv]
                  exact hd
              · intro r hr
                obtain ⟨i, hi, rfl⟩ := List.mem_map.1 hr
                exact hlenG i (by simpa using hi)
              · intro i j r t' d hi ht hj
                have hil : i < len := by
                  have := (List.getElem?_eq_some_iff.1 hi).1
                  simpa using this
                have hr : r = G i := by simpa [hil] using hi.symm
                subst hr
                obtain ⟨t'', ht'', hd⟩ := (hFG i hil).2.2.get' hj
                rw [ht] at ht''
                cases ht''
                exact hd
        · cases h
      · cases h
    · rename_i fs hu
      split at h
      · rename_i es hes
        split at h
        · rename_i hle
          cases h
          obtain ⟨xs, n, _, _, hl, hlen, hf⟩ := DataW.trod_struct hu hx
          have := fields_of (P := P) (I := I) (w := w) (cs := cs) (fun _ _ _ _ => trivial) fs.toList 0 lts hes (by rw [hl, hle]; omega) (fun f hfm es' hes' => by
            obtain ⟨i, hi⟩ := List.getElem?_of_mem hfm
            have h1 := hf i f (by simpa using hi)
            have hi' : i < xs.length := by
              have := (List.getElem?_eq_some_iff.1 hi).1
              simp at this
              omega
            rw [List.getElem?_eq_getElem hi'] at h1
            exact reads_of hI m n f.type _ _ es' hes' h1)
          simpa using this
        · cases h
      · cases h
    · rename_i k e hu
      split at h
      · rename_i es hes
        split at h
        · rename_i hle
          cases h
          obtain ⟨xs, n, _, _, hl, hlen, hf⟩ := DataW.trod_array hu hx
          refine rows_of (by rw [hl, hle.2]) rfl (fun i hi => ?_)
          have h1 := hf i hi
          rw [List.getElem?_eq_getElem (by omega)] at h1
          rw [hle.1]
          exact reads_of hI m n e _ _ es hes h1
        · cases h
      · cases h
    · cases h

end
end Go.Proofs.YtlihbielphcgbaaGreatDoor.Sx

namespace Go.Proofs.YtlihbielphcgbaaGreatDoor.Sx
open Go
set_option linter.unnecessarySimpa false
set_option linter.unusedSimpArgs false
set_option linter.unusedVariables false

def allSome {α : Type} : List (Option α) → Option (List α)
  | [] => some []
  | some a :: r => match allSome r with | some l => some (a :: l) | none => none
  | none :: _ => none

theorem allSome_get {α : Type} : ∀ {l : List (Option α)} {r : List α}, allSome l = some r → r.length = l.length ∧ ∀ (i : Nat) (a : α), r[i]? = some a → l[i]? = some (some a)
  | [], r, h => by simp [allSome] at h; subst h; simp
  | none :: l, r, h => by simp [allSome] at h
  | some a :: l, r, h => by
    simp only [allSome] at h
    split at h
    · rename_i l' hl
      cases h
      obtain ⟨h1, h2⟩ := allSome_get hl
      refine ⟨by simp [h1], fun i b hb => ?_⟩
      cases i with
      | zero => simpa using hb
      | succ i => simpa using h2 i b (by simpa using hb)
    · cases h

section
variable {H : Type}

def fieldLits (P : Program) (g : TypeId → DataW H → Option (List D)) : Nat → List Field → List (DataW H) → Option (List D)
  | _, [], [] => some []
  | off, f :: r, d :: ds =>
    if f.offset = off then
      match g f.type d, fieldLits P g (off + P.cellsOf f.type) r ds with
      | some a, some b => if a.length = P.cellsOf f.type then some (a ++ b) else none
      | _, _ => none
    else none
  | _, _, _ => none

/-- the leaves of data that is told -/
def litD (P : Program) (fun? : H → Option FuncId) : Nat → TypeId → DataW H → Option (List D)
  | 0, _, _ => none
  | n + 1, t, d =>
    match P.underlying t, d with
    | some (.int k), .lit (.int k' z) => if k' = k then some [.i k z] else none
    | some (.func ..), .held h => match fun? h with | some f => some [.f f] | none => none
    | some (.array m e), .agg ps =>
      match allSome (ps.map (litD P fun? n e)) with
      | some rs => if ps.length = m ∧ P.cellsOf t = m * P.cellsOf e ∧ rs.all (·.length == P.cellsOf e) = true then some rs.flatten else none
      | none => none
    | some (.struct fs), .agg ps =>
      match fieldLits P (litD P fun? n) 0 fs.toList ps with
      | some ds => if ds.length = P.cellsOf t then some ds else none
      | none => none
    | _, _ => none

variable {enc : TypeId × Value → H} {P : Program} {w : World} {base : Nat} {spare : Nat → Bool} {held : Bool} {I : Imm}

theorem rows_lit {sz : Nat} : ∀ (rs : List (List D)) (cs : List Value), cs.length = rs.length * sz → (∀ (i : Nat) (r : List D), rs[i]? = some r → All2 (DR I w) r ((cs.drop (i * sz)).take sz)) → All2 (DR I w) rs.flatten cs
  | [], cs, hl, _ => by
    have : cs = [] := List.length_eq_zero_iff.1 (by simpa using hl)
    subst this
    exact .nil
  | r :: rs, cs, hl, h => by
    have h1 := h 0 r (by simp)
    simp only [Nat.zero_mul, List.drop_zero] at h1
    have h2 := rows_lit (sz := sz) rs (cs.drop sz) (by rw [List.length_drop, hl, List.length_cons, Nat.succ_mul]; omega) (fun i r' hr => by
      have := h (i + 1) r' (by simpa using hr)
      rwa [Nat.succ_mul, Nat.add_comm, ← List.drop_drop] at this)
    have := h1.append h2
    rwa [List.take_append_drop] at this

theorem fields_lit {g : TypeId → DataW H → Option (List D)} {cs : List Value} :
    ∀ (fs : List Field) (ps : List (DataW H)) (off : Nat) (ds : List D), fieldLits P g off fs ps = some ds → cs.length = off + ds.length →
      (∀ (i : Nat) (f : Field) (d : DataW H) (es : List D), fs[i]? = some f → ps[i]? = some d → g f.type d = some es → All2 (DR I w) es ((cs.drop f.offset).take (P.cellsOf f.type))) → All2 (DR I w) ds (cs.drop off)
  | [], [], off, ds, h, hl, _ => by
    simp only [fieldLits, Option.some.injEq] at h
    subst h
    rw [List.drop_of_length_le (by simp at hl; omega)]
    exact .nil
  | f :: r, d :: ps, off, ds, h, hl, hr => by
    unfold fieldLits at h
    split at h
    · rename_i hoff
      split at h
      · rename_i a b ha hb
        split at h
        · rename_i hal
          cases h
          have h1 := hr 0 f d a (by simp) (by simp) ha
          have h2 := fields_lit r ps (off + P.cellsOf f.type) b hb (by rw [hl, List.length_append, hal]; omega) (fun i f' d' es h1 h2 => hr (i + 1) f' d' es (by simpa using h1) (by simpa using h2))
          have := h1.append h2
          rw [hoff] at this
          rwa [← List.drop_drop, List.take_append_drop] at this
        · cases h
      · cases h
    · cases h
  | [], _ :: _, _, _, h, _, _ => by simp [fieldLits] at h
  | _ :: _, [], _, _, h, _, _ => by simp [fieldLits] at h

/-- WHAT THE ROW LISTS, THE CELLS HOLD. -/
theorem lit_of {fun? : H → Option FuncId} (hf : ∀ t fn first cap f, fun? (enc (t, .func fn first cap)) = some f → fn = .func f ∧ first = #[] ∧ cap = #[]) :
    ∀ (m : Nat) (fuel : Nat) (t : TypeId) (cs : List Value) (d : DataW H) (p : List MemPlace) (ds : List D), litD P fun? m t d = some ds → DataW.trod enc P w base spare held fuel t cs = some (d, p) → All2 (DR I w) ds cs
  | 0, _, _, _, _, _, _, h, _ => by simp [litD] at h
  | m + 1, fuel, t, cs, d, p, ds, h, hx => by
    unfold litD at h
    split at h
    · rename_i k k' z hu
      split at h
      · cases h
        obtain ⟨z', rfl, he, _⟩ := DataW.trod_int hu hx
        cases he
        exact .cons (.i k z) .nil
      · cases h
    · rename_i s r b hh hu
      split at h
      · rename_i f hff
        cases h
        cases fuel with
        | zero => simp [DataW.trod] at hx
        | succ fuel =>
          unfold DataW.trod at hx
          rw [hu] at hx
          split at hx <;> first
            | (simp at hx; done)
            | (rename_i heq; cases heq; done)
            | skip
          all_goals first
            | (split at hx
               · cases hx
                 rename_i fn first cap _ _ _ _
                 obtain ⟨rfl, rfl, rfl⟩ := hf _ _ _ _ _ hff
                 exact .cons (.f f) .nil
               · cases hx)
            | skip
      · cases h
    · rename_i n e ps hu
      split at h
      · rename_i rs hrs
        split at h
        · rename_i hc
          obtain ⟨hc1, hc2, hc3⟩ := hc
          cases h
          obtain ⟨h1, h2⟩ := allSome_get hrs
          rw [List.length_map] at h1
          obtain ⟨xs, n', _, he, hl, hlen, hg⟩ := DataW.trod_array hu hx
          simp only [Prod.mk.injEq, DataW.agg.injEq] at he
          obtain ⟨rfl, _⟩ := he
          simp only [List.length_map] at hc1 h1
          refine rows_lit (sz := P.cellsOf e) rs cs (by rw [hl, hc2, h1, hc1]) (fun i r hr => ?_)
          have hi : i < xs.length := by
            have := (List.getElem?_eq_some_iff.1 hr).1
            omega
          have h3 := h2 i r hr
          rw [List.getElem?_map, List.getElem?_map, List.getElem?_eq_getElem hi] at h3
          simp only [Option.map_some, Option.some.injEq] at h3
          have h4 := hg i (by omega)
          rw [List.getElem?_eq_getElem hi] at h4
          exact lit_of hf m n' e _ xs[i].1 xs[i].2 r h3 h4
        · cases h
      · cases h
    · rename_i fs ps hu
      split at h
      · rename_i es hes
        split at h
        · rename_i hc
          cases h
          obtain ⟨xs, n', _, he, hl, hlen, hg⟩ := DataW.trod_struct hu hx
          simp only [Prod.mk.injEq, DataW.agg.injEq] at he
          obtain ⟨rfl, _⟩ := he
          have := fields_lit (P := P) (I := I) (w := w) (cs := cs) fs.toList _ 0 ds hes (by rw [hl, hc]; omega) (fun i f d' es' h1 h2 h3 => by
            have h4 := hg i f (by simpa using h1)
            have hi : i < xs.length := by
              have := (List.getElem?_eq_some_iff.1 h2).1
              simpa using this
            rw [List.getElem?_eq_getElem hi] at h4
            rw [List.getElem?_map, List.getElem?_eq_getElem hi] at h2
            simp only [Option.map_some, Option.some.injEq] at h2
            subst h2
            exact lit_of hf m n' f.type _ xs[i].1 xs[i].2 es' h3 h4)
          simpa using this
        · cases h
      · cases h
    · cases h
end

/-- A listed variable's block. -/
def VarIs (P : Program) (I : Imm) (w : World) (g : Nat) (ds : List D) : Prop :=
  I g ∧ ∃ (vs : List Value) (ty : TypeId) (fz : Nat × Nat), w.heap[g]? = some (.cells vs.toArray ty fz) ∧ All2 (DR I w) ds vs

theorem var_block {P : Program} {w : World} {n : String} {g : Nat} {cs : Array Value} (hg : P.globalNamed n = some g) (h : w.var? P n = some cs) : ∃ ty fz, w.heap[g]? = some (.cells cs ty fz) := by
  unfold World.var? at h
  rw [hg] at h
  simp only [Option.bind_some] at h
  split at h
  · rename_i c ty fz hc
    cases h
    exact ⟨ty, fz, hc⟩
  · cases h

theorem VarIs.of {H : Type} {enc : TypeId × Value → H} {P : Program} {w : World} {sp : Nat → Bool} {held : Bool} {fuel : Nat} {t : TypeId} {cs : Array Value} {d : DataW H} {p : List MemPlace} {n : String} {g m : Nat} {ds : List D} {I : Imm}
    {fun? : H → Option FuncId} (hf : ∀ t fn first cap f, fun? (enc (t, .func fn first cap)) = some f → fn = .func f ∧ first = #[] ∧ cap = #[])
    (hg : P.globalNamed n = some g) (hv : w.var? P n = some cs) (hd : DataW.trod enc P w 0 sp held fuel t cs.toList = some (d, p)) (hl : litD P fun? m t d = some ds) (hI : ∀ x, x < w.heap.size → I x) : VarIs P I w g ds := by
  obtain ⟨ty, fz, hb⟩ := var_block hg hv
  exact ⟨hI _ (Array.getElem?_eq_some_iff.1 hb).1, cs.toList, ty, fz, by simpa using hb, lit_of hf m fuel t _ _ _ ds hl hd⟩

/-- the one function of a name -/
def funT (P : Program) (s : List UInt8) : Option FuncId :=
  match s with
  | [] => none
  | _ => match (List.range P.funcs.size).filter fun f => (P.funcs[f]?).any (·.name.toUTF8.data.toList == s) with
    | [f] => some f
    | _ => none

theorem funT_tells {P : Program} : ∀ t fn first cap f, funT P (funcToken P (t, .func fn first cap)) = some f → fn = .func f ∧ first = #[] ∧ cap = #[] := by
  intro t fn first cap f h
  unfold funT at h
  split at h
  · cases h
  · rename_i s hs
    split at h
    · rename_i f' hf
      cases h
      cases hk : funcToken P (t, .func fn first cap) with
      | nil => exact absurd hk hs
      | cons b r =>
        obtain ⟨f0, fn0, he, hf0, _, hb⟩ := funcToken_tells hk
        cases he
        rw [hk] at hf
        have hm : f0 ∈ (List.range P.funcs.size).filter fun f => (P.funcs[f]?).any (·.name.toUTF8.data.toList == b :: r) :=
          List.mem_filter.2 ⟨List.mem_range.2 (Array.getElem?_eq_some_iff.1 hf0).1, by rw [hf0]; simpa using hb⟩
        rw [hf] at hm
        rw [List.mem_singleton.1 hm]
        exact ⟨rfl, rfl, rfl⟩
    · cases h

/-- A listed table of functions. -/
theorem VarIs.funcs {P : Program} {w : World} {I : Imm} {laid : List (String × DataW Unit)} {n : String} {d : DataW Unit} {g t : Nat} {ds : List D} (m : Nat) (h : laidMetH P laid w) (hx : (n, DataW.iface "func table" d) ∈ laid)
    (hg : P.globalNamed n = some g) (ht : (P.globals[g]?).map (·.type) = some t) (hl : litD P (funT P) m t d.funcsOut = some ds) (hI : ∀ x, x < w.heap.size → I x) : VarIs P I w g ds := by
  obtain ⟨g', t', cs, fuel, p, h1, h2, h3, h4⟩ := laidMetH.funcs h hx
  rw [hg] at h1
  cases h1
  rw [ht] at h2
  cases h2
  exact VarIs.of funT_tells hg h3 h4 hl hI

/-- The next variable of the list. -/
theorem laidVars_cons {P : Program} {w : World} {I : Imm} {n : String} {d : DataW Unit} {r : List (String × DataW Unit)} {ps : List MemPlace} {g t : Nat} {ds : List D} (m : Nat)
    (hg : P.globalNamed n = some g) (ht : (P.globals[g]?).map (·.type) = some t) (hl : litD P (fun _ => none) m t d = some ds) (hI : ∀ x, x < w.heap.size → I x)
    (h : DataW.LaidVars P w ((n, d) :: r) ps) : VarIs P I w g ds ∧ ∃ q, DataW.LaidVars P w r q := by
  obtain ⟨g', t', cs, fuel, p, q, h1, h2, h3, h4, h5, _⟩ := h
  rw [hg] at h1
  cases h1
  rw [ht] at h2
  cases h2
  exact ⟨VarIs.of (fun _ _ _ _ _ h => by cases h) hg h3 h4 hl hI, q, h5⟩
end Go.Proofs.YtlihbielphcgbaaGreatDoor.Sx

namespace Go.Proofs.YtlihbielphcgbaaGreatDoor.Sx
open Go Go.ChangeShapes Go.WideShapes Go.RowKit
set_option linter.unnecessarySimpa false
set_option linter.unusedSimpArgs false
set_option linter.unusedVariables false

/-- A parameter: is it a struct or an array, and its leaves' types. -/
abbrev ArgTy := Bool × List LT

def isAgg (P : Program) (t : TypeId) : Bool :=
  match P.underlying t with
  | some (.struct _) | some (.array _ _) => true
  | _ => false

def argTys (P : Program) (m : Nat) : List TypeId → Option (List ArgTy)
  | [] => some []
  | t :: r => match leafTys P m t, argTys P m r with
    | some ls, some l => some ((isAgg P t, ls) :: l)
    | _, _ => none

/-- A parameter's data. -/
structure IsArg (a : ArgTy) (v : DV) : Prop where
  agg : v.1 = a.1
  tys : All2 HasTy a.2 v.2

section
variable {H : Type} {enc : TypeId × Value → H} {P : Program} {W : World} {base : Nat} {spare : Nat → Bool} {held : Bool}

theorem leafTys_one {m : Nat} {t : TypeId} {ls : List LT} (h : leafTys P m t = some ls) (hn : isAgg P t = false) : ls.length = 1 := by
  cases m with
  | zero => simp [leafTys] at h
  | succ m =>
    unfold leafTys at h
    unfold isAgg at hn
    split at h <;> simp_all
    · subst h; rfl
    · subst h; rfl
    · split at h <;> simp_all
      obtain ⟨_, rfl⟩ := h
      rfl

theorem dvr_of {m : Nat} {t : TypeId} {ls : List LT} {v : Value} {d : DataW H} {p : List MemPlace} {b0 : Nat} (hl : leafTys P m t = some ls) (hv : Value.okWide P W .any b0 t v) (hd : DataW.Trod enc P W base spare held t v d p) :
    ∃ dv, DVR (fun x => x < W.heap.size) W dv v ∧ IsArg (isAgg P t, ls) dv := by
  obtain ⟨fuel, hf⟩ := hd
  obtain ⟨ds, h1, h2⟩ := reads_of (I := fun x => x < W.heap.size) (fun _ h => h) m fuel t v.cells.toList _ ls hl hf
  refine ⟨(isAgg P t, ds), ?_, rfl, h2⟩
  unfold DVR
  cases hag : isAgg P t with
  | true =>
    simp only [if_true]
    have hv' : ∃ cs, v = .agg cs := by
      unfold isAgg at hag
      unfold Value.okWide at hv
      split at hag
      · rename_i hu; rw [hu] at hv; obtain ⟨cs, h, _⟩ := hv; exact ⟨cs, h⟩
      · rename_i hu; rw [hu] at hv; obtain ⟨cs, h, _⟩ := hv; exact ⟨cs, h⟩
      · cases hag
    obtain ⟨cs, rfl⟩ := hv'
    exact ⟨cs.toList, by simp, h1⟩
  | false =>
    simp only [Bool.false_eq_true, if_false]
    have hlen := leafTys_one hl hag
    have hdl : ds.length = 1 := by rw [← h2.length, hlen]
    match ds, hdl with
    | [d0], _ =>
      have hvc : v.cells = #[v] := by
        have hne : ∀ cs, v ≠ .agg cs := by
          rintro cs rfl
          unfold isAgg at hag
          unfold Value.okWide at hv
          split at hv
          · rename_i hu; rw [hu] at hag; cases hag
          · rename_i hu; rw [hu] at hag; cases hag
          · unfold Cell.okWide at hv
            split at hv <;> first
              | (rename_i h1 h2; cases h2; done)
              | (rename_i h2; cases h2; done)
              | skip
            unfold Cell.ok at hv
            split at hv <;> first
              | (rename_i h1 h2; cases h2; done)
              | (rename_i h2; cases h2; done)
              | exact hv.elim
        cases v <;> first | rfl | exact absurd rfl (hne _)
      rw [hvc] at h1
      cases h1 with
      | cons h _ => exact ⟨d0, rfl, h⟩

theorem args_of {m b0 : Nat} : ∀ {ts : List TypeId} {vs : List Value} {ds : List (DataW H)} {p : List MemPlace} {tys : List ArgTy}, argTys P m ts = some tys → DataW.TrodAll enc P W base spare held ts vs ds p →
    (∀ (j : Nat) t v, ts[j]? = some t → vs[j]? = some v → Value.okWide P W .any b0 t v) → ∃ as, All2 (DVR (fun x => x < W.heap.size) W) as vs ∧ All2 IsArg tys as
  | [], vs, ds, p, tys, ht, h, _ => by
    obtain ⟨rfl, _, _⟩ := trodAll_nil h
    simp only [argTys, Option.some.injEq] at ht
    subst ht
    exact ⟨[], .nil, .nil⟩
  | t :: ts, vs, ds, p, tys, ht, h, hv => by
    obtain ⟨v, vs', d, ds', p0, q0, rfl, rfl, rfl, h0, hr⟩ := trodAll_cons h
    unfold argTys at ht
    split at ht
    · rename_i ls l hls hl
      cases ht
      obtain ⟨dv, h1, h2⟩ := dvr_of hls (hv 0 t v (by simp) (by simp)) h0
      obtain ⟨as, h3, h4⟩ := args_of hl hr (fun j t v ht hv' => hv (j + 1) t v (by simpa using ht) (by simpa using hv'))
      exact ⟨dv :: as, .cons h1 h3, .cons h2 h4⟩
    · cases ht

theorem sameAt_of {W' : World} (h : ∀ x, x < W.heap.size → W'.heap[x]? = W.heap[x]?) {p : MemPlace} (hp : p.block < W.heap.size) : W.sameAt W' p := by
  cases p with
  | cell b o => simp only [World.sameAt, World.cell?, h b hp]
  | map b => exact h b hp

theorem trodAll_stays {W' : World} {sp : Nat → Bool} (hl : laidOutB P = true) (hsame : ∀ x, x < W.heap.size → W'.heap[x]? = W.heap[x]?) (hsp : ∀ x, x < W.heap.size → sp x = true) :
    ∀ {ts : List TypeId} {vs : List Value} {ds : List (DataW H)} {p : List MemPlace}, (∀ t ∈ ts, P.readableRec t = true ∧ t < P.types.size) → DataW.TrodAll enc P W base (fun _ => true) true ts vs ds p → (∀ q ∈ p, q.block < W.heap.size) →
      DataW.TrodAll enc P W' base sp true ts vs ds p
  | [], vs, ds, p, _, h, _ => by
    obtain ⟨rfl, rfl, rfl⟩ := trodAll_nil h
    exact trodAll_mk0
  | t :: ts, vs, ds, p, ht, h, hp => by
    obtain ⟨v, vs', d, ds', p0, q0, rfl, rfl, rfl, h0, hr⟩ := trodAll_cons h
    obtain ⟨hr1, hr2⟩ := ht t (List.mem_cons_self ..)
    exact trodAll_cons_mk (WideElems.Trod_stays hl hr1 hr2 h0 (fun q hq => sameAt_of hsame (hp q (List.mem_append_left _ hq))) (fun q hq => hsp _ (hp q (List.mem_append_left _ hq))))
      (trodAll_stays hl hsame hsp (fun t' h' => ht t' (List.mem_cons_of_mem _ h')) hr (fun q hq => hp q (List.mem_append_right _ hq)))

theorem keptBut_of {W' : World} (h : ∀ x, x < W.heap.size → W'.heap[x]? = W.heap[x]?) (hw : W'.os = W.os ∧ W'.output = W.output) (may : MemPlace → Prop) : W.keptBut W' may := by
  refine ⟨hw.1, hw.2, fun i hi => ?_⟩
  rw [h i hi]
  split <;> simp_all

theorem trodAll_length2 : ∀ {ts : List TypeId} {vs : List Value} {ds : List (DataW H)} {ps : List MemPlace}, DataW.TrodAll enc P W base spare held ts vs ds ps → ds.length = ts.length
  | [], _, _, _, h => by obtain ⟨_, rfl, _⟩ := trodAll_nil h; rfl
  | _ :: _, _, _, _, h => by
    obtain ⟨v, vs', d, ds', p0, q0, rfl, rfl, rfl, h0, hr⟩ := trodAll_cons h
    simp [trodAll_length2 hr]

/-- THE ROW's CALL. -/
theorem calls_post {G : Glo} {f : FuncId} {fn : Func} {s : ChangeSpec} {m : Nat} {tys : List ArgTy} {tb : TypeId} {apart : Bool} {args : Array Value} {ds gs : List (DataW H)} {before : List MemPlace} {b0 : Nat}
    (hl : laidOutB P = true) (hp' : fn.params.toList.all (fun t => P.readableRec t && decide (t < P.types.size)) = true) (ht : argTys P m fn.params.toList = some tys) (hr : fn.resultTypes = #[tb]) (hb : P.underlying tb = some .bool)
    (hsv : s.vars = []) (hs : ∀ ds : List (DataW H), ds.length = fn.params.toList.length → s.fn H ds = { results := [.lit (.bool true)], args := ds })
    (hcon : ∀ as, All2 IsArg tys as → ConX P G f as [(false, [.b true])])
    (hval : ∀ (j : Nat) t v, fn.params[j]? = some t → args[j]? = some v → Value.okWide P W .any b0 t v)
    (hW : DataW.Whole enc P fn.params.toList s.vars apart W args.toList ds gs before) (hG : GR G (fun x => x < W.heap.size) W) (hf : f < eatOff := by decide) :
    Calls P f args W fun e W' => ∃ v, e = .returned v ∧ s.post enc P fn apart true false false W args v W' := by
  have hp : ∀ t ∈ fn.params.toList, P.readableRec t = true ∧ t < P.types.size := fun t h => by simpa using List.all_eq_true.1 hp' t h
  have hW' := hW
  obtain ⟨p, q, hA, hV, rfl, hfz, hnd⟩ := hW
  rw [hsv] at hV
  obtain ⟨rfl, rfl⟩ := trodVars_none hV
  obtain ⟨as, h1, h2⟩ := args_of ht hA (b0 := b0) (fun j t v h h' => hval j t v (by simpa using h) (by simpa using h'))
  have hcl := (hcon as h2).1 hf (fun x => x < W.heap.size) W args.toList hG (fun _ h => h) h1
  simp only [Array.toArray_toList] at hcl
  refine hcl.mono ?_
  rintro e W' ⟨v, I', rfl, -, -, -, hsame, hsz, hw, hR⟩
  have hv : v = .bool true := by
    simp only [RsR, DVR, Bool.false_eq_true, if_false] at hR
    obtain ⟨d, hd, hr⟩ := hR
    cases hd
    cases hr
    rfl
  subst hv
  have hlen : ds.length = fn.params.toList.length := (trodAll_length2 hA)
  refine ⟨_, rfl, ds, [], p ++ [], [], p, [], hW', ?_, ?_, ?_, keptBut_of hsame hw _, fun h => by cases h⟩
  · rw [List.append_nil, hs ds hlen, hr]
    exact trodAll_cons_mk (shut_bool hb _) trodAll_mk0
  · rw [List.append_nil, hs ds hlen]
    exact trodAll_stays hl hsame (fun x hx => by simpa using hx) hp hA (fun q hq => hA.lt q hq)
  · rw [List.append_nil, hs ds hlen, hsv]
    rfl
end

theorem cons_inv {α β : Type} {R : α → β → Prop} {a : α} {as : List α} {bs : List β} (h : All2 R (a :: as) bs) : ∃ b bs', bs = b :: bs' ∧ R a b ∧ All2 R as bs' := by
  cases h with
  | cons h1 h2 => exact ⟨_, _, rfl, h1, h2⟩
theorem nil_inv {α β : Type} {R : α → β → Prop} {bs : List β} (h : All2 R [] bs) : bs = [] := by cases h; rfl
theorem ty_i {k : IntKind} {d : D} (h : HasTy (.i k) d) : ∃ z, (Lit.int k z).wf = true ∧ d = .i k z := by
  cases h with
  | i _ z hz => exact ⟨z, hz, rfl⟩
theorem ty_b {d : D} (h : HasTy .b d) : ∃ x, d = .b x := by
  cases h with
  | b x => exact ⟨x, rfl⟩
theorem arg_i {k : IntKind} {v : DV} (h : IsArg (false, [.i k]) v) : ∃ z, (Lit.int k z).wf = true ∧ v = (false, [.i k z]) := by
  obtain ⟨g, ds⟩ := v
  obtain ⟨rfl, h⟩ := h
  obtain ⟨d, r, rfl, h0, h⟩ := cons_inv h
  obtain rfl := nil_inv h
  obtain ⟨z, hz, rfl⟩ := ty_i h0
  exact ⟨z, hz, rfl⟩
theorem arg_b {v : DV} (h : IsArg (false, [.b]) v) : ∃ x, v = (false, [.b x]) := by
  obtain ⟨g, ds⟩ := v
  obtain ⟨rfl, h⟩ := h
  obtain ⟨d, r, rfl, h0, h⟩ := cons_inv h
  obtain rfl := nil_inv h
  obtain ⟨x, rfl⟩ := ty_b h0
  exact ⟨x, rfl⟩
/-- a slice of numbers -/
theorem ty_ints {k : IntKind} {d : D} (h : HasTy (.sl [.i k]) d) : ∃ zs : List Int, zs.length ≤ maxLen ∧ (∀ z ∈ zs, (Lit.int k z).wf = true) ∧ d = .sl 1 (zs.map fun z => [.i k z]) := by
  cases h with
  | sl _ xs hm hl h =>
    suffices hs : ∃ zs : List Int, (∀ z ∈ zs, (Lit.int k z).wf = true) ∧ xs = zs.map fun z => [.i k z] by
      obtain ⟨zs, h1, rfl⟩ := hs
      exact ⟨zs, by simpa using hm, h1, rfl⟩
    clear hm
    induction xs with
    | nil => exact ⟨[], by simp, rfl⟩
    | cons r xs ih =>
      obtain ⟨zs, h1, h2⟩ := ih (fun r hr => hl r (List.mem_cons_of_mem _ hr)) (fun i j r t d hi => h (i + 1) j r t d (by simpa using hi))
      have hr := hl r (List.mem_cons_self ..)
      match r, hr with
      | [d], _ =>
        obtain ⟨z, hz, rfl⟩ := ty_i (h 0 0 [d] (.i k) d (by simp) (by simp) (by simp))
        exact ⟨z :: zs, fun x hx => by rcases List.mem_cons.1 hx with rfl | hx; exact hz; exact h1 x hx, by simp [h2]⟩
theorem arg_ints {k : IntKind} {v : DV} (h : IsArg (false, [.sl [.i k]]) v) : ∃ zs : List Int, zs.length ≤ maxLen ∧ (∀ z ∈ zs, (Lit.int k z).wf = true) ∧ v = (false, [.sl 1 (zs.map fun z => [.i k z])]) := by
  obtain ⟨g, ds⟩ := v
  obtain ⟨rfl, h⟩ := h
  obtain ⟨d, r, rfl, h0, h⟩ := cons_inv h
  obtain rfl := nil_inv h
  obtain ⟨zs, h1, h2, rfl⟩ := ty_ints h0
  exact ⟨zs, h1, h2, rfl⟩

/-- what a card asks of a program without looks -/
theorem plain_of {P : Program} {n : String} {f f' : FuncId} {fn fn' : Func} (hn : P.funcNamed n = some f) (hfn : P.funcs[f]? = some fn) (hl : false = P.looks []) (hw : fn.params.all (fun t => !P.wantsStandIn t) = true)
    (hf : P.funcNamed n = some f') (hfn' : P.funcs[f']? = some fn') : false = P.looks [] ∧ ∀ (j : Nat) t, fn'.params[j]? = some t → P.wantsStandIn t = false := by
  rw [hn] at hf
  cases hf
  rw [hfn] at hfn'
  cases hfn'
  refine ⟨hl, fun j t ht => ?_⟩
  have := Array.all_eq_true.1 hw j (Array.getElem?_eq_some_iff.1 ht).1
  rw [(Array.getElem?_eq_some_iff.1 ht).2] at this
  simpa using this

theorem gr_nil {I : Imm} {w : World} : GR [] I w := fun g ds h => by cases h
theorem gr_cons {P : Program} {I : Imm} {w : World} {x : Nat × List D} {G : Glo} (h : VarIs P I w x.1 x.2) (hG : GR G I w) : GR (x :: G) I w := fun g ds hd => by
  obtain ⟨k, ls⟩ := x
  unfold Glo.at at hd
  split at hd
  · rename_i hk
    subst hk
    cases hd
    exact h
  · exact hG g ds hd
end Go.Proofs.YtlihbielphcgbaaGreatDoor.Sx
