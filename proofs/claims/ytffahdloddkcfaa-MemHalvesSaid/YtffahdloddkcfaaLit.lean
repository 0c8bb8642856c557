/-
  A listed variable holds the leaves of what the row lists.
-/
import Derived.Test.YtffahdloddkcfaaOpen
namespace Go.Proofs.Ytffahdloddkcfaa.Sx
open Go
set_option linter.unnecessarySimpa false
set_option linter.unusedSimpArgs false
set_option linter.unusedVariables false

def allSome {α : Type} : List (Option α) → Option (List α)
  | [] => some []
  | some a :: r => match allSome r with | some l => some (a :: l) | none => none
  | none :: _ => none

theorem allSome_get {α : Type} : ∀ {l : List (Option α)} {r : List α}, allSome l = some r → r.length = l.length ∧ ∀ (i : Nat) (a : α), r[i]? = some a → l[i]? = some (some a)
  | [], r, h => by simp [allSome] at h; subst h; simp
  | none :: l, r, h => by simp [allSome] at h
  | some a :: l, r, h => by
    simp only [allSome] at h
    split at h
    · rename_i l' hl
      cases h
      obtain ⟨h1, h2⟩ := allSome_get hl
      refine ⟨by simp [h1], fun i b hb => ?_⟩
      cases i with
      | zero => simpa using hb
      | succ i => simpa using h2 i b (by simpa using hb)
    · cases h

section
variable {H : Type}

def fieldLits (P : Program) (g : TypeId → DataW H → Option (List D)) : Nat → List Field → List (DataW H) → Option (List D)
  | _, [], [] => some []
  | off, f :: r, d :: ds =>
    if f.offset = off then
      match g f.type d, fieldLits P g (off + P.cellsOf f.type) r ds with
      | some a, some b => if a.length = P.cellsOf f.type then some (a ++ b) else none
      | _, _ => none
    else none
  | _, _, _ => none

/-- the leaves of data that is told -/
def litD (P : Program) (fun? : H → Option FuncId) : Nat → TypeId → DataW H → Option (List D)
  | 0, _, _ => none
  | n + 1, t, d =>
    match P.underlying t, d with
    | some (.int k), .lit (.int k' z) => if k' = k then some [.i k z] else none
    | some (.func ..), .held h => match fun? h with | some f => some [.f f] | none => none
    | some (.array m e), .agg ps =>
      match allSome (ps.map (litD P fun? n e)) with
      | some rs => if ps.length = m ∧ P.cellsOf t = m * P.cellsOf e ∧ rs.all (·.length == P.cellsOf e) = true then some rs.flatten else none
      | none => none
    | some (.struct fs), .agg ps =>
      match fieldLits P (litD P fun? n) 0 fs.toList ps with
      | some ds => if ds.length = P.cellsOf t then some ds else none
      | none => none
    | _, _ => none

variable {enc : TypeId × Value → H} {P : Program} {w : World} {base : Nat} {spare : Nat → Bool} {held : Bool} {I : Imm}

theorem rows_lit {sz : Nat} : ∀ (rs : List (List D)) (cs : List Value), cs.length = rs.length * sz → (∀ (i : Nat) (r : List D), rs[i]? = some r → All2 (DR I w) r ((cs.drop (i * sz)).take sz)) → All2 (DR I w) rs.flatten cs
  | [], cs, hl, _ => by
    have : cs = [] := List.length_eq_zero_iff.1 (by simpa using hl)
    subst this
    exact .nil
  | r :: rs, cs, hl, h => by
    have h1 := h 0 r (by simp)
    simp only [Nat.zero_mul, List.drop_zero] at h1
    have h2 := rows_lit (sz := sz) rs (cs.drop sz) (by rw [List.length_drop, hl, List.length_cons, Nat.succ_mul]; omega) (fun i r' hr => by
      have := h (i + 1) r' (by simpa using hr)
      rwa [Nat.succ_mul, Nat.add_comm, ← List.drop_drop] at this)
    have := h1.append h2
    rwa [List.take_append_drop] at this

theorem fields_lit {g : TypeId → DataW H → Option (List D)} {cs : List Value} :
    ∀ (fs : List Field) (ps : List (DataW H)) (off : Nat) (ds : List D), fieldLits P g off fs ps = some ds → cs.length = off + ds.length →
      (∀ (i : Nat) (f : Field) (d : DataW H) (es : List D), fs[i]? = some f → ps[i]? = some d → g f.type d = some es → All2 (DR I w) es ((cs.drop f.offset).take (P.cellsOf f.type))) → All2 (DR I w) ds (cs.drop off)
  | [], [], off, ds, h, hl, _ => by
    simp only [fieldLits, Option.some.injEq] at h
    subst h
    rw [List.drop_of_length_le (by simp at hl; omega)]
    exact .nil
  | f :: r, d :: ps, off, ds, h, hl, hr => by
    unfold fieldLits at h
    split at h
    · rename_i hoff
      split at h
      · rename_i a b ha hb
        split at h
        · rename_i hal
          cases h
          have h1 := hr 0 f d a (by simp) (by simp) ha
          have h2 := fields_lit r ps (off + P.cellsOf f.type) b hb (by rw [hl, List.length_append, hal]; omega) (fun i f' d' es h1 h2 => hr (i + 1) f' d' es (by simpa using h1) (by simpa using h2))
          have := h1.append h2
          rw [hoff] at this
          rwa [← List.drop_drop, List.take_append_drop] at this
        · cases h
      · cases h
    · cases h
  | [], _ :: _, _, _, h, _, _ => by simp [fieldLits] at h
  | _ :: _, [], _, _, h, _, _ => by simp [fieldLits] at h

/-- WHAT THE ROW LISTS, THE CELLS HOLD. -/
theorem lit_of {fun? : H → Option FuncId} (hf : ∀ t fn first cap f, fun? (enc (t, .func fn first cap)) = some f → fn = .func f ∧ first = #[] ∧ cap = #[]) :
    ∀ (m : Nat) (fuel : Nat) (t : TypeId) (cs : List Value) (d : DataW H) (p : List MemPlace) (ds : List D), litD P fun? m t d = some ds → DataW.trod enc P w base spare held fuel t cs = some (d, p) → All2 (DR I w) ds cs
  | 0, _, _, _, _, _, _, h, _ => by simp [litD] at h
  | m + 1, fuel, t, cs, d, p, ds, h, hx => by
    unfold litD at h
    split at h
    · rename_i k k' z hu
      split at h
      · cases h
        obtain ⟨z', rfl, he, _⟩ := DataW.trod_int hu hx
        cases he
        exact .cons (.i k z) .nil
      · cases h
    · rename_i s r b hh hu
      split at h
      · rename_i f hff
        cases h
        cases fuel with
        | zero => simp [DataW.trod] at hx
        | succ fuel =>
          unfold DataW.trod at hx
          rw [hu] at hx
          split at hx <;> first
            | (simp at hx; done)
            | (rename_i heq; cases heq; done)
            | skip
          all_goals first
            | (split at hx
               · cases hx
                 rename_i fn first cap _ _ _ _
                 obtain ⟨rfl, rfl, rfl⟩ := hf _ _ _ _ _ hff
                 exact .cons (.f f) .nil
               · cases hx)
            | skip
      · cases h
    · rename_i n e ps hu
      split at h
      · rename_i rs hrs
        split at h
        · rename_i hc
          obtain ⟨hc1, hc2, hc3⟩ := hc
          cases h
          obtain ⟨h1, h2⟩ := allSome_get hrs
          rw [List.length_map] at h1
          obtain ⟨xs, n', _, he, hl, hlen, hg⟩ := DataW.trod_array hu hx
          simp only [Prod.mk.injEq, DataW.agg.injEq] at he
          obtain ⟨rfl, _⟩ := he
          simp only [List.length_map] at hc1 h1
          refine rows_lit (sz := P.cellsOf e) rs cs (by rw [hl, hc2, h1, hc1]) (fun i r hr => ?_)
          have hi : i < xs.length := by
            have := (List.getElem?_eq_some_iff.1 hr).1
            omega
          have h3 := h2 i r hr
          rw [List.getElem?_map, List.getElem?_map, List.getElem?_eq_getElem hi] at h3
          simp only [Option.map_some, Option.some.injEq] at h3
          have h4 := hg i (by omega)
          rw [List.getElem?_eq_getElem hi] at h4
          exact lit_of hf m n' e _ xs[i].1 xs[i].2 r h3 h4
        · cases h
      · cases h
    · rename_i fs ps hu
      split at h
      · rename_i es hes
        split at h
        · rename_i hc
          cases h
          obtain ⟨xs, n', _, he, hl, hlen, hg⟩ := DataW.trod_struct hu hx
          simp only [Prod.mk.injEq, DataW.agg.injEq] at he
          obtain ⟨rfl, _⟩ := he
          have := fields_lit (P := P) (I := I) (w := w) (cs := cs) fs.toList _ 0 ds hes (by rw [hl, hc]; omega) (fun i f d' es' h1 h2 h3 => by
            have h4 := hg i f (by simpa using h1)
            have hi : i < xs.length := by
              have := (List.getElem?_eq_some_iff.1 h2).1
              simpa using this
            rw [List.getElem?_eq_getElem hi] at h4
            rw [List.getElem?_map, List.getElem?_eq_getElem hi] at h2
            simp only [Option.map_some, Option.some.injEq] at h2
            subst h2
            exact lit_of hf m n' f.type _ xs[i].1 xs[i].2 es' h3 h4)
          simpa using this
        · cases h
      · cases h
    · cases h
end

/-- A listed variable's block. -/
def VarIs (P : Program) (I : Imm) (w : World) (g : Nat) (ds : List D) : Prop :=
  I g ∧ ∃ (vs : List Value) (ty : TypeId) (fz : Nat × Nat), w.heap[g]? = some (.cells vs.toArray ty fz) ∧ All2 (DR I w) ds vs

theorem var_block {P : Program} {w : World} {n : String} {g : Nat} {cs : Array Value} (hg : P.globalNamed n = some g) (h : w.var? P n = some cs) : ∃ ty fz, w.heap[g]? = some (.cells cs ty fz) := by
  unfold World.var? at h
  rw [hg] at h
  simp only [Option.bind_some] at h
  split at h
  · rename_i c ty fz hc
    cases h
    exact ⟨ty, fz, hc⟩
  · cases h

theorem VarIs.of {H : Type} {enc : TypeId × Value → H} {P : Program} {w : World} {sp : Nat → Bool} {held : Bool} {fuel : Nat} {t : TypeId} {cs : Array Value} {d : DataW H} {p : List MemPlace} {n : String} {g m : Nat} {ds : List D} {I : Imm}
    {fun? : H → Option FuncId} (hf : ∀ t fn first cap f, fun? (enc (t, .func fn first cap)) = some f → fn = .func f ∧ first = #[] ∧ cap = #[])
    (hg : P.globalNamed n = some g) (hv : w.var? P n = some cs) (hd : DataW.trod enc P w 0 sp held fuel t cs.toList = some (d, p)) (hl : litD P fun? m t d = some ds) (hI : ∀ x, x < w.heap.size → I x) : VarIs P I w g ds := by
  obtain ⟨ty, fz, hb⟩ := var_block hg hv
  exact ⟨hI _ (Array.getElem?_eq_some_iff.1 hb).1, cs.toList, ty, fz, by simpa using hb, lit_of hf m fuel t _ _ _ ds hl hd⟩

/-- the one function of a name -/
def funT (P : Program) (s : List UInt8) : Option FuncId :=
  match s with
  | [] => none
  | _ => match (List.range P.funcs.size).filter fun f => (P.funcs[f]?).any (·.name.toUTF8.data.toList == s) with
    | [f] => some f
    | _ => none

theorem funT_tells {P : Program} : ∀ t fn first cap f, funT P (funcToken P (t, .func fn first cap)) = some f → fn = .func f ∧ first = #[] ∧ cap = #[] := by
  intro t fn first cap f h
  unfold funT at h
  split at h
  · cases h
  · rename_i s hs
    split at h
    · rename_i f' hf
      cases h
      cases hk : funcToken P (t, .func fn first cap) with
      | nil => exact absurd hk hs
      | cons b r =>
        obtain ⟨f0, fn0, he, hf0, _, hb⟩ := funcToken_tells hk
        cases he
        rw [hk] at hf
        have hm : f0 ∈ (List.range P.funcs.size).filter fun f => (P.funcs[f]?).any (·.name.toUTF8.data.toList == b :: r) :=
          List.mem_filter.2 ⟨List.mem_range.2 (Array.getElem?_eq_some_iff.1 hf0).1, by rw [hf0]; simpa using hb⟩
        rw [hf] at hm
        rw [List.mem_singleton.1 hm]
        exact ⟨rfl, rfl, rfl⟩
    · cases h

/-- A listed table of functions. -/
theorem VarIs.funcs {P : Program} {w : World} {I : Imm} {laid : List (String × DataW Unit)} {n : String} {d : DataW Unit} {g t : Nat} {ds : List D} (m : Nat) (h : laidMetH P laid w) (hx : (n, DataW.iface "func table" d) ∈ laid)
    (hg : P.globalNamed n = some g) (ht : (P.globals[g]?).map (·.type) = some t) (hl : litD P (funT P) m t d.funcsOut = some ds) (hI : ∀ x, x < w.heap.size → I x) : VarIs P I w g ds := by
  obtain ⟨g', t', cs, fuel, p, h1, h2, h3, h4⟩ := laidMetH.funcs h hx
  rw [hg] at h1
  cases h1
  rw [ht] at h2
  cases h2
  exact VarIs.of funT_tells hg h3 h4 hl hI

/-- The next variable of the list. -/
theorem laidVars_cons {P : Program} {w : World} {I : Imm} {n : String} {d : DataW Unit} {r : List (String × DataW Unit)} {ps : List MemPlace} {g t : Nat} {ds : List D} (m : Nat)
    (hg : P.globalNamed n = some g) (ht : (P.globals[g]?).map (·.type) = some t) (hl : litD P (fun _ => none) m t d = some ds) (hI : ∀ x, x < w.heap.size → I x)
    (h : DataW.LaidVars P w ((n, d) :: r) ps) : VarIs P I w g ds ∧ ∃ q, DataW.LaidVars P w r q := by
  obtain ⟨g', t', cs, fuel, p, q, h1, h2, h3, h4, h5, _⟩ := h
  rw [hg] at h1
  cases h1
  rw [ht] at h2
  cases h2
  exact ⟨VarIs.of (fun _ _ _ _ _ h => by cases h) hg h3 h4 hl hI, q, h5⟩
end Go.Proofs.Ytffahdloddkcfaa.Sx
