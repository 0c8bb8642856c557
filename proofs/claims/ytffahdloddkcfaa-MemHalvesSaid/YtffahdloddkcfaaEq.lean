/-
  Equality of structs and arrays of numbers and bools, leaf by leaf.
-/
import Derived.Test.YtffahdloddkcfaaMem
import Derived.Laws.StructEq
namespace Go.Proofs.Ytffahdloddkcfaa.Sx
open Go
set_option linter.unnecessarySimpa false
set_option linter.unusedSimpArgs false
set_option linter.unusedVariables false

/-- what eqLs reckons, lazily -/
def eqDs (ρ : List D) : List Bool → List Ex → List Ex → Option Bool
  | [], [], [] => some true
  | g :: gs, x :: xs, y :: ys => match (Ex.eqt g x y).eval ρ with
    | some (.b true) => eqDs ρ gs xs ys
    | some (.b false) => some false
    | _ => none
  | _, _, _ => none

theorem eqtD_bool {g : Bool} {a b d : D} (h : eqtD g a b = some d) : ∃ q, d = .b q := by
  unfold eqtD at h
  split at h
  · split at h <;> simp at h; exact ⟨_, h.symm⟩
  · split at h
    · simp at h
    · split at h <;> simp at h; exact ⟨_, h.symm⟩
  · cases h

theorem eqLs_eval {ρ : List D} : ∀ {gs : List Bool} {xs ys : List Ex} {r : Ex}, eqLs gs xs ys = some r → r.eval ρ = (eqDs ρ gs xs ys).map D.b
  | [], [], [], r, h => by simp [eqLs] at h; subst h; simp [Ex.eval, eqDs]
  | g :: gs, x :: xs, y :: ys, r, h => by
    simp only [eqLs] at h
    split at h
    · rename_i r' hr'
      cases h
      rw [mkIte_eval]
      simp only [Ex.eval, mkEqt_eval, eqDs, eqLs_eval hr']
      cases x.eval ρ with
      | none => simp
      | some a =>
        cases y.eval ρ with
        | none => simp
        | some b =>
          simp only
          cases hq : eqtD g a b with
          | none => simp
          | some d =>
            obtain ⟨q, rfl⟩ := eqtD_bool hq
            cases q <;> simp
    · cases h
  | [], _ :: _, _, _, h => by simp [eqLs] at h
  | [], [], _ :: _, _, h => by simp [eqLs] at h
  | _ :: _, [], _, _, h => by simp [eqLs] at h
  | _ :: _, _ :: _, [], _, h => by simp [eqLs] at h

theorem eqDs_append {ρ : List D} : ∀ {gs : List Bool} {xs ys : List Ex} (hs : List Bool) (xs' ys' : List Ex), xs.length = gs.length → ys.length = gs.length →
    eqDs ρ (gs ++ hs) (xs ++ xs') (ys ++ ys') = match eqDs ρ gs xs ys with
      | some true => eqDs ρ hs xs' ys'
      | r => r
  | [], [], [], hs, xs', ys', _, _ => by simp [eqDs]
  | g :: gs, x :: xs, y :: ys, hs, xs', ys', h1, h2 => by
    simp only [List.cons_append, eqDs]
    cases (Ex.eqt g x y).eval ρ with
    | none => simp
    | some d =>
      cases d with
      | b q =>
        cases q
        · simp
        · simp only; exact eqDs_append hs xs' ys' (by simpa using h1) (by simpa using h2)
      | _ => simp
  | [], _ :: _, _, _, _, _, h, _ => by simp at h
  | [], _, _ :: _, _, _, _, _, h => by simp at h
  | _ :: _, [], _, _, _, _, h, _ => by simp at h
  | _ :: _, _, [], _, _, _, _, h => by simp at h

/-- a value of a type, and its cells -/
def ValOf (P : Program) (t : TypeId) (vs : List Value) (v : Value) : Prop :=
  (aggT P t = some true ∧ v = .agg vs.toArray) ∨ (aggT P t = some false ∧ vs = [v])

section
variable {P : Program} {I : Imm} {μ : Mu} {w : World} {ρ : List D}

theorem run_isAgg {t : TypeId} {g : Bool} (h : aggT P t = some g) (w : World) : (isAgg t).run P w = .ok g w := by
  unfold aggT at h
  unfold isAgg
  split at h
  · rename_i fs hu; cases h; simp [run_underlying hu]
  · rename_i n e hu; cases h; simp [run_underlying hu]
  · rename_i d hn1 hn2 hu
    cases h
    rw [Sem.run_bind, run_underlying hu]
    cases d <;> simp_all
  · cases h

theorem run_sizeT {t : TypeId} {n : Nat} (h : sizeT P t = some n) (w : World) : (sizeOf t).run P w = .ok n w := by
  unfold sizeT at h
  split at h
  · rename_i i hi; cases h; simp [sizeOf, typeInfo, hi]
  · cases h

theorem run_part {t : TypeId} {n off : Nat} {vs : List Value} (hs : sizeT P t = some n) {g : Bool} (hg : aggT P t = some g) (hl : off + n ≤ vs.length) (h1 : g = false → n = 1) (w : World) :
    ∃ v, (part t vs.toArray off).run P w = .ok v w ∧ ValOf P t ((vs.drop off).take n) v := by
  unfold part
  cases g
  · obtain rfl := h1 rfl
    have hlt : off < vs.length := by omega
    refine ⟨vs[off], ?_, .inr ⟨hg, ?_⟩⟩
    · simp [run_isAgg hg, hlt]
    · rw [List.drop_eq_getElem_cons hlt]; simp only [List.take_succ_cons, List.take_zero]
  · refine ⟨_, ?_, .inl ⟨hg, rfl⟩⟩
    simp only [Sem.run_bind, run_isAgg hg, Result.andThen_ok, if_true, run_sizeT hs]
    simp [Sem.run_bind, run_sizeT hs, List.extract_eq_take_drop]

theorem aggT_bool {t : TypeId} (h : P.underlying t = some .bool) : aggT P t = some false := by simp [aggT, h]
theorem aggT_int {t : TypeId} {k : IntKind} (h : P.underlying t = some (.int k)) : aggT P t = some false := by simp [aggT, h]
theorem aggT_struct {t : TypeId} {fs : Array Field} (h : P.underlying t = some (.struct fs)) : aggT P t = some true := by simp [aggT, h]
theorem aggT_array {t : TypeId} {n : Nat} {e : TypeId} (h : P.underlying t = some (.array n e)) : aggT P t = some true := by simp [aggT, h]

theorem plainT_agg {d : Nat} {t : TypeId} {gs : List Bool} (h : plainT P d t = some gs) : ∃ g, aggT P t = some g ∧ (g = false → gs.length = 1) := by
  cases d with
  | zero => simp [plainT] at h
  | succ d =>
    simp only [plainT] at h
    split at h
    · rename_i hu; cases h; exact ⟨false, aggT_bool hu, fun _ => rfl⟩
    · rename_i k hu; cases h; exact ⟨false, aggT_int hu, fun _ => rfl⟩
    · rename_i fs hu; exact ⟨true, aggT_struct hu, fun h => by cases h⟩
    · rename_i n e hu; exact ⟨true, aggT_array hu, fun h => by cases h⟩
    · cases h

theorem lsR_ex {xs : List Ex} {vs : List Value} (h : LsR I μ w ρ (xs.map .e) vs) : All2 (fun x v => ∃ d, Ex.eval ρ x = some d ∧ DR I w d v) xs vs := All2.of_map_left h

def eqChain (q : Nat → Option Bool) : Nat → Nat → Option Bool
  | 0, _ => some true
  | n + 1, j => match q j with
    | some true => eqChain q n (j + 1)
    | z => z

theorem eqArr_run (Q : Nat → Sem Bool) (q : Nat → Option Bool) : ∀ (len i : Nat) (r : Bool) (w : World),
    (∀ j b, i ≤ j → j < i + len → q j = some b → (Q j).run P w = .ok b w) →
    eqChain q len i = some r →
    (do
      for j in List.range' i len do
        if !(← Q j) then return false
      pure true : Sem Bool).run P w = .ok r w
  | 0, i, r, w, _, h => by simp [eqChain] at h; subst h; simp
  | len + 1, i, r, w, hQ, h => by
    simp only [List.range'_succ]
    simp only [List.forIn_cons, Sem.run_bind]
    simp only [eqChain] at h
    cases hq : q i with
    | none => rw [hq] at h; cases h
    | some b =>
      rw [hQ i b (Nat.le_refl _) (by omega) hq]
      rw [hq] at h
      cases b
      · simp only at h; cases h
        simp
      · simp only at h
        simp only [Result.andThen_ok, Bool.not_true, Bool.false_eq_true, if_false]
        have ih := eqArr_run Q q len (i + 1) r w (fun j b h1 h2 => hQ j b (by omega) (by omega)) h
        simp only [Sem.run_bind] at ih
        simpa using ih

mutual
theorem eq_sound : ∀ (d : Nat) {t : TypeId} {gs : List Bool}, plainT P d t = some gs → ∀ (N : Nat), d ≤ N → ∀ {xs ys : List Ex} {vs us : List Value} {X Y : Value} {q : Bool},
    xs.length = gs.length → ys.length = gs.length → LsR I μ w ρ (xs.map .e) vs → LsR I μ w ρ (ys.map .e) us → ValOf P t vs X → ValOf P t us Y → eqDs ρ gs xs ys = some q →
    (Op.equalIn N t X Y).run P w = .ok q w
  | 0, t, gs, h => by simp [plainT] at h
  | d + 1, t, gs, h => by
    intro N hN xs ys vs us X Y q hx hy hvs hus hX hY hq
    obtain ⟨N, rfl⟩ : ∃ m, N = m + 1 := ⟨N - 1, by omega⟩
    simp only [plainT] at h
    split at h
    · -- bool
      rename_i hu
      cases h
      match xs, ys, hx, hy with
      | [x], [y], _, _ =>
        rcases hX with ⟨hg, _⟩ | ⟨_, rfl⟩
        · rw [aggT_bool hu] at hg; cases hg
        rcases hY with ⟨hg, _⟩ | ⟨_, rfl⟩
        · rw [aggT_bool hu] at hg; cases hg
        cases hvs with | cons h1 _ =>
        cases hus with | cons h2 _ =>
        obtain ⟨dx, hdx, hrx⟩ := h1
        obtain ⟨dy, hdy, hry⟩ := h2
        simp only [eqDs, Ex.eval, hdx, hdy] at hq
        cases dx <;> cases dy <;> simp only [eqtD, if_true, Bool.false_eq_true, if_false] at hq <;> try cases hq
        rename_i a b
        cases hrx; cases hry
        rw [run_equalIn_bool' w N t a b hu]
        cases hab : (a == b) <;> rw [hab] at hq <;> simp at hq <;> subst hq <;> rfl
    · -- int
      rename_i k hu
      cases h
      match xs, ys, hx, hy with
      | [x], [y], _, _ =>
        rcases hX with ⟨hg, _⟩ | ⟨_, rfl⟩
        · rw [aggT_int hu] at hg; cases hg
        rcases hY with ⟨hg, _⟩ | ⟨_, rfl⟩
        · rw [aggT_int hu] at hg; cases hg
        cases hvs with | cons h1 _ =>
        cases hus with | cons h2 _ =>
        obtain ⟨dx, hdx, hrx⟩ := h1
        obtain ⟨dy, hdy, hry⟩ := h2
        simp only [eqDs, Ex.eval, hdx, hdy] at hq
        cases dx <;> cases dy <;> simp only [eqtD, if_true, Bool.false_eq_true, if_false] at hq <;> try cases hq
        rename_i k1 a k2 b
        cases hrx; cases hry
        by_cases hk : k1 = k2
        · subst hk
          rw [run_equalIn_int w N t k1 k a b hu]
          simp only [if_true] at hq
          cases hab : (a == b) <;> rw [hab] at hq <;> simp at hq <;> subst hq <;> rfl
        · simp [hk] at hq
    · -- struct
      rename_i fs hu
      split at h
      · cases h
      · rename_i hst
        rcases hX with ⟨_, rfl⟩ | ⟨hg, _⟩
        case inr => rw [aggT_struct hu] at hg; cases hg
        rcases hY with ⟨_, rfl⟩ | ⟨hg, _⟩
        case inr => rw [aggT_struct hu] at hg; cases hg
        have hf : P.underlying t = some (.struct (P.fieldsOf t)) := by simp [Program.fieldsOf, hu]
        have hff : P.fieldsOf t = fs := by simp [Program.fieldsOf, hu]
        rw [run_equalIn_struct w N t _ _ hf (by simpa using hst), hff]
        have := eqFs_sound d h N (by omega) (xs := xs) (ys := ys) (vs := vs) (us := us) (q := q) (by simpa using hx) (by simpa using hy) hvs hus (by simpa using hq)
        exact this
    · -- array
      rename_i n e hu
      split at h
      · rename_i gs' hgs'
        split at h
        · rename_i hsz
          cases h
          rcases hX with ⟨_, rfl⟩ | ⟨hg, _⟩
          case inr => rw [aggT_array hu] at hg; cases hg
          rcases hY with ⟨_, rfl⟩ | ⟨hg, _⟩
          case inr => rw [aggT_array hu] at hg; cases hg
          simp only [Op.equalIn, Sem.run_bind, run_underlying hu, Result.andThen_ok, run_sizeT hsz]
          obtain ⟨g, hg, hg1⟩ := plainT_agg hgs'
          have key := eqArr_run (P := P) (fun i => do
              let a ← part e vs.toArray (i * gs'.length)
              let b ← part e us.toArray (i * gs'.length)
              Op.equalIn N e a b)
            (fun i => eqDs ρ gs' ((xs.drop (i * gs'.length)).take gs'.length) ((ys.drop (i * gs'.length)).take gs'.length)) n 0 q w
            (fun j b _ hj hb => by
              have hln : (List.replicate n gs').flatten.length = n * gs'.length := by simp
              have hjn : j * gs'.length + gs'.length ≤ n * gs'.length := by
                rw [← Nat.succ_mul]; exact Nat.mul_le_mul_right _ (by omega)
              have hvl : vs.length = n * gs'.length := by have := hvs.length; simp at this; omega
              have hul : us.length = n * gs'.length := by have := hus.length; simp at this; omega
              obtain ⟨a1, ha1, hv1⟩ := run_part hsz hg (off := j * gs'.length) (vs := vs) (by omega) hg1 w
              obtain ⟨a2, ha2, hv2⟩ := run_part hsz hg (off := j * gs'.length) (vs := us) (by omega) hg1 w
              simp only [Sem.run_bind, ha1, ha2, Result.andThen_ok]
              refine eq_sound d hgs' N (by omega) (xs := (xs.drop (j * gs'.length)).take gs'.length) (ys := (ys.drop (j * gs'.length)).take gs'.length) (by simp; omega) (by simp; omega) ?_ ?_ hv1 hv2 hb
              · rw [List.map_take, List.map_drop]; exact (hvs.drop _).take _
              · rw [List.map_take, List.map_drop]; exact (hus.drop _).take _)
            (by
              have : ∀ (m i : Nat) (xs ys : List Ex), xs.length = m * gs'.length → ys.length = m * gs'.length → ∀ (X Y : List Ex), xs = X.drop (i * gs'.length) → ys = Y.drop (i * gs'.length) → ∀ q, eqDs ρ (List.replicate m gs').flatten xs ys = some q →
                  eqChain (fun j => eqDs ρ gs' ((X.drop (j * gs'.length)).take gs'.length) ((Y.drop (j * gs'.length)).take gs'.length)) m i = some q := by
                intro m
                induction m with
                | zero =>
                  intro i xs ys h1 h2 X Y _ _ q hq
                  have h1 : xs = [] := by simpa using h1
                  have h2 : ys = [] := by simpa using h2
                  subst h1; subst h2
                  simpa [eqDs, eqChain] using hq
                | succ m ih =>
                  intro i xs ys h1 h2 X Y hX hY q hq
                  have e1 : xs = xs.take gs'.length ++ xs.drop gs'.length := (List.take_append_drop _ _).symm
                  have e2 : ys = ys.take gs'.length ++ ys.drop gs'.length := (List.take_append_drop _ _).symm
                  have l1 : gs'.length ≤ xs.length := by rw [h1, Nat.succ_mul]; omega
                  have l2 : gs'.length ≤ ys.length := by rw [h2, Nat.succ_mul]; omega
                  rw [List.replicate_succ, List.flatten_cons, e1, e2, eqDs_append _ _ _ (by simp; omega) (by simp; omega)] at hq
                  rw [hX, hY] at hq
                  simp only [eqChain]
                  cases hz : eqDs ρ gs' ((X.drop (i * gs'.length)).take gs'.length) ((Y.drop (i * gs'.length)).take gs'.length) with
                  | none => rw [hz] at hq; cases hq
                  | some z =>
                    rw [hz] at hq
                    cases z
                    · exact hq
                    · simp only at hq ⊢
                      refine ih (i + 1) _ _ ?_ ?_ X Y ?_ ?_ q hq
                      · rw [← hX, List.length_drop, h1, Nat.succ_mul]; omega
                      · rw [← hY, List.length_drop, h2, Nat.succ_mul]; omega
                      · rw [List.drop_drop, Nat.succ_mul]
                      · rw [List.drop_drop, Nat.succ_mul]
              refine this n 0 xs ys ?_ ?_ xs ys (by simp) (by simp) q hq
              · simpa using hx
              · simpa using hy)
          simp only [Sem.run_bind] at key
          rw [Std.Legacy.Range.forIn_eq_forIn_range']
          simpa [Std.Legacy.Range.size] using key
        · cases h
      · cases h
    · cases h
theorem eqFs_sound : ∀ (d : Nat) {fs : List Field} {off : Nat} {gs : List Bool}, plainFs P (plainT P d) fs off = some gs → ∀ (N : Nat), d ≤ N → ∀ {xs ys : List Ex} {vs us : List Value} {q : Bool},
    xs.length = off + gs.length → ys.length = off + gs.length → LsR I μ w ρ (xs.map .e) vs → LsR I μ w ρ (ys.map .e) us → eqDs ρ gs (xs.drop off) (ys.drop off) = some q →
    (Op.eqFields N vs.toArray us.toArray fs).run P w = .ok q w
  | d, [], off, gs, h => by
    intro N hN xs ys vs us q hx hy hvs hus hq
    simp only [plainFs] at h
    cases h
    have h1 : xs.drop off = [] := List.drop_eq_nil_of_le (by simp at hx; omega)
    have h2 : ys.drop off = [] := List.drop_eq_nil_of_le (by simp at hy; omega)
    rw [h1, h2] at hq
    simp [eqDs] at hq
    subst hq
    simp [Op.eqFields]
  | d, f :: fs, off, gs, h => by
    intro N hN xs ys vs us q hx hy hvs hus hq
    simp only [plainFs] at h
    split at h
    · rename_i hn
      obtain ⟨hname, hoff⟩ := hn
      split at h
      · rename_i gs1 hgs1
        split at h
        · rename_i hsz
          split at h
          · rename_i gs2 hgs2
            cases h
            simp only [List.length_append] at hx hy
            have hvl : vs.length = xs.length := by have := hvs.length; simp at this; omega
            have hul : us.length = ys.length := by have := hus.length; simp at this; omega
            obtain ⟨g, hg, hg1⟩ := plainT_agg hgs1
            obtain ⟨a1, ha1, hv1⟩ := run_part hsz hg (off := off) (vs := vs) (by omega) hg1 w
            obtain ⟨a2, ha2, hv2⟩ := run_part hsz hg (off := off) (vs := us) (by omega) hg1 w
            have e1 : xs.drop off = (xs.drop off).take gs1.length ++ xs.drop (off + gs1.length) := by
              rw [← List.drop_drop]; exact (List.take_append_drop _ _).symm
            have e2 : ys.drop off = (ys.drop off).take gs1.length ++ ys.drop (off + gs1.length) := by
              rw [← List.drop_drop]; exact (List.take_append_drop _ _).symm
            rw [e1, e2, eqDs_append _ _ _ (by simp; omega) (by simp; omega)] at hq
            simp only [Op.eqFields, hname, ne_eq, not_false_eq_true, if_true, Sem.run_bind, hoff, ha1, ha2, Result.andThen_ok]
            cases hz : eqDs ρ gs1 ((xs.drop off).take gs1.length) ((ys.drop off).take gs1.length) with
            | none => rw [hz] at hq; cases hq
            | some z =>
              rw [hz] at hq
              have hh := eq_sound d hgs1 N hN (xs := (xs.drop off).take gs1.length) (ys := (ys.drop off).take gs1.length) (q := z) (by simp; omega) (by simp; omega)
                (by rw [List.map_take, List.map_drop]; exact (hvs.drop _).take _) (by rw [List.map_take, List.map_drop]; exact (hus.drop _).take _) hv1 hv2 hz
              rw [hh]
              cases z
              · simp only at hq; cases hq; simp
              · simp only at hq
                have ih := eqFs_sound d hgs2 N hN (xs := xs) (ys := ys) (vs := vs) (us := us) (q := q) (by omega) (by omega) hvs hus hq
                simpa using ih
          · cases h
        · cases h
      · cases h
    · cases h
end
end
end Go.Proofs.Ytffahdloddkcfaa.Sx
