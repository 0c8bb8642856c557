/-
  The other simple operations, and all of them in one.
-/
import Derived.Test.YtffahdloddkcfaaSimple
namespace Go.Proofs.Ytffahdloddkcfaa.Sx
open Go
set_option linter.unnecessarySimpa false
set_option linter.unusedSimpArgs false
set_option linter.unusedVariables false

section
variable {I : Imm} {μ : Mu} {w : World} {ρ : List D} {G : Glo} {B : Nat} {I₀ : Imm} {w₀ : World} {h : Heap} {P : Program} {fr : List S} {a : Act} {o : Oper} {cs : List Ex} {s : S} {h' : Heap}

theorem simple_move (hW : WR G B I₀ w₀ I μ w ρ h) {x : Operand} (hop : ∀ x, SR I μ w ρ (opd fr x) (a.eval x)) (ho : o.op = .move x ∨ o.op = .assign x) :
    GoesQ G B I₀ w₀ I μ w ρ ((execOp a.eval o).run P w) (opd fr x) h := by
  refine Goes.val hW (v := a.eval x) ?_ (hop x)
  rcases ho with ho | ho <;> simp [execOp, ho]

theorem simple_pick (hW : WR G B I₀ w₀ I μ w ρ h) {q x y : Operand} (hop : ∀ x, SR I μ w ρ (opd fr x) (a.eval x)) (ho : o.op = .pick q x y)
    (hs : simple P G fr h (.pick q x y) = some (cs, s, h')) : GoesQ G B I₀ w₀ I μ w ρ ((execOp a.eval o).run P w) s h' := by
  simp only [simple] at hs
  split at hs
  · rename_i t ht
    obtain ⟨d, hd, hr⟩ := e?_sound ht (hop q)
    split at hs
    · rename_i hb
      have := bool?_eval (ρ := ρ) hb
      rw [hd] at this
      cases this
      simp only [Option.some.injEq, Prod.mk.injEq] at hs
      obtain ⟨rfl, rfl, rfl⟩ := hs
      exact Goes.val hW (v := a.eval x) (by simp [execOp, ho, hr.b_inv, asBool]) (hop x)
    · rename_i hb
      have := bool?_eval (ρ := ρ) hb
      rw [hd] at this
      cases this
      simp only [Option.some.injEq, Prod.mk.injEq] at hs
      obtain ⟨rfl, rfl, rfl⟩ := hs
      exact Goes.val hW (v := a.eval y) (by simp [execOp, ho, hr.b_inv, asBool]) (hop y)
    · cases hs
  · cases hs

theorem simple_nilCheck (hW : WR G B I₀ w₀ I μ w ρ h) {x : Operand} (hop : ∀ x, SR I μ w ρ (opd fr x) (a.eval x)) (ho : o.op = .nilCheck x)
    (hs : simple P G fr h (.nilCheck x) = some (cs, s, h')) : GoesQ G B I₀ w₀ I μ w ρ ((execOp a.eval o).run P w) s h' := by
  simp only [simple] at hs
  split at hs
  · rename_i r off hl
    simp only [Option.some.injEq, Prod.mk.injEq] at hs
    obtain ⟨rfl, rfl, rfl⟩ := hs
    have hv := l?_sound hl (hop x)
    refine Goes.one hW (v := a.eval x) ?_ hv
    obtain ⟨y, _, hp⟩ := hv
    simp [execOp, ho, hp]
  · rename_i r b sz n i j hl
    simp only [Option.some.injEq, Prod.mk.injEq] at hs
    obtain ⟨rfl, rfl, rfl⟩ := hs
    have hv := l?_sound hl (hop x)
    refine Goes.one hW (v := a.eval x) ?_ hv
    obtain ⟨y, k, m, _, _, _, _, hp⟩ := hv
    simp [execOp, ho, hp]
  · rename_i t i n j hl
    simp only [Option.some.injEq, Prod.mk.injEq] at hs
    obtain ⟨rfl, rfl, rfl⟩ := hs
    have hv := l?_sound hl (hop x)
    refine Goes.one hW (v := a.eval x) ?_ hv
    obtain ⟨xs, k, m, r, blk, off, _, _, _, _, _, hp, _⟩ := hv
    simp [execOp, ho, hp]
  · rename_i q i n j hl
    simp only [Option.some.injEq, Prod.mk.injEq] at hs
    obtain ⟨rfl, rfl, rfl⟩ := hs
    have hv := l?_sound hl (hop x)
    refine Goes.one hW (v := a.eval x) ?_ hv
    obtain ⟨y, len, cap, kk, m, _, _, _, _, hp⟩ := hv
    simp [execOp, ho, hp]
  · rename_i f c hl
    simp only [Option.some.injEq, Prod.mk.injEq] at hs
    obtain ⟨rfl, rfl, rfl⟩ := hs
    have hv := l?_sound hl (hop x)
    refine Goes.one hW (v := a.eval x) ?_ hv
    obtain ⟨vs, hp, _⟩ := hv
    simp [execOp, ho, hp]
  · rename_i f hl
    simp only [Option.some.injEq, Prod.mk.injEq] at hs
    obtain ⟨rfl, rfl, rfl⟩ := hs
    have hv := l?_sound hl (hop x)
    refine Goes.one hW (v := a.eval x) ?_ hv
    obtain ⟨d, hd, hr⟩ := hv
    simp only [Ex.eval] at hd
    cases hd
    simp [execOp, ho, hr.f_inv]
  · cases hs

/-! ### building -/

theorem foldl_over (off : Nat) : ∀ (vs : List Value) (k : Nat) (cells : Array Value), off + k + vs.length ≤ cells.size →
    ((vs.zipIdx k).foldl (fun (cs : Array Value) (p : Value × Nat) => cs.setIfInBounds (off + p.2) p.1) cells) = (over cells.toList (off + k) vs).toArray
  | [], k, cells, _ => by simp [over]
  | v :: vs, k, cells, hl => by
    simp only [List.length_cons] at hl
    rw [List.zipIdx_cons, List.foldl_cons, foldl_over off vs (k + 1) _ (by simp; omega)]
    congr 1
    have hlt : off + k < cells.toList.length := by simp; omega
    simp only [over, Array.toList_setIfInBounds]
    rw [show off + (k + 1) = off + k + 1 from by omega]
    rw [List.take_set, List.take_succ_eq_append_getElem hlt]
    rw [List.set_append_right _ _ (by simp; omega)]
    have : (off + k - (List.take (off + k) cells.toList).length) = 0 := by simp; omega
    rw [this]
    simp only [List.set_cons_zero, List.length_cons]
    rw [List.drop_set_of_lt (by omega), show off + k + 1 + vs.length = off + k + (vs.length + 1) from by omega]
    simp

theorem fillS_sound {place : Nat → Option (Nat × Nat)} : ∀ (parts : List (Nat × Operand)) {ls ls' : List SL} {cur : List Value}, (∀ x, SR I μ w ρ (opd fr x) (a.eval x)) → LsR I μ w ρ ls cur →
    fillS place ls (parts.map fun q => (q.1, opd fr q.2)) = some ls' →
    ∃ cur', Instr.fill place cur.toArray (parts.map fun q => (q.1, a.eval q.2)) = some cur'.toArray ∧ LsR I μ w ρ ls' cur'
  | [], ls, ls', cur, hop, hl, hf => by
    simp only [List.map_nil, fillS] at hf
    cases hf
    exact ⟨cur, by simp [Instr.fill], hl⟩
  | (i, x) :: parts, ls, ls', cur, hop, hl, hf => by
    simp only [List.map_cons, fillS] at hf
    split at hf
    · rename_i off size g ls1 hp hx
      split at hf
      · rename_i hc
        have hv := hop x
        rw [hx] at hv
        obtain ⟨vs, hcells, hvs⟩ := VR.cells (g := g) hv
        have hvl := hvs.length
        have hll := hl.length
        obtain ⟨cur', h1, h2⟩ := fillS_sound parts hop (hl.over hvs off) hf
        refine ⟨cur', ?_, h2⟩
        simp only [List.map_cons, Instr.fill, hp, hcells]
        have hsz : ¬ (vs.toArray.size ≠ size || off + vs.toArray.size > cur.toArray.size) = true := by
          simp; omega
        rw [if_neg hsz]
        have := foldl_over off vs 0 cur.toArray (by simp; omega)
        simp only [Nat.add_zero, List.toList_toArray] at this
        rw [← Array.foldl_toList]
        rw [show vs.toArray.zipIdx.toList = vs.zipIdx 0 from by simp]
        rw [this]
        exact h1
      · cases hf
    · cases hf

theorem placesF_run : ∀ (fs : List Field) {pl : List (Nat × Nat)}, placesF P fs = some pl → ∀ w : World, (fs.mapM (m := Sem) fun f => do pure (f.offset, ← sizeOf f.type)).run P w = .ok pl w
  | [], pl, hp, w => by simp [placesF] at hp; subst hp; simp
  | f :: fs, pl, hp, w => by
    simp only [placesF] at hp
    split at hp
    · rename_i n l hn hl
      cases hp
      have ih := placesF_run fs hl w
      simp only [List.mapM_cons, Sem.run_bind, run_sizeT hn, Result.andThen_ok, Sem.run_pure, ih]
    · cases hp

theorem simple_build (hW : WR G B I₀ w₀ I μ w ρ h) {t : TypeId} {parts : Array (Nat × Operand)} (hop : ∀ x, SR I μ w ρ (opd fr x) (a.eval x)) (ho : o.op = .build t parts)
    (hs : simple P G fr h (.build t parts) = some (cs, s, h')) : GoesQ G B I₀ w₀ I μ w ρ ((execOp a.eval o).run P w) s h' := by
  simp only [simple] at hs
  split at hs
  · rename_i z fs hz hu
    split at hs
    · rename_i pl hpl
      split at hs
      · rename_i ls hls
        simp only [Option.some.injEq, Prod.mk.injEq] at hs
        obtain ⟨rfl, rfl, rfl⟩ := hs
        obtain ⟨zv, hzr, hzc⟩ := zeroT_run hz
        obtain ⟨cur, h1, h2⟩ := fillS_sound parts.toList hop (constLs_sound hzc) hls
        refine Goes.val hW (v := .agg cur.toArray) ?_ ⟨cur, rfl, h2⟩
        have hm := placesF_run fs.toList hpl w
        have hpm : (fs.mapM (m := Sem) fun f => do pure (f.offset, ← sizeOf f.type)).run P w = .ok pl.toArray w := by
          rw [Array.mapM_eq_mapM_toList, Sem.run_map, hm]
          rfl
        simp only [execOp, ho, Instr.build, Sem.run_bind, hzr, Result.andThen_ok, run_underlying hu, hpm]
        have hpar : (parts.map fun q => (q.1, a.eval q.2)).toList = parts.toList.map fun q => (q.1, a.eval q.2) := by simp
        have hplc : (fun i : Nat => pl.toArray[i]?) = (fun i : Nat => pl[i]?) := by funext i; simp
        simp only [hpar, hplc]
        simp only [Array.toArray_toList] at h1
        rw [h1]
        simp
      · cases hs
    · cases hs
  · rename_i z n e hz hu
    split at hs
    · rename_i sz hsz
      split at hs
      · rename_i ls hls
        simp only [Option.some.injEq, Prod.mk.injEq] at hs
        obtain ⟨rfl, rfl, rfl⟩ := hs
        obtain ⟨zv, hzr, hzc⟩ := zeroT_run hz
        obtain ⟨cur, h1, h2⟩ := fillS_sound parts.toList hop (constLs_sound hzc) hls
        refine Goes.val hW (v := .agg cur.toArray) ?_ ⟨cur, rfl, h2⟩
        have hpar : (parts.map fun q => (q.1, a.eval q.2)).toList = parts.toList.map fun q => (q.1, a.eval q.2) := by simp
        simp only [execOp, ho, Instr.build, Sem.run_bind, hzr, Result.andThen_ok, run_underlying hu, run_sizeT hsz, hpar]
        simp only [Array.toArray_toList] at h1
        rw [h1]
        simp
      · cases hs
    · cases hs
  · cases hs

theorem simple_makeFunc (hW : WR G B I₀ w₀ I μ w ρ h) {fn : Fn} {first caps : Array Operand} (hop : ∀ x, SR I μ w ρ (opd fr x) (a.eval x)) (ho : o.op = .makeFunc fn first caps)
    (hs : simple P G fr h (.makeFunc fn first caps) = some (cs, s, h')) : GoesQ G B I₀ w₀ I μ w ρ ((execOp a.eval o).run P w) s h' := by
  cases fn <;> simp only [simple] at hs <;> try cases hs
  rename_i f
  split at hs
  · rename_i hf
    have hf0 : first = #[] := by simpa using hf
    subst hf0
    have hcaps : ∀ (l : List Operand) (r : List (BR × Nat)), optAll (l.map fun c => match (opd fr c).l? with | some (.p r o) => some (r, o) | _ => none) = some r →
        All2 (fun (c : BR × Nat) u => ∃ x, BRef μ c.1 = some x ∧ u = .pointer (some ⟨x, c.2, none⟩)) r (l.map a.eval) := by
      intro l
      induction l with
      | nil => intro r hr; simp [optAll] at hr; subst hr; exact .nil
      | cons c l ih =>
        intro r hr
        simp only [List.map_cons] at hr
        split at hr
        · rename_i r0 o0 hl
          simp only [optAll] at hr
          split at hr
          · rename_i r' hr'
            cases hr
            obtain ⟨x, hx, hv⟩ := l?_sound hl (hop c)
            exact .cons ⟨x, hx, hv⟩ (ih _ hr')
          · cases hr
        · simp [optAll] at hr
    split at hs
    · rename_i hc
      simp only [Option.some.injEq, Prod.mk.injEq] at hs
      obtain ⟨rfl, rfl, rfl⟩ := hs
      have := hcaps _ _ hc
      have hlen := this.length
      have hc0 : caps = #[] := by
        have : caps.toList = [] := by simpa using hlen.symm
        exact Array.toList_eq_nil_iff.1 this
      subst hc0
      refine Goes.one hW (v := .func (.func f) #[] #[]) (by simp [execOp, ho, Instr.makeFunc]) ⟨_, by simp [Ex.eval], .f f⟩
    · rename_i cs' hne hc
      simp only [Option.some.injEq, Prod.mk.injEq] at hs
      obtain ⟨rfl, rfl, rfl⟩ := hs
      refine Goes.one hW (v := .func (.func f) #[] (caps.map a.eval)) (by simp [execOp, ho, Instr.makeFunc]) ⟨caps.toList.map a.eval, congrArg (Value.func (.func f) #[]) (by apply Array.toList_inj.1; simp), ?_⟩
      exact hcaps _ _ hc
    · cases hs
  · cases hs

/-! ### fields and elements -/

theorem simple_fieldAddr (hW : WR G B I₀ w₀ I μ w ρ h) {t : TypeId} {x : Operand} {k : Nat} (hop : ∀ x, SR I μ w ρ (opd fr x) (a.eval x)) (ho : o.op = .fieldAddr t x k)
    (hs : simple P G fr h (.fieldAddr t x k) = some (cs, s, h')) : GoesQ G B I₀ w₀ I μ w ρ ((execOp a.eval o).run P w) s h' := by
  simp only [simple] at hs
  split at hs
  · rename_i fs l hu hl
    split at hs
    · rename_i f hf
      split at hs
      · rename_i n hn
        split at hs
        · rename_i l' hl'
          simp only [Option.some.injEq, Prod.mk.injEq] at hs
          obtain ⟨rfl, rfl, rfl⟩ := hs
          have hv := l?_sound hl (hop x)
          have key : ∀ y off, a.eval x = .pointer (some ⟨y, off, none⟩) → (execOp a.eval o).run P w = .ok (.value (.pointer (some ⟨y, off + f.offset, none⟩))) w := fun y off hp => by
            simp [execOp, ho, Instr.fieldAt, run_underlying hu, hf, Instr.sureAddr, hp, fieldPlace, run_sizeT hn, addr_add]
          cases l with
          | p r off =>
            simp only [SL.plus, Option.some.injEq] at hl'
            subst hl'
            obtain ⟨y, hy, hp⟩ := hv
            exact Goes.one hW (key _ _ hp) ⟨y, hy, rfl⟩
          | dyn r b sz n i j =>
            simp only [SL.plus, Option.some.injEq] at hl'
            subst hl'
            obtain ⟨y, kk, m, hy, hi, h0, h1, hp⟩ := hv
            exact Goes.one hW (key _ _ hp) ⟨y, kk, m, hy, hi, h0, h1, by simp [Nat.add_assoc]⟩
          | elt tt i n j =>
            simp only [SL.plus, Option.some.injEq] at hl'
            subst hl'
            obtain ⟨xs, kk, m, r, blk, off, h1, h2, h3, h4, h5, hp, h7⟩ := hv
            exact Goes.one hW (key _ _ hp) ⟨xs, kk, m, r, blk, off, h1, h2, h3, h4, h5, by simp [Nat.add_assoc], h7⟩
          | x => simp [SL.plus] at hl'
          | e t => simp [SL.plus] at hl'
          | sc r b s n => simp [SL.plus] at hl'
          | g q => simp [SL.plus] at hl'
          | ge q i sz j =>
            simp only [SL.plus, Option.some.injEq] at hl'
            subst hl'
            obtain ⟨y, len, cap, kk, m, h1, h2, h3, h4, hp⟩ := hv
            exact Goes.one hW (key _ _ hp) ⟨y, len, cap, kk, m, h1, h2, h3, h4, by simp [Nat.add_assoc]⟩
          | gs q sz j => simp [SL.plus] at hl'
          | clo f c => simp [SL.plus] at hl'
        · cases hs
      · cases hs
    · cases hs
  · cases hs

theorem partS_sound {t : TypeId} {ls : List SL} {vs : List Value} {off : Nat} {s : S} (hp : partS P t ls off = some s) (hr : LsR I μ w ρ ls vs) :
    ∃ v, (part t vs.toArray off).run P w = .ok v w ∧ SR I μ w ρ s v := by
  unfold partS at hp
  have hl := hr.length
  split at hp
  · rename_i n hg hn
    split at hp
    · rename_i hle
      cases hp
      obtain ⟨v, h1, h2⟩ := run_part hn hg (off := off) (vs := vs) (by omega) (fun h => by cases h) w
      rcases h2 with ⟨_, rfl⟩ | ⟨hg', _⟩
      · exact ⟨_, h1, _, rfl, (hr.drop off).take n⟩
      · rw [hg] at hg'; cases hg'
    · cases hp
  · rename_i n hg hn
    split at hp
    · rename_i l hl'
      cases hp
      obtain ⟨v, hv, hlr⟩ := hr.get hl'
      refine ⟨v, ?_, l, rfl, hlr⟩
      unfold part
      simp [run_isAgg hg, hv]
    · cases hp
  · cases hp

theorem simple_field (hW : WR G B I₀ w₀ I μ w ρ h) {t : TypeId} {x : Operand} {k : Nat} (hop : ∀ x, SR I μ w ρ (opd fr x) (a.eval x)) (ho : o.op = .field t x k)
    (hs : simple P G fr h (.field t x k) = some (cs, s, h')) : GoesQ G B I₀ w₀ I μ w ρ ((execOp a.eval o).run P w) s h' := by
  simp only [simple] at hs
  split at hs
  · rename_i fs ls hu hx
    split at hs
    · rename_i f hf
      split at hs
      · rename_i s' hs'
        simp only [Option.some.injEq, Prod.mk.injEq] at hs
        obtain ⟨rfl, rfl, rfl⟩ := hs
        have hv := hop x
        rw [hx] at hv
        obtain ⟨vs, hp, hvs⟩ := hv
        obtain ⟨v, h1, h2⟩ := partS_sound (P := P) hs' hvs
        exact Goes.val hW (v := v) (by simp [execOp, ho, Instr.field, run_underlying hu, hf, hp, asAgg, h1]) h2
      · cases hs
    · cases hs
  · cases hs

theorem rng_sound {i : Ex} {n : Nat} (hr : (Ex.rng i n).eval ρ = some (.b true)) : ∃ k m, i.eval ρ = some (.i k m) ∧ 0 ≤ m ∧ m < n := by
  simp only [Ex.eval] at hr
  split at hr
  · rename_i k m hi
    simp at hr
    exact ⟨k, m, hi, hr.1, hr.2⟩
  · cases hr

theorem simple_indexAddr (hW : WR G B I₀ w₀ I μ w ρ h) {t : TypeId} {x y : Operand} (hop : ∀ x, SR I μ w ρ (opd fr x) (a.eval x)) (ho : o.op = .indexAddr t x y)
    (hs : simple P G fr h (.indexAddr t x y) = some (cs, s, h')) (hc : ∀ c ∈ cs, c.eval ρ = some (.b true)) : GoesQ G B I₀ w₀ I μ w ρ ((execOp a.eval o).run P w) s h' := by
  simp only [simple] at hs
  split at hs
  · -- an array's address
    rename_i n el r off ix hu hl hy
    obtain ⟨z, hz, hp⟩ := l?_sound hl (hop x)
    split at hs
    · rename_i sz hsz
      have key : ∀ k m, a.eval y = .int k m → 0 ≤ m → m < n → (execOp a.eval o).run P w = .ok (.value (.pointer (some ⟨z, off + m.toNat * (sz + 1), none⟩))) w := fun k m hi h0 h1 => by
        simp [execOp, ho, Instr.indexAt, run_underlying hu, hp, hi, asIntOf, Instr.sureAddr, h0, h1, run_sizeT hsz, addr_add]
      split at hs
      · rename_i m hm
        split at hs
        · rename_i hb
          simp only [Option.some.injEq, Prod.mk.injEq] at hs
          obtain ⟨rfl, rfl, rfl⟩ := hs
          obtain ⟨k, hk⟩ := int?_sound hy hm (hop y)
          exact Goes.one hW (key k m hk hb.1 hb.2) ⟨z, hz, rfl⟩
        · cases hs
      · split at hs
        · simp only [Option.some.injEq, Prod.mk.injEq] at hs
          obtain ⟨rfl, rfl, rfl⟩ := hs
          obtain ⟨d, hd, hdr⟩ := e?_sound hy (hop y)
          obtain ⟨k, m, hi, h0, h1⟩ := rng_sound (hc _ (List.mem_singleton.2 rfl))
          rw [hi] at hd
          cases hd
          exact Goes.one hW (key k m hdr.i_inv h0 h1) ⟨z, k, m, hz, hi, h0, h1, by simp⟩
        · cases hs
    · cases hs
  · -- a slice over cells
    rename_i el r base sz n ix hu hl hy
    obtain ⟨z, cap, hz, hp⟩ := l?_sound hl (hop x)
    split at hs
    · rename_i m' hsz
      split at hs
      · rename_i hm'
        obtain ⟨rfl, hpos⟩ := hm'
        have key : ∀ k m, a.eval y = .int k m → 0 ≤ m → m < n → (execOp a.eval o).run P w = .ok (.value (.pointer (some ⟨z, base + m.toNat * m', none⟩))) w := fun k m hi h0 h1 => by
          simp [execOp, ho, Instr.indexAt, run_underlying hu, hp, hi, asIntOf, h0, h1, run_sizeT hsz, addr_add]
        split at hs
        · rename_i m hm
          split at hs
          · rename_i hb
            simp only [Option.some.injEq, Prod.mk.injEq] at hs
            obtain ⟨rfl, rfl, rfl⟩ := hs
            obtain ⟨k, hk⟩ := int?_sound hy hm (hop y)
            exact Goes.one hW (key k m hk hb.1 hb.2) ⟨z, hz, rfl⟩
          · cases hs
        · simp only [Option.some.injEq, Prod.mk.injEq] at hs
          obtain ⟨rfl, rfl, rfl⟩ := hs
          obtain ⟨d, hd, hdr⟩ := e?_sound hy (hop y)
          obtain ⟨k, m, hi, h0, h1⟩ := rng_sound (hc _ (List.mem_singleton.2 rfl))
          rw [hi] at hd
          cases hd
          exact Goes.one hW (key k m hdr.i_inv h0 h1) ⟨z, k, m, hz, hi, h0, h1, by simp⟩
      · cases hs
    · cases hs
  · -- data
    rename_i el t' ix hu hl hy
    split at hs
    · rename_i sz hsz
      simp only [Option.some.injEq, Prod.mk.injEq] at hs
      obtain ⟨rfl, rfl, rfl⟩ := hs
      obtain ⟨dx, hdx, hrx⟩ := l?_sound hl (hop x)
      obtain ⟨di, hdi, hri⟩ := e?_sound hy (hop y)
      have hb := hc _ (List.mem_singleton.2 rfl)
      simp only [Ex.eval, hdx, hdi] at hb
      unfold inbD at hb
      split at hb
      · rename_i sz' xs k m
        simp at hb
        obtain ⟨⟨hsz', h0⟩, h1⟩ := hb
        subst hsz'
        obtain ⟨m, rfl⟩ := Int.eq_ofNat_of_zero_le h0
        have hm : m < xs.length := by omega
        generalize hax : a.eval x = vx at hrx
        cases hrx with
        | nil => simp at hm
        | sl _ _ blk off cap vs _ hw hcap hI hcl hdl =>
          have hr := List.getElem?_eq_getElem hm
          have hrl : (xs[m]).length = sz + 1 := hw _ (List.getElem_mem hm)
          refine Goes.one hW (v := .pointer (some ⟨blk, off + m * (sz + 1), none⟩)) ?_ ?_
          · have hi := hri.i_inv
            simp [execOp, ho, Instr.indexAt, run_underlying hu, hax, hi, asIntOf, hm, run_sizeT hsz, addr_add]
          · refine ⟨xs, k, m, xs[m], blk, off + m * (sz + 1), hdx, hdi, by omega, by simpa using hr, hrl, by simp, hI, fun q d hq => ?_⟩
            refine ⟨vs m q, ?_, hdl m _ q d hr hq⟩
            rw [Nat.add_assoc]
            exact hcl m _ q d hr hq
      · cases hb
    · cases hs
  · -- within an element
    rename_i n el t' i' n' j ix hu hl hy
    split at hs
    · rename_i sz m hsz hm
      split at hs
      · rename_i hb
        simp only [Option.some.injEq, Prod.mk.injEq] at hs
        obtain ⟨rfl, rfl, rfl⟩ := hs
        obtain ⟨k, hk⟩ := int?_sound hy hm (hop y)
        obtain ⟨xs, kk, mm, r, blk, off, h1, h2, h3, h4, h5, hp, h6, h7⟩ := l?_sound hl (hop x)
        refine Goes.one hW (v := .pointer (some ⟨blk, off + (j + m.toNat * (sz + 1)), none⟩)) ?_ ⟨xs, kk, mm, r, blk, off, h1, h2, h3, h4, h5, rfl, h6, h7⟩
        simp [execOp, ho, Instr.indexAt, run_underlying hu, hp, hk, asIntOf, Instr.sureAddr, hb.1, hb.2, run_sizeT hsz, addr_add, Nat.add_assoc]
      · cases hs
    · cases hs
  · cases hs

theorem simple_index (hW : WR G B I₀ w₀ I μ w ρ h) {t : TypeId} {x y : Operand} (hop : ∀ x, SR I μ w ρ (opd fr x) (a.eval x)) (ho : o.op = .index t x y)
    (hs : simple P G fr h (.index t x y) = some (cs, s, h')) (hc : ∀ c ∈ cs, c.eval ρ = some (.b true)) : GoesQ G B I₀ w₀ I μ w ρ ((execOp a.eval o).run P w) s h' := by
  simp only [simple] at hs
  split at hs
  · rename_i n el ls ix hu hx hy
    have hv := hop x
    rw [hx] at hv
    obtain ⟨vs, hp, hvs⟩ := hv
    split at hs
    · rename_i m sz hm hsz
      split at hs
      · rename_i hb
        split at hs
        · rename_i s' hs'
          simp only [Option.some.injEq, Prod.mk.injEq] at hs
          obtain ⟨rfl, rfl, rfl⟩ := hs
          obtain ⟨k, hk⟩ := int?_sound hy hm (hop y)
          obtain ⟨v, h1, h2⟩ := partS_sound (P := P) hs' hvs
          exact Goes.val hW (v := v) (by simp [execOp, ho, Instr.index, run_underlying hu, hp, hk, asIntOf, hb, run_sizeT hsz, h1]) h2
        · cases hs
      · cases hs
    · rename_i sz hm hsz
      split at hs
      · rename_i hb
        obtain ⟨hlen, hn0⟩ := hb
        split at hs
        · rename_i g r hg hr
          split at hs
          · rename_i hgs
            simp only [Option.some.injEq, Prod.mk.injEq] at hs
            obtain ⟨rfl, rfl, rfl⟩ := hs
            obtain ⟨d, hd, hdr⟩ := e?_sound hy (hop y)
            obtain ⟨k, m, hi, h0, h1⟩ := rng_sound (hc _ (List.mem_singleton.2 rfl))
            rw [hi] at hd
            cases hd
            obtain ⟨m, rfl⟩ := Int.eq_ofNat_of_zero_le h0
            have hmn : m < n := by omega
            have hms : m * sz + sz ≤ n * sz := by rw [← Nat.succ_mul]; exact Nat.mul_le_mul_right _ (by omega)
            have hvl := hvs.length
            obtain ⟨v, hv1, hv2⟩ := run_part hsz hg (off := m * sz) (vs := vs) (by omega) (by
              intro hgf
              rcases hgs with h' | h'
              · rw [hgf] at h'; cases h'
              · exact h') w
            have hrl : r.length = sz := by have := congrArg List.length (optAll_get hr); simpa using this.symm
            have hlr : LsR I μ w ρ r ((vs.drop (m * sz)).take sz) := by
              refine All2.of_get (by simp; omega) fun q l u hl' hu' => ?_
              have hq : q < sz := by have := (List.getElem?_eq_some_iff.1 hl').1; omega
              have hg' := congrArg (fun l => l[q]?) (optAll_get hr)
              simp [hq, hl'] at hg'
              rw [List.getElem?_take, if_pos hq, List.getElem?_drop] at hu'
              obtain ⟨l', hl'', hr'⟩ := hvs.get' hu'
              refine dynSel_sound hg' hi hmn ?_
              rw [List.getD_eq_getElem?_getD, Nat.zero_add, hl'']
              exact hr'
            refine Goes.val hW (v := v) (by simp [execOp, ho, Instr.index, run_underlying hu, hp, hdr.i_inv, asIntOf, hmn, run_sizeT hsz, hv1]) ?_
            rcases hv2 with ⟨hg', rfl⟩ | ⟨hg', hv2⟩
            · rw [hg] at hg'
              cases hg'
              exact ⟨_, rfl, hlr⟩
            · rw [hg] at hg'
              cases hg'
              rw [hv2] at hlr
              cases hlr with | cons h1 h2 =>
              cases h2
              exact ⟨_, rfl, h1⟩
          · cases hs
        · cases hs
      · cases hs
    · cases hs
  · cases hs

theorem simple_extract (hW : WR G B I₀ w₀ I μ w ρ h) {x : Operand} {k : Nat} (hop : ∀ x, SR I μ w ρ (opd fr x) (a.eval x)) (ho : o.op = .extract x k)
    (hs : simple P G fr h (.extract x k) = some (cs, s, h')) : GoesQ G B I₀ w₀ I μ w ρ ((execOp a.eval o).run P w) s h' := by
  simp only [simple] at hs
  split at hs
  · rename_i vs hx
    split at hs
    · rename_i g ls hk
      simp only [Option.some.injEq, Prod.mk.injEq] at hs
      obtain ⟨rfl, rfl, rfl⟩ := hs
      have hv := hop x
      rw [hx] at hv
      obtain ⟨us, hp, hus⟩ := hv
      obtain ⟨u, hu, hr⟩ := hus.get hk
      exact Goes.val hW (v := u) (by simp [execOp, ho, Instr.extract, hp, hu]) hr
    · cases hs
  · cases hs

theorem run_sliceBounds_none (isSlice : Bool) (len cap : Nat) : (Instr.sliceBounds isSlice len cap none none none).run P w = .ok (0, len, cap) w := by
  simp [Instr.sliceBounds]

theorem simple_slice (hW : WR G B I₀ w₀ I μ w ρ h) {t : TypeId} {x : Operand} (hop : ∀ x, SR I μ w ρ (opd fr x) (a.eval x)) (ho : o.op = .slice t x none none none)
    (hs : simple P G fr h (.slice t x none none none) = some (cs, s, h')) (hc : ∀ c ∈ cs, c.eval ρ = some (.b true)) : GoesQ G B I₀ w₀ I μ w ρ ((execOp a.eval o).run P w) s h' := by
  simp only [simple] at hs
  split at hs
  · rename_i n el r off hu hl
    split at hs
    · rename_i sz hsz
      split at hs
      · rename_i hpos
        simp only [Option.some.injEq, Prod.mk.injEq] at hs
        obtain ⟨rfl, rfl, rfl⟩ := hs
        obtain ⟨z, hz, hp⟩ := l?_sound hl (hop x)
        refine Goes.one hW (v := .slice (some ⟨z, off, none⟩) n n) ?_ ⟨z, n, hz, rfl⟩
        have hn : ¬ n = 0 := by omega
        simp [execOp, ho, Instr.sliceAt, run_underlying hu, hp, Instr.sureAddr, run_sliceBounds_none, run_sizeT hsz, addr_add, hn]
      · cases hs
    · cases hs
  · rename_i el l hu hl
    have key : ∀ (base : Option Addr) (len cap n : Nat), sizeT P el = some n → a.eval x = .slice base len cap →
        (execOp a.eval o).run P w = .ok (.value (.slice base len cap)) w := fun base len cap n hn hp => by
      have hb : (if cap = 0 then base else base.map (·.add (0 * n))) = base := by
        split
        · rfl
        · cases base with
          | none => rfl
          | some ad => simp [Addr.add]
      simp [execOp, ho, Instr.sliceAt, Instr.slice, run_underlying hu, hp, run_sliceBounds_none, run_sizeT hn]
      simpa using hb
    split at hs
    · rename_i n t' hn
      simp only [Option.some.injEq, Prod.mk.injEq] at hs
      obtain ⟨rfl, rfl, rfl⟩ := hs
      obtain ⟨d, hd, hr⟩ := l?_sound hl (hop x)
      have hsl : ∃ sz xs, d = .sl sz xs := by
        unfold mkIsSl at hc
        split at hc
        · simp only [Ex.eval] at hd; cases hd; exact ⟨_, _, rfl⟩
        · have := hc _ (List.mem_singleton.2 rfl)
          simp only [Ex.eval, hd] at this
          cases d <;> first | exact ⟨_, _, rfl⟩ | (simp at this)
      obtain ⟨sz, xs, rfl⟩ := hsl
      generalize hv : a.eval x = vx at hr
      cases hr with
      | nil _ p cap hz => exact Goes.one hW (key p 0 cap n hn hv) ⟨_, hd, .nil _ _ _ hz⟩
      | sl _ _ blk off cap vs h0 h1 h2 h3 h4 h5 => exact Goes.one hW (key _ _ _ n hn hv) ⟨_, hd, .sl _ _ blk off cap vs h0 h1 h2 h3 h4 h5⟩
    · rename_i n r b sz m hn
      simp only [Option.some.injEq, Prod.mk.injEq] at hs
      obtain ⟨rfl, rfl, rfl⟩ := hs
      obtain ⟨z, cap, hz, hp⟩ := l?_sound hl (hop x)
      exact Goes.one hW (key _ _ _ n hn hp) ⟨z, cap, hz, rfl⟩
    · cases hs
  · cases hs

theorem isW_sound {n : Nat} {x : Ex} (h : (isW n x).eval ρ = some (.b true)) : ∃ s xs, x.eval ρ = some (.sl s xs) ∧ (s = n ∨ xs = []) := by
  unfold isW at h
  simp only [Ex.eval] at h
  cases hx : x.eval ρ with
  | none => rw [hx] at h; simp at h
  | some d =>
    rw [hx] at h
    cases d with
    | sl s xs =>
      refine ⟨s, xs, rfl, ?_⟩
      simp only [appD] at h
      by_cases hc : (0 = n ∨ (True ∧ ([] : List (List D)).isEmpty = true)) ∧ (s = n ∨ xs.isEmpty = true)
      · rcases hc.2 with h' | h'
        · exact .inl h'
        · exact .inr (List.isEmpty_iff.1 h')
      · rw [if_neg hc] at h; simp at h
    | b _ => simp [appD] at h
    | i _ _ => simp [appD] at h
    | s _ => simp [appD] at h
    | f _ => simp [appD] at h

theorem bnd_sound {l m e : Ex} (h : (Ex.bnd l m e).eval ρ = some (.b true)) : ∃ k a k' b k'' c, l.eval ρ = some (.i k a) ∧ m.eval ρ = some (.i k' b) ∧ e.eval ρ = some (.i k'' c) ∧ 0 ≤ a ∧ a ≤ b ∧ b ≤ c := by
  simp only [Ex.eval] at h
  split at h
  · rename_i k a k' b k'' c h1 h2 h3
    simp only [Option.some.injEq, D.b.injEq, Bool.and_eq_true, decide_eq_true_eq] at h
    exact ⟨k, a, k', b, k'', c, h1, h2, h3, h.1.1, h.1.2, h.2⟩
  · cases h

/-- a part of a slice reads as the part of its data -/
theorem DR.part {sz : Nat} {xs : List (List D)} {base : Option Addr} {len cap n l m : Nat} (hr : DR I w (.sl sz xs) (.slice base len cap)) (hn : sz = n + 1 ∨ xs = []) (hl : l ≤ m) (hm : m ≤ xs.length) :
    DR I w (.sl sz ((xs.take m).drop l)) (.slice (if cap = l then base else base.map (·.add (l * (n + 1)))) (m - l) (cap - l)) := by
  cases hr with
  | nil _ p _ hz =>
    have h0 : m = 0 := by simpa using hm
    subst h0
    have h0 : l = 0 := by omega
    subst h0
    have hb : (if cap = 0 then base else base.map (·.add (0 * (n + 1)))) = base := by
      split
      · rfl
      · cases base with
        | none => rfl
        | some ad => simp [Addr.add]
    rw [hb]
    exact .nil sz base cap hz
  | sl _ _ blk off _ vs h0 h1 h2 h3 h4 h5 =>
    by_cases hlm : l = m
    · subst hlm
      have he : (xs.take l).drop l = [] := List.drop_eq_nil_of_le (by simp; omega)
      rw [he, Nat.sub_self]
      exact .nil sz _ _ fun hz => by omega
    · have hne : ¬ cap = l := by omega
      have hx : xs ≠ [] := fun e => by subst e; simp at hm; omega
      have hs : sz = n + 1 := hn.resolve_right hx
      subst hs
      rw [if_neg hne]
      have hle : ((xs.take m).drop l).length = m - l := by simp; omega
      have := DR.sl (I := I) (w := w) (n + 1) ((xs.take m).drop l) blk (off + l * (n + 1)) (cap - l) (fun i j => vs (l + i) j) h0 (fun r hr => h1 r (List.mem_of_mem_take (List.mem_of_mem_drop hr))) (by omega) h3 ?_ ?_
      · rw [hle] at this
        have ha : (some (⟨blk, off, none⟩ : Addr)).map (·.add (l * (n + 1))) = some ⟨blk, off + l * (n + 1), none⟩ := by simp [addr_add]
        rw [ha]
        exact this
      · intro i r j d hi hj
        rw [List.getElem?_drop, List.getElem?_take] at hi
        split at hi
        · have := h4 (l + i) r j d hi hj
          rw [← this]
          congr 2
          rw [Nat.add_mul]; omega
        · cases hi
      · intro i r j d hi hj
        rw [List.getElem?_drop, List.getElem?_take] at hi
        split at hi
        · exact h5 (l + i) r j d hi hj
        · cases hi

theorem run_slicePart {t el : TypeId} {x : Operand} {lo hi : Option Operand} {base : Option Addr} {len cap l m n : Nat} (hu : P.underlying t = some (.slice el)) (hn : sizeT P el = some n) (ho : o.op = .slice t x lo hi none)
    (hp : a.eval x = .slice base len cap) (hlo : (lo = none ∧ l = 0) ∨ ∃ y k, lo = some y ∧ a.eval y = .int k (l : Int)) (hhi : (hi = none ∧ m = len) ∨ ∃ y k, hi = some y ∧ a.eval y = .int k (m : Int)) (hl : l ≤ m) (hm : m ≤ cap) :
    (execOp a.eval o).run P w = .ok (.value (.slice (if cap = l then base else base.map (·.add (l * n))) (m - l) (cap - l))) w := by
  have hb : (Instr.sliceBounds true len cap (lo.map a.eval) (hi.map a.eval) none).run P w = .ok (l, m, cap) w := by
    rcases hlo with ⟨rfl, rfl⟩ | ⟨y, k, rfl, hy⟩ <;> rcases hhi with ⟨rfl, rfl⟩ | ⟨z, k', rfl, hz⟩
    · simp [Instr.sliceBounds]
    · simp [Instr.sliceBounds, Instr.sliceBound, hz, asIntOf, hm]
    · simp [Instr.sliceBounds, Instr.sliceBound, hy, asIntOf, hl]
    · simp [Instr.sliceBounds, Instr.sliceBound, hy, hz, asIntOf, hl, hm]
  simp only [execOp, ho, Instr.sliceAt, Instr.slice, hp, Sem.run_bind, run_underlying hu, Result.andThen_ok]
  have hb' := hb
  simp only [Option.map_none] at hb' ⊢
  rw [hb']
  simp [run_sizeT hn]

theorem simple_slicePart (hW : WR G B I₀ w₀ I μ w ρ h) {t el : TypeId} {x : Operand} {lo hi : Option Operand} {ex el' em : Ex} {n : Nat} (hop : ∀ x, SR I μ w ρ (opd fr x) (a.eval x)) (ho : o.op = .slice t x lo hi none)
    (hu : P.underlying t = some (.slice el)) (hn : sizeT P el = some (n + 1)) (hx : (opd fr x).e? = some ex)
    (hlo : (lo = none ∧ el' = litN 0) ∨ ∃ y, lo = some y ∧ (opd fr y).e? = some el') (hhi : (hi = none ∧ em = .len ex) ∨ ∃ y, hi = some y ∧ (opd fr y).e? = some em)
    (hb : (Ex.bnd el' em (.len ex)).eval ρ = some (.b true)) (hw : (isW (n + 1) ex).eval ρ = some (.b true)) : GoesQ G B I₀ w₀ I μ w ρ ((execOp a.eval o).run P w) (.val false [.e (.sub ex el' em)]) h := by
  obtain ⟨s, xs, hxs, hs⟩ := isW_sound hw
  obtain ⟨k, la, k', ma, k'', c, h1, h2, h3, h4, h5, h6⟩ := bnd_sound hb
  simp only [Ex.eval, hxs] at h3
  cases h3
  obtain ⟨d, hd, hr⟩ := e?_sound hx (hop x)
  rw [hxs] at hd
  cases hd
  obtain ⟨base, cap, hp⟩ := hr.sl_inv
  obtain ⟨l, rfl⟩ := Int.eq_ofNat_of_zero_le h4
  obtain ⟨m, rfl⟩ := Int.eq_ofNat_of_zero_le (Int.le_trans h4 h5)
  have hlm : l ≤ m := by omega
  have hml : m ≤ xs.length := by omega
  have hcap : xs.length ≤ cap := by
    rw [hp] at hr
    cases hr with
    | nil => simp
    | sl _ _ _ _ _ _ _ _ h => exact h
  have hrun := run_slicePart (w := w) (P := P) (a := a) (o := o) (l := l) (m := m) hu hn ho hp (by
      rcases hlo with ⟨rfl, rfl⟩ | ⟨y, rfl, hy⟩
      · simp only [litN, Ex.eval, Option.some.injEq, D.i.injEq] at h1
        exact .inl ⟨rfl, by omega⟩
      · obtain ⟨d, hd, hr⟩ := e?_sound hy (hop y)
        rw [h1] at hd
        cases hd
        exact .inr ⟨y, k, rfl, hr.i_inv⟩) (by
      rcases hhi with ⟨rfl, rfl⟩ | ⟨y, rfl, hy⟩
      · simp only [Ex.eval, hxs, Option.some.injEq, D.i.injEq] at h2
        exact .inl ⟨rfl, by omega⟩
      · obtain ⟨d, hd, hr⟩ := e?_sound hy (hop y)
        rw [h2] at hd
        cases hd
        exact .inr ⟨y, k', rfl, hr.i_inv⟩) hlm (by omega)
  refine Goes.one hW hrun ⟨.sl s ((xs.take m).drop l), ?_, ?_⟩
  · simp only [Ex.eval, hxs, h1, h2, subD]
    rw [if_pos ⟨h4, h5, h6⟩]
    simp
  · rw [hp] at hr
    exact hr.part hs hlm hml

/-! ### slices that are made -/

theorem flat_rep {α : Type} (z : List α) : ∀ (n i : Nat), (List.replicate n z).flatten[i]? = if i < n * z.length then z[i % z.length]? else none
  | 0, i => by simp
  | n + 1, i => by
    rw [List.replicate_succ, List.flatten_cons, List.getElem?_append, flat_rep z n, Nat.succ_mul]
    by_cases hi : i < z.length
    · rw [if_pos hi, if_pos (by omega), Nat.mod_eq_of_lt hi]
    · rw [if_neg hi]
      by_cases h2 : i - z.length < n * z.length
      · rw [if_pos h2, if_pos (by omega), ← Nat.mod_eq_sub_mod (by omega : i ≥ z.length)]
      · rw [if_neg h2, if_neg (by omega)]

theorem zeros_list (zero : Array Value) (n : Nat) : ((Array.range (n * zero.size)).map (zero[· % zero.size]!)).toList = (List.replicate n zero.toList).flatten := by
  apply List.ext_getElem?
  intro i
  rw [flat_rep]
  simp only [Array.toList_map, Array.toList_range, List.getElem?_map, Array.length_toList]
  by_cases hi : i < n * zero.size
  · rw [if_pos hi, List.getElem?_range hi]
    have hz : 0 < zero.size := by
      rcases Nat.eq_zero_or_pos zero.size with h | h
      · rw [h] at hi; simp at hi
      · exact h
    have := Nat.mod_lt i hz
    simp [this]
  · rw [if_neg hi, List.getElem?_eq_none (by simp; omega)]
    rfl

theorem lsR_flat {z : List SL} {zs : List Value} (hz : LsR I μ w ρ z zs) : ∀ n, LsR I μ w ρ (List.replicate n z).flatten (List.replicate n zs).flatten
  | 0 => by simp; exact .nil
  | n + 1 => by simp only [List.replicate_succ, List.flatten_cons]; exact hz.append (lsR_flat hz n)

theorem Made.newSlice {r : Result Next} {ls : List SL} {vs : List Value} {ty : TypeId} {sz n : Nat} (hl : LsR I μ w ρ ls vs)
    (hr : r = .ok (.value (.slice (some ⟨w.heap.size, 0, none⟩) n n)) (w.alloc (.cells vs.toArray ty))) :
    Made I μ w ρ r (.val false [.sc (.loc h.length) 0 sz n]) h (h ++ [{ ro := false, ls := ls }]) :=
  ⟨ls, vs, ty, _, rfl, hl, hr, fun _ _ _ hm => ⟨_, rfl, w.heap.size, n, hm, rfl⟩⟩

theorem simple_buildSlice {t : TypeId} {len : Nat} {parts : Array (Nat × Operand)} (hop : ∀ x, SR I μ w ρ (opd fr x) (a.eval x)) (ho : o.op = .buildSlice t len parts)
    (hs : simple P G fr h (.buildSlice t len parts) = some (cs, s, h')) : Made I μ w ρ ((execOp a.eval o).run P w) s h h' := by
  simp only [simple] at hs
  split at hs
  · rename_i el hu
    split at hs
    · rename_i sz z hsz hz
      split at hs
      · rename_i hc
        obtain ⟨h1, h2, h3, h4⟩ := hc
        split at hs
        · rename_i ls hls
          simp only [Option.some.injEq, Prod.mk.injEq] at hs
          obtain ⟨rfl, rfl, rfl⟩ := hs
          obtain ⟨zv, hzr, hzc⟩ := zeroT_run hz
          have hzs := constLs_sound (I := I) (μ := μ) (w := w) (ρ := ρ) hzc
          have hzl : zv.cells.size = sz := by have := hzs.length; simp at this; omega
          obtain ⟨cur, hf, hcur⟩ := fillS_sound parts.toList hop (lsR_flat hzs len) hls
          have hpar : (parts.map fun q => (q.1, a.eval q.2)).toList = parts.toList.map fun q => (q.1, a.eval q.2) := by simp
          have hzz := zeros_list zv.cells len
          have hzz' : (Array.range (len * sz)).map (zv.cells[· % zv.cells.size]!) = (List.replicate len zv.cells.toList).flatten.toArray := by
            rw [← hzl, ← hzz]
          refine Made.newSlice (ty := el) hcur ?_
          have hpos : ¬ len * sz = 0 := Nat.ne_of_gt (Nat.mul_pos h2 h1)
          have hbig : ¬ len * sz > 2 ^ 24 := by omega
          simp only [execOp, ho, Instr.buildSlice, Sem.run_bind, run_underlying hu, Result.andThen_ok, run_sizeT hsz, if_neg hbig, if_neg hpos, hzr, Sem.run_pure, hpar]
          rw [hzz', hf]
          simp [newRow, World.alloc_eq, hzr, hpos, hbig]
        · cases hs
      · cases hs
    · cases hs
  · cases hs

theorem simple_makeSlice {t : TypeId} {x y : Operand} (hop : ∀ x, SR I μ w ρ (opd fr x) (a.eval x)) (ho : o.op = .makeSlice t x y)
    (hs : simple P G fr h (.makeSlice t x y) = some (cs, s, h')) : Made I μ w ρ ((execOp a.eval o).run P w) s h h' := by
  simp only [simple] at hs
  split at hs
  · rename_i el ex ey hu hx hy
    split at hs
    · rename_i m m' sz z hm hm' hsz hz
      split at hs
      · rename_i hc
        obtain ⟨rfl, h1, h2, h3, h4, h6⟩ := hc
        simp only [Option.some.injEq, Prod.mk.injEq] at hs
        obtain ⟨rfl, rfl, rfl⟩ := hs
        obtain ⟨zv, hzr, hzc⟩ := zeroT_run hz
        have hzs := constLs_sound (I := I) (μ := μ) (w := w) (ρ := ρ) hzc
        have hzl : zv.cells.size = sz := by have := hzs.length; simp at this; omega
        obtain ⟨k, hk⟩ := int?_sound hx hm (hop x)
        obtain ⟨k', hk'⟩ := int?_sound hy hm' (hop y)
        obtain ⟨mn, rfl⟩ := Int.eq_ofNat_of_zero_le (Int.le_of_lt h1)
        have hmn : mn ≤ 1024 := by omega
        have hw : IntKind.i64.wrap (mn : Int) = mn := IntWalk.i64_in _ (by omega)
        refine Made.newSlice (ty := el) (n := mn) (vs := (List.replicate mn zv.cells.toList).flatten) (lsR_flat hzs mn) ?_
        have hzz' : (Array.range (mn * sz)).map (zv.cells[· % zv.cells.size]!) = (List.replicate mn zv.cells.toList).flatten.toArray := by
          rw [← hzl, ← zeros_list zv.cells mn]
        have hpos : ¬ mn * sz = 0 := Nat.ne_of_gt (Nat.mul_pos (by omega) h3)
        unfold sizeT at hsz
        split at hsz
        · rename_i i hi
          cases hsz
          have hby : i.bytes ≤ 4096 := by simpa [Program.bytesOf, hi] using h6
          have hnt : (decide ((mn : Int) < 0) || decide ((i.bytes : Int) * mn > 2 ^ 48)) = false := by
            have : i.bytes * mn ≤ 4096 * 1024 := Nat.mul_le_mul hby hmn
            have h48 : ((i.bytes * mn : Nat) : Int) ≤ 4194304 := by omega
            rw [Int.natCast_mul] at h48
            rw [decide_eq_false (by omega), decide_eq_false (by omega)]
            rfl
          have hti : (typeInfo el).run P w = .ok i w := by simp [typeInfo, hi]
          have hso : (sizeOf el).run P w = .ok i.size w := by simp [sizeOf, typeInfo, hi]
          simp only [execOp, ho, Instr.makeSlice, Sem.run_bind, run_underlying hu, Result.andThen_ok, hk, hk', asInt, asIntOf, Sem.run_pure, hti, hw, hnt]
          have hlt : (decide ((mn : Int) < 0)) = false := by simp
          simp only [hlt, Bool.false_or, decide_false, Int.lt_irrefl, gt_iff_lt, Bool.or_self, Bool.false_eq_true, if_false, run_askRoom, Result.andThen_ok, Sem.run_bind, hso, Int.toNat_natCast, hpos, hzr, Sem.run_pure]
          rw [hzz']
          simp [newRow, World.alloc_eq]
        · cases hsz
      · cases hs
    · cases hs
  · cases hs

theorem simple_len (hW : WR G B I₀ w₀ I μ w ρ h) {args : Array Operand} {argTypes : Array TypeId} (hop : ∀ x, SR I μ w ρ (opd fr x) (a.eval x))
    (ho : o.op = .call { callee := .builtin .len, args := args, argTypes := argTypes })
    (hs : simple P G fr h (.call { callee := .builtin .len, args := args, argTypes := argTypes }) = some (cs, s, h')) : GoesQ G B I₀ w₀ I μ w ρ ((execOp a.eval o).run P w) s h' := by
  simp only [simple] at hs
  split at hs
  · rename_i x t hargs ht
    split at hs
    · rename_i el r b sz n hu hl
      simp only [Option.some.injEq, Prod.mk.injEq] at hs
      obtain ⟨rfl, rfl, rfl⟩ := hs
      obtain ⟨z, cap, hz, hp⟩ := l?_sound hl (hop x)
      have ha : args = #[x] := by rw [← Array.toList_inj, hargs]
      subst ha
      refine Goes.one hW (v := goInt n) ?_ ⟨_, by simp [litN, Ex.eval], .i _ _⟩
      simp [execOp, ho, resolve, invoke, builtin, hp, Builtin.len_, ht, run_underlying hu]
    · cases hs
  · cases hs

/-- The quiet ones. -/
theorem simple_quiet (hq : match o.op with | .alloc .. => False | .box .. => False | .buildSlice .. => False | .makeSlice .. => False | .store .. => False | _ => True) (hW : WR G B I₀ w₀ I μ w ρ h) (hop : ∀ x, SR I μ w ρ (opd fr x) (a.eval x)) (hs : simple P G fr h o.op = some (cs, s, h')) (hc : ∀ c ∈ cs, c.eval ρ = some (.b true)) :
    GoesQ G B I₀ w₀ I μ w ρ ((execOp a.eval o).run P w) s h' := by
  cases ho : o.op with
  | move x => rw [ho] at hs; simp only [simple, Option.some.injEq, Prod.mk.injEq] at hs; obtain ⟨_, rfl, rfl⟩ := hs; exact simple_move hW hop (.inl ho)
  | assign x => rw [ho] at hs; simp only [simple, Option.some.injEq, Prod.mk.injEq] at hs; obtain ⟨_, rfl, rfl⟩ := hs; exact simple_move hW hop (.inr ho)
  | pick q x y => exact simple_pick hW hop ho (ho ▸ hs)
  | alloc t => rw [ho] at hq; exact hq.elim
  | box t x => rw [ho] at hq; exact hq.elim
  | build t parts => exact simple_build hW hop ho (ho ▸ hs)
  | buildSlice t n parts => rw [ho] at hq; exact hq.elim
  | load t x => exact simple_load hW hop ho (ho ▸ hs)
  | store t x y => rw [ho] at hq; exact hq.elim
  | nilCheck x => exact simple_nilCheck hW hop ho (ho ▸ hs)
  | makeFunc f x y => exact simple_makeFunc hW hop ho (ho ▸ hs)
  | makeSlice t x y => rw [ho] at hq; exact hq.elim
  | fieldAddr t x k => exact simple_fieldAddr hW hop ho (ho ▸ hs)
  | field t x k => exact simple_field hW hop ho (ho ▸ hs)
  | indexAddr t x y => exact simple_indexAddr hW hop ho (ho ▸ hs) hc
  | index t x y => exact simple_index hW hop ho (ho ▸ hs) hc
  | extract x k => exact simple_extract hW hop ho (ho ▸ hs)
  | slice t x lo hi mx =>
    rw [ho] at hs
    cases mx with
    | some _ => cases lo <;> cases hi <;> simp [simple] at hs
    | none =>
      cases lo with
      | none =>
        cases hi with
        | none => exact simple_slice hW hop ho hs hc
        | some m =>
          simp only [simple] at hs
          split at hs
          · rename_i el ex em hu hx hm
            split at hs
            · rename_i n hn
              simp only [Option.some.injEq, Prod.mk.injEq] at hs
              obtain ⟨rfl, rfl, rfl⟩ := hs
              exact simple_slicePart hW hop ho hu hn hx (.inl ⟨rfl, rfl⟩) (.inr ⟨m, rfl, hm⟩) (hc _ (by simp)) (hc _ (by simp))
            · cases hs
          · cases hs
      | some l =>
        cases hi with
        | none =>
          simp only [simple] at hs
          split at hs
          · rename_i el ex em hu hx hm
            split at hs
            · rename_i n hn
              simp only [Option.some.injEq, Prod.mk.injEq] at hs
              obtain ⟨rfl, rfl, rfl⟩ := hs
              exact simple_slicePart hW hop ho hu hn hx (.inr ⟨l, rfl, hm⟩) (.inl ⟨rfl, rfl⟩) (hc _ (by simp)) (hc _ (by simp))
            · cases hs
          · cases hs
        | some m =>
          simp only [simple] at hs
          split at hs
          · rename_i el ex el' em hu hx hl hm
            split at hs
            · rename_i n hn
              simp only [Option.some.injEq, Prod.mk.injEq] at hs
              obtain ⟨rfl, rfl, rfl⟩ := hs
              exact simple_slicePart hW hop ho hu hn hx (.inr ⟨l, rfl, hl⟩) (.inr ⟨m, rfl, hm⟩) (hc _ (by simp)) (hc _ (by simp))
            · cases hs
          · cases hs
  | call c =>
    obtain ⟨callee, args, argTypes⟩ := c
    rw [ho] at hs
    cases callee with
    | builtin b => cases b <;> first | exact simple_len hW hop ho hs | (simp [simple] at hs)
    | value f => simp [simple] at hs
    | invoke r m => simp [simple] at hs
  | _ => rw [ho] at hs; simp [simple] at hs


/-- Those that make a block. -/
theorem simple_made (hq : match o.op with | .alloc .. => True | .box .. => True | .buildSlice .. => True | .makeSlice .. => True | _ => False) (hop : ∀ x, SR I μ w ρ (opd fr x) (a.eval x)) (hs : simple P G fr h o.op = some (cs, s, h')) : Made I μ w ρ ((execOp a.eval o).run P w) s h h' := by
  cases ho : o.op with
  | alloc t => exact simple_alloc ho (ho ▸ hs)
  | box t x => exact simple_box hop ho (ho ▸ hs)
  | buildSlice t n parts => exact simple_buildSlice hop ho (ho ▸ hs)
  | makeSlice t x y => exact simple_makeSlice hop ho (ho ▸ hs)
  | _ => rw [ho] at hq; exact hq.elim

/-- ALL of them. -/
theorem simple_sound (hW : WR G B I₀ w₀ I μ w ρ h) (hop : ∀ x, SR I μ w ρ (opd fr x) (a.eval x)) (hs : simple P G fr h o.op = some (cs, s, h')) (hc : ∀ c ∈ cs, c.eval ρ = some (.b true)) :
    Goes G B I₀ w₀ I μ w ρ ((execOp a.eval o).run P w) s h' := by
  cases ho : o.op with
  | move x => rw [ho] at hs; simp only [simple, Option.some.injEq, Prod.mk.injEq] at hs; obtain ⟨_, rfl, rfl⟩ := hs; exact (simple_move hW hop (.inl ho)).goes
  | assign x => rw [ho] at hs; simp only [simple, Option.some.injEq, Prod.mk.injEq] at hs; obtain ⟨_, rfl, rfl⟩ := hs; exact (simple_move hW hop (.inr ho)).goes
  | pick q x y => exact (simple_pick hW hop ho (ho ▸ hs)).goes
  | alloc t => exact (simple_alloc ho (ho ▸ hs)).goes hW
  | box t x => exact (simple_box hop ho (ho ▸ hs)).goes hW
  | build t parts => exact (simple_build hW hop ho (ho ▸ hs)).goes
  | buildSlice t n parts => exact (simple_buildSlice hop ho (ho ▸ hs)).goes hW
  | load t x => exact (simple_load hW hop ho (ho ▸ hs)).goes
  | store t x y => exact simple_store hW hop ho (ho ▸ hs)
  | nilCheck x => exact (simple_nilCheck hW hop ho (ho ▸ hs)).goes
  | makeFunc f x y => exact (simple_makeFunc hW hop ho (ho ▸ hs)).goes
  | makeSlice t x y => exact (simple_makeSlice hop ho (ho ▸ hs)).goes hW
  | fieldAddr t x k => exact (simple_fieldAddr hW hop ho (ho ▸ hs)).goes
  | field t x k => exact (simple_field hW hop ho (ho ▸ hs)).goes
  | indexAddr t x y => exact (simple_indexAddr hW hop ho (ho ▸ hs) hc).goes
  | index t x y => exact (simple_index hW hop ho (ho ▸ hs) hc).goes
  | extract x k => exact (simple_extract hW hop ho (ho ▸ hs)).goes
  | slice t x lo hi mx =>
    rw [ho] at hs
    exact (simple_quiet (by rw [ho]; trivial) hW hop (ho ▸ hs) hc).goes
  | call c =>
    obtain ⟨callee, args, argTypes⟩ := c
    rw [ho] at hs
    cases callee with
    | builtin b => cases b <;> first | exact (simple_len hW hop ho hs).goes | (simp [simple] at hs)
    | value f => simp [simple] at hs
    | invoke r m => simp [simple] at hs
  | _ => rw [ho] at hs; simp [simple] at hs

end
end Go.Proofs.Ytffahdloddkcfaa.Sx
