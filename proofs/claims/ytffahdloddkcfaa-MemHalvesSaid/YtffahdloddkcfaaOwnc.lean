/-
  Slices of the call's own, that grow: rows written out, and what is appended.
-/
import Derived.Test.YtffahdloddkcfaaOwnb
namespace Go.Proofs.Ytffahdloddkcfaa.Sx
open Go
set_option linter.unnecessarySimpa false
set_option linter.unusedSimpArgs false
set_option linter.unusedVariables false

section
variable {B : Nat} {I : Imm} {μ : Mu} {w : World} {ρ : List D} {o : Own} {G : Glo} {I₀ : Imm} {w₀ : World} {h : Heap} {P : Program}

/-! ### rows, written out -/

theorem chunks_length {α : Type} (n : Nat) : ∀ (k : Nat) (l : List α), (chunks n k l).length = k
  | 0, _ => rfl
  | k + 1, l => by simp [chunks, chunks_length n k]

theorem chunks_get {α : Type} (n : Nat) : ∀ (k : Nat) (l : List α) (i : Nat), i < k → (chunks n k l)[i]? = some ((l.drop (i * n)).take n)
  | 0, _, i, h => by omega
  | k + 1, l, 0, _ => by simp [chunks]
  | k + 1, l, i + 1, h => by
    simp only [chunks, List.getElem?_cons_succ]
    rw [chunks_get n k _ i (by omega), List.drop_drop]
    congr 3
    rw [Nat.succ_mul]; omega

theorem chunks_width {α : Type} {n k : Nat} {l : List α} (hl : l.length = k * n) : ∀ r ∈ chunks n k l, r.length = n := by
  intro r hr
  obtain ⟨i, hi⟩ := List.getElem?_of_mem hr
  have hik : i < k := by have := (List.getElem?_eq_some_iff.1 hi).1; rwa [chunks_length] at this
  rw [chunks_get n k l i hik] at hi
  cases hi
  have : (i + 1) * n ≤ k * n := Nat.mul_le_mul_right _ hik
  rw [Nat.succ_mul] at this
  simp
  omega

theorem evals_drop {es : List Ex} {ds : List D} (h : Ex.evals ρ es = some ds) : ∀ n, Ex.evals ρ (es.drop n) = some (ds.drop n) := by
  intro n
  have h' := h
  rw [← List.take_append_drop n es] at h'
  obtain ⟨d1, d2, rfl, h1, h2⟩ := evals_append h'
  have := evals_length h1
  have hl := evals_length h
  simp at this hl
  by_cases hn : n ≤ es.length
  · have e : n = d1.length := by omega
    rw [e, List.drop_left, ← e]
    exact h2
  · have e1 : es.drop n = [] := List.drop_eq_nil_of_le (by omega)
    have e2 : (d1 ++ d2).drop n = [] := List.drop_eq_nil_of_le (by simp; omega)
    rw [e1, e2]
    rfl

theorem evals_take {es : List Ex} {ds : List D} (h : Ex.evals ρ es = some ds) : ∀ n, Ex.evals ρ (es.take n) = some (ds.take n) := by
  intro n
  have h' := h
  rw [← List.take_append_drop n es] at h'
  obtain ⟨d1, d2, rfl, h1, h2⟩ := evals_append h'
  have := evals_length h1
  have hl := evals_length h
  simp at this hl
  by_cases hn : n ≤ es.length
  · have e : n = d1.length := by omega
    rw [e, List.take_left, ← e]
    exact h1
  · have e1 : es.take n = es := List.take_of_length_le (by omega)
    have e2 : (d1 ++ d2).take n = d1 ++ d2 := List.take_of_length_le (by simp; omega)
    rw [e1, e2]
    exact h

theorem rowsE_eval {n : Nat} : ∀ {k : Nat} {es : List Ex} {ds : List D}, Ex.evals ρ es = some ds → es.length = k * n → (rowsE n (chunks n k es)).eval ρ = some (.sl n (chunks n k ds))
  | 0, es, ds, h, hl => by simp [chunks, rowsE, Ex.eval]
  | 1, es, ds, h, hl => by
    have h1 := evals_take h n
    have hw : (ds.take n).length = n := by have := evals_length h; simp at hl ⊢; omega
    simp [chunks, rowsE, Ex.eval, h1]
    have := evals_length h
    omega
  | k + 2, es, ds, h, hl => by
    have h1 := evals_take h n
    have hdl := evals_length h
    have hw : (ds.take n).length = n := by rw [List.length_take, ← hdl, hl, Nat.succ_mul]; omega
    have h2 := rowsE_eval (n := n) (k := k + 1) (evals_drop h n) (by rw [List.length_drop, hl, Nat.succ_mul (k + 1)]; omega)
    have hne : (chunks n (k + 1) (ds.drop n)).isEmpty = false := by simp [chunks]
    show (Ex.cat (.one (es.take n)) (rowsE n (chunks n (k + 1) (es.drop n)))).eval ρ = _
    simp only [Ex.eval, h1]
    rw [h2]
    simp only [hw, catD, List.isEmpty_cons, Bool.false_eq_true, if_false, hne, if_true]
    simp [chunks]

theorem rows?_sound : ∀ {t : Ex} {rs : List (List Ex)} {d : D}, rows? t = some rs → t.eval ρ = some d → ∃ s xs, d = .sl s xs ∧ xs.length = rs.length ∧ (∀ (i : Nat) (r : List Ex), rs[i]? = some r → ∃ x, xs[i]? = some x ∧ Ex.evals ρ r = some x) ∧ (rs ≠ [] → ∀ n, (∀ r ∈ rs, r.length = n) → s = n)
  | .c (.sl s []), rs, d, h, he => by
    simp [rows?] at h
    subst h
    simp [Ex.eval] at he
    subst he
    exact ⟨s, [], rfl, rfl, fun i r hi => by simp at hi, fun h => absurd rfl h⟩
  | .one r, rs, d, h, he => by
    simp [rows?] at h
    subst h
    simp only [Ex.eval] at he
    split at he
    · rename_i ds hds
      cases he
      refine ⟨ds.length, [ds], rfl, rfl, fun i r' hi => ?_, fun _ n hn => ?_⟩
      · cases i with
        | zero => simp at hi; subst hi; exact ⟨ds, by simp, hds⟩
        | succ i => simp at hi
      · have := evals_length hds
        rw [← this]
        exact hn r (by simp)
    · cases he
  | .cat a b, rs, d, h, he => by
    simp only [rows?] at h
    split at h
    · rename_i x y hx hy
      cases h
      simp only [Ex.eval] at he
      split at he
      · rename_i da db hda hdb
        obtain ⟨s1, xs1, rfl, hl1, hr1, hs1⟩ := rows?_sound hx hda
        obtain ⟨s2, xs2, rfl, hl2, hr2, hs2⟩ := rows?_sound hy hdb
        have hget : ∀ (i : Nat) (r : List Ex), (x ++ y)[i]? = some r → ∃ z, (xs1 ++ xs2)[i]? = some z ∧ Ex.evals ρ r = some z := by
          intro i r hi
          by_cases hil : i < x.length
          · rw [List.getElem?_append_left hil] at hi
            obtain ⟨z, hz, he⟩ := hr1 i r hi
            exact ⟨z, by rw [List.getElem?_append_left (by omega)]; exact hz, he⟩
          · rw [List.getElem?_append_right (by omega)] at hi
            obtain ⟨z, hz, he⟩ := hr2 _ r hi
            exact ⟨z, by rw [List.getElem?_append_right (by omega), hl1]; exact hz, he⟩
        simp only [catD] at he
        split at he
        · rename_i h1
          cases he
          have h1 : xs1 = [] := List.isEmpty_iff.1 h1
          subst h1
          have hx0 : x = [] := List.length_eq_zero_iff.1 (by simpa using hl1.symm)
          subst hx0
          exact ⟨s2, xs2, rfl, by simpa using hl2, by simpa using hget, by simpa using hs2⟩
        · rename_i h1
          split at he
          · rename_i h2
            cases he
            have h2 : xs2 = [] := List.isEmpty_iff.1 h2
            subst h2
            have hy0 : y = [] := List.length_eq_zero_iff.1 (by simpa using hl2.symm)
            subst hy0
            exact ⟨s1, xs1, rfl, by simpa using hl1, by simpa using hget, by simpa using hs1⟩
          · split at he
            · rename_i h3
              cases he
              subst h3
              refine ⟨s1, xs1 ++ xs2, rfl, by simp [hl1, hl2], hget, fun _ n hn => ?_⟩
              have hx0 : x ≠ [] := fun e => by subst e; simp at hl1; simp [hl1] at h1
              exact hs1 hx0 n fun r hr => hn r (by simp [hr])
            · cases he
      · cases he
    · cases h
  | .v _, _, _, h, _ => by simp [rows?] at h
  | .c (.b _), _, _, h, _ => by simp [rows?] at h
  | .c (.i _ _), _, _, h, _ => by simp [rows?] at h
  | .c (.s _), _, _, h, _ => by simp [rows?] at h
  | .c (.f _), _, _, h, _ => by simp [rows?] at h
  | .c (.sl _ (_ :: _)), _, _, h, _ => by simp [rows?] at h
  | .bin .., _, _, h, _ => by simp [rows?] at h
  | .un .., _, _, h, _ => by simp [rows?] at h
  | .cv .., _, _, h, _ => by simp [rows?] at h
  | .ite .., _, _, h, _ => by simp [rows?] at h
  | .len .., _, _, h, _ => by simp [rows?] at h
  | .inb .., _, _, h, _ => by simp [rows?] at h
  | .rng .., _, _, h, _ => by simp [rows?] at h
  | .isk .., _, _, h, _ => by simp [rows?] at h
  | .eqt .., _, _, h, _ => by simp [rows?] at h
  | .idx .., _, _, h, _ => by simp [rows?] at h
  | .sub .., _, _, h, _ => by simp [rows?] at h
  | .bnd .., _, _, h, _ => by simp [rows?] at h
  | .put .., _, _, h, _ => by simp [rows?] at h
  | .mk .., _, _, h, _ => by simp [rows?] at h
  | .room .., _, _, h, _ => by simp [rows?] at h
  | .app .., _, _, h, _ => by simp [rows?] at h

theorem mkLenO_eval {t : Ex} {s : Nat} {xs : List (List D)} (h : t.eval ρ = some (.sl s xs)) : (mkLenO t).eval ρ = some (.i .i64 xs.length) := by
  unfold mkLenO
  split
  · rename_i rs hrs
    obtain ⟨s', xs', e, hl, _⟩ := rows?_sound hrs h
    cases e
    simp [litN, Ex.eval, hl]
  · simp [Ex.eval, h]

theorem mkIdx_eval {t i : Ex} {j m : Nat} {kk : IntKind} {s : Nat} {xs : List (List D)} {r : List D} {d : D} (ht : t.eval ρ = some (.sl s xs)) (hi : i.eval ρ = some (.i kk (m : Int))) (hr : xs[m]? = some r) (hd : r[j]? = some d) :
    (mkIdx t i j).eval ρ = some d := by
  have hplain : (Ex.idx t i j).eval ρ = some d := by simp [Ex.eval, ht, hi, idxD, hr, hd]
  unfold mkIdx
  split
  · rename_i k m' rs hrs
    simp only [Ex.eval, Option.some.injEq, D.i.injEq] at hi
    obtain ⟨_, rfl⟩ := hi
    obtain ⟨s', xs', e, hl, hg, _⟩ := rows?_sound hrs ht
    cases e
    split
    · rename_i r' hr'
      simp at hr'
      split
      · rename_i e' he'
        rw [if_pos (by omega)]
        obtain ⟨x, hx, hev⟩ := hg m r' hr'
        rw [hr] at hx
        cases hx
        obtain ⟨d', hd', he⟩ := evals_get hev he'
        rw [hd] at hd'
        cases hd'
        exact he
      · exact hplain
    · exact hplain
  · exact hplain

theorem mkInb_sound {t i : Ex} {n s : Nat} {xs : List (List D)} {k : IntKind} {m : Int} (ht : t.eval ρ = some (.sl s xs)) (hi : i.eval ρ = some (.i k m)) (hc : ∀ c ∈ mkInb t i n, c.eval ρ = some (.b true)) : s = n ∧ 0 ≤ m ∧ m < xs.length := by
  have hplain : (Ex.inb t i n).eval ρ = some (.b true) → s = n ∧ 0 ≤ m ∧ m < xs.length := by
    intro hb
    simp only [Ex.eval, ht, hi, inbD, Option.some.injEq, D.b.injEq, Bool.and_eq_true, beq_iff_eq, decide_eq_true_eq] at hb
    exact ⟨hb.1.1, hb.1.2, hb.2⟩
  unfold mkInb at hc
  split at hc
  · rename_i k' m' rs hrs
    split at hc
    · rename_i hcond
      simp only [Ex.eval, Option.some.injEq, D.i.injEq] at hi
      obtain ⟨_, rfl⟩ := hi
      obtain ⟨s', xs', e, hl, hg, hs⟩ := rows?_sound hrs ht
      cases e
      obtain ⟨h0, h1, h2⟩ := hcond
      refine ⟨hs (fun e => by subst e; simp at h1) n fun r hr => by simpa using List.all_eq_true.1 h2 r hr, h0, by omega⟩
    · exact hplain (hc _ (by simp))
  · exact hplain (hc _ (by simp))

/-! ### what is appended -/

theorem rowsL_chunks {n k : Nat} {ds : List D} {vs : List Value} (hn : 0 < n) (h : All2 (DR I w) ds vs) (hl : ds.length = k * n) : RowsL I w n (chunks n k ds) vs := by
  intro i r j d hi hj
  have hik : i < k := by have := (List.getElem?_eq_some_iff.1 hi).1; rwa [chunks_length] at this
  rw [chunks_get n k ds i hik] at hi
  cases hi
  rw [List.getElem?_take] at hj
  split at hj
  · rw [List.getElem?_drop] at hj
    obtain ⟨u, hu, hd⟩ := h.get hj
    exact ⟨u, hu, hd⟩
  · cases hj

theorem lsR_evals {es : List Ex} {vs : List Value} (h : LsR I μ w ρ (es.map .e) vs) : ∃ ds, Ex.evals ρ es = some ds ∧ All2 (DR I w) ds vs := by
  have h' := All2.of_map_left (R := LR I μ w ρ) h
  clear h
  induction h' with
  | nil => exact ⟨[], rfl, .nil⟩
  | cons a b ih =>
    obtain ⟨d, hd, hr⟩ := a
    obtain ⟨ds, hds, hrs⟩ := ih
    exact ⟨d :: ds, by simp [Ex.evals, hd, hds], .cons hr hrs⟩

theorem appSrc_sound {n : Nat} {s : S} {t2 : Ex} {v : Value} {s2 : Nat} {rows2 : List (List D)} (hW : WR G B I₀ w₀ I μ w ρ h) (hO : OwnR B I μ w ρ o) (hn : 0 < n) (ha : appSrc G h o n s = some t2) (hs : SR I μ w ρ s v) (ht : t2.eval ρ = some (.sl s2 rows2)) (hw : s2 = n ∨ rows2 = []) :
    SrcV I w n rows2 v := by
  unfold appSrc at ha
  split at ha
  · -- data
    rename_i t
    cases ha
    obtain ⟨d, hd, hr⟩ := e?_sound (t := t2) rfl hs
    rw [ht] at hd
    cases hd
    cases hr with
    | nil _ p cap hz => exact ⟨(fun r hr => by cases hr), p, cap, rfl, .inl rfl⟩
    | sl _ _ blk off cap vs h0 h1 h2 h3 h4 h5 =>
      by_cases hr0 : rows2 = []
      · subst hr0
        exact ⟨(fun r hr => by cases hr), _, cap, rfl, .inl rfl⟩
      · have hsn : s2 = n := hw.resolve_right hr0
        subst hsn
        refine ⟨h1, _, cap, rfl, .inr ⟨⟨blk, off, none⟩, rfl, (List.range (rows2.length * s2)).map fun q => vs (q / s2) (q % s2), by simp, fun i r j d hi hj => ?_, fun q u hq => ?_, fun u hu => ?_⟩⟩
        · have hil : i < rows2.length := (List.getElem?_eq_some_iff.1 hi).1
          have hjl : j < s2 := by have := (List.getElem?_eq_some_iff.1 hj).1; rw [h1 r (List.mem_of_getElem? hi)] at this; exact this
          have hq : i * s2 + j < rows2.length * s2 := by
            have : (i + 1) * s2 ≤ rows2.length * s2 := Nat.mul_le_mul_right _ hil
            rw [Nat.succ_mul] at this
            omega
          refine ⟨vs i j, ?_, h5 i r j d hi hj⟩
          have e1 : (i * s2 + j) / s2 = i := by rw [Nat.mul_comm, Nat.mul_add_div hn, Nat.div_eq_of_lt hjl, Nat.add_zero]
          have e2 : (i * s2 + j) % s2 = j := by rw [Nat.mul_comm, Nat.mul_add_mod, Nat.mod_eq_of_lt hjl]
          simp [hq, e1, e2]
        · simp only [List.getElem?_map] at hq
          obtain ⟨q', hq', rfl⟩ := Option.map_eq_some_iff.1 hq
          have hql : q < rows2.length * s2 := by have := (List.getElem?_eq_some_iff.1 hq').1; simpa using this
          rw [List.getElem?_range hql] at hq'
          cases hq'
          obtain ⟨h6, h7, h8⟩ := row_index hn hql
          have hr := List.getElem?_eq_getElem h6
          have hrl := h1 _ (List.getElem_mem h6)
          have hc := h4 (q / s2) _ (q % s2) _ hr (List.getElem?_eq_getElem (by rw [hrl]; exact h7))
          rw [h8] at hc
          rw [addr_add]
          exact hc
        · obtain ⟨q, hq, rfl⟩ := List.mem_map.1 hu
          have hql : q < rows2.length * s2 := by simpa using hq
          obtain ⟨h6, h7, h8⟩ := row_index hn hql
          have hr := List.getElem?_eq_getElem h6
          have hrl := h1 _ (List.getElem_mem h6)
          exact (h5 (q / s2) _ (q % s2) _ hr (List.getElem?_eq_getElem (by rw [hrl]; exact h7))).one
  · -- one of the call's own
    rename_i k
    unfold Own.live? at ha
    split at ha
    · rename_i t hk
      cases ha
      obtain ⟨v', s, rows, hv', ht', hV⟩ := hO.live k _ hk
      rw [ht] at ht'
      cases ht'
      obtain ⟨b, nn, c, _, hv⟩ := l?_sound (l := .g k) rfl hs
      rw [hv] at hv'
      cases hv'
      obtain ⟨hwid, hV⟩ := hV
      rcases hV with ⟨rfl, rfl⟩ | ⟨x, cap, cur, ty, rfl, h1, h2, h3, h4, h5, h6, h7, h8⟩
      · exact ⟨(fun r hr => by cases hr), none, 0, rfl, .inl rfl⟩
      · by_cases hr0 : rows2 = []
        · subst hr0
          exact ⟨(fun r hr => by cases hr), _, cap, rfl, .inl rfl⟩
        · have hsn : s2 = n := hw.resolve_right hr0
          subst hsn
          have hle : rows2.length * s2 ≤ cap * s2 := Nat.mul_le_mul_right _ h4
          refine ⟨hwid, _, cap, rfl, .inr ⟨⟨x, 0, none⟩, rfl, cur.toList.take (rows2.length * s2), by simp; omega, fun i r j d hi hj => ?_, fun q u hq => ?_, fun u hu => ?_⟩⟩
          · obtain ⟨u, hu, hd⟩ := h7 i r j d hi hj
            have hil : i < rows2.length := (List.getElem?_eq_some_iff.1 hi).1
            have hjl : j < s2 := by have := (List.getElem?_eq_some_iff.1 hj).1; rw [hwid r (List.mem_of_getElem? hi)] at this; exact this
            have hq : i * s2 + j < rows2.length * s2 := by
              have : (i + 1) * s2 ≤ rows2.length * s2 := Nat.mul_le_mul_right _ hil
              rw [Nat.succ_mul] at this
              omega
            exact ⟨u, by rw [List.getElem?_take, if_pos hq]; simpa using hu, hd⟩
          · rw [List.getElem?_take] at hq
            split at hq
            · rw [addr_add, Nat.zero_add, cell_of_row w x q cur ty (0, 0) h3]
              simpa using hq
            · cases hq
          · obtain ⟨q, hq⟩ := List.getElem?_of_mem hu
            rw [List.getElem?_take] at hq
            split at hq
            · rename_i hql
              obtain ⟨h9, h10, h11⟩ := row_index hn hql
              have hr := List.getElem?_eq_getElem h9
              have hrl := hwid _ (List.getElem_mem h9)
              obtain ⟨u', hu', hd⟩ := h7 (q / s2) _ (q % s2) _ hr (List.getElem?_eq_getElem (by rw [hrl]; exact h10))
              rw [h11] at hu'
              have : u' = u := by rw [← Array.getElem?_toList] at hu'; rw [hq] at hu'; cases hu'; rfl
              subst this
              exact hd.one
            · cases hq
    · cases ha
  · -- a block
    rename_i r base s' m
    split at ha
    · rename_i hsn
      subst hsn
      split at ha
      · rename_i ls hls
        split at ha
        · rename_i hle
          split at ha
          · rename_i es hes
            cases ha
            obtain ⟨x, cap, hx, rfl⟩ := l?_sound (l := .sc r base s' m) rfl hs
            obtain ⟨vs, hlen, hcl, hrl⟩ : ∃ vs : List Value, vs.length = m * s' ∧ CellsAt w x base vs ∧ LsR I μ w ρ (es.map .e) vs := by
              obtain ⟨us, ty, fz, hh, hr⟩ := leavesAt_sound hW hls hx
              refine ⟨(us.drop base).take (m * s'), ?_, cellsAt_of_heap hh _, ?_⟩
              · have := hr.length
                simp
                omega
              · have := (hr.drop base).take (m * s')
                rwa [exLs_get hes] at this
            obtain ⟨ds, hds, hdr⟩ := lsR_evals hrl
            have hel : es.length = m * s' := by have := hrl.length; simp at this; omega
            have hev := rowsE_eval (n := s') (k := m) hds hel
            rw [ht] at hev
            simp only [Option.some.injEq, D.sl.injEq] at hev
            obtain ⟨_, e2⟩ := hev
            subst e2
            have hdl : ds.length = m * s' := by have := evals_length hds; omega
            refine ⟨chunks_width hdl, some ⟨x, base, none⟩, cap, by simp [chunks_length], ?_⟩
            refine .inr ⟨_, rfl, vs, by simp [chunks_length, hlen], rowsL_chunks hn hdr hdl, fun q u hq => ?_, fun u hu => ?_⟩
            · rw [addr_add]
              exact hcl q u hq
            · obtain ⟨q, hq⟩ := List.getElem?_of_mem hu
              obtain ⟨d, _, hd⟩ := hdr.get' hq
              exact hd.one
          · cases ha
        · cases ha
      · cases ha
    · cases ha
  · cases ha

end
end Go.Proofs.Ytffahdloddkcfaa.Sx
