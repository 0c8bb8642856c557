/-
  Slices of the call's own, that grow: what the executor says of them, and how it stays so.
-/
import Derived.Test.YtffahdloddkcfaaLoopb
import Derived.Laws.AppendOwn
import Derived.Laws.OwnMore
namespace Go.Proofs.Ytffahdloddkcfaa.Sx
open Go
set_option linter.unnecessarySimpa false
set_option linter.unusedSimpArgs false
set_option linter.unusedVariables false

/-- a slice's header in memory, and the rows that its cells hold; the block is nobody else's -/
def OwnV (B : Nat) (I : Imm) (w : World) (s : Nat) (rows : List (List D)) (v : Value) : Prop :=
  (∀ r ∈ rows, r.length = s) ∧ ((v = .slice none 0 0 ∧ rows = []) ∨
    ∃ x cap cur ty, v = .slice (some ⟨x, 0, none⟩) rows.length cap ∧ B ≤ x ∧ 0 < s ∧ w.heap[x]? = some (.cells cur ty (0, 0)) ∧ rows.length ≤ cap ∧ cap ≤ maxLen ∧ cur.size = cap * s ∧
      (∀ i r j d, rows[i]? = some r → r[j]? = some d → ∃ u, cur[i * s + j]? = some u ∧ DR I w d u) ∧ ¬ I x)

structure OwnR (B : Nat) (I : Imm) (μ : Mu) (w : World) (ρ : List D) (o : Own) : Prop where
  live : ∀ k t, o[k]? = some ⟨t, .live⟩ → ∃ v s rows, μ.v k = some v ∧ t.eval ρ = some (.sl s rows) ∧ OwnV B I w s rows v
  frozen : ∀ k t, o[k]? = some ⟨t, .frozen⟩ → ∃ v d, μ.v k = some v ∧ t.eval ρ = some d ∧ DR I w d v
  dis : ∀ k t v x, o[k]? = some ⟨t, .live⟩ → μ.v k = some v → v.ownBlock = some x → (∀ b, μ b ≠ some x) ∧ ∀ k' t' v', k' ≠ k → o[k']? = some ⟨t', .live⟩ → μ.v k' = some v' → v'.ownBlock ≠ some x
  new : ∀ k, o.length ≤ k → μ.v k = none

section
variable {B : Nat} {I : Imm} {μ : Mu} {w : World} {ρ : List D} {o : Own} {G : Glo} {I₀ : Imm} {w₀ : World} {h : Heap}

theorem OwnR.nil (hv : ∀ k, μ.v k = none) : OwnR B I μ w ρ [] := ⟨fun k t h => by simp at h, fun k t h => by simp at h, fun k t v x h => by simp at h, fun k _ => hv k⟩

theorem OwnV.block {s : Nat} {rows : List (List D)} {v : Value} {x : Nat} (h : OwnV B I w s rows v) (hx : v.ownBlock = some x) :
    ∃ cap cur ty, v = .slice (some ⟨x, 0, none⟩) rows.length cap ∧ B ≤ x ∧ 0 < s ∧ w.heap[x]? = some (.cells cur ty (0, 0)) ∧ rows.length ≤ cap ∧ cap ≤ maxLen ∧ cur.size = cap * s ∧
      (∀ i r j d, rows[i]? = some r → r[j]? = some d → ∃ u, cur[i * s + j]? = some u ∧ DR I w d u) ∧ ¬ I x := by
  rcases h.2 with ⟨rfl, _⟩ | ⟨x', cap, cur, ty, rfl, h'⟩
  · simp [Value.ownBlock] at hx
  · simp [Value.ownBlock] at hx
    subst hx
    exact ⟨cap, cur, ty, rfl, h'⟩

theorem OwnV.slice {s : Nat} {rows : List (List D)} {v : Value} (h : OwnV B I w s rows v) : ∃ b c, v = .slice b rows.length c := by
  rcases h.2 with ⟨rfl, rfl⟩ | ⟨x, cap, cur, ty, rfl, _⟩
  · exact ⟨none, 0, rfl⟩
  · exact ⟨_, _, rfl⟩

theorem OwnR.lt {k x : Nat} {t : Ex} {v : Value} (h : OwnR B I μ w ρ o) (hk : o[k]? = some ⟨t, .live⟩) (hv : μ.v k = some v) (hx : v.ownBlock = some x) : x < w.heap.size ∧ B ≤ x ∧ ¬ I x := by
  obtain ⟨v', s, rows, h1, _, h3⟩ := h.live k t hk
  rw [hv] at h1
  cases h1
  obtain ⟨cap, cur, ty, _, h4, _, h5, _, _, _, _, h6⟩ := h3.block hx
  exact ⟨(Array.getElem?_eq_some_iff.1 h5).1, h4, h6⟩

theorem OwnR.vars (h : OwnR B I μ w ρ o) {ρ' : List D} (hp : ρ <+: ρ') : OwnR B I μ w ρ' o :=
  ⟨fun k t hk => by obtain ⟨v, s, rows, h1, h2, h3⟩ := h.live k t hk; exact ⟨v, s, rows, h1, Ex.eval_pre hp t h2, h3⟩,
   fun k t hk => by obtain ⟨v, d, h1, h2, h3⟩ := h.frozen k t hk; exact ⟨v, d, h1, Ex.eval_pre hp t h2, h3⟩, h.dis, h.new⟩

theorem OwnV.mono {I' : Imm} {w' : World} {s : Nat} {rows : List (List D)} {v : Value} (h : OwnV B I w s rows v) (hI : ∀ x, I x → I' x) (hw : ∀ x, I x → w'.heap[x]? = w.heap[x]?)
    (hb : ∀ x, v.ownBlock = some x → w'.heap[x]? = w.heap[x]? ∧ ¬ I' x) : OwnV B I' w' s rows v := by
  refine ⟨h.1, ?_⟩
  rcases h.2 with h' | ⟨x, cap, cur, ty, rfl, h1, h2, h3, h4, h5, h6, h7, h8⟩
  · exact .inl h'
  · obtain ⟨h9, h10⟩ := hb x (by simp [Value.ownBlock])
    refine .inr ⟨x, cap, cur, ty, rfl, h1, h2, h9.trans h3, h4, h5, h6, fun i r j d hi hj => ?_, h10⟩
    obtain ⟨u, hu, hd⟩ := h7 i r j d hi hj
    exact ⟨u, hu, hd.mono hI hw⟩

/-- What leaves these blocks alone leaves them as they are. -/
theorem OwnR.frame {I' : Imm} {μ' : Mu} {w' : World} (h : OwnR B I μ w ρ o) (he : Evo I μ w I' μ' w') (hf : Fresh μ w μ') (hI : ∀ x, I' x → I x ∨ w.heap.size ≤ x)
    (hs : ∀ k t v x, o[k]? = some ⟨t, .live⟩ → μ.v k = some v → v.ownBlock = some x → w'.heap[x]? = w.heap[x]?) : OwnR B I' μ' w' ρ o := by
  refine ⟨fun k t hk => ?_, fun k t hk => ?_, fun k t v x hk hv hx => ?_, fun k hk => by rw [hf.v]; exact h.new k hk⟩
  · obtain ⟨v, s, rows, h1, h2, h3⟩ := h.live k t hk
    refine ⟨v, s, rows, by rw [hf.v]; exact h1, h2, h3.mono he.imm he.same fun x hx => ⟨hs k t v x hk h1 hx, fun hIx => ?_⟩⟩
    obtain ⟨h4, _, h5⟩ := h.lt hk h1 hx
    rcases hI x hIx with h' | h'
    · exact h5 h'
    · omega
  · obtain ⟨v, d, h1, h2, h3⟩ := h.frozen k t hk
    exact ⟨v, d, by rw [hf.v]; exact h1, h2, h3.mono he.imm he.same⟩
  · rw [hf.v] at hv
    obtain ⟨h1, h2⟩ := h.dis k t v x hk hv hx
    refine ⟨fun b hb => ?_, fun k' t' v' hne hk' hv' => ?_⟩
    · rcases hf.m b x hb with h' | h'
      · exact h1 b h'
      · have := (h.lt hk hv hx).1; omega
    · rw [hf.v] at hv'
      exact h2 k' t' v' hne hk' hv'

/-- the blocks of the slices that grow -/
def OwnB (μ : Mu) (o : Own) (x : Nat) : Prop := ∃ k t v, o[k]? = some ⟨t, .live⟩ ∧ μ.v k = some v ∧ v.ownBlock = some x

theorem WR.more (hW : WR G B I₀ w₀ I μ w ρ h) {X : Nat → Prop} (hX : ∀ x, X x → x < w.heap.size ∧ B ≤ x ∧ ∀ b, μ b ≠ some x) :
    WR G B I₀ w₀ (fun x => I x ∨ X x) μ w ρ h ∧ Evo I μ w (fun x => I x ∨ X x) μ w := by
  have he : Evo I μ w (fun x => I x ∨ X x) μ w := ⟨fun _ h => .inl h, fun _ _ => rfl, fun _ _ h => h, fun _ _ h => h⟩
  refine ⟨⟨fun b x hb => ?_, fun b b' x h1 h2 => (hW.inj b b' x h1 h2).imp id .inl, hW.glo.mono he.imm he.same, hW.old, hW.size, fun x hx => ?_, fun x hx => ?_, hW.wd⟩, he⟩
  · obtain ⟨blk, h1, vs, ty, h2, h3, h4⟩ := hW.blk b x hb
    refine ⟨blk, h1, vs, ty, h2, h3.imp fun _ _ hr => hr.mono he (List.prefix_refl _), ?_⟩
    split
    · rename_i hro
      rw [if_pos hro] at h4
      exact .inl h4
    · rename_i hro
      rw [if_neg hro] at h4
      exact ⟨fun hh => hh.elim h4.1 fun hx => (hX x hx).2.2 b hb, h4.2⟩
  · rcases hx with hx | hx
    · exact hW.imm x hx
    · exact (hX x hx).1
  · rcases hx with hx | hx
    · exact hW.imm0 x hx
    · exact .inr (hX x hx).2.1

theorem OwnR.blocks (h : OwnR B I μ w ρ o) : ∀ x, OwnB μ o x → x < w.heap.size ∧ B ≤ x ∧ ∀ b, μ b ≠ some x := by
  rintro x ⟨k, t, v, hk, hv, hx⟩
  obtain ⟨h1, h2, _⟩ := h.lt hk hv hx
  exact ⟨h1, h2, (h.dis k t v x hk hv hx).1⟩

/-- A simple operation leaves the slices that grow alone. -/
theorem simple_own {P : Program} {fr : List S} {a : Act} {op : Oper} {cs : List Ex} {s : S} {h' : Heap} (hW : WR G B I₀ w₀ I μ w ρ h) (hO : OwnR B I μ w ρ o) (hop : ∀ x, SR I μ w ρ (opd fr x) (a.eval x))
    (hs : simple P G fr h op.op = some (cs, s, h')) (hc : ∀ c ∈ cs, c.eval ρ = some (.b true)) :
    ∃ nx v w' μ', (execOp a.eval op).run P w = .ok nx w' ∧ (nx = .value v ∨ (nx = .skip ∧ v = undef)) ∧ SR I μ' w' ρ s v ∧ WR G B I₀ w₀ I μ' w' ρ h' ∧ Evo I μ w I μ' w' ∧ OwnR B I μ' w' ρ o ∧ Fresh μ w μ' := by
  obtain ⟨nx, v, w', μ', hrun, hn, hsr, hW', he, hf⟩ := simple_sound hW hop hs hc
  obtain ⟨hW2, he2⟩ := hW.more hO.blocks
  obtain ⟨nx2, v2, w2, μ2, hrun2, _, _, _, he3, _⟩ := simple_sound hW2 (fun x => (hop x).mono he2 (List.prefix_refl _)) hs hc
  rw [hrun] at hrun2
  cases hrun2
  exact ⟨nx, v, w', μ', hrun, hn, hsr, hW', he, hO.frame he hf (fun x hx => .inl hx) (fun k t v x hk hv hx => he3.same x (.inr ⟨k, t, v, hk, hv, hx⟩)), hf⟩

/-- A call that changes nothing that was. -/
theorem OwnR.call (hO : OwnR B I μ w ρ o) {I' : Imm} {w' : World} (h1 : ∀ x, I x → I' x) (h2 : ∀ x, I' x → I x ∨ w.heap.size ≤ x) (hi : ∀ x, I x → x < w.heap.size)
    (h4 : ∀ x, x < w.heap.size → w'.heap[x]? = w.heap[x]?) : OwnR B I' μ w' ρ o :=
  hO.frame ⟨h1, fun x hx => h4 x (hi x hx), fun _ _ h => h, fun _ _ h => h⟩ (Fresh.refl _ _) h2 fun k t v x hk hv hx => h4 x (hO.lt hk hv hx).1

/-! ### data from now on -/

theorem frz_get {ks : List Nat} {o : Own} {k : Nat} : (frz ks o)[k]? = (o[k]?).map fun os => if ks.contains k && os.st == .live then { os with st := .frozen } else os := by
  simp [frz, List.getElem?_mapIdx]
theorem frz_length {ks : List Nat} {o : Own} : (frz ks o).length = o.length := by simp [frz]

theorem OwnV.data {I' : Imm} {s : Nat} {rows : List (List D)} {v : Value} (h : OwnV B I w s rows v) (hI : ∀ x, I x → I' x) (hb : ∀ x, v.ownBlock = some x → I' x) : DR I' w (.sl s rows) v := by
  rcases h.2 with ⟨rfl, rfl⟩ | ⟨x, cap, cur, ty, rfl, h1, h2, h3, h4, h5, h6, h7, h8⟩
  · exact .nil s none 0 fun _ => ⟨rfl, rfl⟩
  · refine .sl s rows x 0 cap (fun i j => cur.getD (i * s + j) undef) h2 h.1 h4 (hb x (by simp [Value.ownBlock])) (fun i r j d hi hj => ?_) (fun i r j d hi hj => ?_)
    · obtain ⟨u, hu, _⟩ := h7 i r j d hi hj
      rw [cell_of_row w x _ cur ty (0, 0) h3, Nat.zero_add, Array.getD_eq_getD_getElem?, hu]
      rfl
    · obtain ⟨u, hu, hd⟩ := h7 i r j d hi hj
      rw [Array.getD_eq_getD_getElem?, hu]
      exact hd.mono hI fun _ _ => rfl

/-- Slices that grow become data. -/
theorem OwnR.frz (hO : OwnR B I μ w ρ o) (hW : WR G B I₀ w₀ I μ w ρ h) (ks : List Nat) :
    ∃ I', WR G B I₀ w₀ I' μ w ρ h ∧ Evo I μ w I' μ w ∧ OwnR B I' μ w ρ (frz ks o) := by
  obtain ⟨hW', he⟩ := hW.more (X := fun x => ∃ k t v, k ∈ ks ∧ o[k]? = some ⟨t, .live⟩ ∧ μ.v k = some v ∧ v.ownBlock = some x) (by
    rintro x ⟨k, t, v, _, hk, hv, hx⟩
    exact hO.blocks x ⟨k, t, v, hk, hv, hx⟩)
  have hlive : ∀ k t, (Sx.frz ks o)[k]? = some ⟨t, .live⟩ → k ∉ ks ∧ o[k]? = some ⟨t, .live⟩ := by
    intro k t hk
    rw [frz_get] at hk
    obtain ⟨os, ho, he⟩ := Option.map_eq_some_iff.1 hk
    by_cases hm : k ∈ ks
    · obtain ⟨t', st⟩ := os
      cases st <;> simp [hm] at he
    · simp [hm] at he
      subst he
      exact ⟨hm, ho⟩
  refine ⟨_, hW', he, fun k t hk => ?_, fun k t hk => ?_, fun k t v x hk hv hx => ?_, fun k hk => hO.new k (by rwa [frz_length] at hk)⟩
  · obtain ⟨hm, hk⟩ := hlive k t hk
    obtain ⟨v, s, rows, h1, h2, h3⟩ := hO.live k t hk
    refine ⟨v, s, rows, h1, h2, h3.mono he.imm he.same fun x hx => ⟨rfl, ?_⟩⟩
    rintro (hIx | ⟨k', t', v', hm', hk', hv', hx'⟩)
    · exact (hO.lt hk h1 hx).2.2 hIx
    · exact (hO.dis k t v x hk h1 hx).2 k' t' v' (fun e => hm (e ▸ hm')) hk' hv' hx'
  · rw [frz_get] at hk
    obtain ⟨⟨t', st⟩, ho, he'⟩ := Option.map_eq_some_iff.1 hk
    cases st with
    | live =>
      by_cases hm : k ∈ ks
      · simp [hm] at he'
        subst he'
        obtain ⟨v, s, rows, h1, h2, h3⟩ := hO.live k t' ho
        exact ⟨v, _, h1, h2, h3.data he.imm fun x hx => .inr ⟨k, t', v, hm, ho, h1, hx⟩⟩
      · simp [hm] at he'
    | frozen =>
      have : t' = t := by simpa using he'
      subst this
      obtain ⟨v, d, h1, h2, h3⟩ := hO.frozen k t' ho
      exact ⟨v, d, h1, h2, h3.mono he.imm he.same⟩
    | dead => simp at he'
  · obtain ⟨hm, hk⟩ := hlive k t hk
    obtain ⟨h1, h2⟩ := hO.dis k t v x hk hv hx
    exact ⟨h1, fun k' t' v' hne hk' hv' => h2 k' t' v' hne (hlive k' t' hk').2 hv'⟩

theorem fixL_sound (hO : OwnR B I μ w ρ o) {l : SL} {v : Value} (h : LR I μ w ρ l v) : LR I μ w ρ (fixL o l) v := by
  cases l with
  | g k =>
    simp only [fixL]
    split
    · rename_i t ht
      obtain ⟨v', d, h1, h2, h3⟩ := hO.frozen k t ht
      obtain ⟨b, n, c, _, hv⟩ := h
      rw [hv] at h1
      cases h1
      exact ⟨d, h2, h3⟩
    · exact h
  | _ => exact h

theorem fixLs_sound (hO : OwnR B I μ w ρ o) {ls : List SL} {vs : List Value} (h : LsR I μ w ρ ls vs) : LsR I μ w ρ (ls.map (fixL o)) vs := by
  induction h with
  | nil => exact .nil
  | cons a b ih => exact .cons (fixL_sound hO a) ih

theorem fixV_sound (hO : OwnR B I μ w ρ o) {g : Bool} {ls : List SL} {v : Value} (h : VR I μ w ρ g ls v) : VR I μ w ρ g (ls.map (fixL o)) v := by
  cases g
  · obtain ⟨l, rfl, h⟩ := h
    exact ⟨_, rfl, fixL_sound hO h⟩
  · obtain ⟨vs, hv, h⟩ := h
    exact ⟨vs, hv, fixLs_sound hO h⟩

theorem fixS_sound (hO : OwnR B I μ w ρ o) {s : S} {v : Value} (h : SR I μ w ρ s v) : SR I μ w ρ (fixS o s) v := by
  cases s with
  | val g ls => exact fixV_sound hO h
  | x => exact h
  | u => exact h
  | tup vs => exact h

theorem fixVs_sound (hO : OwnR B I μ w ρ o) {ps : List (Bool × List SL)} {vs : List Value} (h : All2 (fun (p : Bool × List SL) u => VR I μ w ρ p.1 p.2 u) ps vs) : All2 (fun (p : Bool × List SL) u => VR I μ w ρ p.1 p.2 u) (fixVs o ps) vs := by
  induction h with
  | nil => exact .nil
  | cons a b ih => exact .cons (fixV_sound hO a) ih

theorem WR.fix (hW : WR G B I₀ w₀ I μ w ρ h) (hO : OwnR B I μ w ρ o) : WR G B I₀ w₀ I μ w ρ (h.map fun b => { b with ls := b.ls.map (fixL o) }) := by
  refine ⟨fun b x hb => ?_, hW.inj, hW.glo, hW.old, hW.size, hW.imm, hW.imm0, hW.wd⟩
  obtain ⟨blk, h1, vs, ty, h2, h3, h4⟩ := hW.blk b x hb
  exact ⟨{ blk with ls := blk.ls.map (fixL o) }, by simp [h1], vs, ty, h2, fixLs_sound hO h3, h4⟩

theorem FR.fix {fr : List S} {a : Act} (hF : FR I μ w ρ fr a) (hO : OwnR B I μ w ρ o) : FR I μ w ρ (fr.map (fixS o)) a := by
  refine ⟨by simpa using hF.len, fun t => ?_, hF.defers⟩
  have := hF.at_ t
  have he : (fr.map (fixS o)).getD t .x = fixS o (fr.getD t .x) := by
    simp only [List.getD_eq_getElem?_getD, List.getElem?_map]
    cases fr[t]? <;> rfl
  rw [he]
  exact fixS_sound hO this

end
end Go.Proofs.Ytffahdloddkcfaa.Sx
