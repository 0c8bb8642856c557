/-
  Slices of the call's own, that grow: what the executor says of them, and how it stays so.
  Slices of the call's own, that grow: a new one, one that is written, one that is appended to.
  Slices of the call's own, that grow: rows written out, and what is appended.
  The operations on slices that grow: what the executor reckons, the machine does.
  THE SOUNDNESS of the executor: what the IR says, the machine does.
-/
import Derived.Test.YtlihbielphcgbaaGreatDoorBb
import Derived.Laws.AppendOwn
import Derived.Laws.OwnMore
import Derived.IntWalk
namespace Go.Proofs.YtlihbielphcgbaaGreatDoor.Sx
open Go
set_option linter.unnecessarySimpa false
set_option linter.unusedSimpArgs false
set_option linter.unusedVariables false

/-- a slice's header in memory, and the rows that its cells hold; the block is nobody else's -/
def OwnV (B : Nat) (I : Imm) (w : World) (s : Nat) (rows : List (List D)) (v : Value) : Prop :=
  (∀ r ∈ rows, r.length = s) ∧ ((v = .slice none 0 0 ∧ rows = []) ∨
    ∃ x cap cur ty, v = .slice (some ⟨x, 0, none⟩) rows.length cap ∧ B ≤ x ∧ 0 < s ∧ w.heap[x]? = some (.cells cur ty (0, 0)) ∧ rows.length ≤ cap ∧ cap ≤ maxLen ∧ cur.size = cap * s ∧
      (∀ i r j d, rows[i]? = some r → r[j]? = some d → ∃ u, cur[i * s + j]? = some u ∧ DR I w d u) ∧ ¬ I x)

structure OwnR (B : Nat) (I : Imm) (μ : Mu) (w : World) (ρ : List D) (o : Own) : Prop where
  live : ∀ k t, o[k]? = some ⟨t, .live⟩ → ∃ v s rows, μ.v k = some v ∧ t.eval ρ = some (.sl s rows) ∧ OwnV B I w s rows v
  frozen : ∀ k t, o[k]? = some ⟨t, .frozen⟩ → ∃ v d, μ.v k = some v ∧ t.eval ρ = some d ∧ DR I w d v
  dis : ∀ k t v x, o[k]? = some ⟨t, .live⟩ → μ.v k = some v → v.ownBlock = some x → (∀ b, μ b ≠ some x) ∧ ∀ k' t' v', k' ≠ k → o[k']? = some ⟨t', .live⟩ → μ.v k' = some v' → v'.ownBlock ≠ some x
  new : ∀ k, o.length ≤ k → μ.v k = none

section
variable {B : Nat} {I : Imm} {μ : Mu} {w : World} {ρ : List D} {o : Own} {G : Glo} {I₀ : Imm} {w₀ : World} {h : Heap}

theorem OwnR.nil (hv : ∀ k, μ.v k = none) : OwnR B I μ w ρ [] := ⟨fun k t h => by simp at h, fun k t h => by simp at h, fun k t v x h => by simp at h, fun k _ => hv k⟩

theorem OwnV.block {s : Nat} {rows : List (List D)} {v : Value} {x : Nat} (h : OwnV B I w s rows v) (hx : v.ownBlock = some x) :
    ∃ cap cur ty, v = .slice (some ⟨x, 0, none⟩) rows.length cap ∧ B ≤ x ∧ 0 < s ∧ w.heap[x]? = some (.cells cur ty (0, 0)) ∧ rows.length ≤ cap ∧ cap ≤ maxLen ∧ cur.size = cap * s ∧
      (∀ i r j d, rows[i]? = some r → r[j]? = some d → ∃ u, cur[i * s + j]? = some u ∧ DR I w d u) ∧ ¬ I x := by
  rcases h.2 with ⟨rfl, _⟩ | ⟨x', cap, cur, ty, rfl, h'⟩
  · simp [Value.ownBlock] at hx
  · simp [Value.ownBlock] at hx
    subst hx
    exact ⟨cap, cur, ty, rfl, h'⟩

theorem OwnV.slice {s : Nat} {rows : List (List D)} {v : Value} (h : OwnV B I w s rows v) : ∃ b c, v = .slice b rows.length c := by
  rcases h.2 with ⟨rfl, rfl⟩ | ⟨x, cap, cur, ty, rfl, _⟩
  · exact ⟨none, 0, rfl⟩
  · exact ⟨_, _, rfl⟩

theorem OwnR.lt {k x : Nat} {t : Ex} {v : Value} (h : OwnR B I μ w ρ o) (hk : o[k]? = some ⟨t, .live⟩) (hv : μ.v k = some v) (hx : v.ownBlock = some x) : x < w.heap.size ∧ B ≤ x ∧ ¬ I x := by
  obtain ⟨v', s, rows, h1, _, h3⟩ := h.live k t hk
  rw [hv] at h1
  cases h1
  obtain ⟨cap, cur, ty, _, h4, _, h5, _, _, _, _, h6⟩ := h3.block hx
  exact ⟨(Array.getElem?_eq_some_iff.1 h5).1, h4, h6⟩

theorem OwnR.vars (h : OwnR B I μ w ρ o) {ρ' : List D} (hp : ρ <+: ρ') : OwnR B I μ w ρ' o :=
  ⟨fun k t hk => by obtain ⟨v, s, rows, h1, h2, h3⟩ := h.live k t hk; exact ⟨v, s, rows, h1, Ex.eval_pre hp t h2, h3⟩,
   fun k t hk => by obtain ⟨v, d, h1, h2, h3⟩ := h.frozen k t hk; exact ⟨v, d, h1, Ex.eval_pre hp t h2, h3⟩, h.dis, h.new⟩

theorem OwnV.mono {I' : Imm} {w' : World} {s : Nat} {rows : List (List D)} {v : Value} (h : OwnV B I w s rows v) (hI : ∀ x, I x → I' x) (hw : ∀ x, I x → w'.heap[x]? = w.heap[x]?)
    (hb : ∀ x, v.ownBlock = some x → w'.heap[x]? = w.heap[x]? ∧ ¬ I' x) : OwnV B I' w' s rows v := by
  refine ⟨h.1, ?_⟩
  rcases h.2 with h' | ⟨x, cap, cur, ty, rfl, h1, h2, h3, h4, h5, h6, h7, h8⟩
  · exact .inl h'
  · obtain ⟨h9, h10⟩ := hb x (by simp [Value.ownBlock])
    refine .inr ⟨x, cap, cur, ty, rfl, h1, h2, h9.trans h3, h4, h5, h6, fun i r j d hi hj => ?_, h10⟩
    obtain ⟨u, hu, hd⟩ := h7 i r j d hi hj
    exact ⟨u, hu, hd.mono hI hw⟩

/-- What leaves these blocks alone leaves them as they are. -/
theorem OwnR.frame {I' : Imm} {μ' : Mu} {w' : World} (h : OwnR B I μ w ρ o) (he : Evo I μ w I' μ' w') (hf : Fresh μ w μ') (hI : ∀ x, I' x → I x ∨ w.heap.size ≤ x)
    (hs : ∀ k t v x, o[k]? = some ⟨t, .live⟩ → μ.v k = some v → v.ownBlock = some x → w'.heap[x]? = w.heap[x]?) : OwnR B I' μ' w' ρ o := by
  refine ⟨fun k t hk => ?_, fun k t hk => ?_, fun k t v x hk hv hx => ?_, fun k hk => by rw [hf.v]; exact h.new k hk⟩
  · obtain ⟨v, s, rows, h1, h2, h3⟩ := h.live k t hk
    refine ⟨v, s, rows, by rw [hf.v]; exact h1, h2, h3.mono he.imm he.same fun x hx => ⟨hs k t v x hk h1 hx, fun hIx => ?_⟩⟩
    obtain ⟨h4, _, h5⟩ := h.lt hk h1 hx
    rcases hI x hIx with h' | h'
    · exact h5 h'
    · omega
  · obtain ⟨v, d, h1, h2, h3⟩ := h.frozen k t hk
    exact ⟨v, d, by rw [hf.v]; exact h1, h2, h3.mono he.imm he.same⟩
  · rw [hf.v] at hv
    obtain ⟨h1, h2⟩ := h.dis k t v x hk hv hx
    refine ⟨fun b hb => ?_, fun k' t' v' hne hk' hv' => ?_⟩
    · rcases hf.m b x hb with h' | h'
      · exact h1 b h'
      · have := (h.lt hk hv hx).1; omega
    · rw [hf.v] at hv'
      exact h2 k' t' v' hne hk' hv'

/-- the blocks of the slices that grow -/
def OwnB (μ : Mu) (o : Own) (x : Nat) : Prop := ∃ k t v, o[k]? = some ⟨t, .live⟩ ∧ μ.v k = some v ∧ v.ownBlock = some x

theorem WR.more (hW : WR G B I₀ w₀ I μ w ρ h) {X : Nat → Prop} (hX : ∀ x, X x → x < w.heap.size ∧ B ≤ x ∧ ∀ b, μ b ≠ some x) :
    WR G B I₀ w₀ (fun x => I x ∨ X x) μ w ρ h ∧ Evo I μ w (fun x => I x ∨ X x) μ w := by
  have he : Evo I μ w (fun x => I x ∨ X x) μ w := ⟨fun _ h => .inl h, fun _ _ => rfl, fun _ _ h => h, fun _ _ h => h⟩
  refine ⟨⟨fun b x hb => ?_, fun b b' x h1 h2 => (hW.inj b b' x h1 h2).imp id .inl, hW.glo.mono he.imm he.same, hW.old, hW.size, fun x hx => ?_, fun x hx => ?_, hW.wd⟩, he⟩
  · obtain ⟨blk, h1, vs, ty, h2, h3, h4⟩ := hW.blk b x hb
    refine ⟨blk, h1, vs, ty, h2, h3.imp fun _ _ hr => hr.mono he (List.prefix_refl _), ?_⟩
    split
    · rename_i hro
      rw [if_pos hro] at h4
      exact .inl h4
    · rename_i hro
      rw [if_neg hro] at h4
      exact ⟨fun hh => hh.elim h4.1 fun hx => (hX x hx).2.2 b hb, h4.2⟩
  · rcases hx with hx | hx
    · exact hW.imm x hx
    · exact (hX x hx).1
  · rcases hx with hx | hx
    · exact hW.imm0 x hx
    · exact .inr (hX x hx).2.1

theorem OwnR.blocks (h : OwnR B I μ w ρ o) : ∀ x, OwnB μ o x → x < w.heap.size ∧ B ≤ x ∧ ∀ b, μ b ≠ some x := by
  rintro x ⟨k, t, v, hk, hv, hx⟩
  obtain ⟨h1, h2, _⟩ := h.lt hk hv hx
  exact ⟨h1, h2, (h.dis k t v x hk hv hx).1⟩

/-- A simple operation leaves the slices that grow alone. -/
theorem simple_own {P : Program} {fr : List S} {a : Act} {op : Oper} {cs : List Ex} {s : S} {h' : Heap} (hW : WR G B I₀ w₀ I μ w ρ h) (hO : OwnR B I μ w ρ o) (hop : ∀ x, SR I μ w ρ (opd fr x) (a.eval x))
    (hs : simple P G fr h op.op = some (cs, s, h')) (hc : ∀ c ∈ cs, c.eval ρ = some (.b true)) :
    ∃ nx v w' μ', (execOp a.eval op).run P w = .ok nx w' ∧ (nx = .value v ∨ (nx = .skip ∧ v = undef)) ∧ SR I μ' w' ρ s v ∧ WR G B I₀ w₀ I μ' w' ρ h' ∧ Evo I μ w I μ' w' ∧ OwnR B I μ' w' ρ o ∧ Fresh μ w μ' := by
  obtain ⟨nx, v, w', μ', hrun, hn, hsr, hW', he, hf⟩ := simple_sound hW hop hs hc
  obtain ⟨hW2, he2⟩ := hW.more hO.blocks
  obtain ⟨nx2, v2, w2, μ2, hrun2, _, _, _, he3, _⟩ := simple_sound hW2 (fun x => (hop x).mono he2 (List.prefix_refl _)) hs hc
  rw [hrun] at hrun2
  cases hrun2
  exact ⟨nx, v, w', μ', hrun, hn, hsr, hW', he, hO.frame he hf (fun x hx => .inl hx) (fun k t v x hk hv hx => he3.same x (.inr ⟨k, t, v, hk, hv, hx⟩)), hf⟩

/-- A call that changes nothing that was. -/
theorem OwnR.call (hO : OwnR B I μ w ρ o) {I' : Imm} {w' : World} (h1 : ∀ x, I x → I' x) (h2 : ∀ x, I' x → I x ∨ w.heap.size ≤ x) (hi : ∀ x, I x → x < w.heap.size)
    (h4 : ∀ x, x < w.heap.size → w'.heap[x]? = w.heap[x]?) : OwnR B I' μ w' ρ o :=
  hO.frame ⟨h1, fun x hx => h4 x (hi x hx), fun _ _ h => h, fun _ _ h => h⟩ (Fresh.refl _ _) h2 fun k t v x hk hv hx => h4 x (hO.lt hk hv hx).1

/-! ### data from now on -/

theorem frz_get {ks : List Nat} {o : Own} {k : Nat} : (frz ks o)[k]? = (o[k]?).map fun os => if ks.contains k && os.st == .live then { os with st := .frozen } else os := by
  simp [frz, List.getElem?_mapIdx]
theorem frz_length {ks : List Nat} {o : Own} : (frz ks o).length = o.length := by simp [frz]

theorem OwnV.data {I' : Imm} {s : Nat} {rows : List (List D)} {v : Value} (h : OwnV B I w s rows v) (hI : ∀ x, I x → I' x) (hb : ∀ x, v.ownBlock = some x → I' x) : DR I' w (.sl s rows) v := by
  rcases h.2 with ⟨rfl, rfl⟩ | ⟨x, cap, cur, ty, rfl, h1, h2, h3, h4, h5, h6, h7, h8⟩
  · exact .nil s none 0 fun _ => ⟨rfl, rfl⟩
  · refine .sl s rows x 0 cap (fun i j => cur.getD (i * s + j) undef) h2 h.1 h4 (hb x (by simp [Value.ownBlock])) (fun i r j d hi hj => ?_) (fun i r j d hi hj => ?_) (fun _ => ⟨cur, ty, h3⟩)
    · obtain ⟨u, hu, _⟩ := h7 i r j d hi hj
      rw [cell_of_row w x _ cur ty (0, 0) h3, Nat.zero_add, Array.getD_eq_getD_getElem?, hu]
      rfl
    · obtain ⟨u, hu, hd⟩ := h7 i r j d hi hj
      rw [Array.getD_eq_getD_getElem?, hu]
      exact hd.mono hI fun _ _ => rfl

/-- Slices that grow become data. -/
theorem OwnR.frz2 (hO : OwnR B I μ w ρ o) (hW : WR G B I₀ w₀ I μ w ρ h) (ks : List Nat) :
    ∃ I', WR G B I₀ w₀ I' μ w ρ h ∧ Evo I μ w I' μ w ∧ OwnR B I' μ w ρ (frz ks o) ∧ ∀ k t v x, k ∈ ks → o[k]? = some ⟨t, .live⟩ → μ.v k = some v → v.ownBlock = some x → I' x := by
  obtain ⟨hW', he⟩ := hW.more (X := fun x => ∃ k t v, k ∈ ks ∧ o[k]? = some ⟨t, .live⟩ ∧ μ.v k = some v ∧ v.ownBlock = some x) (by
    rintro x ⟨k, t, v, _, hk, hv, hx⟩
    exact hO.blocks x ⟨k, t, v, hk, hv, hx⟩)
  have hlive : ∀ k t, (Sx.frz ks o)[k]? = some ⟨t, .live⟩ → k ∉ ks ∧ o[k]? = some ⟨t, .live⟩ := by
    intro k t hk
    rw [frz_get] at hk
    obtain ⟨os, ho, he⟩ := Option.map_eq_some_iff.1 hk
    by_cases hm : k ∈ ks
    · obtain ⟨t', st⟩ := os
      cases st <;> simp [hm] at he
    · simp [hm] at he
      subst he
      exact ⟨hm, ho⟩
  refine ⟨_, hW', he, ⟨fun k t hk => ?_, fun k t hk => ?_, fun k t v x hk hv hx => ?_, fun k hk => hO.new k (by rwa [frz_length] at hk)⟩, fun k t v x hm hk hv hx => .inr ⟨k, t, v, hm, hk, hv, hx⟩⟩
  · obtain ⟨hm, hk⟩ := hlive k t hk
    obtain ⟨v, s, rows, h1, h2, h3⟩ := hO.live k t hk
    refine ⟨v, s, rows, h1, h2, h3.mono he.imm he.same fun x hx => ⟨rfl, ?_⟩⟩
    rintro (hIx | ⟨k', t', v', hm', hk', hv', hx'⟩)
    · exact (hO.lt hk h1 hx).2.2 hIx
    · exact (hO.dis k t v x hk h1 hx).2 k' t' v' (fun e => hm (e ▸ hm')) hk' hv' hx'
  · rw [frz_get] at hk
    obtain ⟨⟨t', st⟩, ho, he'⟩ := Option.map_eq_some_iff.1 hk
    cases st with
    | live =>
      by_cases hm : k ∈ ks
      · simp [hm] at he'
        subst he'
        obtain ⟨v, s, rows, h1, h2, h3⟩ := hO.live k t' ho
        exact ⟨v, _, h1, h2, h3.data he.imm fun x hx => .inr ⟨k, t', v, hm, ho, h1, hx⟩⟩
      · simp [hm] at he'
    | frozen =>
      have : t' = t := by simpa using he'
      subst this
      obtain ⟨v, d, h1, h2, h3⟩ := hO.frozen k t' ho
      exact ⟨v, d, h1, h2, h3.mono he.imm he.same⟩
    | dead => simp at he'
  · obtain ⟨hm, hk⟩ := hlive k t hk
    obtain ⟨h1, h2⟩ := hO.dis k t v x hk hv hx
    exact ⟨h1, fun k' t' v' hne hk' hv' => h2 k' t' v' hne (hlive k' t' hk').2 hv'⟩

theorem OwnR.frz (hO : OwnR B I μ w ρ o) (hW : WR G B I₀ w₀ I μ w ρ h) (ks : List Nat) :
    ∃ I', WR G B I₀ w₀ I' μ w ρ h ∧ Evo I μ w I' μ w ∧ OwnR B I' μ w ρ (Sx.frz ks o) := by
  obtain ⟨I', h1, h2, h3, _⟩ := hO.frz2 hW ks
  exact ⟨I', h1, h2, h3⟩

theorem fixL_sound (hO : OwnR B I μ w ρ o) {l : SL} {v : Value} (h : LR I μ w ρ l v) : LR I μ w ρ (fixL o l) v := by
  cases l with
  | g k =>
    simp only [fixL]
    split
    · rename_i t ht
      obtain ⟨v', d, h1, h2, h3⟩ := hO.frozen k t ht
      obtain ⟨b, n, c, _, hv⟩ := h
      rw [hv] at h1
      cases h1
      exact ⟨d, h2, h3⟩
    · exact h
  | _ => exact h

theorem fixLs_sound (hO : OwnR B I μ w ρ o) {ls : List SL} {vs : List Value} (h : LsR I μ w ρ ls vs) : LsR I μ w ρ (ls.map (fixL o)) vs := by
  induction h with
  | nil => exact .nil
  | cons a b ih => exact .cons (fixL_sound hO a) ih

theorem fixV_sound (hO : OwnR B I μ w ρ o) {g : Bool} {ls : List SL} {v : Value} (h : VR I μ w ρ g ls v) : VR I μ w ρ g (ls.map (fixL o)) v := by
  cases g
  · obtain ⟨l, rfl, h⟩ := h
    exact ⟨_, rfl, fixL_sound hO h⟩
  · obtain ⟨vs, hv, h⟩ := h
    exact ⟨vs, hv, fixLs_sound hO h⟩

theorem fixS_sound (hO : OwnR B I μ w ρ o) {s : S} {v : Value} (h : SR I μ w ρ s v) : SR I μ w ρ (fixS o s) v := by
  cases s with
  | val g ls => exact fixV_sound hO h
  | x => exact h
  | u => exact h
  | tup vs => exact h

theorem fixVs_sound (hO : OwnR B I μ w ρ o) {ps : List (Bool × List SL)} {vs : List Value} (h : All2 (fun (p : Bool × List SL) u => VR I μ w ρ p.1 p.2 u) ps vs) : All2 (fun (p : Bool × List SL) u => VR I μ w ρ p.1 p.2 u) (fixVs o ps) vs := by
  induction h with
  | nil => exact .nil
  | cons a b ih => exact .cons (fixV_sound hO a) ih

theorem WR.fix (hW : WR G B I₀ w₀ I μ w ρ h) (hO : OwnR B I μ w ρ o) : WR G B I₀ w₀ I μ w ρ (h.map fun b => { b with ls := b.ls.map (fixL o) }) := by
  refine ⟨fun b x hb => ?_, hW.inj, hW.glo, hW.old, hW.size, hW.imm, hW.imm0, hW.wd⟩
  obtain ⟨blk, h1, vs, ty, h2, h3, h4⟩ := hW.blk b x hb
  exact ⟨{ blk with ls := blk.ls.map (fixL o) }, by simp [h1], vs, ty, h2, fixLs_sound hO h3, h4⟩

theorem FR.fix {fr : List S} {a : Act} (hF : FR I μ w ρ fr a) (hO : OwnR B I μ w ρ o) : FR I μ w ρ (fr.map (fixS o)) a := by
  refine ⟨by simpa using hF.len, fun t => ?_⟩
  have := hF.at_ t
  have he : (fr.map (fixS o)).getD t .x = fixS o (fr.getD t .x) := by
    simp only [List.getD_eq_getElem?_getD, List.getElem?_map]
    cases fr[t]? <;> rfl
  rw [he]
  exact fixS_sound hO this

end
end Go.Proofs.YtlihbielphcgbaaGreatDoor.Sx

namespace Go.Proofs.YtlihbielphcgbaaGreatDoor.Sx
open Go
set_option linter.unnecessarySimpa false
set_option linter.unusedSimpArgs false
set_option linter.unusedVariables false

section
variable {B : Nat} {I : Imm} {μ : Mu} {w : World} {ρ : List D} {o : Own} {G : Glo} {I₀ : Imm} {w₀ : World} {h : Heap} {P : Program}

/-- A world that has grown, one block of it written. -/
structure Gr (w w' : World) (row : Option Nat) : Prop where
  os : w'.os = w.os
  output : w'.output = w.output
  size : w.heap.size ≤ w'.heap.size
  block : ∀ k, k < w.heap.size → some k ≠ row → w'.heap[k]? = w.heap[k]?
theorem gr_of {w w' : World} {row : Option Nat} (h : w.grownBy w' row) : Gr w w' row := ⟨h.os, h.output, h.size, h.block⟩

/-- Nothing but one block of nobody's, and new ones, is written. -/
theorem WR.other {μ' : Mu} {w' : World} {row : Option Nat} (hW : WR G B I₀ w₀ I μ w ρ h) (hg : Gr w w' row) (hrow : ∀ x, row = some x → ¬ I x ∧ (∀ b, μ b ≠ some x) ∧ B ≤ x) (hm : μ'.m = μ.m) (hv : ∀ k v, μ.v k = some v → μ'.v k = some v) :
    WR G B I₀ w₀ I μ' w' ρ h ∧ Evo I μ w I μ' w' := by
  have hsame : ∀ y, y < w.heap.size → row ≠ some y → w'.heap[y]? = w.heap[y]? := fun y hy hne => hg.block y hy (fun e => hne e.symm)
  have hI : ∀ y, I y → w'.heap[y]? = w.heap[y]? := fun y hy => hsame y (hW.imm y hy) fun e => (hrow y e).1 hy
  have he : Evo I μ w I μ' w' := ⟨fun _ h => h, hI, fun b x hb => by rw [hm]; exact hb, hv⟩
  refine ⟨⟨fun b x hb => ?_, fun b b' x h1 h2 => hW.inj b b' x (by rw [← hm]; exact h1) (by rw [← hm]; exact h2), hW.glo.mono (fun _ h => h) hI, fun y hy => ?_, Nat.le_trans hW.size hg.size, fun y hy => Nat.lt_of_lt_of_le (hW.imm y hy) hg.size, hW.imm0, ⟨hg.os.trans hW.wd.1, hg.output.trans hW.wd.2⟩⟩, he⟩
  · rw [hm] at hb
    obtain ⟨blk, h1, vs, ty, h2, h3, h4⟩ := hW.blk b x hb
    refine ⟨blk, h1, vs, ty, ?_, h3.imp fun _ _ hr => hr.mono he (List.prefix_refl _), h4⟩
    rw [hsame x (Array.getElem?_eq_some_iff.1 h2).1 fun e => (hrow x e).2.1 b hb]
    exact h2
  · rw [hsame y (by have := hW.size; omega) fun e => by have := (hrow y e).2.2; omega]
    exact hW.old y hy

theorem WR.mlt (hW : WR G B I₀ w₀ I μ w ρ h) {b x : Nat} (hb : μ b = some x) : x < w.heap.size := by
  obtain ⟨blk, h1, vs, ty, h2, _⟩ := hW.blk b x hb
  exact (Array.getElem?_eq_some_iff.1 h2).1

def Mu.push (μ : Mu) (n : Nat) (v : Value) : Mu := { μ with v := fun k => if k = n then some v else μ.v k }

theorem OwnR.push {o1 : Own} {row : Option Nat} {w' : World} {v' : Value} {s' : Nat} {rows' : List (List D)} {t' : Ex} (hW : WR G B I₀ w₀ I μ w ρ h) (hO : OwnR B I μ w ρ o) (hlen : o1.length = o.length)
    (hlive : ∀ (k : Nat) (t : Ex), o1[k]? = some (OS.mk t .live) → o[k]? = some (OS.mk t .live) ∧ ∀ v x, μ.v k = some v → v.ownBlock = some x → row ≠ some x) (hfroz : ∀ (k : Nat) (t : Ex), o1[k]? = some (OS.mk t .frozen) → o[k]? = some (OS.mk t .frozen))
    (hrow : ∀ x, row = some x → OwnB μ o x) (hg : Gr w w' row) (hv' : OwnV B I w' s' rows' v') (hb' : ∀ x, v'.ownBlock = some x → row = some x ∨ w.heap.size ≤ x) (ht' : t'.eval ρ = some (.sl s' rows')) :
    WR G B I₀ w₀ I (μ.push o.length v') w' ρ h ∧ Evo I μ w I (μ.push o.length v') w' ∧ OwnR B I (μ.push o.length v') w' ρ (o1 ++ [⟨t', .live⟩]) := by
  have hrow' : ∀ x, row = some x → ¬ I x ∧ (∀ b, μ b ≠ some x) ∧ B ≤ x := fun x hx => by
    obtain ⟨k, t, v, hk, hv, hxv⟩ := hrow x hx
    obtain ⟨_, h1, h2⟩ := hO.lt hk hv hxv
    exact ⟨h2, (hO.dis k t v x hk hv hxv).1, h1⟩
  obtain ⟨hW', he⟩ := hW.other (μ' := μ.push o.length v') hg hrow' rfl (fun k v hk => by
    simp only [Mu.push]
    rw [if_neg (fun e => by subst e; rw [hO.new _ (Nat.le_refl _)] at hk; cases hk)]
    exact hk)
  have hold : ∀ {k : Nat} {os : OS}, (o1 ++ [⟨t', .live⟩])[k]? = some os → (k < o.length ∧ o1[k]? = some os ∧ (μ.push o.length v').v k = μ.v k) ∨ (k = o.length ∧ os = ⟨t', .live⟩ ∧ (μ.push o.length v').v k = some v') := by
    intro k os hk
    by_cases hl : k < o.length
    · rw [List.getElem?_append_left (by omega)] at hk
      exact .inl ⟨hl, hk, by simp [Mu.push, Nat.ne_of_lt hl]⟩
    · rw [List.getElem?_append_right (by omega)] at hk
      have h0 : k - o1.length = 0 := by
        rcases Nat.eq_zero_or_pos (k - o1.length) with h | h
        · exact h
        · rw [List.getElem?_eq_none (by simp; omega)] at hk; cases hk
      rw [h0] at hk
      simp at hk
      have : k = o.length := by omega
      subst this
      exact .inr ⟨rfl, hk.symm, by simp [Mu.push]⟩
  have hsame : ∀ {k t v x}, o1[k]? = some ⟨t, .live⟩ → μ.v k = some v → v.ownBlock = some x → w'.heap[x]? = w.heap[x]? := by
    intro k t v x hk hv hx
    obtain ⟨h1, h2⟩ := hlive k t hk
    exact hg.block x (hO.lt h1 hv hx).1 fun e => h2 v x hv hx e.symm
  -- the new one's block is no other's
  have hnew : ∀ x, v'.ownBlock = some x → (∀ b, μ b ≠ some x) ∧ ∀ k t v, o1[k]? = some ⟨t, .live⟩ → μ.v k = some v → v.ownBlock ≠ some x := by
    intro x hx
    rcases hb' x hx with hr | hr
    · refine ⟨(hrow' x hr).2.1, fun k t v hk hv hvx => (hlive k t hk).2 v x hv hvx hr⟩
    · refine ⟨fun b hb => by have := hW.mlt hb; omega, fun k t v hk hv hvx => ?_⟩
      have := (hO.lt (hlive k t hk).1 hv hvx).1
      omega
  refine ⟨hW', he, fun k t hk => ?_, fun k t hk => ?_, fun k t v x hk hv hx => ?_, fun k hk => ?_⟩
  · rcases hold hk with ⟨_, hk, hvk⟩ | ⟨rfl, e, hvk⟩
    · obtain ⟨v, s, rows, h1, h2, h3⟩ := hO.live k t (hlive k t hk).1
      refine ⟨v, s, rows, by rw [hvk]; exact h1, h2, h3.mono he.imm he.same fun x hx => ⟨hsame hk h1 hx, (hO.lt (hlive k t hk).1 h1 hx).2.2⟩⟩
    · cases e
      exact ⟨v', s', rows', hvk, ht', hv'⟩
  · rcases hold hk with ⟨_, hk, hvk⟩ | ⟨rfl, e, hvk⟩
    · obtain ⟨v, d, h1, h2, h3⟩ := hO.frozen k t (hfroz k t hk)
      exact ⟨v, d, by rw [hvk]; exact h1, h2, h3.mono he.imm he.same⟩
    · cases e
  · rcases hold hk with ⟨hl, hk, hvk⟩ | ⟨rfl, e, hvk⟩
    · rw [hvk] at hv
      obtain ⟨h1, h2⟩ := hO.dis k t v x (hlive k t hk).1 hv hx
      refine ⟨h1, fun k' t'' v'' hne hk' hv'' => ?_⟩
      rcases hold hk' with ⟨hl', hk', hvk'⟩ | ⟨rfl, e', hvk'⟩
      · rw [hvk'] at hv''
        exact h2 k' t'' v'' hne (hlive k' t'' hk').1 hv''
      · rw [hvk'] at hv''
        cases hv''
        exact fun hx' => (hnew x hx').2 k t v hk hv hx
    · rw [hvk] at hv
      cases hv
      obtain ⟨h1, h2⟩ := hnew x hx
      refine ⟨h1, fun k' t'' v'' hne hk' hv'' => ?_⟩
      rcases hold hk' with ⟨hl', hk', hvk'⟩ | ⟨rfl, e', hvk'⟩
      · rw [hvk'] at hv''
        exact h2 k' t'' v'' hk' hv''
      · exact absurd rfl hne
  · simp only [List.length_append, List.length_singleton] at hk
    simp only [Mu.push]
    rw [if_neg (by omega)]
    exact hO.new k (by omega)

theorem OwnR.writeG {k : Nat} {t t' : Ex} {v : Value} {w' : World} {s' : Nat} {rows' : List (List D)} (hW : WR G B I₀ w₀ I μ w ρ h) (hO : OwnR B I μ w ρ o) (hk : o[k]? = some ⟨t, .live⟩) (hv : μ.v k = some v)
    (hg : Gr w w' v.ownBlock) (hv' : OwnV B I w' s' rows' v) (ht' : t'.eval ρ = some (.sl s' rows')) : WR G B I₀ w₀ I μ w' ρ h ∧ Evo I μ w I μ w' ∧ OwnR B I μ w' ρ (o.set k ⟨t', .live⟩) := by
  obtain ⟨hW', he⟩ := hW.other (μ' := μ) hg (fun y hy => by
    obtain ⟨_, hB, hnI⟩ := hO.lt hk hv hy
    exact ⟨hnI, (hO.dis k t v y hk hv hy).1, hB⟩) rfl (fun _ _ h => h)
  have hkl : k < o.length := (List.getElem?_eq_some_iff.1 hk).1
  have hget : ∀ {j : Nat} {os : OS}, (o.set k ⟨t', .live⟩)[j]? = some os → (j = k ∧ os = ⟨t', .live⟩) ∨ (j ≠ k ∧ o[j]? = some os) := by
    intro j os hj
    by_cases he : k = j
    · subst he
      simp [hkl] at hj
      exact .inl ⟨rfl, hj.symm⟩
    · rw [List.getElem?_set_ne he] at hj
      exact .inr ⟨Ne.symm he, hj⟩
  have hlive : ∀ {j : Nat} {t'' : Ex}, (o.set k ⟨t', .live⟩)[j]? = some ⟨t'', .live⟩ → ∃ t0, o[j]? = some ⟨t0, .live⟩ := by
    intro j t'' hj
    rcases hget hj with ⟨rfl, _⟩ | ⟨_, h⟩
    · exact ⟨t, hk⟩
    · exact ⟨t'', h⟩
  refine ⟨hW', he, fun j t'' hj => ?_, fun j t'' hj => ?_, fun j t'' u y hj hu hy => ?_, fun j hj => hO.new j (by simpa using hj)⟩
  · rcases hget hj with ⟨rfl, e⟩ | ⟨hne, hj⟩
    · cases e
      exact ⟨v, s', rows', hv, ht', hv'⟩
    · obtain ⟨u, s, rows, h1, h2, h3⟩ := hO.live j t'' hj
      refine ⟨u, s, rows, h1, h2, h3.mono he.imm he.same fun y hy => ?_⟩
      obtain ⟨h4, _, h5⟩ := hO.lt hj h1 hy
      exact ⟨hg.block y h4 fun e => (hO.dis k t v y hk hv e.symm).2 j t'' u hne hj h1 hy, h5⟩
  · rcases hget hj with ⟨rfl, e⟩ | ⟨hne, hj⟩
    · cases e
    · obtain ⟨u, d, h1, h2, h3⟩ := hO.frozen j t'' hj
      exact ⟨u, d, h1, h2, h3.mono he.imm he.same⟩
  · obtain ⟨t0, hj⟩ := hlive hj
    obtain ⟨h1, h2⟩ := hO.dis j t0 u y hj hu hy
    refine ⟨h1, fun j' t1 u' hne hj' hu' => ?_⟩
    obtain ⟨t1', hj'⟩ := hlive hj'
    exact h2 j' t1' u' hne hj' hu'
theorem OwnR.write {k x : Nat} {t t' : Ex} {v : Value} {w' : World} {s' : Nat} {rows' : List (List D)} (hW : WR G B I₀ w₀ I μ w ρ h) (hO : OwnR B I μ w ρ o) (hk : o[k]? = some ⟨t, .live⟩) (hv : μ.v k = some v) (hx : v.ownBlock = some x)
    (hg : w.grownBy w' (some x)) (hv' : OwnV B I w' s' rows' v) (ht' : t'.eval ρ = some (.sl s' rows')) : WR G B I₀ w₀ I μ w' ρ h ∧ Evo I μ w I μ w' ∧ OwnR B I μ w' ρ (o.set k ⟨t', .live⟩) :=
  OwnR.writeG hW hO hk hv (by rw [hx]; exact gr_of hg) hv' ht'

/-! ### rows of cells -/

/-- a list of cells holds rows of n leaves -/
def RowsL (I : Imm) (w : World) (n : Nat) (rows : List (List D)) (L : List Value) : Prop := ∀ i r j d, rows[i]? = some r → r[j]? = some d → ∃ u, L[i * n + j]? = some u ∧ DR I w d u

theorem RowsL.append {n : Nat} {rows rows2 : List (List D)} {L1 L2 : List Value} (h1 : RowsL I w n rows L1) (hl : L1.length = rows.length * n) (hw : ∀ r ∈ rows, r.length = n) (hw2 : ∀ r ∈ rows2, r.length = n) (h2 : RowsL I w n rows2 L2) (L3 : List Value)
    (hl2 : L2.length = rows2.length * n) : RowsL I w n (rows ++ rows2) (L1 ++ L2 ++ L3) := by
  intro i r j d hi hj
  by_cases hil : i < rows.length
  · rw [List.getElem?_append_left hil] at hi
    obtain ⟨u, hu, hd⟩ := h1 i r j d hi hj
    refine ⟨u, ?_, hd⟩
    have hlt := (List.getElem?_eq_some_iff.1 hu).1
    rw [List.append_assoc, List.getElem?_append_left hlt]
    exact hu
  · rw [List.getElem?_append_right (by omega)] at hi
    obtain ⟨u, hu, hd⟩ := h2 _ r j d hi hj
    refine ⟨u, ?_, hd⟩
    have hlt := (List.getElem?_eq_some_iff.1 hu).1
    have hmul : rows.length * n ≤ i * n := Nat.mul_le_mul_right _ (by omega)
    have he : i * n + j - L1.length = (i - rows.length) * n + j := by rw [hl, Nat.sub_mul]; omega
    rw [List.append_assoc, List.getElem?_append_right (by omega), he, List.getElem?_append_left hlt]
    exact hu

theorem RowsL.mono {I' : Imm} {w' : World} {n : Nat} {rows : List (List D)} {L : List Value} (h : RowsL I w n rows L) (hI : ∀ x, I x → I' x) (hw : ∀ x, I x → w'.heap[x]? = w.heap[x]?) : RowsL I' w' n rows L := fun i r j d hi hj => by
  obtain ⟨u, hu, hd⟩ := h i r j d hi hj
  exact ⟨u, hu, hd.mono hI hw⟩

/-- what is appended -/
def SrcV (I : Imm) (w : World) (n : Nat) (rows : List (List D)) (v : Value) : Prop :=
  (∀ r ∈ rows, r.length = n) ∧ ∃ p c, v = .slice p rows.length c ∧ (rows = [] ∨ ∃ a, p = some a ∧ ∃ L : List Value, L.length = rows.length * n ∧ RowsL I w n rows L ∧ (∀ q u, L[q]? = some u → w.cell? (a.add q) = some u) ∧ ∀ u ∈ L, u.oneCell' = true)

theorem zeroT_info {t : TypeId} {z : List SL} (h : zeroT P t = some z) : ∃ i v, P.info? t = some i ∧ i.zero = some v ∧ v.cells.size = z.length ∧ constLs v.cells.toList = some z := by
  unfold zeroT at h
  split at h
  · rename_i i hi
    split at h
    · rename_i v hv
      refine ⟨i, v, hi, hv, ?_, h⟩
      have := (constLs_sound (I := fun _ => False) (μ := ⟨fun _ => none, fun _ => none⟩) (w := default) (ρ := []) h).length
      simpa using this.symm
    · cases h
  · cases h

theorem row_index {n m q : Nat} (hn : 0 < n) (hq : q < m * n) : q / n < m ∧ q % n < n ∧ q / n * n + q % n = q :=
  ⟨(Nat.div_lt_iff_lt_mul hn).2 hq, Nat.mod_lt _ hn, by rw [Nat.mul_comm]; exact Nat.div_add_mod q n⟩

/-- APPEND. -/
theorem run_appendV {t ty el : TypeId} {i : TypeInfo} {z : Value} {n s : Nat} {rows rows2 : List (List D)} {v v2 : Value} (ht : P.underlying t = some (.slice el)) (hi : P.info? el = some i) (hz : i.zero = some z) (hsz : i.size = n) (hzs : z.cells.size = n) (hn : 0 < n)
    (hown : OwnV B I w s rows v) (hs : s = n ∨ s = 0) (hsrc : SrcV I w n rows2 v2) (hroom : (rows.length + rows2.length) * (i.bytes + 1) ≤ 2 ^ 40) (hB : B ≤ w.heap.size) (hI : ∀ x, I x → x < w.heap.size) :
    ∃ v' w', (Builtin.append_ #[t, t] ty #[v, v2]).run P w = .ok v' w' ∧ OwnV B I w' (if rows2.isEmpty then s else n) (rows ++ rows2) v' ∧ w.grownBy w' v.ownBlock ∧ (∀ x, v'.ownBlock = some x → v.ownBlock = some x ∨ w.heap.size ≤ x) := by
  subst hsz
  obtain ⟨hw2, p, c, rfl, hsrc⟩ := hsrc
  have hlen : rows.length + rows2.length ≤ 2 ^ 40 := Nat.le_trans (Nat.le_mul_of_pos_right _ (by omega)) hroom
  have hbytes : (rows.length + rows2.length) * i.bytes ≤ 2 ^ 40 := Nat.le_trans (Nat.mul_le_mul_left _ (Nat.le_succ _)) hroom
  by_cases hr2 : rows2 = []
  · subst hr2
    have hf : (Builtin.firstCells i.size 0 (.slice p 0 c)).run P w = .ok #[] w := by
      cases p <;> simp [Builtin.firstCells, loadCells, loadCellsFrom]
    refine ⟨v, w, ?_, by simpa using hown, ⟨rfl, rfl, rfl, Nat.le_refl _, fun _ _ _ => rfl⟩, fun x hx => .inl hx⟩
    rcases hown.2 with ⟨rfl, rfl⟩ | ⟨x, cap, cur, tyy, rfl, h1, h2, h3, h4, h5, h6, h7, h8⟩
    · simp [Builtin.append_, run_underlying ht, sizeOf, typeInfo, hi, Builtin.lenOf, hf]
    · simp [Builtin.append_, run_underlying ht, sizeOf, typeInfo, hi, Builtin.lenOf, hf, h4, storeCells]
  · obtain ⟨a, rfl, L, hLl, hLr, hLc, hL1⟩ := hsrc.resolve_left hr2
    have hne : rows2.isEmpty = false := by cases rows2 <;> simp_all
    have hpos : 0 < rows2.length := List.length_pos_iff.2 hr2
    rw [hne]
    simp only [Bool.false_eq_true, if_false]
    rcases hown.2 with ⟨rfl, rfl⟩ | ⟨x, cap, cur, tyy, rfl, h1, h2, h3, h4, h5, h6, h7, h8⟩
    · have hr := run_append_nil (P := P) w t ty el i z ht hi hz a rows2.length c L hLl hLc hpos (by omega) (by simp at hbytes; omega)
      refine ⟨_, _, hr, ⟨by simpa using hw2, .inr ⟨w.heap.size, grownCap w rows2.length 0 el, _, el, by simp, hB, hn, heap_alloc_new w.drew _, by simpa using grownCap_ge w _ _ _, grownCap_le_maxLen w _ _ _ (by simp only [maxLen]; omega), ?_, ?_, fun hx => by have := hI _ hx; omega⟩⟩,
        ⟨rfl, rfl, rfl, by simp, fun k hk _ => heap_alloc_old w.drew _ hk⟩, fun y hy => ?_⟩
      · have := grownCap_ge w rows2.length 0 el
        simp only [Array.size_append, List.size_toArray, size_zeroCells, hzs, hLl, ← Nat.add_mul]
        congr 1
        omega
      · intro ii r j d hii hj
        obtain ⟨u, hu, hd⟩ := hLr ii r j d (by simpa using hii) hj
        refine ⟨u, ?_, hd.mono (fun _ h => h) fun y hy => heap_alloc_old w.drew _ (hI y hy)⟩
        have hlt := (List.getElem?_eq_some_iff.1 hu).1
        rw [Array.getElem?_append_left (by simpa using hlt)]
        simpa using hu
      · simp [Value.ownBlock] at hy
        exact .inr (Nat.le_of_eq hy)
    · have hsn : s = i.size := by rcases hs with h | h; exact h; omega
      subst hsn
      have hcl : cur.toList.length = cap * i.size := by simpa using h6
      have hle : rows.length * i.size ≤ cap * i.size := Nat.mul_le_mul_right _ h4
      have hold : (cur.toList.take (rows.length * i.size)).length = rows.length * i.size := by rw [List.length_take]; omega
      have hRold : RowsL I w i.size rows (cur.toList.take (rows.length * i.size)) := by
        intro ii r j d hii hj
        obtain ⟨u, hu, hd⟩ := h7 ii r j d hii hj
        refine ⟨u, ?_, hd⟩
        have hj' : j < i.size := by have := (List.getElem?_eq_some_iff.1 hj).1; rw [hown.1 r (List.mem_of_getElem? hii)] at this; exact this
        have hi' : ii < rows.length := (List.getElem?_eq_some_iff.1 hii).1
        have : ii * i.size + j < rows.length * i.size := by
          have : (ii + 1) * i.size ≤ rows.length * i.size := Nat.mul_le_mul_right _ hi'
          rw [Nat.succ_mul] at this
          omega
        rw [List.getElem?_take, if_pos this]
        simpa using hu
      by_cases hfit : rows.length + rows2.length ≤ cap
      · have hf := run_firstCells_some (P := P) w i.size rows2.length a rows2.length c L hLl hLc
        have hsp : rows.length * i.size + L.length ≤ cur.size := by rw [hLl, h6, ← Nat.add_mul]; exact Nat.mul_le_mul_right _ hfit
        have hst := run_storeCells_at P x (rows.length * i.size) tyy L 0 cur w h3 (by simpa using hsp) hL1
        simp only [Nat.add_zero] at hst
        have hwid : ∀ r ∈ rows ++ rows2, r.length = i.size := fun r hr => (List.mem_append.1 hr).elim (hown.1 r) (hw2 r)
        have hrun : (Builtin.append_ #[t, t] ty #[.slice (some ⟨x, 0, none⟩) rows.length cap, .slice (some a) rows2.length c]).run P w = .ok (.slice (some ⟨x, 0, none⟩) (rows.length + rows2.length) cap)
            (w.setRow x (cur.toList.take (rows.length * i.size) ++ L ++ cur.toList.drop (rows.length * i.size + L.length)).toArray) := by
          simp [Builtin.append_, run_underlying ht, sizeOf, typeInfo, hi, Builtin.lenOf, hfit, hf, Addr.add_lit, hst]
        refine ⟨_, _, hrun, ⟨hwid, .inr ⟨x, cap, _, tyy, by simp, h1, h2, setRow_heap w x cur _ tyy _ h3, by simpa using hfit, h5, ?_, ?_, h8⟩⟩,
          ⟨rfl, rfl, rfl, by simp, fun k _ hk => setRow_other w x k _ (fun e => hk (by simp [Value.ownBlock, e]))⟩, fun y hy => .inl hy⟩
        · simp only [List.size_toArray, List.length_append, List.length_take, List.length_drop, Array.length_toList]
          omega
        · intro ii r j d hii hj
          obtain ⟨u, hu, hd⟩ := (hRold.append hold hown.1 hw2 hLr (cur.toList.drop (rows.length * i.size + L.length)) hLl) ii r j d hii hj
          exact ⟨u, by simpa using hu, hd.mono (fun _ h => h) fun y hy => setRow_other w x y _ (fun e => h8 (e ▸ hy))⟩
      · have holds : ∀ j u, (cur.toList.take (rows.length * i.size))[j]? = some u → w.cell? ((⟨x, 0, none⟩ : Addr).add j) = some u := by
          intro j u hj
          rw [List.getElem?_take] at hj
          split at hj
          · rw [addr_add, Nat.zero_add, cell_of_row w x j cur tyy (0, 0) h3]
            simpa using hj
          · cases hj
        have hr := run_append_grow (P := P) w t ty el i z ht hi hz ⟨x, 0, none⟩ rows.length cap (cur.toList.take (rows.length * i.size)) hold holds a rows2.length c L hLl hLc (by omega) (by omega) (growslice_fits (by omega) (by omega))
        have hge := grownCap_ge w (rows.length + rows2.length) cap el
        have hwid : ∀ r ∈ rows ++ rows2, r.length = i.size := fun r hr => (List.mem_append.1 hr).elim (hown.1 r) (hw2 r)
        refine ⟨_, _, hr, ⟨hwid, .inr ⟨w.heap.size, grownCap w (rows.length + rows2.length) cap el, _, el, by simp, hB, h2, heap_alloc_new w.drew _, by simpa using hge, grownCap_le_maxLen w _ _ _ (by simp only [maxLen]; omega), ?_, ?_, fun hx => by have := hI _ hx; omega⟩⟩,
          ⟨rfl, rfl, rfl, by simp, fun k hk _ => heap_alloc_old w.drew _ hk⟩, fun y hy => ?_⟩
        · simp only [Array.size_append, List.size_toArray, size_zeroCells, hzs, hold, hLl, ← Nat.add_mul]
          congr 1
          omega
        · intro ii r j d hii hj
          obtain ⟨u, hu, hd⟩ := (hRold.append hold hown.1 hw2 hLr (Builtin.zeroCells z.cells (grownCap w (rows.length + rows2.length) cap el - (rows.length + rows2.length))).toList hLl) ii r j d hii hj
          refine ⟨u, ?_, hd.mono (fun _ h => h) fun y hy => heap_alloc_old w.drew _ (hI y hy)⟩
          rw [← hu, ← Array.getElem?_toList]
          simp
        · simp [Value.ownBlock] at hy
          exact .inr (Nat.le_of_eq hy)

/-- APPEND to a slice without elements and without room. -/
theorem run_appendZ {t ty el : TypeId} {i : TypeInfo} {z : Value} {n : Nat} {rows2 : List (List D)} {a0 : Addr} {v2 : Value} (ht : P.underlying t = some (.slice el)) (hi : P.info? el = some i) (hz : i.zero = some z) (hsz : i.size = n) (hzs : z.cells.size = n) (hn : 0 < n)
    (hsrc : SrcV I w n rows2 v2) (hroom : rows2.length * (i.bytes + 1) ≤ 2 ^ 40) (hB : B ≤ w.heap.size) (hI : ∀ x, I x → x < w.heap.size) (hne : rows2 ≠ []) :
    ∃ v' w', (Builtin.append_ #[t, t] ty #[.slice (some a0) 0 0, v2]).run P w = .ok v' w' ∧ OwnV B I w' n rows2 v' ∧ w.grownBy w' none ∧ (∀ x, v'.ownBlock = some x → w.heap.size ≤ x) := by
  subst hsz
  obtain ⟨hw2, p, c, rfl, hsrc⟩ := hsrc
  have hlen : rows2.length ≤ 2 ^ 40 := Nat.le_trans (Nat.le_mul_of_pos_right _ (by omega)) hroom
  have hbytes : rows2.length * i.bytes ≤ 2 ^ 40 := Nat.le_trans (Nat.mul_le_mul_left _ (Nat.le_succ _)) hroom
  obtain ⟨a, rfl, L, hLl, hLr, hLc, hL1⟩ := hsrc.resolve_left hne
  have hpos : 0 < rows2.length := List.length_pos_iff.2 hne
  have hr := run_append_grow (P := P) w t ty el i z ht hi hz a0 0 0 ([] : List Value) (by simp) (by intro j u hj; simp at hj) a rows2.length c L hLl hLc (by omega) (by omega) (growslice_fits (by omega) (by rw [Nat.zero_add]; omega))
  have hge := grownCap_ge w (0 + rows2.length) 0 el
  simp only [Nat.zero_add] at hr hge
  refine ⟨_, _, hr, ⟨hw2, .inr ⟨w.heap.size, grownCap w rows2.length 0 el, _, el, rfl, hB, hn, heap_alloc_new w.drew _, hge, grownCap_le_maxLen w _ _ _ (by simp only [maxLen]; omega), ?_, ?_, fun hx => by have := hI _ hx; omega⟩⟩,
    ⟨rfl, rfl, rfl, by simp, fun k hk _ => heap_alloc_old w.drew _ hk⟩, fun y hy => ?_⟩
  · simp only [Array.size_append, List.size_toArray, size_zeroCells, hzs, List.nil_append, List.length_nil, Nat.zero_add, hLl, ← Nat.add_mul]
    congr 1
    omega
  · intro ii r j d hii hj
    obtain ⟨u, hu, hd⟩ := hLr ii r j d hii hj
    refine ⟨u, ?_, hd.mono (fun _ h => h) fun y hy => heap_alloc_old w.drew _ (hI y hy)⟩
    have hlt := (List.getElem?_eq_some_iff.1 hu).1
    rw [Array.getElem?_append_left (by simpa using hlt)]
    simpa using hu
  · simp [Value.ownBlock] at hy
    exact Nat.le_of_eq hy
theorem run_appendZ0 {t ty el : TypeId} {i : TypeInfo} {n : Nat} {p0 : Option Addr} {v2 : Value} (ht : P.underlying t = some (.slice el)) (hi : P.info? el = some i) (hsrc : SrcV I w n [] v2) :
    (Builtin.append_ #[t, t] ty #[.slice p0 0 0, v2]).run P w = .ok (.slice p0 0 0) w := by
  obtain ⟨hw2, p, c, rfl, hsrc⟩ := hsrc
  have hf : (Builtin.firstCells i.size 0 (.slice p 0 c)).run P w = .ok #[] w := by
    cases p <;> simp [Builtin.firstCells, loadCells, loadCellsFrom]
  cases p0 with
  | none => simp [Builtin.append_, run_underlying ht, sizeOf, typeInfo, hi, Builtin.lenOf, hf]
  | some a0 => simp [Builtin.append_, run_underlying ht, sizeOf, typeInfo, hi, Builtin.lenOf, hf, storeCells]

end
end Go.Proofs.YtlihbielphcgbaaGreatDoor.Sx

namespace Go.Proofs.YtlihbielphcgbaaGreatDoor.Sx
open Go
set_option linter.unnecessarySimpa false
set_option linter.unusedSimpArgs false
set_option linter.unusedVariables false

section
variable {B : Nat} {I : Imm} {μ : Mu} {w : World} {ρ : List D} {o : Own} {G : Glo} {I₀ : Imm} {w₀ : World} {h : Heap} {P : Program}

/-! ### rows, written out -/

theorem chunks_length {α : Type} (n : Nat) : ∀ (k : Nat) (l : List α), (chunks n k l).length = k
  | 0, _ => rfl
  | k + 1, l => by simp [chunks, chunks_length n k]

theorem chunks_get {α : Type} (n : Nat) : ∀ (k : Nat) (l : List α) (i : Nat), i < k → (chunks n k l)[i]? = some ((l.drop (i * n)).take n)
  | 0, _, i, h => by omega
  | k + 1, l, 0, _ => by simp [chunks]
  | k + 1, l, i + 1, h => by
    simp only [chunks, List.getElem?_cons_succ]
    rw [chunks_get n k _ i (by omega), List.drop_drop]
    congr 3
    rw [Nat.succ_mul]; omega

theorem chunks_width {α : Type} {n k : Nat} {l : List α} (hl : l.length = k * n) : ∀ r ∈ chunks n k l, r.length = n := by
  intro r hr
  obtain ⟨i, hi⟩ := List.getElem?_of_mem hr
  have hik : i < k := by have := (List.getElem?_eq_some_iff.1 hi).1; rwa [chunks_length] at this
  rw [chunks_get n k l i hik] at hi
  cases hi
  have : (i + 1) * n ≤ k * n := Nat.mul_le_mul_right _ hik
  rw [Nat.succ_mul] at this
  simp
  omega

theorem evals_drop {es : List Ex} {ds : List D} (h : Ex.evals ρ es = some ds) : ∀ n, Ex.evals ρ (es.drop n) = some (ds.drop n) := by
  intro n
  have h' := h
  rw [← List.take_append_drop n es] at h'
  obtain ⟨d1, d2, rfl, h1, h2⟩ := evals_append h'
  have := evals_length h1
  have hl := evals_length h
  simp at this hl
  by_cases hn : n ≤ es.length
  · have e : n = d1.length := by omega
    rw [e, List.drop_left, ← e]
    exact h2
  · have e1 : es.drop n = [] := List.drop_eq_nil_of_le (by omega)
    have e2 : (d1 ++ d2).drop n = [] := List.drop_eq_nil_of_le (by simp; omega)
    rw [e1, e2]
    rfl

theorem evals_take {es : List Ex} {ds : List D} (h : Ex.evals ρ es = some ds) : ∀ n, Ex.evals ρ (es.take n) = some (ds.take n) := by
  intro n
  have h' := h
  rw [← List.take_append_drop n es] at h'
  obtain ⟨d1, d2, rfl, h1, h2⟩ := evals_append h'
  have := evals_length h1
  have hl := evals_length h
  simp at this hl
  by_cases hn : n ≤ es.length
  · have e : n = d1.length := by omega
    rw [e, List.take_left, ← e]
    exact h1
  · have e1 : es.take n = es := List.take_of_length_le (by omega)
    have e2 : (d1 ++ d2).take n = d1 ++ d2 := List.take_of_length_le (by simp; omega)
    rw [e1, e2]
    exact h

theorem rowsE_eval {n : Nat} : ∀ {k : Nat} {es : List Ex} {ds : List D}, Ex.evals ρ es = some ds → es.length = k * n → (rowsE n (chunks n k es)).eval ρ = some (.sl n (chunks n k ds))
  | 0, es, ds, h, hl => by simp [chunks, rowsE, Ex.eval]
  | 1, es, ds, h, hl => by
    have h1 := evals_take h n
    have hw : (ds.take n).length = n := by have := evals_length h; simp at hl ⊢; omega
    simp [chunks, rowsE, Ex.eval, h1]
    have := evals_length h
    omega
  | k + 2, es, ds, h, hl => by
    have h1 := evals_take h n
    have hdl := evals_length h
    have hw : (ds.take n).length = n := by rw [List.length_take, ← hdl, hl, Nat.succ_mul]; omega
    have h2 := rowsE_eval (n := n) (k := k + 1) (evals_drop h n) (by rw [List.length_drop, hl, Nat.succ_mul (k + 1)]; omega)
    have hne : (chunks n (k + 1) (ds.drop n)).isEmpty = false := by simp [chunks]
    show (Ex.cat (.one (es.take n)) (rowsE n (chunks n (k + 1) (es.drop n)))).eval ρ = _
    simp only [Ex.eval, h1]
    rw [h2]
    simp only [hw, catD, List.isEmpty_cons, Bool.false_eq_true, if_false, hne, if_true]
    simp [chunks]

theorem rows?_sound : ∀ {t : Ex} {rs : List (List Ex)} {d : D}, rows? t = some rs → t.eval ρ = some d → ∃ s xs, d = .sl s xs ∧ xs.length = rs.length ∧ (∀ (i : Nat) (r : List Ex), rs[i]? = some r → ∃ x, xs[i]? = some x ∧ Ex.evals ρ r = some x) ∧ (rs ≠ [] → ∀ n, (∀ r ∈ rs, r.length = n) → s = n)
  | .c (.sl s []), rs, d, h, he => by
    simp [rows?] at h
    subst h
    simp [Ex.eval] at he
    subst he
    exact ⟨s, [], rfl, rfl, fun i r hi => by simp at hi, fun h => absurd rfl h⟩
  | .one r, rs, d, h, he => by
    simp [rows?] at h
    subst h
    simp only [Ex.eval] at he
    split at he
    · rename_i ds hds
      cases he
      refine ⟨ds.length, [ds], rfl, rfl, fun i r' hi => ?_, fun _ n hn => ?_⟩
      · cases i with
        | zero => simp at hi; subst hi; exact ⟨ds, by simp, hds⟩
        | succ i => simp at hi
      · have := evals_length hds
        rw [← this]
        exact hn r (by simp)
    · cases he
  | .cat a b, rs, d, h, he => by
    simp only [rows?] at h
    split at h
    · rename_i x y hx hy
      cases h
      simp only [Ex.eval] at he
      split at he
      · rename_i da db hda hdb
        obtain ⟨s1, xs1, rfl, hl1, hr1, hs1⟩ := rows?_sound hx hda
        obtain ⟨s2, xs2, rfl, hl2, hr2, hs2⟩ := rows?_sound hy hdb
        have hget : ∀ (i : Nat) (r : List Ex), (x ++ y)[i]? = some r → ∃ z, (xs1 ++ xs2)[i]? = some z ∧ Ex.evals ρ r = some z := by
          intro i r hi
          by_cases hil : i < x.length
          · rw [List.getElem?_append_left hil] at hi
            obtain ⟨z, hz, he⟩ := hr1 i r hi
            exact ⟨z, by rw [List.getElem?_append_left (by omega)]; exact hz, he⟩
          · rw [List.getElem?_append_right (by omega)] at hi
            obtain ⟨z, hz, he⟩ := hr2 _ r hi
            exact ⟨z, by rw [List.getElem?_append_right (by omega), hl1]; exact hz, he⟩
        simp only [catD] at he
        split at he
        · rename_i h1
          cases he
          have h1 : xs1 = [] := List.isEmpty_iff.1 h1
          subst h1
          have hx0 : x = [] := List.length_eq_zero_iff.1 (by simpa using hl1.symm)
          subst hx0
          exact ⟨s2, xs2, rfl, by simpa using hl2, by simpa using hget, by simpa using hs2⟩
        · rename_i h1
          split at he
          · rename_i h2
            cases he
            have h2 : xs2 = [] := List.isEmpty_iff.1 h2
            subst h2
            have hy0 : y = [] := List.length_eq_zero_iff.1 (by simpa using hl2.symm)
            subst hy0
            exact ⟨s1, xs1, rfl, by simpa using hl1, by simpa using hget, by simpa using hs1⟩
          · split at he
            · rename_i h3
              cases he
              subst h3
              refine ⟨s1, xs1 ++ xs2, rfl, by simp [hl1, hl2], hget, fun _ n hn => ?_⟩
              have hx0 : x ≠ [] := fun e => by subst e; simp at hl1; simp [hl1] at h1
              exact hs1 hx0 n fun r hr => hn r (by simp [hr])
            · cases he
      · cases he
    · cases h
  | .v _, _, _, h, _ => by simp [rows?] at h
  | .c (.b _), _, _, h, _ => by simp [rows?] at h
  | .c (.i _ _), _, _, h, _ => by simp [rows?] at h
  | .c (.s _), _, _, h, _ => by simp [rows?] at h
  | .c (.f _), _, _, h, _ => by simp [rows?] at h
  | .c (.sl _ (_ :: _)), _, _, h, _ => by simp [rows?] at h
  | .bin .., _, _, h, _ => by simp [rows?] at h
  | .un .., _, _, h, _ => by simp [rows?] at h
  | .cv .., _, _, h, _ => by simp [rows?] at h
  | .ite .., _, _, h, _ => by simp [rows?] at h
  | .len .., _, _, h, _ => by simp [rows?] at h
  | .inb .., _, _, h, _ => by simp [rows?] at h
  | .rng .., _, _, h, _ => by simp [rows?] at h
  | .isk .., _, _, h, _ => by simp [rows?] at h
  | .eqt .., _, _, h, _ => by simp [rows?] at h
  | .idx .., _, _, h, _ => by simp [rows?] at h
  | .sub .., _, _, h, _ => by simp [rows?] at h
  | .bnd .., _, _, h, _ => by simp [rows?] at h
  | .put .., _, _, h, _ => by simp [rows?] at h
  | .mk .., _, _, h, _ => by simp [rows?] at h
  | .room .., _, _, h, _ => by simp [rows?] at h
  | .app .., _, _, h, _ => by simp [rows?] at h

theorem mkLenO_eval {t : Ex} {s : Nat} {xs : List (List D)} (h : t.eval ρ = some (.sl s xs)) : (mkLenO t).eval ρ = some (.i .i64 xs.length) := by
  unfold mkLenO
  split
  · rename_i rs hrs
    obtain ⟨s', xs', e, hl, _⟩ := rows?_sound hrs h
    cases e
    simp [litN, Ex.eval, hl]
  · simp [Ex.eval, h]

theorem mkIdx_eval {t i : Ex} {j m : Nat} {kk : IntKind} {s : Nat} {xs : List (List D)} {r : List D} {d : D} (ht : t.eval ρ = some (.sl s xs)) (hi : i.eval ρ = some (.i kk (m : Int))) (hr : xs[m]? = some r) (hd : r[j]? = some d) :
    (mkIdx t i j).eval ρ = some d := by
  have hplain : (Ex.idx t i j).eval ρ = some d := by simp [Ex.eval, ht, hi, idxD, hr, hd]
  unfold mkIdx
  split
  · rename_i k m' rs hrs
    simp only [Ex.eval, Option.some.injEq, D.i.injEq] at hi
    obtain ⟨_, rfl⟩ := hi
    obtain ⟨s', xs', e, hl, hg, _⟩ := rows?_sound hrs ht
    cases e
    split
    · rename_i r' hr'
      simp at hr'
      split
      · rename_i e' he'
        rw [if_pos (by omega)]
        obtain ⟨x, hx, hev⟩ := hg m r' hr'
        rw [hr] at hx
        cases hx
        obtain ⟨d', hd', he⟩ := evals_get hev he'
        rw [hd] at hd'
        cases hd'
        exact he
      · exact hplain
    · exact hplain
  · exact hplain

theorem mkInb_sound {t i : Ex} {n s : Nat} {xs : List (List D)} {k : IntKind} {m : Int} (ht : t.eval ρ = some (.sl s xs)) (hi : i.eval ρ = some (.i k m)) (hc : ∀ c ∈ mkInb t i n, c.eval ρ = some (.b true)) : s = n ∧ 0 ≤ m ∧ m < xs.length := by
  have hplain : (Ex.inb t i n).eval ρ = some (.b true) → s = n ∧ 0 ≤ m ∧ m < xs.length := by
    intro hb
    simp only [Ex.eval, ht, hi, inbD, Option.some.injEq, D.b.injEq, Bool.and_eq_true, beq_iff_eq, decide_eq_true_eq] at hb
    exact ⟨hb.1.1, hb.1.2, hb.2⟩
  unfold mkInb at hc
  split at hc
  · rename_i k' m' rs hrs
    split at hc
    · rename_i hcond
      simp only [Ex.eval, Option.some.injEq, D.i.injEq] at hi
      obtain ⟨_, rfl⟩ := hi
      obtain ⟨s', xs', e, hl, hg, hs⟩ := rows?_sound hrs ht
      cases e
      obtain ⟨h0, h1, h2⟩ := hcond
      refine ⟨hs (fun e => by subst e; simp at h1) n fun r hr => by simpa using List.all_eq_true.1 h2 r hr, h0, by omega⟩
    · exact hplain (hc _ (by simp))
  · exact hplain (hc _ (by simp))

/-! ### what is appended -/

theorem rowsL_chunks {n k : Nat} {ds : List D} {vs : List Value} (hn : 0 < n) (h : All2 (DR I w) ds vs) (hl : ds.length = k * n) : RowsL I w n (chunks n k ds) vs := by
  intro i r j d hi hj
  have hik : i < k := by have := (List.getElem?_eq_some_iff.1 hi).1; rwa [chunks_length] at this
  rw [chunks_get n k ds i hik] at hi
  cases hi
  rw [List.getElem?_take] at hj
  split at hj
  · rw [List.getElem?_drop] at hj
    obtain ⟨u, hu, hd⟩ := h.get hj
    exact ⟨u, hu, hd⟩
  · cases hj

theorem lsR_evals {es : List Ex} {vs : List Value} (h : LsR I μ w ρ (es.map .e) vs) : ∃ ds, Ex.evals ρ es = some ds ∧ All2 (DR I w) ds vs := by
  have h' := All2.of_map_left (R := LR I μ w ρ) h
  clear h
  induction h' with
  | nil => exact ⟨[], rfl, .nil⟩
  | cons a b ih =>
    obtain ⟨d, hd, hr⟩ := a
    obtain ⟨ds, hds, hrs⟩ := ih
    exact ⟨d :: ds, by simp [Ex.evals, hd, hds], .cons hr hrs⟩

theorem appSrc_sound {n : Nat} {s : S} {t2 : Ex} {v : Value} {s2 : Nat} {rows2 : List (List D)} (hW : WR G B I₀ w₀ I μ w ρ h) (hO : OwnR B I μ w ρ o) (hn : 0 < n) (ha : appSrc G h o n s = some t2) (hs : SR I μ w ρ s v) (ht : t2.eval ρ = some (.sl s2 rows2)) (hw : s2 = n ∨ rows2 = []) :
    SrcV I w n rows2 v := by
  unfold appSrc at ha
  split at ha
  · -- data
    rename_i t
    cases ha
    obtain ⟨d, hd, hr⟩ := e?_sound (t := t2) rfl hs
    rw [ht] at hd
    cases hd
    cases hr with
    | nil _ p cap hz => exact ⟨(fun r hr => by cases hr), p, cap, rfl, .inl rfl⟩
    | sl _ _ blk off cap vs h0 h1 h2 h3 h4 h5 h6 =>
      by_cases hr0 : rows2 = []
      · subst hr0
        exact ⟨(fun r hr => by cases hr), _, cap, rfl, .inl rfl⟩
      · have hsn : s2 = n := hw.resolve_right hr0
        subst hsn
        refine ⟨h1, _, cap, rfl, .inr ⟨⟨blk, off, none⟩, rfl, (List.range (rows2.length * s2)).map fun q => vs (q / s2) (q % s2), by simp, fun i r j d hi hj => ?_, fun q u hq => ?_, fun u hu => ?_⟩⟩
        · have hil : i < rows2.length := (List.getElem?_eq_some_iff.1 hi).1
          have hjl : j < s2 := by have := (List.getElem?_eq_some_iff.1 hj).1; rw [h1 r (List.mem_of_getElem? hi)] at this; exact this
          have hq : i * s2 + j < rows2.length * s2 := by
            have : (i + 1) * s2 ≤ rows2.length * s2 := Nat.mul_le_mul_right _ hil
            rw [Nat.succ_mul] at this
            omega
          refine ⟨vs i j, ?_, h5 i r j d hi hj⟩
          have e1 : (i * s2 + j) / s2 = i := by rw [Nat.mul_comm, Nat.mul_add_div hn, Nat.div_eq_of_lt hjl, Nat.add_zero]
          have e2 : (i * s2 + j) % s2 = j := by rw [Nat.mul_comm, Nat.mul_add_mod, Nat.mod_eq_of_lt hjl]
          simp [hq, e1, e2]
        · simp only [List.getElem?_map] at hq
          obtain ⟨q', hq', rfl⟩ := Option.map_eq_some_iff.1 hq
          have hql : q < rows2.length * s2 := by have := (List.getElem?_eq_some_iff.1 hq').1; simpa using this
          rw [List.getElem?_range hql] at hq'
          cases hq'
          obtain ⟨h6, h7, h8⟩ := row_index hn hql
          have hr := List.getElem?_eq_getElem h6
          have hrl := h1 _ (List.getElem_mem h6)
          have hc := h4 (q / s2) _ (q % s2) _ hr (List.getElem?_eq_getElem (by rw [hrl]; exact h7))
          rw [h8] at hc
          rw [addr_add]
          exact hc
        · obtain ⟨q, hq, rfl⟩ := List.mem_map.1 hu
          have hql : q < rows2.length * s2 := by simpa using hq
          obtain ⟨h6, h7, h8⟩ := row_index hn hql
          have hr := List.getElem?_eq_getElem h6
          have hrl := h1 _ (List.getElem_mem h6)
          exact (h5 (q / s2) _ (q % s2) _ hr (List.getElem?_eq_getElem (by rw [hrl]; exact h7))).one
  · -- one of the call's own
    rename_i k
    unfold Own.live? at ha
    split at ha
    · rename_i t hk
      cases ha
      obtain ⟨v', s, rows, hv', ht', hV⟩ := hO.live k _ hk
      rw [ht] at ht'
      cases ht'
      obtain ⟨b, nn, c, _, hv⟩ := l?_sound (l := .g k) rfl hs
      rw [hv] at hv'
      cases hv'
      obtain ⟨hwid, hV⟩ := hV
      rcases hV with ⟨rfl, rfl⟩ | ⟨x, cap, cur, ty, rfl, h1, h2, h3, h4, h5, h6, h7, h8⟩
      · exact ⟨(fun r hr => by cases hr), none, 0, rfl, .inl rfl⟩
      · by_cases hr0 : rows2 = []
        · subst hr0
          exact ⟨(fun r hr => by cases hr), _, cap, rfl, .inl rfl⟩
        · have hsn : s2 = n := hw.resolve_right hr0
          subst hsn
          have hle : rows2.length * s2 ≤ cap * s2 := Nat.mul_le_mul_right _ h4
          refine ⟨hwid, _, cap, rfl, .inr ⟨⟨x, 0, none⟩, rfl, cur.toList.take (rows2.length * s2), by simp; omega, fun i r j d hi hj => ?_, fun q u hq => ?_, fun u hu => ?_⟩⟩
          · obtain ⟨u, hu, hd⟩ := h7 i r j d hi hj
            have hil : i < rows2.length := (List.getElem?_eq_some_iff.1 hi).1
            have hjl : j < s2 := by have := (List.getElem?_eq_some_iff.1 hj).1; rw [hwid r (List.mem_of_getElem? hi)] at this; exact this
            have hq : i * s2 + j < rows2.length * s2 := by
              have : (i + 1) * s2 ≤ rows2.length * s2 := Nat.mul_le_mul_right _ hil
              rw [Nat.succ_mul] at this
              omega
            exact ⟨u, by rw [List.getElem?_take, if_pos hq]; simpa using hu, hd⟩
          · rw [List.getElem?_take] at hq
            split at hq
            · rw [addr_add, Nat.zero_add, cell_of_row w x q cur ty (0, 0) h3]
              simpa using hq
            · cases hq
          · obtain ⟨q, hq⟩ := List.getElem?_of_mem hu
            rw [List.getElem?_take] at hq
            split at hq
            · rename_i hql
              obtain ⟨h9, h10, h11⟩ := row_index hn hql
              have hr := List.getElem?_eq_getElem h9
              have hrl := hwid _ (List.getElem_mem h9)
              obtain ⟨u', hu', hd⟩ := h7 (q / s2) _ (q % s2) _ hr (List.getElem?_eq_getElem (by rw [hrl]; exact h10))
              rw [h11] at hu'
              have : u' = u := by rw [← Array.getElem?_toList] at hu'; rw [hq] at hu'; cases hu'; rfl
              subst this
              exact hd.one
            · cases hq
    · cases ha
  · -- a block
    rename_i r base s' m
    split at ha
    · rename_i hsn
      subst hsn
      split at ha
      · rename_i ls hls
        split at ha
        · rename_i hle
          split at ha
          · rename_i es hes
            cases ha
            obtain ⟨x, cap, hx, rfl, _⟩ := l?_sound (l := .sc r base s' m) rfl hs
            obtain ⟨vs, hlen, hcl, hrl⟩ : ∃ vs : List Value, vs.length = m * s' ∧ CellsAt w x base vs ∧ LsR I μ w ρ (es.map .e) vs := by
              obtain ⟨us, ty, fz, hh, hr⟩ := leavesAt_sound hW hls hx
              refine ⟨(us.drop base).take (m * s'), ?_, cellsAt_of_heap hh _, ?_⟩
              · have := hr.length
                simp
                omega
              · have := (hr.drop base).take (m * s')
                rwa [exLs_get hes] at this
            obtain ⟨ds, hds, hdr⟩ := lsR_evals hrl
            have hel : es.length = m * s' := by have := hrl.length; simp at this; omega
            have hev := rowsE_eval (n := s') (k := m) hds hel
            rw [ht] at hev
            simp only [Option.some.injEq, D.sl.injEq] at hev
            obtain ⟨_, e2⟩ := hev
            subst e2
            have hdl : ds.length = m * s' := by have := evals_length hds; omega
            refine ⟨chunks_width hdl, some ⟨x, base, none⟩, cap, by simp [chunks_length], ?_⟩
            refine .inr ⟨_, rfl, vs, by simp [chunks_length, hlen], rowsL_chunks hn hdr hdl, fun q u hq => ?_, fun u hu => ?_⟩
            · rw [addr_add]
              exact hcl q u hq
            · obtain ⟨q, hq⟩ := List.getElem?_of_mem hu
              obtain ⟨d, _, hd⟩ := hdr.get' hq
              exact hd.one
          · cases ha
        · cases ha
      · cases ha
    · cases ha
  · cases ha

end
end Go.Proofs.YtlihbielphcgbaaGreatDoor.Sx

namespace Go.Proofs.YtlihbielphcgbaaGreatDoor.Sx
open Go
set_option linter.unnecessarySimpa false
set_option linter.unusedSimpArgs false
set_option linter.unusedVariables false

/-- An operation on slices that grow has been done. -/
def GoesO (G : Glo) (B : Nat) (I₀ : Imm) (w₀ : World) (I : Imm) (μ : Mu) (w : World) (ρ : List D) (h : Heap) (r : Result Next) (s : S) (o' : Own) : Prop :=
  ∃ nx v w' μ', r = .ok nx w' ∧ (nx = .value v ∨ (nx = .skip ∧ v = undef)) ∧ SR I μ' w' ρ s v ∧ WR G B I₀ w₀ I μ' w' ρ h ∧ Evo I μ w I μ' w' ∧ OwnR B I μ' w' ρ o'

section
variable {B : Nat} {I : Imm} {μ : Mu} {w : World} {ρ : List D} {o : Own} {G : Glo} {I₀ : Imm} {w₀ : World} {h : Heap} {P : Program} {fr : List S} {a : Act} {op : Oper} {cs : List Ex} {s : S} {o' : Own}

theorem room_sound {x : Ex} {b : Nat} (h : (Ex.room x b).eval ρ = some (.b true)) : ∃ k m, x.eval ρ = some (.i k m) ∧ 0 ≤ m ∧ m * b ≤ 2 ^ 40 := by
  simp only [Ex.eval] at h
  split at h
  · rename_i k m hx
    simp only [Option.some.injEq, D.b.injEq, Bool.and_eq_true, decide_eq_true_eq] at h
    exact ⟨k, m, hx, h.1, h.2⟩
  · cases h

theorem app_sound {n : Nat} {x y : Ex} {d : D} (h : (Ex.app n x y).eval ρ = some d) : ∃ s xs m ys, x.eval ρ = some (.sl s xs) ∧ y.eval ρ = some (.sl m ys) ∧ (s = n ∨ (s = 0 ∧ xs = [])) ∧ (m = n ∨ ys = []) ∧ d = if ys.isEmpty then .sl s xs else .sl n (xs ++ ys) := by
  simp only [Ex.eval] at h
  split at h
  · rename_i da db hx hy
    cases da <;> cases db <;> simp only [appD] at h <;> try cases h
    rename_i s xs m ys
    split at h
    · rename_i hc
      cases h
      exact ⟨s, xs, m, ys, hx, hy, hc.1.imp id fun h => ⟨h.1, List.isEmpty_iff.1 h.2⟩, hc.2.imp id List.isEmpty_iff.1, rfl⟩
    · cases h
  · cases h

theorem GoesO.quiet (hW : WR G B I₀ w₀ I μ w ρ h) (hO : OwnR B I μ w ρ o) {r : Result Next} {v : Value} (hr : r = .ok (.value v) w) (hs : SR I μ w ρ s v) : GoesO G B I₀ w₀ I μ w ρ h r s o :=
  ⟨_, v, w, μ, hr, .inl rfl, hs, hW, Evo.refl _ _ _, hO⟩

theorem live?_some {k : Nat} {t : Ex} (h : Own.live? o k = some t) : o[k]? = some ⟨t, .live⟩ := by
  unfold Own.live? at h
  split at h
  · rename_i t' hk; cases h; exact hk
  · cases h

theorem push_sr {n : Nat} {b : Option Addr} {l c : Nat} {w' : World} : SR I (μ.push n (.slice b l c)) w' ρ (.val false [.g n]) (.slice b l c) := ⟨_, rfl, b, l, c, rfl, by simp [Mu.push]⟩

theorem own_append (hW : WR G B I₀ w₀ I μ w ρ h) (hO : OwnR B I μ w ρ o) (hop : ∀ x, SR I μ w ρ (opd fr x) (a.eval x)) {args : Array Operand} {tys : Array TypeId} (ho : op.op = .call { callee := .builtin .append, args := args, argTypes := tys })
    (hs : ownOp P G fr h o (.call { callee := .builtin .append, args := args, argTypes := tys }) = some (cs, s, o')) (hc : ∀ c ∈ cs, c.eval ρ = some (.b true)) : GoesO G B I₀ w₀ I μ w ρ h ((execOp a.eval op).run P w) s o' := by
  simp only [ownOp] at hs
  split at hs
  · rename_i x y t t' hargs htys
    split at hs
    · rename_i htt
      subst htt
      split at hs
      · rename_i el hu
        split at hs
        · rename_i n z hn hz
          split at hs
          · rename_i hcond
            obtain ⟨hpos, hzl⟩ := hcond
            split at hs
            · rename_i t2 t1 o1 hsrc hdst
              simp only [Option.some.injEq, Prod.mk.injEq] at hs
              obtain ⟨rfl, rfl, rfl⟩ := hs
              have ha : args = #[x, y] := by rw [← Array.toList_inj, hargs]
              have ht : tys = #[t, t] := by rw [← Array.toList_inj, htys]
              subst ha
              subst ht
              obtain ⟨i, zv, hi, hzv, hzs, _⟩ := zeroT_info hz
              have hin : i.size = n := by simpa [sizeT, hi] using hn
              have hby : P.bytesOf el = i.bytes := by simp [Program.bytesOf, hi]
              obtain ⟨kr, mr, hlen, hm0, hroom⟩ := room_sound (hc _ (List.mem_singleton.2 rfl))
              have happ : ∃ d, (Ex.app n t1 t2).eval ρ = some d := by
                simp only [Ex.eval] at hlen
                split at hlen
                · rename_i sz xs hx
                  exact ⟨_, by simp only [Ex.eval]; exact hx⟩
                · cases hlen
              obtain ⟨d, hd⟩ := happ
              obtain ⟨s1, rows, s2, rows2, h1, h2, hc1, hc2, rfl⟩ := app_sound hd
              have hsrcV := appSrc_sound hW hO hpos hsrc (hop y) h2 hc2
              have hlen' : mr = ((rows.length + rows2.length : Nat) : Int) := by
                rw [Ex.eval, hd] at hlen
                split at hlen
                · rename_i sz xs hx
                  cases hlen
                  split at hx
                  · rename_i he
                    cases hx
                    have : rows2 = [] := List.isEmpty_iff.1 he
                    simp [this]
                  · cases hx
                    simp
                · cases hlen
              have hroom' : (rows.length + rows2.length) * (i.bytes + 1) ≤ 2 ^ 40 := by
                rw [hlen', hby] at hroom
                have : (((rows.length + rows2.length) * (i.bytes + 1) : Nat) : Int) ≤ 2 ^ 40 := by rw [Int.natCast_mul]; exact_mod_cast hroom
                exact_mod_cast this
              -- the slice that is appended to
              obtain ⟨hV, hv1, hol, holive, hofroz, horow⟩ : OwnV B I w s1 rows (a.eval x) ∧ (s1 = n ∨ s1 = 0) ∧ o1.length = o.length ∧
                  (∀ (k : Nat) (t : Ex), o1[k]? = some (OS.mk t .live) → o[k]? = some (OS.mk t .live) ∧ ∀ v y, μ.v k = some v → v.ownBlock = some y → (a.eval x).ownBlock ≠ some y) ∧
                  (∀ (k : Nat) (t : Ex), o1[k]? = some (OS.mk t .frozen) → o[k]? = some (OS.mk t .frozen)) ∧ (∀ y, (a.eval x).ownBlock = some y → OwnB μ o y) := by
                unfold appDst at hdst
                split at hdst
                · rename_i hsx
                  cases hdst
                  have hv := hop x
                  rw [hsx] at hv
                  obtain ⟨dd, hdd, hr⟩ := e?_sound (t := .c (.sl 0 [])) rfl hv
                  simp only [Ex.eval] at hdd h1
                  cases hdd
                  simp only [Option.some.injEq, D.sl.injEq] at h1
                  obtain ⟨rfl, rfl⟩ := h1
                  have hnil : a.eval x = .slice none 0 0 := by
                    generalize hv' : a.eval x = vx at hr
                    cases hr with
                    | nil _ p cap hz => obtain ⟨rfl, rfl⟩ := hz rfl; rfl
                    | sl _ _ _ _ _ _ h0 => omega
                  rw [hnil]
                  exact ⟨⟨(fun r hr => by cases hr), .inl ⟨rfl, rfl⟩⟩, .inr rfl, rfl, fun k t hk => ⟨hk, fun v y _ _ => by simp [Value.ownBlock]⟩, fun k t hk => hk, fun y hy => by simp [Value.ownBlock] at hy⟩
                · rename_i k hsx
                  split at hdst
                  · rename_i tk hk
                    cases hdst
                    have hk := live?_some hk
                    have hv := hop x
                    rw [hsx] at hv
                    obtain ⟨b, ll, cc, _, hv⟩ := l?_sound (l := .g k) rfl hv
                    obtain ⟨v', s', rows', hv', ht', hV⟩ := hO.live k _ hk
                    rw [hv] at hv'
                    cases hv'
                    rw [h1] at ht'
                    cases ht'
                    have hkl : k < o.length := (List.getElem?_eq_some_iff.1 hk).1
                    refine ⟨hV, hc1.imp id (·.1), by simp, fun j t hj => ?_, fun j t hj => ?_, fun y hy => ⟨k, t1, _, hk, hv, hy⟩⟩
                    · by_cases he : k = j
                      · subst he; simp [hkl] at hj
                      · rw [List.getElem?_set_ne he] at hj
                        refine ⟨hj, fun v y hvj hy hy' => ?_⟩
                        exact (hO.dis k t1 _ y hk hv hy').2 j t v (Ne.symm he) hj hvj hy
                    · by_cases he : k = j
                      · subst he; simp [hkl] at hj
                      · rwa [List.getElem?_set_ne he] at hj
                  · cases hdst
                · cases hdst
              obtain ⟨v', w', hrun, hV', hg, hb'⟩ := run_appendV (P := P) (ty := op.type) hu hi hzv hin (by omega) hpos hV hv1 hsrcV hroom' hW.size hW.imm
              obtain ⟨hW', he, hO'⟩ := hO.push hW hol holive hofroz horow (gr_of hg) hV' hb' (t' := .app n t1 t2) (by rw [hd]; split <;> simp_all)
              obtain ⟨b, c, hsl⟩ := hV'.slice
              refine ⟨.value v', v', w', _, ?_, .inl rfl, ?_, hW', he, hO'⟩
              · simp [execOp, ho, resolve, invoke, builtin, hrun]
              · rw [hsl, hol]; exact push_sr
            · cases hs
          · cases hs
        · cases hs
      · cases hs
    · cases hs
  · cases hs

/-- a new slice -/
theorem own_new {vs : List Value} {el : TypeId} {n len : Nat} {rows : List (List D)} {t' : Ex} (hW : WR G B I₀ w₀ I μ w ρ h) (hO : OwnR B I μ w ρ o) (hn : 0 < n) (hl : rows.length = len) (hvs : vs.length = len * n) (hw : ∀ r ∈ rows, r.length = n) (hr : RowsL I w n rows vs) (hm : len ≤ maxLen)
    (ht : t'.eval ρ = some (.sl n rows)) {r : Result Next} (hrun : r = .ok (.value (.slice (some ⟨w.heap.size, 0, none⟩) len len)) (w.alloc (.cells vs.toArray el))) : GoesO G B I₀ w₀ I μ w ρ h r (.val false [.g o.length]) (o ++ [⟨t', .live⟩]) := by
  subst hl
  have hV : OwnV B I (w.alloc (.cells vs.toArray el)) n rows (.slice (some ⟨w.heap.size, 0, none⟩) rows.length rows.length) := by
    refine ⟨hw, .inr ⟨w.heap.size, rows.length, vs.toArray, el, rfl, hW.size, hn, heap_alloc_new w _, Nat.le_refl _, hm, by simpa using hvs, fun i r j d hi hj => ?_, fun hx => by have := hW.imm _ hx; omega⟩⟩
    obtain ⟨u, hu, hd⟩ := hr i r j d hi hj
    exact ⟨u, by simpa using hu, hd.mono (fun _ h => h) fun y hy => heap_alloc_old w _ (hW.imm y hy)⟩
  obtain ⟨hW', he, hO'⟩ := hO.push (o1 := o) (row := none) hW rfl (fun k t hk => ⟨hk, fun v y _ _ => by simp⟩) (fun k t hk => hk) (fun x hx => by cases hx) (gr_of (World.grownBy_alloc w _ none)) hV (fun x hx => by simp [Value.ownBlock] at hx; exact .inr (Nat.le_of_eq hx)) ht
  exact ⟨_, _, _, _, hrun, .inl rfl, push_sr, hW', he, hO'⟩

theorem fillS_length {place : Nat → Option (Nat × Nat)} : ∀ {parts : List (Nat × S)} {cells ls : List SL}, fillS place cells parts = some ls → ls.length = cells.length
  | [], cells, ls, h => by simp [fillS] at h; rw [h]
  | (i, s) :: rest, cells, ls, h => by
    simp only [fillS] at h
    split at h
    · split at h
      · rename_i hc
        rw [fillS_length h, over_length (by omega)]
      · cases h
    · cases h

theorem own_buildSlice (hW : WR G B I₀ w₀ I μ w ρ h) (hO : OwnR B I μ w ρ o) (hop : ∀ x, SR I μ w ρ (opd fr x) (a.eval x)) {t : TypeId} {len : Nat} {parts : Array (Nat × Operand)} (ho : op.op = .buildSlice t len parts)
    (hs : ownOp P G fr h o (.buildSlice t len parts) = some (cs, s, o')) : GoesO G B I₀ w₀ I μ w ρ h ((execOp a.eval op).run P w) s o' := by
  simp only [ownOp] at hs
  split at hs
  · rename_i el hu
    split at hs
    · rename_i sz z hsz hz
      split at hs
      · rename_i hc
        obtain ⟨h1, h3, h4⟩ := hc
        split at hs
        · rename_i ls hls
          split at hs
          · rename_i es hes
            simp only [Option.some.injEq, Prod.mk.injEq] at hs
            obtain ⟨rfl, rfl, rfl⟩ := hs
            obtain ⟨zv, hzr, hzc⟩ := zeroT_run hz
            have hzs := constLs_sound (I := I) (μ := μ) (w := w) (ρ := ρ) hzc
            have hzl : zv.cells.size = sz := by have := hzs.length; simp at this; omega
            obtain ⟨cur, hf, hcur⟩ := fillS_sound parts.toList hop (lsR_flat hzs len) hls
            have hpar : (parts.map fun q => (q.1, a.eval q.2)).toList = parts.toList.map fun q => (q.1, a.eval q.2) := by simp
            have hzz' : (Array.range (len * sz)).map (zv.cells[· % zv.cells.size]!) = (List.replicate len zv.cells.toList).flatten.toArray := by
              rw [← hzl, ← zeros_list zv.cells len]
            have hlsl : ls.length = len * sz := by
              have := fillS_length hls
              rw [this]
              simp [h4]
            have hcl : cur.length = len * sz := by rw [← hcur.length]; exact hlsl
            rw [exLs_get hes] at hcur
            obtain ⟨ds, hds, hdr⟩ := lsR_evals hcur
            have hdl : ds.length = len * sz := by rw [hdr.length]; exact hcl
            have hel : es.length = len * sz := by rw [evals_length hds]; exact hdl
            have hbig : ¬ len * sz > 2 ^ 24 := by omega
            have hml : len ≤ maxLen := by
              have : len ≤ len * sz := Nat.le_mul_of_pos_right _ h1
              simp only [maxLen]
              omega
            refine own_new hW hO h1 (chunks_length sz len ds) hcl (chunks_width hdl) (rowsL_chunks h1 hdr hdl) hml (rowsE_eval hds hel) (el := el) ?_
            by_cases hpos : len * sz = 0
            · have hl0 : len = 0 := by rcases Nat.mul_eq_zero.1 hpos with h | h; exact h; omega
              subst hl0
              have hc0 : cur = [] := List.length_eq_zero_iff.1 (by simpa using hcl)
              subst hc0
              simp only [execOp, ho, Instr.buildSlice, Sem.run_bind, run_underlying hu, Result.andThen_ok, run_sizeT hsz, if_neg hbig, if_pos hpos, Sem.run_pure, hpar]
              have hz0 : (Array.range (0 * sz)).map ((#[] : Array Value)[· % (#[] : Array Value).size]!) = (List.replicate 0 zv.cells.toList).flatten.toArray := by simp
              rw [hz0, hf]
              simp [newRow, World.alloc_eq]
            · simp only [execOp, ho, Instr.buildSlice, Sem.run_bind, run_underlying hu, Result.andThen_ok, run_sizeT hsz, if_neg hbig, if_neg hpos, hzr, Sem.run_pure, hpar]
              rw [hzz', hf]
              simp [newRow, World.alloc_eq, hzr, hpos, hbig]
          · cases hs
        · cases hs
      · cases hs
    · cases hs
  · cases hs

theorem own_makeSlice (hW : WR G B I₀ w₀ I μ w ρ h) (hO : OwnR B I μ w ρ o) (hop : ∀ x, SR I μ w ρ (opd fr x) (a.eval x)) {t : TypeId} {x y : Operand} (ho : op.op = .makeSlice t x y)
    (hs : ownOp P G fr h o (.makeSlice t x y) = some (cs, s, o')) (hc : ∀ c ∈ cs, c.eval ρ = some (.b true)) : GoesO G B I₀ w₀ I μ w ρ h ((execOp a.eval op).run P w) s o' := by
  simp only [ownOp] at hs
  split at hs
  · rename_i el ex ey hu hx hy
    split at hs
    · rename_i n z hn hz
      split at hs
      · rename_i hcond
        obtain ⟨h1, h2, h3⟩ := hcond
        split at hs
        · rename_i es hes
          simp only [Option.some.injEq, Prod.mk.injEq] at hs
          obtain ⟨rfl, rfl, rfl⟩ := hs
          have hxy := Ex.same_eq h3
          subst hxy
          obtain ⟨i, zv, hi, hzv, hzs, hzc⟩ := zeroT_info hz
          have hin : i.size = n := by simpa [sizeT, hi] using hn
          have hby : P.bytesOf el = i.bytes := by simp [Program.bytesOf, hi]
          obtain ⟨kr, m, hm, hm0, hroom⟩ := room_sound (hc _ (List.mem_singleton.2 rfl))
          obtain ⟨m, rfl⟩ := Int.eq_ofNat_of_zero_le hm0
          obtain ⟨dx, hdx, hrx⟩ := e?_sound hx (hop x)
          obtain ⟨dy, hdy, hry⟩ := e?_sound hy (hop y)
          rw [hm] at hdx hdy
          cases hdx
          cases hdy
          have hroom' : m * (i.bytes + 1) ≤ 2 ^ 40 := by
            rw [hby] at hroom
            have : ((m * (i.bytes + 1) : Nat) : Int) ≤ 2 ^ 40 := by rw [Int.natCast_mul]; exact_mod_cast hroom
            exact_mod_cast this
          have hm40 : m ≤ 2 ^ 40 := Nat.le_trans (Nat.le_mul_of_pos_right _ (by omega)) hroom'
          have hmb : i.bytes * m ≤ 2 ^ 40 := by rw [Nat.mul_comm]; exact Nat.le_trans (Nat.mul_le_mul_left _ (Nat.le_succ _)) hroom'
          have hmb' : (i.bytes : Int) * (m : Int) ≤ 281474976710656 := by
            have : ((i.bytes * m : Nat) : Int) ≤ 2 ^ 40 := by exact_mod_cast hmb
            rw [Int.natCast_mul] at this
            omega
          have hrun := run_make (P := P) w t el i zv hu hi hzv kr kr m m (by omega) (Int.le_refl _) hmb' (by omega)
          simp only [Int.toNat_natCast, hin] at hrun
          have hzs' := constLs_sound (I := I) (μ := μ) (w := w) (ρ := ρ) hzc
          rw [exLs_get hes] at hzs'
          obtain ⟨ds, hds, hdr⟩ := lsR_evals hzs'
          have hdl : ds.length = n := by rw [hdr.length]; simp; omega
          have hmc : (madeCells zv.cells (m * n)).toList = (List.replicate m zv.cells.toList).flatten := by
            rw [← h2, ← hzs]
            exact zeros_list zv.cells m
          refine own_new (vs := (madeCells zv.cells (m * n)).toList) (rows := List.replicate m ds) (len := m) (el := el) hW hO h1 (by simp) (by simp [size_madeCells]) (fun r hr => by rw [(List.mem_replicate.1 hr).2]; exact hdl) (fun q r j d hq hj => ?_) (by simp only [maxLen]; omega) ?_ ?_
          · have hqm : q < m := by have := (List.getElem?_eq_some_iff.1 hq).1; simpa using this
            rw [List.getElem?_replicate, if_pos hqm] at hq
            cases hq
            obtain ⟨u, hu, hd⟩ := hdr.get hj
            refine ⟨u, ?_, hd⟩
            have hjl : j < n := by have := (List.getElem?_eq_some_iff.1 hj).1; omega
            have hzl : zv.cells.toList.length = n := by simp; omega
            rw [hmc, flat_rep, hzl]
            have hlt : q * n + j < m * n := by
              have : (q + 1) * n ≤ m * n := Nat.mul_le_mul_right _ hqm
              rw [Nat.succ_mul] at this
              omega
            rw [if_pos hlt]
            have : (q * n + j) % n = j := by rw [Nat.mul_comm, Nat.mul_add_mod, Nat.mod_eq_of_lt hjl]
            rw [this]
            exact hu
          · simp only [Ex.eval, hm, hds]
            rw [if_pos (by omega)]
            simp [hdl]
          · simp [execOp, ho, hrx.i_inv, hry.i_inv, hrun]
        · cases hs
      · cases hs
    · cases hs
  · cases hs

theorem own_indexAddrQ (hO : OwnR B I μ w ρ o) (hop : ∀ x, SR I μ w ρ (opd fr x) (a.eval x)) {t : TypeId} {x y : Operand} (ho : op.op = .indexAddr t x y)
    (hs : ownOp P G fr h o (.indexAddr t x y) = some (cs, s, o')) (hc : ∀ c ∈ cs, c.eval ρ = some (.b true)) : ∃ v, (execOp a.eval op).run P w = .ok (.value v) w ∧ SR I μ w ρ s v ∧ o' = o := by
  simp only [ownOp] at hs
  split at hs
  · rename_i el k ix hu hx hy
    split at hs
    · rename_i sz tk hsz hk
      split at hs
      · rename_i hpos
        simp only [Option.some.injEq, Prod.mk.injEq] at hs
        obtain ⟨rfl, rfl, rfl⟩ := hs
        have hv := hop x
        rw [hx] at hv
        obtain ⟨b, ll, cc, hbe, hv⟩ := l?_sound (l := .g k) rfl hv
        obtain ⟨v', s', rows, hv', ht', hV⟩ := hO.live k _ (live?_some hk)
        rw [hv] at hv'
        cases hv'
        obtain ⟨di, hdi, hri⟩ := e?_sound hy (hop y)
        have hint : ∃ kk m, di = .i kk m := by
          cases hmk : mkInb tk ix sz with
          | nil =>
            unfold mkInb at hmk
            split at hmk
            · simp only [Ex.eval] at hdi; cases hdi; exact ⟨_, _, rfl⟩
            · simp at hmk
          | cons c r =>
            have : c = .inb tk ix sz := by
              unfold mkInb at hmk
              split at hmk
              · split at hmk <;> simp at hmk
                exact hmk.1.symm
              · simp at hmk; exact hmk.1.symm
            subst this
            have hb := hc (.inb tk ix sz) (by rw [hmk]; simp)
            simp only [Ex.eval, ht', hdi] at hb
            cases di <;> simp [inbD] at hb
            exact ⟨_, _, rfl⟩
        obtain ⟨kk, m, rfl⟩ := hint
        obtain ⟨rfl, h0, hlt⟩ := mkInb_sound ht' hdi hc
        obtain ⟨m, rfl⟩ := Int.eq_ofNat_of_zero_le h0
        have hml : m < rows.length := by omega
        rcases hV.2 with ⟨_, rfl⟩ | ⟨z, cap, cur, ty, hsl, h1, h2, h3, h4, h5, h6, h7, h8⟩
        · simp at hml
        · rw [hsl] at hv
          refine ⟨.pointer (some ⟨z, m * s' + 0, none⟩), ?_, ⟨_, rfl, z, rows.length, cap, kk, m, hv, hdi, by omega, by omega, by simp⟩, rfl⟩
          have hi := hri.i_inv
          simp [execOp, ho, Instr.indexAt, run_underlying hu, hsl, hi, asIntOf, hml, run_sizeT hsz, addr_add]
      · cases hs
    · cases hs
  · cases hs
theorem own_indexAddr (hW : WR G B I₀ w₀ I μ w ρ h) (hO : OwnR B I μ w ρ o) (hop : ∀ x, SR I μ w ρ (opd fr x) (a.eval x)) {t : TypeId} {x y : Operand} (ho : op.op = .indexAddr t x y)
    (hs : ownOp P G fr h o (.indexAddr t x y) = some (cs, s, o')) (hc : ∀ c ∈ cs, c.eval ρ = some (.b true)) : GoesO G B I₀ w₀ I μ w ρ h ((execOp a.eval op).run P w) s o' := by
  obtain ⟨v, h1, h2, rfl⟩ := own_indexAddrQ hO hop ho hs hc
  exact GoesO.quiet hW hO h1 h2

theorem own_loadQ (hO : OwnR B I μ w ρ o) (hop : ∀ x, SR I μ w ρ (opd fr x) (a.eval x)) {t : TypeId} {x : Operand} (ho : op.op = .load t x)
    (hs : ownOp P G fr h o (.load t x) = some (cs, s, o')) (hc : ∀ c ∈ cs, c.eval ρ = some (.b true)) : ∃ v, (execOp a.eval op).run P w = .ok (.value v) w ∧ SR I μ w ρ s v ∧ o' = o := by
  simp only [ownOp] at hs
  split at hs
  · rename_i k ix sz j g n hx hg hn
    split at hs
    · rename_i tk hk
      generalize hgn : (if g = true then n else 1) = gn at hs
      split at hs
      · rename_i hle
        simp only [Option.some.injEq, Prod.mk.injEq] at hs
        obtain ⟨rfl, rfl, rfl⟩ := hs
        have hv := hop x
        rw [hx] at hv
        obtain ⟨z, len, cap, kk, m, hv, hdi, h0, hlt, hp⟩ := l?_sound (l := .ge k ix sz j) rfl hv
        obtain ⟨v', s', rows, hv', ht', hV⟩ := hO.live k _ (live?_some hk)
        rw [hv] at hv'
        cases hv'
        obtain ⟨rfl, _, hml⟩ := mkInb_sound ht' hdi hc
        obtain ⟨m, rfl⟩ := Int.eq_ofNat_of_zero_le h0
        have hml : m < rows.length := by omega
        rcases hV.2 with ⟨he, _⟩ | ⟨z', cap', cur, ty, hsl, h1, h2, h3, h4, h5, h6, h7, h8⟩
        · cases he
        · simp only [Value.slice.injEq, Option.some.injEq, Addr.mk.injEq, and_true, true_and] at hsl
          obtain ⟨rfl, _, _⟩ := hsl
          have hr := List.getElem?_eq_getElem hml
          have hrl := hV.1 _ (List.getElem_mem hml)
          -- the cells that are read
          obtain ⟨vs, hvl, hcells, hvs⟩ : ∃ vs : List Value, vs.length = gn ∧ CellsAt w z (m * s' + j) vs ∧ LsR I μ w ρ ((List.range gn).map fun q => .e (mkIdx tk ix (j + q))) vs := by
            have key : ∀ q, q < gn → ∃ u d, rows[m][j + q]? = some d ∧ cur[m * s' + (j + q)]? = some u ∧ DR I w d u := fun q hq => by
              have hjq : j + q < (rows[m]).length := by omega
              obtain ⟨u, hu, hd⟩ := h7 m _ (j + q) _ hr (List.getElem?_eq_getElem hjq)
              exact ⟨u, _, List.getElem?_eq_getElem hjq, hu, hd⟩
            refine ⟨(List.range gn).map fun q => cur.getD (m * s' + (j + q)) undef, by simp, fun q u hq => ?_, All2.of_get (by simp) fun q l u hl hu => ?_⟩
            · have hqg : q < gn := by have := (List.getElem?_eq_some_iff.1 hq).1; simpa using this
              rw [List.getElem?_map, List.getElem?_range hqg] at hq
              simp only [Option.map_some, Option.some.injEq] at hq
              obtain ⟨u', d, _, hu', _⟩ := key q hqg
              rw [Array.getD_eq_getD_getElem?, hu'] at hq
              rw [cell_of_row w z _ cur ty (0, 0) h3, Nat.add_assoc, hu']
              simpa using hq
            · have hqg : q < gn := by have := (List.getElem?_eq_some_iff.1 hl).1; simpa using this
              rw [List.getElem?_map, List.getElem?_range hqg] at hl hu
              simp only [Option.map_some, Option.some.injEq] at hl hu
              obtain ⟨u', d, hd', hu', hr'⟩ := key q hqg
              rw [Array.getD_eq_getD_getElem?, hu'] at hu
              simp only [Option.getD_some] at hu
              subst hu
              subst hl
              exact ⟨d, mkIdx_eval ht' hdi hr hd', hr'⟩
          cases g
          · simp only [Bool.false_eq_true, if_false] at hgn
            subst hgn
            match vs, hvl with
            | [v], _ =>
              have h0' := hcells 0 v (by simp)
              simp only [Nat.add_zero] at h0'
              refine ⟨v, ?_, ?_, rfl⟩
              · simp [execOp, ho, Instr.loadAt, Instr.sureAddr, hp, loadVar, run_isAgg hg, h0']
              · cases hvs with | cons h1 h2 => exact ⟨_, rfl, h1⟩
          · simp only [if_true] at hgn
            subst hgn
            subst hvl
            refine ⟨.agg vs.toArray, ?_, ⟨vs, rfl, hvs⟩, rfl⟩
            simp [execOp, ho, Instr.loadAt, Instr.sureAddr, hp, loadVar, run_isAgg hg, run_sizeT hn, run_loadCells_at hcells]
      · cases hs
    · cases hs
  · cases hs
theorem own_load (hW : WR G B I₀ w₀ I μ w ρ h) (hO : OwnR B I μ w ρ o) (hop : ∀ x, SR I μ w ρ (opd fr x) (a.eval x)) {t : TypeId} {x : Operand} (ho : op.op = .load t x)
    (hs : ownOp P G fr h o (.load t x) = some (cs, s, o')) (hc : ∀ c ∈ cs, c.eval ρ = some (.b true)) : GoesO G B I₀ w₀ I μ w ρ h ((execOp a.eval op).run P w) s o' := by
  obtain ⟨v, h1, h2, rfl⟩ := own_loadQ hO hop ho hs hc
  exact GoesO.quiet hW hO h1 h2

theorem over_get {α : Type} {l n : List α} {j q : Nat} (h : j + n.length ≤ l.length) : (over l j n)[q]? = if q < j then l[q]? else if q < j + n.length then n[q - j]? else l[q]? := by
  unfold over
  have hAl : (l.take j).length = j := by simp; omega
  by_cases h1 : q < j
  · rw [if_pos h1, List.append_assoc, List.getElem?_append_left (by omega), List.getElem?_take, if_pos h1]
  · rw [if_neg h1]
    by_cases h2 : q < j + n.length
    · rw [if_pos h2, List.append_assoc, List.getElem?_append_right (by omega), hAl, List.getElem?_append_left (by omega)]
    · rw [if_neg h2, List.getElem?_append_right (by rw [List.length_append, hAl]; omega), List.length_append, hAl, List.getElem?_drop]
      rw [show j + n.length + (q - (j + n.length)) = q from by omega]

theorem own_store (hW : WR G B I₀ w₀ I μ w ρ h) (hO : OwnR B I μ w ρ o) (hop : ∀ x, SR I μ w ρ (opd fr x) (a.eval x)) {t : TypeId} {x y : Operand} (ho : op.op = .store t x y)
    (hs : ownOp P G fr h o (.store t x y) = some (cs, s, o')) (hc : ∀ c ∈ cs, c.eval ρ = some (.b true)) : GoesO G B I₀ w₀ I μ w ρ h ((execOp a.eval op).run P w) s o' := by
  simp only [ownOp] at hs
  split at hs
  · rename_i k ix sz j g ls n hx hy hn
    split at hs
    · rename_i tk es hk hes
      split at hs
      · rename_i hcond
        obtain ⟨hlen, hle⟩ := hcond
        simp only [Option.some.injEq, Prod.mk.injEq] at hs
        obtain ⟨rfl, rfl, rfl⟩ := hs
        have hvx := hop x
        rw [hx] at hvx
        obtain ⟨z, len, cap, kk, m, hmu, hdi, h0, hlt, hp⟩ := l?_sound (l := .ge k ix sz j) rfl hvx
        have hk' := live?_some hk
        obtain ⟨v', s', rows, hv', ht', hV⟩ := hO.live k _ hk'
        rw [hmu] at hv'
        cases hv'
        obtain ⟨rfl, _, hml⟩ := mkInb_sound ht' hdi hc
        obtain ⟨m, rfl⟩ := Int.eq_ofNat_of_zero_le h0
        have hml : m < rows.length := by omega
        have hyv := hop y
        rw [hy] at hyv
        obtain ⟨vs, hcl, hvs⟩ := VR.cells (g := g) hyv
        rw [exLs_get hes] at hvs
        obtain ⟨ds, hds, hdr⟩ := lsR_evals hvs
        have hvl : vs.length = n := by rw [← hdr.length, ← evals_length hds]; have := congrArg List.length (exLs_get hes); simp at this; omega
        have hdl : ds.length = n := by rw [hdr.length]; exact hvl
        rcases hV.2 with ⟨he, _⟩ | ⟨z', cap', cur, ty, hsl, h1, h2, h3, h4, h5, h6, h7, h8⟩
        · cases he
        · simp only [Value.slice.injEq, Option.some.injEq, Addr.mk.injEq, and_true, true_and] at hsl
          obtain ⟨rfl, e1, e2⟩ := hsl
          subst e2
          have hr := List.getElem?_eq_getElem hml
          have hrl := hV.1 _ (List.getElem_mem hml)
          have hms : (m + 1) * s' ≤ cap * s' := Nat.mul_le_mul_right _ (by omega)
          rw [Nat.succ_mul] at hms
          have hrun := run_storeCells_at (P := P) z (m * s' + j) ty vs 0 cur w h3 (by omega) (fun u hu => by
            obtain ⟨q, hq⟩ := List.getElem?_of_mem hu
            obtain ⟨d, _, hd⟩ := hdr.get' hq
            exact hd.one)
          simp only [Nat.add_zero] at hrun
          generalize hnew : (cur.toList.take (m * s' + j) ++ vs ++ cur.toList.drop (m * s' + j + vs.length)).toArray = new at hrun
          have hnl : new.size = cur.size := by
            rw [← hnew]
            simp only [List.size_toArray, List.length_append, List.length_take, List.length_drop, Array.length_toList]
            omega
          have hg : w.grownBy (w.setRow z new) (some z) := ⟨rfl, rfl, rfl, by simp [World.setRow], fun q _ hq => setRow_other w z q _ (fun e => hq (by rw [e]))⟩
          have hnI : ∀ y, I y → (w.setRow z new).heap[y]? = w.heap[y]? := fun y hy => setRow_other w z y _ (fun e => h8 (e ▸ hy))
          have hget : ∀ q, new[q]? = if q < m * s' + j then cur[q]? else if q < m * s' + j + vs.length then vs[q - (m * s' + j)]? else cur[q]? := by
            intro q
            rw [← hnew]
            have hmin : min (m * s' + j) cur.size = m * s' + j := by omega
            have hAl : (cur.toList.take (m * s' + j)).length = m * s' + j := by simp; omega
            rw [List.getElem?_toArray]
            by_cases h1 : q < m * s' + j
            · rw [if_pos h1, List.append_assoc, List.getElem?_append_left (by omega), List.getElem?_take, if_pos h1]
              simp
            · rw [if_neg h1]
              by_cases h2 : q < m * s' + j + vs.length
              · rw [if_pos h2, List.append_assoc, List.getElem?_append_right (by omega), hAl, List.getElem?_append_left (by omega)]
              · rw [if_neg h2, List.getElem?_append_right (by rw [List.length_append, hAl]; omega), List.length_append, hAl, List.getElem?_drop]
                rw [show m * s' + j + vs.length + (q - (m * s' + j + vs.length)) = q from by omega]
                simp
          have hV' : OwnV B I (w.setRow z new) s' (rows.set m (over rows[m] j ds)) (.slice (some ⟨z, 0, none⟩) len cap) := by
            refine ⟨fun r hr' => ?_, .inr ⟨z, cap, new, ty, by simp [e1], h1, h2, setRow_heap w z cur _ ty _ h3, by simpa using h4, h5, by rw [hnl]; exact h6, fun i r q d hi hq => ?_, h8⟩⟩
            · rcases List.mem_or_eq_of_mem_set hr' with h | h
              · exact hV.1 r h
              · rw [h, over_length (by omega)]; exact hrl
            · by_cases him : m = i
              · subst him
                rw [List.getElem?_set_self hml] at hi
                cases hi
                rw [over_get (by omega)] at hq
                by_cases hq1 : q < j
                · rw [if_pos hq1] at hq
                  obtain ⟨u, hu, hd⟩ := h7 m _ q d hr hq
                  refine ⟨u, ?_, hd.mono (fun _ h => h) hnI⟩
                  rw [hget, if_pos (by omega)]
                  exact hu
                · rw [if_neg hq1] at hq
                  by_cases hq2 : q < j + ds.length
                  · rw [if_pos hq2] at hq
                    obtain ⟨u, hu, hd⟩ := hdr.get hq
                    refine ⟨u, ?_, hd.mono (fun _ h => h) hnI⟩
                    rw [hget, if_neg (by omega), if_pos (by omega)]
                    rw [show m * s' + q - (m * s' + j) = q - j from by omega]
                    exact hu
                  · rw [if_neg hq2] at hq
                    obtain ⟨u, hu, hd⟩ := h7 m _ q d hr hq
                    refine ⟨u, ?_, hd.mono (fun _ h => h) hnI⟩
                    rw [hget, if_neg (by omega), if_neg (by omega)]
                    exact hu
              · rw [List.getElem?_set_ne him] at hi
                obtain ⟨u, hu, hd⟩ := h7 i r q d hi hq
                refine ⟨u, ?_, hd.mono (fun _ h => h) hnI⟩
                have hql : q < s' := by have := (List.getElem?_eq_some_iff.1 hq).1; rw [hV.1 r (List.mem_of_getElem? hi)] at this; exact this
                rw [hget]
                rcases Nat.lt_or_ge i m with hlt | hge
                · have : (i + 1) * s' ≤ m * s' := Nat.mul_le_mul_right _ hlt
                  rw [Nat.succ_mul] at this
                  rw [if_pos (by omega)]
                  exact hu
                · have : (m + 1) * s' ≤ i * s' := Nat.mul_le_mul_right _ (by omega)
                  rw [Nat.succ_mul] at this
                  rw [if_neg (by omega), if_neg (by omega)]
                  exact hu
          obtain ⟨hW', he, hO'⟩ := hO.write hW hk' hmu rfl hg hV' (t' := .put tk ix j es) (by
            simp only [Ex.eval, ht', hdi, hds, putD]
            rw [if_pos (by omega)]
            simp only [Int.toNat_natCast, hr]
            rw [if_pos (by omega)])
          refine ⟨.skip, undef, _, μ, ?_, .inr ⟨rfl, rfl⟩, trivial, hW', he, hO'⟩
          simp [execOp, ho, Instr.storeAt, Instr.sureAddr, hp, storeVar, hcl, run_sizeT hn, hrun, hvl]
      · cases hs
    · cases hs
  · cases hs

/-- what stands behind a slice's first elements -/
theorem own_from (hW : WR G B I₀ w₀ I μ w ρ h) (hO : OwnR B I μ w ρ o) (hop : ∀ x, SR I μ w ρ (opd fr x) (a.eval x)) {t : TypeId} {x y : Operand} (ho : op.op = .slice t x (some y) none none)
    (hs : ownOp P G fr h o (.slice t x (some y) none none) = some (cs, s, o')) (hc : ∀ c ∈ cs, c.eval ρ = some (.b true)) : GoesO G B I₀ w₀ I μ w ρ h ((execOp a.eval op).run P w) s o' := by
  simp only [ownOp] at hs
  split at hs
  · rename_i el k ix hu hx hy
    split at hs
    · rename_i sz t1 hsz hk
      split at hs
      · rename_i hpos
        simp only [Option.some.injEq, Prod.mk.injEq] at hs
        obtain ⟨rfl, rfl, rfl⟩ := hs
        have hv := hop x
        rw [hx] at hv
        obtain ⟨b, ll, cc, hb, hv'⟩ := l?_sound (l := .g k) rfl hv
        obtain ⟨v', s', rows, hv2, ht', hV⟩ := hO.live k _ (live?_some hk)
        rw [hv'] at hv2
        cases hv2
        obtain ⟨b', c', hsl⟩ := hV.slice
        rw [hb] at hsl
        cases hsl
        obtain ⟨di, hdi, hri⟩ := e?_sound hy (hop y)
        obtain ⟨kk, m, k', b2, k'', c2, h1, h2, h3, h4, h5, h6⟩ := bnd_sound (hc _ (List.mem_singleton.2 rfl))
        rw [hdi] at h1
        cases h1
        rw [mkLenO_eval ht'] at h2
        cases h2
        obtain ⟨m, rfl⟩ := Int.eq_ofNat_of_zero_le h4
        have hcap : rows.length ≤ cc := by
          rcases hV.2 with ⟨e, hr⟩ | ⟨x', cap, cur, ty, e, _, _, _, hle, _⟩
          · rw [hr]; simp
          · rw [hb] at e; cases e; exact hle
        have hrun := run_slicePart (w := w) (P := P) (a := a) (o := op) (l := m) (m := rows.length) hu hsz ho hb (.inr ⟨y, kk, rfl, hri.i_inv⟩) (.inl ⟨rfl, rfl⟩) (by omega) hcap
        refine GoesO.quiet hW hO hrun ⟨_, rfl, b, rows.length, cc, kk, (m : Int), _, _, by rw [hv', hb], hdi, h4, h5, rfl, fun hlt => ?_⟩
        rcases hV.2 with ⟨_, hr⟩ | ⟨x', cap, cur, ty, e, _, _, _, hle, _⟩
        · rw [hr] at hlt; simp at hlt; omega
        · rw [hb] at e
          cases e
          refine ⟨x', rfl, ?_⟩
          rw [if_neg (by omega)]
          simp only [Option.map_some, Addr.add]
          split
          · rename_i e
            have e : m * sz = 0 := by simpa using e
            rw [Int.toNat_natCast, e]
          · simp
      · cases hs
    · cases hs
  · cases hs

/-- a slice's first elements -/
theorem own_upto (hW : WR G B I₀ w₀ I μ w ρ h) (hO : OwnR B I μ w ρ o) (hop : ∀ x, SR I μ w ρ (opd fr x) (a.eval x)) {t : TypeId} {x y : Operand} (ho : op.op = .slice t x none (some y) none)
    (hs : ownOp P G fr h o (.slice t x none (some y) none) = some (cs, s, o')) (hc : ∀ c ∈ cs, c.eval ρ = some (.b true)) : GoesO G B I₀ w₀ I μ w ρ h ((execOp a.eval op).run P w) s o' := by
  simp only [ownOp] at hs
  split at hs
  · rename_i el k ix hu hx hy
    split at hs
    · rename_i sz t1 hsz hk
      simp only [Option.some.injEq, Prod.mk.injEq] at hs
      obtain ⟨rfl, rfl, rfl⟩ := hs
      have hk' := live?_some hk
      have hv := hop x
      rw [hx] at hv
      obtain ⟨b, ll, cc, hb, hv'⟩ := l?_sound (l := .g k) rfl hv
      obtain ⟨v', s', rows, hv2, ht', hV⟩ := hO.live k _ hk'
      rw [hv'] at hv2
      cases hv2
      obtain ⟨b', c', hsl⟩ := hV.slice
      rw [hb] at hsl
      cases hsl
      obtain ⟨di, hdi, hri⟩ := e?_sound hy (hop y)
      obtain ⟨kk, m0, k', m, k'', c2, h1, h2, h3, h4, h5, h6⟩ := bnd_sound (hc _ (List.mem_singleton.2 rfl))
      rw [hdi] at h2
      cases h2
      rw [mkLenO_eval ht'] at h3
      cases h3
      simp only [litN, Ex.eval, Option.some.injEq, D.i.injEq] at h1
      obtain ⟨rfl, rfl⟩ := h1
      obtain ⟨m, rfl⟩ := Int.eq_ofNat_of_zero_le (Int.le_trans h4 h5)
      have hm : m ≤ rows.length := by omega
      have hcap : rows.length ≤ cc := by
        rcases hV.2 with ⟨e, hr⟩ | ⟨x', cap, cur, ty, e, _, _, _, hle, _⟩
        · rw [hr]; simp
        · rw [hb] at e; cases e; exact hle
      have hrun := run_slicePart (w := w) (P := P) (a := a) (o := op) (l := 0) (m := m) hu hsz ho hb (.inl ⟨rfl, rfl⟩) (.inr ⟨y, k', rfl, hri.i_inv⟩) (by omega) (by omega)
      have hz : (if cc = 0 then b else b.map (·.add (0 * sz))) = b := by
        split
        · rfl
        · cases b with
          | none => rfl
          | some ad => simp [Addr.add]
      rw [hz] at hrun
      simp only [Nat.sub_zero] at hrun
      have hV' : OwnV B I w s' (rows.take m) (.slice b m cc) := by
        refine ⟨fun r hr => hV.1 r (List.mem_of_mem_take hr), ?_⟩
        rcases hV.2 with ⟨e, hr⟩ | ⟨x', cap, cur, ty, e, g1, g2, g3, g4, g5, g6, g7, g8⟩
        · rw [hb] at e
          subst hr
          obtain rfl : m = 0 := by simpa using hm
          simp only [List.length_nil] at e
          cases e
          exact .inl ⟨rfl, rfl⟩
        · rw [hb] at e
          cases e
          refine .inr ⟨x', cc, cur, ty, ?_, g1, g2, g3, ?_, g5, g6, fun i r j d hi hj => ?_, g8⟩
          · rw [List.length_take, Nat.min_eq_left hm]
          · rw [List.length_take]; omega
          · rw [List.getElem?_take] at hi
            split at hi
            · exact g7 i r j d hi hj
            · cases hi
      have hown : (a.eval x).ownBlock = (Value.slice b m cc).ownBlock := by rw [hb]; cases b with | none => rfl | some ad => obtain ⟨_, _, _⟩ := ad; rfl
      obtain ⟨hW', he, hO'⟩ := hO.push (o1 := o.set k ⟨t1, .dead⟩) (row := (a.eval x).ownBlock) (w' := w) (v' := .slice b m cc) (t' := .sub t1 (litN 0) ix) hW (by simp) (fun k2 t2 hk2 => by
          by_cases hkk : k = k2
          · subst hkk
            rw [List.getElem?_set_self (by exact (List.getElem?_eq_some_iff.1 hk').1)] at hk2
            cases hk2
          · rw [List.getElem?_set_ne hkk] at hk2
            exact ⟨hk2, fun v z hvk hz hz' => (hO.dis k _ _ z hk' hv' hz').2 k2 t2 v (fun e => hkk e.symm) hk2 hvk hz⟩)
        (fun k2 t2 hk2 => by
          by_cases hkk : k = k2
          · subst hkk
            rw [List.getElem?_set_self (by exact (List.getElem?_eq_some_iff.1 hk').1)] at hk2
            cases hk2
          · rw [List.getElem?_set_ne hkk] at hk2
            exact hk2)
        (fun z hz => ⟨k, _, _, hk', hv', hz⟩) ⟨rfl, rfl, Nat.le_refl _, fun _ _ _ => rfl⟩ hV' (fun z hz => .inl (by rw [hown]; exact hz)) (by
          simp only [Ex.eval, ht', litN, hdi, subD]
          rw [if_pos ⟨Int.le_refl _, h5, h6⟩]
          simp)
      exact ⟨_, _, w, _, hrun, .inl rfl, push_sr, hW', he, hO'⟩
    · cases hs
  · cases hs

/-- zeros behind a slice's first elements -/
theorem own_clear (hW : WR G B I₀ w₀ I μ w ρ h) (hO : OwnR B I μ w ρ o) (hop : ∀ x, SR I μ w ρ (opd fr x) (a.eval x)) {args : Array Operand} {tys : Array TypeId} (ho : op.op = .call { callee := .builtin .clear, args := args, argTypes := tys })
    (hs : ownOp P G fr h o (.call { callee := .builtin .clear, args := args, argTypes := tys }) = some (cs, s, o')) (hc : ∀ c ∈ cs, c.eval ρ = some (.b true)) : GoesO G B I₀ w₀ I μ w ρ h ((execOp a.eval op).run P w) s o' := by
  simp only [ownOp] at hs
  split at hs
  · rename_i x t hargs htys
    split at hs
    · rename_i el k sz lo hu hx
      split at hs
      · rename_i z t1 hz hk
        split at hs
        · rename_i hzl
          split at hs
          · rename_i es hes
            simp only [Option.some.injEq, Prod.mk.injEq] at hs
            obtain ⟨rfl, rfl, rfl⟩ := hs
            have ha : args = #[x] := by rw [← Array.toList_inj, hargs]
            have ht : tys = #[t] := by rw [← Array.toList_inj, htys]
            subst ha
            subst ht
            have hk' := live?_some hk
            have hv := hop x
            rw [hx] at hv
            obtain ⟨b, n, cap, kk, m, p, c, hmu, hlo, h0, hmn, hp, hlt⟩ := l?_sound (l := .gs k sz lo) rfl hv
            obtain ⟨v', s', rows, hv2, ht', hV⟩ := hO.live k _ hk'
            rw [hmu] at hv2
            cases hv2
            obtain ⟨b', c', hsl⟩ := hV.slice
            cases hsl
            obtain ⟨m, rfl⟩ := Int.eq_ofNat_of_zero_le h0
            have hmn : m ≤ rows.length := by omega
            obtain ⟨k1, q1, k2, q2, k3, q3, g1, g2, g3, g4, g5, g6⟩ := bnd_sound (hc _ (List.mem_cons_self ..))
            have hkk : kk = .i64 := by
              simp only [Ex.eval, mkLenO_eval ht', hlo, binD] at g2
              split at g2
              · rename_i e; exact e.symm
              · cases g2
            subst hkk
            have hlen : rows.length ≤ maxLen := by
              rcases hV.2 with ⟨_, hr⟩ | ⟨x', cap', cur, ty, e, _, _, _, hle, hml, _⟩
              · rw [hr]; exact Nat.zero_le _
              · omega
            have hsub : (Ex.bin .sub (mkLenO t1) lo).eval ρ = some (.i .i64 ((rows.length - m : Nat) : Int)) := by
              simp only [Ex.eval, mkLenO_eval ht', hlo, binD, if_true]
              have e : (rows.length : Int) - (m : Int) = ((rows.length - m : Nat) : Int) := by omega
              rw [e]
              congr 2
              exact IntWalk.i64_in _ ⟨by omega, by unfold maxLen at hlen; omega⟩
            obtain ⟨zi, zv, hi, hzv, hzs, hzc⟩ := zeroT_info hz
            have hzs' := constLs_sound (I := I) (μ := μ) (w := w) (ρ := ρ) hzc
            rw [exLs_get hes] at hzs'
            obtain ⟨ds, hds, hdr⟩ := lsR_evals hzs'
            have hdl : ds.length = sz := by rw [hdr.length]; simp; omega
            have hmk : (Ex.mk (.bin .sub (mkLenO t1) lo) es).eval ρ = some (.sl ds.length (List.replicate (rows.length - m) ds)) := by
              simp only [Ex.eval] at hsub ⊢
              rw [hsub, hds]
              simp
            have hsubl : (Ex.sub t1 (litN 0) lo).eval ρ = some (.sl s' (rows.take m)) := by
              simp only [Ex.eval, ht', litN, hlo, subD]
              rw [if_pos ⟨Int.le_refl _, by omega, by omega⟩]
              simp
            obtain ⟨k4, q4, r1, r2, _⟩ := room_sound (hc _ (List.mem_cons_of_mem _ (List.mem_cons_self ..)))
            have happ : ∃ d, (Ex.app sz (.sub t1 (litN 0) lo) (.mk (.bin .sub (mkLenO t1) lo) es)).eval ρ = some d := by
              generalize (Ex.app sz (.sub t1 (litN 0) lo) (.mk (.bin .sub (mkLenO t1) lo) es)) = X at r1
              simp only [Ex.eval] at r1
              split at r1
              · rename_i hX; exact ⟨_, hX⟩
              · cases r1
            obtain ⟨d, hd⟩ := happ
            obtain ⟨s1, xs1, s2, ys1, f1, f2, f3, f4, rfl⟩ := app_sound hd
            rw [hsubl] at f1
            cases f1
            rw [hmk] at f2
            cases f2
            by_cases hml : m < rows.length
            · -- some are written
              obtain ⟨x', rfl, rfl⟩ := hlt (by omega)
              rcases hV.2 with ⟨e, _⟩ | ⟨x2, cap2, cur, ty, e, e1, e2, e3, e4, e5, e6, e7, e8⟩
              · cases e
              cases e
              have hs' : s' = sz := by
                rcases f3 with h | ⟨h, _⟩
                · exact h
                · omega
              subst hs'
              obtain ⟨q, hq⟩ : ∃ q, rows.length - m = q + 1 := ⟨rows.length - m - 1, by omega⟩
              have hne : (List.replicate (rows.length - m) ds).isEmpty = false := by rw [hq]; rfl
              rw [hne] at hd
              simp only [Bool.false_eq_true, if_false] at hd
              have hL : (Builtin.zeroCells zv.cells (rows.length - m)).toList = (List.replicate (rows.length - m) zv.cells.toList).flatten := zeros_list zv.cells _
              have hzl' : zv.cells.toList.length = s' := by simp; omega
              have hLl : (List.replicate (rows.length - m) zv.cells.toList).flatten.length = (rows.length - m) * s' := by
                simp [hzl']
              have hsz2 : m * s' + (rows.length - m) * s' = rows.length * s' := by rw [← Nat.add_mul]; congr 1; omega
              have hcs : rows.length * s' ≤ cap * s' := Nat.mul_le_mul_right _ e4
              have hst := run_storeCells_at (P := P) x' (m * s') ty ((List.replicate (rows.length - m) zv.cells.toList).flatten) 0 cur w e3 (by rw [hLl]; omega) (fun u hu => by
                obtain ⟨l, hl, hul⟩ := List.mem_flatten.1 hu
                rw [(List.mem_replicate.1 hl).2] at hul
                obtain ⟨qq, hqq⟩ := List.getElem?_of_mem hul
                obtain ⟨d, _, hd⟩ := hdr.get' hqq
                exact hd.one)
              simp only [Nat.add_zero] at hst
              generalize hnew : (cur.toList.take (m * s') ++ (List.replicate (rows.length - m) zv.cells.toList).flatten ++ cur.toList.drop (m * s' + (List.replicate (rows.length - m) zv.cells.toList).flatten.length)).toArray = new at hst
              have hnl : new.size = cur.size := by
                rw [← hnew]
                simp only [List.size_toArray, List.length_append, List.length_take, List.length_drop, Array.length_toList, hLl]
                omega
              have hget : ∀ q, new[q]? = if q < m * s' then cur[q]? else if q < m * s' + (rows.length - m) * s' then (List.replicate (rows.length - m) zv.cells.toList).flatten[q - m * s']? else cur[q]? := by
                intro q
                rw [← hnew]
                have hAl : (cur.toList.take (m * s')).length = m * s' := by simp; omega
                rw [List.getElem?_toArray]
                by_cases h1 : q < m * s'
                · rw [if_pos h1, List.append_assoc, List.getElem?_append_left (by omega), List.getElem?_take, if_pos h1]
                  simp
                · rw [if_neg h1]
                  by_cases h2 : q < m * s' + (rows.length - m) * s'
                  · rw [if_pos h2, List.append_assoc, List.getElem?_append_right (by omega), hAl, List.getElem?_append_left (by rw [hLl]; omega)]
                  · rw [if_neg h2, List.getElem?_append_right (by rw [List.length_append, hAl, hLl]; omega), List.length_append, hAl, hLl, List.getElem?_drop]
                    rw [show m * s' + (rows.length - m) * s' + (q - (m * s' + (rows.length - m) * s')) = q from by omega]
                    simp
              have hg : w.grownBy (w.setRow x' new) (some x') := ⟨rfl, rfl, rfl, by simp [World.setRow], fun q _ hq => setRow_other w x' q _ (fun e => hq (by rw [e]))⟩
              have hnI : ∀ y, I y → (w.setRow x' new).heap[y]? = w.heap[y]? := fun y hy => setRow_other w x' y _ (fun e => e8 (e ▸ hy))
              have htl : (rows.take m).length = m := by rw [List.length_take]; omega
              have hV' : OwnV B I (w.setRow x' new) s' (rows.take m ++ List.replicate (rows.length - m) ds) (.slice (some ⟨x', 0, none⟩) rows.length cap) := by
                have hll : (rows.take m ++ List.replicate (rows.length - m) ds).length = rows.length := by rw [List.length_append, htl, List.length_replicate]; omega
                refine ⟨fun r hr => ?_, .inr ⟨x', cap, new, ty, by rw [hll], e1, e2, setRow_heap w x' cur _ ty _ e3, by rw [hll]; exact e4, e5, by rw [hnl]; exact e6, fun i r j d hi hj => ?_, e8⟩⟩
                · rcases List.mem_append.1 hr with h | h
                  · exact hV.1 r (List.mem_of_mem_take h)
                  · rw [(List.mem_replicate.1 h).2]; exact hdl
                · by_cases him : i < m
                  · rw [List.getElem?_append_left (by omega), List.getElem?_take, if_pos him] at hi
                    obtain ⟨u, hu, hd⟩ := e7 i r j d hi hj
                    refine ⟨u, ?_, hd.mono (fun _ h => h) hnI⟩
                    have hjl : j < s' := by have := (List.getElem?_eq_some_iff.1 hj).1; rw [hV.1 r (List.mem_of_getElem? hi)] at this; exact this
                    have : (i + 1) * s' ≤ m * s' := Nat.mul_le_mul_right _ him
                    rw [Nat.succ_mul] at this
                    rw [hget, if_pos (by omega)]
                    exact hu
                  · rw [List.getElem?_append_right (by omega), htl, List.getElem?_replicate] at hi
                    split at hi
                    · rename_i hil
                      cases hi
                      obtain ⟨u, hu, hd⟩ := hdr.get hj
                      refine ⟨u, ?_, hd.mono (fun _ h => h) hnI⟩
                      have hjl : j < s' := by have := (List.getElem?_eq_some_iff.1 hj).1; omega
                      have h1 : m * s' ≤ i * s' := Nat.mul_le_mul_right _ (by omega)
                      have h2 : (i - m + 1) * s' ≤ (rows.length - m) * s' := Nat.mul_le_mul_right _ (by omega)
                      have h3 : i * s' = m * s' + (i - m) * s' := by rw [← Nat.add_mul]; congr 1; omega
                      rw [Nat.succ_mul] at h2
                      rw [hget, if_neg (by omega), if_pos (by omega), flat_rep, hzl']
                      rw [if_pos (by omega)]
                      rw [show i * s' + j - m * s' = (i - m) * s' + j by omega]
                      have : ((i - m) * s' + j) % s' = j := by rw [Nat.mul_comm, Nat.mul_add_mod, Nat.mod_eq_of_lt hjl]
                      rw [this]
                      exact hu
                    · cases hi
              obtain ⟨hW', he, hO'⟩ := hO.write hW hk' hmu rfl hg hV' hd
              refine ⟨.value (.tuple #[]), .tuple #[], _, μ, ?_, .inl rfl, trivial, hW', he, hO'⟩
              simp only [Int.toNat_natCast] at hp
              rw [hq] at hp hL hst
              rw [← hL] at hst
              have hzr : ∀ w : World, (zeroValue el).run P w = .ok zv w := fun w => by simp [zeroValue, typeInfo, hi, hzv]
              simp [execOp, ho, resolve, invoke, builtin, hp, Builtin.clear_, run_underlying hu, hzr, hst]
            · -- none is
              obtain rfl : m = rows.length := by omega
              have hrun : (execOp a.eval op).run P w = .ok (.value (.tuple #[])) w := by
                simp only [Int.toNat_natCast, Nat.sub_self] at hp
                cases p with
                | none => simp [execOp, ho, resolve, invoke, builtin, hp, Builtin.clear_, run_underlying hu]
                | some ad => simp [execOp, ho, resolve, invoke, builtin, hp, Builtin.clear_, run_underlying hu]
              have hd' : (Ex.app sz (.sub t1 (litN 0) lo) (.mk (.bin .sub (mkLenO t1) lo) es)).eval ρ = some (.sl s' rows) := by
                rw [hd]
                simp
              obtain ⟨hW', he, hO'⟩ : WR G B I₀ w₀ I μ w ρ h ∧ Evo I μ w I μ w ∧ OwnR B I μ w ρ (o.set k ⟨.app sz (.sub t1 (litN 0) lo) (.mk (.bin .sub (mkLenO t1) lo) es), .live⟩) := by
                refine ⟨hW, Evo.refl _ _ _, fun k2 t2 hk2 => ?_, fun k2 t2 hk2 => ?_, fun k2 t2 v x hk2 hv2 hx2 => ?_, fun k2 hk2 => hO.new k2 (by simpa using hk2)⟩
                · by_cases hkk : k = k2
                  · subst hkk
                    rw [List.getElem?_set_self (by exact (List.getElem?_eq_some_iff.1 hk').1)] at hk2
                    cases hk2
                    exact ⟨_, s', rows, hmu, hd', hV⟩
                  · rw [List.getElem?_set_ne hkk] at hk2
                    exact hO.live k2 t2 hk2
                · by_cases hkk : k = k2
                  · subst hkk
                    rw [List.getElem?_set_self (by exact (List.getElem?_eq_some_iff.1 hk').1)] at hk2
                    cases hk2
                  · rw [List.getElem?_set_ne hkk] at hk2
                    exact hO.frozen k2 t2 hk2
                · have hold : ∀ {k3 : Nat} {t3 : Ex}, (o.set k ⟨.app sz (.sub t1 (litN 0) lo) (.mk (.bin .sub (mkLenO t1) lo) es), .live⟩)[k3]? = some ⟨t3, .live⟩ → ∃ t4, o[k3]? = some ⟨t4, .live⟩ := by
                    intro k3 t3 hk3
                    by_cases hkk : k = k3
                    · subst hkk; exact ⟨_, hk'⟩
                    · rw [List.getElem?_set_ne hkk] at hk3; exact ⟨_, hk3⟩
                  obtain ⟨t4, hk4⟩ := hold hk2
                  obtain ⟨g1, g2⟩ := hO.dis k2 t4 v x hk4 hv2 hx2
                  refine ⟨g1, fun k5 t5 v5 hne hk5 hv5 => ?_⟩
                  obtain ⟨t6, hk6⟩ := hold hk5
                  exact g2 k5 t6 v5 hne hk6 hv5
              exact ⟨.value (.tuple #[]), .tuple #[], w, μ, hrun, .inl rfl, trivial, hW', he, hO'⟩
          · cases hs
        · cases hs
      · cases hs
    · cases hs
  · cases hs

/-- ALL of them. -/
theorem ownQ_sound (hO : OwnR B I μ w ρ o) (hop : ∀ x, SR I μ w ρ (opd fr x) (a.eval x)) (hs : ownQ P G fr h o op.op = some (cs, s)) (hc : ∀ c ∈ cs, c.eval ρ = some (.b true)) :
    ∃ v, (execOp a.eval op).run P w = .ok (.value v) w ∧ SR I μ w ρ s v := by
  unfold ownQ at hs
  split at hs
  · rename_i t x y ho
    obtain ⟨⟨cs', s', o'⟩, h1, h2⟩ := Option.map_eq_some_iff.1 hs
    cases h2
    obtain ⟨v, h3, h4, _⟩ := own_indexAddrQ hO hop ho h1 hc
    exact ⟨v, h3, h4⟩
  · rename_i t x ho
    obtain ⟨⟨cs', s', o'⟩, h1, h2⟩ := Option.map_eq_some_iff.1 hs
    cases h2
    obtain ⟨v, h3, h4, _⟩ := own_loadQ hO hop ho h1 hc
    exact ⟨v, h3, h4⟩
  · cases hs
theorem ownOp_sound (hW : WR G B I₀ w₀ I μ w ρ h) (hO : OwnR B I μ w ρ o) (hop : ∀ x, SR I μ w ρ (opd fr x) (a.eval x)) (hs : ownOp P G fr h o op.op = some (cs, s, o')) (hc : ∀ c ∈ cs, c.eval ρ = some (.b true)) :
    GoesO G B I₀ w₀ I μ w ρ h ((execOp a.eval op).run P w) s o' := by
  cases ho : op.op with
  | buildSlice t n parts => exact own_buildSlice hW hO hop ho (ho ▸ hs)
  | makeSlice t x y => exact own_makeSlice hW hO hop ho (ho ▸ hs) hc
  | indexAddr t x y => exact own_indexAddr hW hO hop ho (ho ▸ hs) hc
  | load t x => exact own_load hW hO hop ho (ho ▸ hs) hc
  | store t x y => exact own_store hW hO hop ho (ho ▸ hs) hc
  | slice t x lo hi mx =>
    rw [ho] at hs
    cases mx with
    | some _ => cases lo <;> cases hi <;> simp [ownOp] at hs
    | none =>
      cases lo with
      | some lo => cases hi with
        | some _ => simp [ownOp] at hs
        | none => exact own_from hW hO hop ho hs hc
      | none =>
        cases hi with
        | some hi => exact own_upto hW hO hop ho hs hc
        | none =>
          simp only [ownOp] at hs
          split at hs
          · rename_i el k hu hx
            split at hs
            · rename_i n tk hn hk
              simp only [Option.some.injEq, Prod.mk.injEq] at hs
              obtain ⟨rfl, rfl, rfl⟩ := hs
              have hv := hop x
              rw [hx] at hv
              obtain ⟨b, ll, cc, hb, hv'⟩ := l?_sound (l := .g k) rfl hv
              have hrun : (execOp a.eval op).run P w = .ok (.value (.slice b ll cc)) w := by
                have hz : (if cc = 0 then b else b.map (·.add (0 * n))) = b := by
                  split
                  · rfl
                  · cases b with
                    | none => rfl
                    | some ad => simp [Addr.add]
                simp [execOp, ho, Instr.sliceAt, Instr.slice, run_underlying hu, hb, run_sliceBounds_none, run_sizeT hn]
                simpa using hz
              exact GoesO.quiet hW hO hrun ⟨_, rfl, b, ll, cc, rfl, hb ▸ hv'⟩
            · cases hs
          · cases hs
  | call c =>
    obtain ⟨callee, args, tys⟩ := c
    rw [ho] at hs
    cases callee with
    | value f => simp [ownOp] at hs
    | invoke r m => simp [ownOp] at hs
    | builtin bb =>
      cases bb <;> first | exact own_append hW hO hop ho hs hc | exact own_clear hW hO hop ho hs hc | skip
      case len =>
        simp only [ownOp] at hs
        split at hs
        · rename_i x t hargs ht
          split at hs
          · rename_i el k hu hx
            split at hs
            · rename_i tk hk
              simp only [Option.some.injEq, Prod.mk.injEq] at hs
              obtain ⟨rfl, rfl, rfl⟩ := hs
              have hv := hop x
              rw [hx] at hv
              obtain ⟨b, ll, cc, hb, hv'⟩ := l?_sound (l := .g k) rfl hv
              obtain ⟨v', s', rows, hv2, ht', hV⟩ := hO.live k _ (live?_some hk)
              rw [hv'] at hv2
              cases hv2
              obtain ⟨b', c', hsl⟩ := hV.slice
              rw [hb] at hsl
              simp only [Value.slice.injEq] at hsl
              obtain ⟨rfl, rfl, rfl⟩ := hsl
              have ha : args = #[x] := by rw [← Array.toList_inj, hargs]
              subst ha
              refine GoesO.quiet hW hO (v := goInt rows.length) ?_ ⟨_, rfl, _, mkLenO_eval ht', .i _ _⟩
              simp [execOp, ho, resolve, invoke, builtin, hb, Builtin.len_, ht, run_underlying hu]
            · cases hs
          · cases hs
        · cases hs
      all_goals simp [ownOp] at hs
  | _ => rw [ho] at hs; simp [ownOp] at hs

end
end Go.Proofs.YtlihbielphcgbaaGreatDoor.Sx

namespace Go.Proofs.YtlihbielphcgbaaGreatDoor.Sx
open Go
set_option linter.unnecessarySimpa false
set_option linter.unusedSimpArgs false
set_option linter.unusedVariables false

/-- A value of data, on the machine. -/
def DVR (I : Imm) (w : World) (p : DV) (v : Value) : Prop :=
  if p.1 then ∃ vs : List Value, v = .agg vs.toArray ∧ All2 (DR I w) p.2 vs else ∃ d, p.2 = [d] ∧ DR I w d v

def RsR (I : Imm) (w : World) (rs : List DV) (v : Value) : Prop :=
  match rs with
  | [r] => DVR I w r v
  | rs => ∃ vs : List Value, v = .tuple vs.toArray ∧ All2 (DVR I w) rs vs

/-- THE CONTRACT of a function at some data: called with these it returns those, and changes nothing that was. -/
def ConM (P : Program) (G : Glo) : Con := fun f as rs =>
  ∀ (I : Imm) (w : World) (vs : List Value), GR G I w → (∀ x, I x → x < w.heap.size) → All2 (DVR I w) as vs →
    Calls P f vs.toArray w fun e w' => ∃ v I', e = .returned v ∧ (∀ x, I x → I' x) ∧ (∀ x, I' x → I x ∨ w.heap.size ≤ x) ∧ (∀ x, I' x → x < w'.heap.size) ∧
      (∀ x, x < w.heap.size → w'.heap[x]? = w.heap[x]?) ∧ w.heap.size ≤ w'.heap.size ∧ (w'.os = w.os ∧ w'.output = w.output) ∧ RsR I' w' rs v

/-- a slice, if it is one, lies at the head of a plain block -/
def PlainV (w : World) (v : Value) : Prop := ∀ b l c, v = .slice (some b) l c → ∃ x cs ty, b = ⟨x, 0, none⟩ ∧ w.heap[x]? = some (.cells cs ty (0, 0))

/-- THE CONTRACT of a library's function that uses up a slice of the call's own: it returns one, and changes no block but that slice's. -/
def ConO (P : Program) (G : Glo) : Con := fun f as rs =>
  ∃ s0 s rows more rows', as = (false, [.sl s0 rows]) :: more ∧ rs = [(false, [.sl s rows'])] ∧
    ∀ (B : Nat) (I : Imm) (w : World) (v : Value) (vs : List Value), GR G I w → (∀ x, I x → x < w.heap.size) → B ≤ w.heap.size → OwnV B I w s0 rows v → All2 (DVR I w) more vs → (∀ u ∈ vs, PlainV w u) →
      Calls P f (v :: vs).toArray w fun e w' => ∃ v', e = .returned v' ∧ OwnV B I w' s rows' v' ∧ (∀ x, x < w.heap.size → v.ownBlock ≠ some x → w'.heap[x]? = w.heap[x]?) ∧ w.heap.size ≤ w'.heap.size ∧
        (w'.os = w.os ∧ w'.output = w.output) ∧ ∀ x, v'.ownBlock = some x → v.ownBlock = some x ∨ w.heap.size ≤ x

/-- what a variable's block holds, as data -/
def CellR (I : Imm) (w : World) (d : DV) (x : Nat) : Prop :=
  d.1 = true ∧ ∃ (vs : List Value) (ty : TypeId), w.heap[x]? = some (.cells vs.toArray ty (0, 0)) ∧ All2 (DR I w) d.2 vs

/-- THE CONTRACT of a function that is handed variables behind its arguments, and only reads them; its results hold no slice. -/
def ConK (P : Program) (G : Glo) : Con := fun f as rs =>
  ∃ az caz : List DV, as = (false, [.i .i64 (caz.length : Int)]) :: (az ++ caz) ∧
    ∀ (I : Imm) (w : World) (vs : List Value) (xs : List Nat), GR G I w → (∀ x, I x → x < w.heap.size) → All2 (DVR I w) az vs → All2 (CellR I w) caz xs →
      Calls P f (vs ++ xs.map fun x => Value.pointer (some ⟨x, 0, none⟩)).toArray w fun e w' => ∃ v, e = .returned v ∧ (∀ x, x < w.heap.size → w'.heap[x]? = w.heap[x]?) ∧ w.heap.size ≤ w'.heap.size ∧
        (w'.os = w.os ∧ w'.output = w.output) ∧ RsR I w' rs v

/-- a plain value -/
def plainVal : D → Option Value
  | .b x => some (.bool x)
  | .i k n => some (.int k n)
  | _ => none
/-- what a round is handed: values of leaves -/
def rowVals : Shape → List D → Option (List Value)
  | [], ds => if ds.isEmpty then some [] else none
  | (g, n) :: sh, ds => match optAll ((ds.take n).map plainVal), rowVals sh (ds.drop n) with
    | some vs, some r => if vs.length = n then (if g then some (.agg vs.toArray :: r) else match vs with | [v] => some (v :: r) | _ => none) else none
    | _, _ => none
/-- the heap has grown, nothing else -/
structure Grows (w w' : World) : Prop where
  old : ∀ x, x < w.heap.size → w'.heap[x]? = w.heap[x]?
  size : w.heap.size ≤ w'.heap.size
  wd : w'.os = w.os ∧ w'.output = w.output
/-- THE CONTRACT of a function that hands out rows to a range over it, one behind the other; it is handed variables, and only reads them -/
def ConT (P : Program) (G : Glo) : Con := fun f as rs =>
  ∃ (caz : List DV) (sh : Shape) (sz : Nat) (rows : List (List D)), as = (false, [.i .i64 (caz.length : Int)]) :: (false, shD sh) :: caz ∧ rs = [(false, [.sl sz rows])] ∧ (∀ r ∈ rows, (rowVals sh r).isSome) ∧ rows.length ≤ 4611686018427387904 ∧
    (∃ fn, P.funcs[f]? = some fn ∧ fn.body.isNone = false ∧ (fn.name == "runtime.NumGoroutine") = false) ∧
    ∀ (l : Nat) (J Jx : Nat → World → Prop) (w : World) (xs : List Nat),
      (∀ i W, J i W → ∃ I, GR G I W ∧ (∀ x, I x → x < W.heap.size) ∧ All2 (CellR I W) caz xs) → (∀ i W W', J i W → Grows W W' → J i W') →
      (∀ i r vs W, rows[i]? = some r → rowVals sh r = some vs → J i W → YieldAt (Rd none) 0 P l vs.toArray W fun e W' => (e = .returned (.bool true) ∧ J (i + 1) W') ∨ (e = .returned (.bool false) ∧ Jx i W')) →
      J 0 w → CallsIn (Rd none) 0 P f (#[.func (.yield l) #[] #[]] ++ (xs.map fun x => Value.pointer (some ⟨x, 0, none⟩)).toArray) w fun e W' => (∃ v, e = .returned v) ∧ (J rows.length W' ∨ ∃ i, Jx i W')

/-- A value of data in new memory: a slice is nobody else's, and holds nothing but numbers. -/
def NR (B : Nat) (w : World) (d : D) (u : Value) : Prop := match d with
  | .sl s rows => OwnV B (fun _ => False) w s rows u ∧ ∀ r ∈ rows, ∀ x ∈ r, ∀ s l, x ≠ D.sl s l
  | d => ∀ I : Imm, DR I w d u
def NsR (B : Nat) (w : World) (r : DV) (v : Value) : Prop := if r.1 then ∃ us : List Value, v = .agg us.toArray ∧ All2 (NR B w) r.2 us else ∃ d, r.2 = [d] ∧ NR B w d v
/-- THE CONTRACT of a function whose one result lies in new memory. -/
def ConN (P : Program) (G : Glo) : Con := fun f as rs =>
  ∃ r : DV, rs = [r] ∧ (∀ (i j s s' : Nat) (l l' : List (List D)), r.2[i]? = some (D.sl s l) → r.2[j]? = some (D.sl s' l') → i = j) ∧
    ∀ (I : Imm) (w : World) (vs : List Value), GR G I w → (∀ x, I x → x < w.heap.size) → All2 (DVR I w) as vs →
      Calls P f vs.toArray w fun e w' => ∃ v, e = .returned v ∧ (∀ x, x < w.heap.size → w'.heap[x]? = w.heap[x]?) ∧ w.heap.size ≤ w'.heap.size ∧ (w'.os = w.os ∧ w'.output = w.output) ∧ NsR w.heap.size w' r v

/-- THE CONTRACT of a library's function that writes a slice of the call's own in place; it is handed one thing more. -/
def ConS (P : Program) (G : Glo) : Con := fun f as rs =>
  ∃ (s0 : Nat) (rows : List (List D)) (d : D) (rows' : List (List D)), as = [(false, [.sl s0 rows]), (false, [d])] ∧ rs = [(false, [.sl s0 rows'])] ∧
    ∀ (B : Nat) (I : Imm) (w : World) (v u : Value), GR G I w → (∀ x, I x → x < w.heap.size) → B ≤ w.heap.size → OwnV B I w s0 rows v → DR I w d u →
      Calls P f #[v, u] w fun e w' => e = .returned (.tuple #[]) ∧ OwnV B I w' s0 rows' v ∧ Gr w w' v.ownBlock

/-- THE CONTRACT of a function whose last argument is a slice of the call's own, which it uses up: what it returns is data, and may hold that slice. -/
def ConE (P : Program) (G : Glo) : Con := fun f as rs =>
  ∃ (az : List DV) (s0 : Nat) (rows : List (List D)), as = az ++ [(false, [.sl s0 rows])] ∧
    ∀ (B : Nat) (I : Imm) (w : World) (vs : List Value) (v : Value), GR G I w → (∀ x, I x → x < w.heap.size) → B ≤ w.heap.size → All2 (DVR I w) az vs → OwnV B I w s0 rows v →
      Calls P f (vs ++ [v]).toArray w fun e w' => ∃ u I', e = .returned u ∧ (∀ x, I x → I' x) ∧ (∀ x, I' x → I x ∨ w.heap.size ≤ x ∨ v.ownBlock = some x) ∧ (∀ x, I' x → x < w'.heap.size) ∧ Gr w w' v.ownBlock ∧ RsR I' w' rs u

/-- the contracts, of all sorts -/
def ConX (P : Program) (G : Glo) : Con := fun f as rs => (f < eatOff → ConM P G f as rs) ∧ (eatOff ≤ f ∧ f < capOff → ConO P G (f - eatOff) as rs) ∧ (capOff ≤ f → (f < itOff → ConK P G (f - capOff) as rs) ∧ (itOff ≤ f → f < nwOff → ConT P G (f - itOff) as rs) ∧ (nwOff ≤ f → (f < srtOff → ConN P G (f - nwOff) as rs) ∧ (srtOff ≤ f → (f < useOff → ConS P G (f - srtOff) as rs) ∧ (useOff ≤ f → ConE P G (f - useOff) as rs))))

def xit : Xit → Exit
  | .normal => .normal
  | .exit id => .exit id
  | .ret => .ret
  | .goto l => .goto l

section
variable (C : Con) (R : List DV → Prop) (r : Option Nat) (G : Glo) (B : Nat) (I₀ : Imm) (w₀ : World)

/-- the deferred calls: none, or behind a range over a function its block, which is empty -/
def DfR (I : Imm) (w : World) (q : Nat) (l : List Deferred) : Prop :=
  if q = 0 then r = none ∧ l = [] else if q = 1 then l = [] else r = none ∧ ∃ D, l = [{ target := .collected D, args := #[] }] ∧ I D ∧ B ≤ D ∧ w.heap[D]? = some (.deferred (some []))
structure StR (st : St) (L : List Lp) (ρ : List D) (I : Imm) (μ : Mu) (w : World) (a : Act) : Prop where
  fr : FR I μ w ρ st.fr a
  wr : WR G B I₀ w₀ I μ w ρ st.h
  own : OwnR B I μ w ρ st.o
  nv : ρ.length = st.nv
  lv : L.length = st.lv
  df : DfR r B I w st.q a.defers

def Post (k : K) (L : List Lp) (ρ : List D) (I : Imm) (μ : Mu) (w : World) (Q : Exit → Act → World → Prop) : Prop :=
  ∀ e s ir' L' ρ' I' μ' w' a', k e s = .ok ir' → IR.wp C R ir' L' ρ' → L <+: L' → ρ <+: ρ' → StR r G B I₀ w₀ s L' ρ' I' μ' w' a' → Evo I μ w I' μ' w' → Q (xit e) a' w'
end

section
variable {C : Con} {R : List DV → Prop} {r : Option Nat} {G : Glo} {B : Nat} {I₀ : Imm} {w₀ : World}

theorem put_defers (a : Act) (d : Option Tmp) (v : Value) : (a.put d v).defers = a.defers := by cases d <;> rfl
theorem DfR.mono {I I' : Imm} {μ μ' : Mu} {w w' : World} {q : Nat} {l : List Deferred} (h : DfR r B I w q l) (he : Evo I μ w I' μ' w') : DfR r B I' w' q l := by
  unfold DfR at h ⊢
  split
  · rename_i h0; rwa [if_pos h0] at h
  · rename_i h0
    rw [if_neg h0] at h
    split
    · rename_i h1; rwa [if_pos h1] at h
    · rename_i h1
      rw [if_neg h1] at h
      obtain ⟨hr, D, h2, h3, h4, h5⟩ := h
      exact ⟨hr, D, h2, he.imm D h3, h4, (he.same D h3).trans h5⟩
theorem DfR.put {I : Imm} {w : World} {q : Nat} {a : Act} {d : Option Tmp} {v : Value} (h : DfR r B I w q a.defers) : DfR r B I w q (a.put d v).defers := by rw [put_defers]; exact h
theorem DfR.low {I : Imm} {w : World} {q : Nat} {l : List Deferred} (h : DfR r B I w q l) (hq : q < 2) : l = [] := by
  unfold DfR at h
  by_cases h0 : q = 0
  · rw [if_pos h0] at h; exact h.2
  · rw [if_neg h0, if_pos (by omega)] at h; exact h
theorem DfR.same {I : Imm} {w : World} {q : Nat} {l : List Deferred} (h : DfR r B I w q l) (hq : q < 2) {I' : Imm} {w' : World} : DfR r B I' w' q l := by
  unfold DfR at h ⊢
  by_cases h0 : q = 0
  · rw [if_pos h0] at h ⊢; exact h
  · rw [if_neg h0, if_pos (by omega)] at h ⊢; exact h
theorem DfR.zero {I : Imm} {w : World} : DfR none B I w 0 [] := ⟨rfl, rfl⟩

theorem Post.mono {k : K} {L L' : List Lp} {ρ ρ' : List D} {I I' : Imm} {μ μ' : Mu} {w w' : World} {Q : Exit → Act → World → Prop} (h : Post C R r G B I₀ w₀ k L ρ I μ w Q) (hL : L <+: L') (hρ : ρ <+: ρ') (he : Evo I μ w I' μ' w') :
    Post C R r G B I₀ w₀ k L' ρ' I' μ' w' Q :=
  fun e s ir L'' ρ'' I'' μ'' w'' a h1 h2 h3 h4 h5 h6 => h e s ir L'' ρ'' I'' μ'' w'' a h1 h2 (hL.trans h3) (hρ.trans h4) h5 (he.trans h6)

theorem chks_ok {r : Res} {L : List Lp} {ρ : List D} : ∀ {cs : List Ex} {ir : IR}, chks cs r = .ok ir → IR.wp C R ir L ρ → ∃ ir', r = .ok ir' ∧ IR.wp C R ir' L ρ ∧ ∀ c ∈ cs, c.eval ρ = some (.b true)
  | [], ir, h, hw => ⟨ir, h, hw, fun _ h => by cases h⟩
  | e :: cs, ir, h, hw => by
    have main : ∀ ir, (match chks cs r with | .ok ir => Res.ok (.chk e ir) | z => z) = .ok ir → IR.wp C R ir L ρ → ∃ ir', r = .ok ir' ∧ IR.wp C R ir' L ρ ∧ ∀ c ∈ e :: cs, c.eval ρ = some (.b true) := by
      intro ir h hw
      split at h
      · rename_i ir1 h1
        cases h
        obtain ⟨hc, hw⟩ := hw
        obtain ⟨ir', h2, h3, h4⟩ := chks_ok h1 hw
        exact ⟨ir', h2, h3, fun c hcm => by rcases List.mem_cons.1 hcm with rfl | h'; exact hc; exact h4 c h'⟩
      · rename_i z hz
        exact absurd h (hz ir)
    rw [chks.eq_def] at h
    split at h
    · rename_i heq; cases heq
    · rename_i l heq
      cases heq
      obtain ⟨ir', h2, h3, h4⟩ := chks_ok h hw
      exact ⟨ir', h2, h3, fun c hcm => by rcases List.mem_cons.1 hcm with rfl | h'; simp [Ex.eval]; exact h4 c h'⟩
    · rename_i l hne heq
      cases heq
      exact main ir h hw

theorem both_ok {q : Ex} {x y : Res} {ir : IR} (h : both q x y = .ok ir) : ∃ a b, x = .ok a ∧ y = .ok b ∧ ir = .ite q a b := by
  unfold both at h
  split at h
  · split at h
    · cases h; exact ⟨_, _, rfl, rfl, rfl⟩
    · rename_i hz; exact absurd h (hz _)
  · rename_i hz; exact absurd h (hz _)

/-- a guard, looked at -/
theorem yielded_of {all : List Oper} {j : Nat} {d : Tmp} {tmps : Array Value} (hd : (all[j]?).bind (·.dst) = some d) (b : Bool) (hv : tmps.getD d undef = .bool b) : yielded all.toArray tmps j = some b := by
  unfold yielded
  have h1 : (all.toArray[j]?).bind (·.dst) = some d := by simpa using hd
  rw [h1]
  have h2 : tmps[d]? = some (.bool b) := by
    rw [Array.getD_eq_getD_getElem?] at hv
    cases h : tmps[d]? with
    | none => rw [h] at hv; simp [undef] at hv
    | some x => rw [h] at hv; simp at hv; rw [hv]
  simp [h2]

theorem yielded_undef {all : List Oper} {j : Nat} {d : Tmp} {tmps : Array Value} (hd : (all[j]?).bind (·.dst) = some d) (hv : tmps.getD d undef = undef) : yielded all.toArray tmps j = none := by
  unfold yielded
  have h1 : (all.toArray[j]?).bind (·.dst) = some d := by simpa using hd
  rw [h1]
  rw [Array.getD_eq_getD_getElem?] at hv
  cases h : tmps[d]? with
  | none => simp [h]
  | some x => rw [h] at hv; simp at hv; subst hv; simp [h, undef]

theorem wpL_go {P : Program} {ops : Array Oper} {Q : Exit → Act → World → Prop} {o : Oper} {rest : List Oper} {a : Act} {w : World} (hw : Region.wanted o (yielded ops a.tmps) = true)
    (h : o.wp P a w (wpL P ops Q rest) Q) : wpL P ops Q (o :: rest) a w := by
  unfold wpL; rw [if_pos hw]; exact h

theorem wpL_skip {P : Program} {ops : Array Oper} {Q : Exit → Act → World → Prop} {o : Oper} {rest : List Oper} {a : Act} {w : World} (hw : Region.wanted o (yielded ops a.tmps) = false)
    (h : wpL P ops Q rest (a.put o.dst undef) w) : wpL P ops Q (o :: rest) a w := by
  unfold wpL; rw [if_neg (by simp [hw])]; exact h
theorem wpL_nil {P : Program} {ops : Array Oper} {Q : Exit → Act → World → Prop} {a : Act} {w : World} (h : Q .normal a w) : wpL P ops Q [] a w := h

theorem FR.set {I : Imm} {μ : Mu} {w : World} {ρ : List D} {fr : List S} {a : Act} (h : FR I μ w ρ fr a) {s : S} {t : Nat} (hs : SR I μ w ρ s (a.tmps.getD t undef)) : FR I μ w ρ (fr.set t s) a := by
  refine ⟨by simp [h.len], fun t' => ?_⟩
  by_cases ht : t = t'
  · subst ht
    by_cases hl : t < fr.length
    · simpa [List.getD, hl] using hs
    · simp [List.getD, hl, SR]
  · have := h.at_ t'
    simpa [List.getD, List.getElem?_set_ne ht] using this

/-! ### results and arguments -/

section
variable {I : Imm} {μ : Mu} {w : World} {ρ : List D} {P : Program} {h : Heap}

/-- a result, read -/
def resSem (tmps : Array Value) : ResultVar → Sem Value
  | .tmp t => pure (tmps.getD t undef)
  | .cell x t => do loadVar t (← asAddr (tmps.getD x undef))

theorem results_eq (fn : Func) (tmps : Array Value) : results fn tmps = (do
    let vs ← fn.results.mapM (resSem tmps)
    pure (if h : vs.size = 1 then vs[0] else .tuple vs)) := rfl

theorem resultS_sound (hW : WR G B I₀ w₀ I μ w ρ h) {fr : List S} {a : Act} (hf : FR I μ w ρ fr a) {rv : ResultVar} {p : Bool × List SL} (hr : resultS P G fr h rv = some p) :
    ∃ v, (resSem a.tmps rv).run P w = .ok v w ∧ VR I μ w ρ p.1 p.2 v := by
  cases rv with
  | tmp t =>
    simp only [resultS] at hr
    split at hr
    · rename_i g ls hg
      cases hr
      have := hf.at_ t
      rw [hg] at this
      exact ⟨_, rfl, this⟩
    · cases hr
  | cell x t =>
    simp only [resultS] at hr
    split at hr
    · rename_i l g n hl hg hn
      split at hr
      · rename_i ls hls
        cases hr
        obtain ⟨blk, off, vs, hv, hlen, hc, hrl⟩ := loadLs_sound hW hls (l?_sound hl (hf.at_ x))
        cases g
        · match vs, hlen with
          | [v], _ =>
            have h0 := hc 0 v (by simp)
            simp only [Nat.add_zero] at h0
            cases hrl with | cons h1 h2 =>
            cases h2
            exact ⟨v, by simp [resSem, hv, asAddr, loadVar, run_isAgg hg, h0], _, rfl, h1⟩
        · simp only [if_true] at hlen
          subst hlen
          exact ⟨.agg vs.toArray, by simp [resSem, hv, asAddr, loadVar, run_isAgg hg, run_sizeT hn, run_loadCells_at hc], vs, rfl, hrl⟩
      · cases hr
    · cases hr

theorem results_list (hW : WR G B I₀ w₀ I μ w ρ h) {fr : List S} {a : Act} (hf : FR I μ w ρ fr a) : ∀ {rvs : List ResultVar} {ps : List (Bool × List SL)}, optAll (rvs.map (resultS P G fr h)) = some ps →
    ∃ vs : List Value, (rvs.mapM (resSem a.tmps)).run P w = .ok vs w ∧ All2 (fun (p : Bool × List SL) u => VR I μ w ρ p.1 p.2 u) ps vs
  | [], ps, hr => by simp [optAll] at hr; subst hr; exact ⟨[], by simp, .nil⟩
  | rv :: rvs, ps, hr => by
    simp only [List.map_cons] at hr
    cases hq : resultS P G fr h rv with
    | none => rw [hq] at hr; simp [optAll] at hr
    | some p =>
      rw [hq] at hr
      simp only [optAll] at hr
      split at hr
      · rename_i ps' hps
        cases hr
        obtain ⟨v, hv, hvr⟩ := resultS_sound (P := P) hW hf hq
        obtain ⟨vs, hvs, hvsr⟩ := results_list hW hf hps
        refine ⟨v :: vs, ?_, .cons hvr hvsr⟩
        simp only [List.mapM_cons, Sem.run_bind]
        rw [hv]
        simp only [Result.andThen_ok]
        rw [hvs]
        rfl
      · cases hr

theorem results_sound (hW : WR G B I₀ w₀ I μ w ρ h) {fr : List S} {a : Act} (hf : FR I μ w ρ fr a) {fn : Func} {ps : List (Bool × List SL)} (hr : resultsS P G fn fr h = some ps) :
    ∃ v, (results fn a.tmps).run P w = .ok v w ∧ SR I μ w ρ (tupS ps) v := by
  obtain ⟨vs, h1, h2⟩ := results_list hW hf hr
  have hrun : (results fn a.tmps).run P w = .ok (if h : vs.toArray.size = 1 then vs.toArray[0] else .tuple vs.toArray) w := by
    rw [results_eq, Sem.run_bind, Array.mapM_eq_mapM_toList, Sem.run_map]
    rw [h1]
    rfl
  refine ⟨_, hrun, ?_⟩
  match ps, vs, h2 with
  | [], [], _ => exact ⟨[], rfl, .nil⟩
  | [(g, ls)], [v], .cons hv .nil => exact hv
  | p :: q :: ps, v :: u :: vs, h2 => exact ⟨v :: u :: vs, by simp, h2⟩

theorem argsOf_sound : ∀ {args : List S} {vs : List Value} {ps : List (Bool × List SL)}, argsOf args = some ps → All2 (SR I μ w ρ) args vs → All2 (fun (p : Bool × List SL) u => VR I μ w ρ p.1 p.2 u) ps vs
  | [], _, ps, h, .nil => by simp [argsOf] at h; subst h; exact .nil
  | .val g ls :: r, _, ps, h, .cons a b => by
    simp only [argsOf] at h
    split at h
    · rename_i vs' h1; cases h; exact .cons a (argsOf_sound h1 b)
    · cases h
  | .x :: _, _, _, h, _ => by simp [argsOf] at h
  | .u :: _, _, _, h, _ => by simp [argsOf] at h
  | .tup _ :: _, _, _, h, _ => by simp [argsOf] at h

theorem lsR_data' : ∀ {es : List Ex} {ds : List D} {vs : List Value}, Ex.evals ρ es = some ds → LsR I μ w ρ (es.map .e) vs → All2 (DR I w) ds vs
  | [], ds, vs, he, hr => by simp [Ex.evals] at he; subst he; cases hr; exact .nil
  | e :: es, ds, vs, he, hr => by
    simp only [Ex.evals] at he
    split at he
    · rename_i d ds' h1 h2
      cases he
      cases hr with
      | cons a b =>
        obtain ⟨d', hd', hdr⟩ := a
        rw [h1] at hd'
        cases hd'
        exact .cons hdr (lsR_data' h2 b)
    · cases he

theorem lsR_data {ls : List SL} {es : List Ex} {ds : List D} {vs : List Value} (h : exLs ls = some es) (he : Ex.evals ρ es = some ds) (hr : LsR I μ w ρ ls vs) : All2 (DR I w) ds vs := by
  rw [exLs_get h] at hr
  exact lsR_data' he hr

theorem exVs_sound : ∀ {ps : List (Bool × List SL)} {xs : List XV} {as : List DV} {vs : List Value}, exVs ps = some xs → evalVs ρ xs = some as → All2 (fun (p : Bool × List SL) u => VR I μ w ρ p.1 p.2 u) ps vs → All2 (DVR I w) as vs
  | [], xs, as, _, h, he, .nil => by simp [exVs] at h; subst h; simp [evalVs] at he; subst he; exact .nil
  | (g, ls) :: r, xs, as, _, h, he, .cons a b => by
    simp only [exVs] at h
    split at h
    · rename_i es xs' h1 h2
      cases h
      simp only [evalVs] at he
      split at he
      · rename_i ds as' h3 h4
        cases he
        refine .cons ?_ (exVs_sound h2 h4 b)
        unfold DVR
        cases g
        · obtain ⟨l, rfl, hr⟩ := a
          have := lsR_data h1 h3 (All2.cons hr .nil)
          cases this with | cons p q => cases q; exact ⟨_, rfl, p⟩
        · obtain ⟨us, hv, hr⟩ := a
          exact ⟨us, hv, lsR_data h1 h3 hr⟩
      · cases he
    · cases h

theorem vars_data {env : List D} {k : Nat} {ds : List D} {vs : List Value} (hv : VarsAt env k ds) (hr : All2 (DR I w) ds vs) : LsR I μ w env (varsFrom k ds.length) vs := by
  refine All2.of_get (by simp [varsFrom]; exact hr.length) fun i l v hl hvi => ?_
  obtain ⟨d, hd, hdr⟩ := hr.get' hvi
  have hi : i < ds.length := (List.getElem?_eq_some_iff.1 hd).1
  simp [varsFrom, hi] at hl
  subst hl
  exact ⟨d, by simp only [Ex.eval]; exact hv i d hd, hdr⟩

theorem shapeVs_sound {env : List D} : ∀ {rs : List DV} {vs : List Value} {k : Nat}, VarsAt env k (leavesOf rs) → All2 (DVR I w) rs vs → All2 (fun (p : Bool × List SL) u => VR I μ w env p.1 p.2 u) (shapeVs k (shapeOf rs)) vs
  | [], _, k, _, .nil => .nil
  | (g, ds) :: r, _, k, hv, .cons a b => by
    simp only [leavesOf] at hv
    refine .cons ?_ (shapeVs_sound hv.right b)
    cases g
    · obtain ⟨d, hd, hr⟩ := a
      simp only at hd
      subst hd
      have := vars_data (μ := μ) hv.left (All2.cons hr .nil)
      cases this with | cons p q => cases q; exact ⟨_, rfl, p⟩
    · obtain ⟨us, hu, hr⟩ := a
      exact ⟨us, hu, vars_data hv.left hr⟩

theorem shapeLen_leaves : ∀ (rs : List DV), shapeLen (shapeOf rs) = (leavesOf rs).length
  | [] => rfl
  | (g, ds) :: r => by simp [shapeOf, shapeLen, leavesOf, shapeLen_leaves r]

theorem tupS_sound {env : List D} {rs : List DV} {v : Value} {k : Nat} (hv : VarsAt env k (leavesOf rs)) (hr : RsR I w rs v) : SR I μ w env (tupS (shapeVs k (shapeOf rs))) v := by
  match rs, hr with
  | [], hr => obtain ⟨vs, h1, h2⟩ := hr; exact ⟨vs, h1, shapeVs_sound hv h2⟩
  | [(g, ds)], hr =>
    have := shapeVs_sound (μ := μ) hv (All2.cons hr .nil)
    cases this with | cons p q => exact p
  | p :: q :: r, hr =>
    obtain ⟨vs, h1, h2⟩ := hr
    exact ⟨vs, h1, shapeVs_sound hv h2⟩

theorem VR.exs {g : Bool} {ls : List SL} {es : List Ex} {v : Value} {μ' : Mu} (h : exLs ls = some es) (hv : VR I μ w ρ g ls v) : VR I μ' w ρ g ls v := by
  have h1 := exLs_get h
  subst h1
  cases g
  · obtain ⟨l, hl, hr⟩ := hv
    match es, hl with
    | [e], hl => simp at hl; subst hl; exact ⟨_, rfl, hr⟩
  · obtain ⟨vs, hvv, hr⟩ := hv
    exact ⟨vs, hvv, All2.map_left (R := LR I μ' w ρ) ((All2.of_map_left (R := LR I μ w ρ) hr).imp fun _ _ h => h)⟩

theorem SR.exs {ps : List (Bool × List SL)} {xs : List XV} {v : Value} {μ' : Mu} (h : exVs ps = some xs) (hv : SR I μ w ρ (tupS ps) v) : SR I μ' w ρ (tupS ps) v := by
  have hall : ∀ {ps : List (Bool × List SL)} {xs : List XV} {vs : List Value}, exVs ps = some xs → All2 (fun (p : Bool × List SL) u => VR I μ w ρ p.1 p.2 u) ps vs → All2 (fun (p : Bool × List SL) u => VR I μ' w ρ p.1 p.2 u) ps vs := by
    intro ps
    induction ps with
    | nil => intro xs vs _ h; cases h; exact .nil
    | cons p r ih =>
      intro xs vs h h'
      obtain ⟨g, ls⟩ := p
      simp only [exVs] at h
      split at h
      · rename_i es xs' h1 h2
        cases h' with | cons a b => exact .cons (VR.exs h1 a) (ih h2 b)
      · cases h
  match ps, hv with
  | [], hv => obtain ⟨vs, h1, h2⟩ := hv; exact ⟨vs, h1, hall h h2⟩
  | [(g, ls)], hv =>
    have := hall h (All2.cons (b := v) (bs := []) hv .nil)
    cases this with | cons p q => exact p
  | p :: q :: r, hv => obtain ⟨vs, h1, h2⟩ := hv; exact ⟨vs, h1, hall h h2⟩
end

/-! ### the executor -/

variable (C R G B I₀ w₀) in
def SCode (E : Env) (n : Nat) : Prop := ∀ r me c st k ir L ρ I μ w a Q, exec E n me (.code c) st k = .ok ir → IR.wp C R ir L ρ → StR r E.G B I₀ w₀ st L ρ I μ w a → Post C R r E.G B I₀ w₀ k L ρ I μ w Q → c.wpIn (Rd r) 0 E.P Q a w
variable (C R G B I₀ w₀) in
def SLoop (E : Env) (n : Nat) : Prop := ∀ r me b st k ir L ρ I μ w a Q, E.unr.contains me = true → exec E n me (.code (.loop b)) st k = .ok ir → IR.wp C R ir L ρ → StR r E.G B I₀ w₀ st L ρ I μ w a → Post C R r E.G B I₀ w₀ k L ρ I μ w Q → LW r E.P b Q a w
variable (C R G B I₀ w₀) in
def SGen (E : Env) (n : Nat) : Prop := ∀ r me lb b ms tries st k ir L ρ I μ w a Q, exec E n me (.gen lb b ms tries) st k = .ok ir → IR.wp C R ir L ρ → StR r E.G B I₀ w₀ st L ρ I μ w a → Post C R r E.G B I₀ w₀ k L ρ I μ w Q → RW r E.P lb b Q a w
variable (C R G B I₀ w₀) in
def SOps (E : Env) (n : Nat) : Prop := ∀ r me all todo st k ir L ρ I μ w a Q, exec E n me (.ops all todo) st k = .ok ir → IR.wp C R ir L ρ → StR r E.G B I₀ w₀ st L ρ I μ w a → Post C R r E.G B I₀ w₀ k L ρ I μ w Q → wpL E.P all.toArray Q todo a w
variable (C R G B I₀ w₀) in
def SGo (E : Env) (n : Nat) : Prop := ∀ r me f args (o : Oper) all rest st k ir L ρ I μ w a Q vs, exec E n me (.go f args o all rest) st k = .ok ir → IR.wp C R ir L ρ → StR r E.G B I₀ w₀ st L ρ I μ w a → All2 (SR I μ w ρ) args vs → Post C R r E.G B I₀ w₀ k L ρ I μ w Q →
  (∃ fn, E.P.funcs[f]? = some fn ∧ fn.body.isNone = false ∧ (fn.name == "runtime.NumGoroutine") = false) ∧
  Calls E.P f vs.toArray w fun e w' => match e with
    | .returned v => wpL E.P all.toArray Q rest (a.put o.dst v) w'
    | _ => False

variable {E : Env}

theorem loop_step {n : Nat} (hC : SCode C R B I₀ w₀ E n) (hL : SLoop C R B I₀ w₀ E n) : SLoop C R B I₀ w₀ E (n + 1) := by
  intro r me b st k ir L ρ I μ w a Q hu hx hw hs hk
  simp only [exec] at hx
  rw [if_pos hu] at hx
  refine .mk (fun a' w' => LW r E.P b Q a' w') a w (hC r me b st _ ir L ρ I μ w a _ hx hw hs ?_) (fun _ _ h => h)
  intro e s ir' L' ρ' I' μ' w' a' h1 h2 h3 h4 h5 h6
  cases e with
  | normal => exact hL r me b s k ir' L' ρ' I' μ' w' a' Q hu h1 h2 h5 (hk.mono h3 h4 h6)
  | exit id => exact hk (.exit id) s ir' L' ρ' I' μ' w' a' h1 h2 h3 h4 h5 h6
  | goto l => exact hk (.goto l) s ir' L' ρ' I' μ' w' a' h1 h2 h3 h4 h5 h6
  | ret => exact hk .ret s ir' L' ρ' I' μ' w' a' h1 h2 h3 h4 h5 h6

end
end Go.Proofs.YtlihbielphcgbaaGreatDoor.Sx
