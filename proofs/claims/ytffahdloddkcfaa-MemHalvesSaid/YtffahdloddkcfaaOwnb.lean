/-
  Slices of the call's own, that grow: a new one, one that is written, one that is appended to.
-/
import Derived.Test.YtffahdloddkcfaaOwn
namespace Go.Proofs.Ytffahdloddkcfaa.Sx
open Go
set_option linter.unnecessarySimpa false
set_option linter.unusedSimpArgs false
set_option linter.unusedVariables false

section
variable {B : Nat} {I : Imm} {μ : Mu} {w : World} {ρ : List D} {o : Own} {G : Glo} {I₀ : Imm} {w₀ : World} {h : Heap} {P : Program}

/-- A world that has grown, one block of it written. -/
structure Gr (w w' : World) (row : Option Nat) : Prop where
  os : w'.os = w.os
  output : w'.output = w.output
  size : w.heap.size ≤ w'.heap.size
  block : ∀ k, k < w.heap.size → some k ≠ row → w'.heap[k]? = w.heap[k]?
theorem gr_of {w w' : World} {row : Option Nat} (h : w.grownBy w' row) : Gr w w' row := ⟨h.os, h.output, h.size, h.block⟩

/-- Nothing but one block of nobody's, and new ones, is written. -/
theorem WR.other {μ' : Mu} {w' : World} {row : Option Nat} (hW : WR G B I₀ w₀ I μ w ρ h) (hg : Gr w w' row) (hrow : ∀ x, row = some x → ¬ I x ∧ (∀ b, μ b ≠ some x) ∧ B ≤ x) (hm : μ'.m = μ.m) (hv : ∀ k v, μ.v k = some v → μ'.v k = some v) :
    WR G B I₀ w₀ I μ' w' ρ h ∧ Evo I μ w I μ' w' := by
  have hsame : ∀ y, y < w.heap.size → row ≠ some y → w'.heap[y]? = w.heap[y]? := fun y hy hne => hg.block y hy (fun e => hne e.symm)
  have hI : ∀ y, I y → w'.heap[y]? = w.heap[y]? := fun y hy => hsame y (hW.imm y hy) fun e => (hrow y e).1 hy
  have he : Evo I μ w I μ' w' := ⟨fun _ h => h, hI, fun b x hb => by rw [hm]; exact hb, hv⟩
  refine ⟨⟨fun b x hb => ?_, fun b b' x h1 h2 => hW.inj b b' x (by rw [← hm]; exact h1) (by rw [← hm]; exact h2), hW.glo.mono (fun _ h => h) hI, fun y hy => ?_, Nat.le_trans hW.size hg.size, fun y hy => Nat.lt_of_lt_of_le (hW.imm y hy) hg.size, hW.imm0, ⟨hg.os.trans hW.wd.1, hg.output.trans hW.wd.2⟩⟩, he⟩
  · rw [hm] at hb
    obtain ⟨blk, h1, vs, ty, h2, h3, h4⟩ := hW.blk b x hb
    refine ⟨blk, h1, vs, ty, ?_, h3.imp fun _ _ hr => hr.mono he (List.prefix_refl _), h4⟩
    rw [hsame x (Array.getElem?_eq_some_iff.1 h2).1 fun e => (hrow x e).2.1 b hb]
    exact h2
  · rw [hsame y (by have := hW.size; omega) fun e => by have := (hrow y e).2.2; omega]
    exact hW.old y hy

theorem WR.mlt (hW : WR G B I₀ w₀ I μ w ρ h) {b x : Nat} (hb : μ b = some x) : x < w.heap.size := by
  obtain ⟨blk, h1, vs, ty, h2, _⟩ := hW.blk b x hb
  exact (Array.getElem?_eq_some_iff.1 h2).1

def Mu.push (μ : Mu) (n : Nat) (v : Value) : Mu := { μ with v := fun k => if k = n then some v else μ.v k }

theorem OwnR.push {o1 : Own} {row : Option Nat} {w' : World} {v' : Value} {s' : Nat} {rows' : List (List D)} {t' : Ex} (hW : WR G B I₀ w₀ I μ w ρ h) (hO : OwnR B I μ w ρ o) (hlen : o1.length = o.length)
    (hlive : ∀ (k : Nat) (t : Ex), o1[k]? = some (OS.mk t .live) → o[k]? = some (OS.mk t .live) ∧ ∀ v x, μ.v k = some v → v.ownBlock = some x → row ≠ some x) (hfroz : ∀ (k : Nat) (t : Ex), o1[k]? = some (OS.mk t .frozen) → o[k]? = some (OS.mk t .frozen))
    (hrow : ∀ x, row = some x → OwnB μ o x) (hg : Gr w w' row) (hv' : OwnV B I w' s' rows' v') (hb' : ∀ x, v'.ownBlock = some x → row = some x ∨ w.heap.size ≤ x) (ht' : t'.eval ρ = some (.sl s' rows')) :
    WR G B I₀ w₀ I (μ.push o.length v') w' ρ h ∧ Evo I μ w I (μ.push o.length v') w' ∧ OwnR B I (μ.push o.length v') w' ρ (o1 ++ [⟨t', .live⟩]) := by
  have hrow' : ∀ x, row = some x → ¬ I x ∧ (∀ b, μ b ≠ some x) ∧ B ≤ x := fun x hx => by
    obtain ⟨k, t, v, hk, hv, hxv⟩ := hrow x hx
    obtain ⟨_, h1, h2⟩ := hO.lt hk hv hxv
    exact ⟨h2, (hO.dis k t v x hk hv hxv).1, h1⟩
  obtain ⟨hW', he⟩ := hW.other (μ' := μ.push o.length v') hg hrow' rfl (fun k v hk => by
    simp only [Mu.push]
    rw [if_neg (fun e => by subst e; rw [hO.new _ (Nat.le_refl _)] at hk; cases hk)]
    exact hk)
  have hold : ∀ {k : Nat} {os : OS}, (o1 ++ [⟨t', .live⟩])[k]? = some os → (k < o.length ∧ o1[k]? = some os ∧ (μ.push o.length v').v k = μ.v k) ∨ (k = o.length ∧ os = ⟨t', .live⟩ ∧ (μ.push o.length v').v k = some v') := by
    intro k os hk
    by_cases hl : k < o.length
    · rw [List.getElem?_append_left (by omega)] at hk
      exact .inl ⟨hl, hk, by simp [Mu.push, Nat.ne_of_lt hl]⟩
    · rw [List.getElem?_append_right (by omega)] at hk
      have h0 : k - o1.length = 0 := by
        rcases Nat.eq_zero_or_pos (k - o1.length) with h | h
        · exact h
        · rw [List.getElem?_eq_none (by simp; omega)] at hk; cases hk
      rw [h0] at hk
      simp at hk
      have : k = o.length := by omega
      subst this
      exact .inr ⟨rfl, hk.symm, by simp [Mu.push]⟩
  have hsame : ∀ {k t v x}, o1[k]? = some ⟨t, .live⟩ → μ.v k = some v → v.ownBlock = some x → w'.heap[x]? = w.heap[x]? := by
    intro k t v x hk hv hx
    obtain ⟨h1, h2⟩ := hlive k t hk
    exact hg.block x (hO.lt h1 hv hx).1 fun e => h2 v x hv hx e.symm
  -- the new one's block is no other's
  have hnew : ∀ x, v'.ownBlock = some x → (∀ b, μ b ≠ some x) ∧ ∀ k t v, o1[k]? = some ⟨t, .live⟩ → μ.v k = some v → v.ownBlock ≠ some x := by
    intro x hx
    rcases hb' x hx with hr | hr
    · refine ⟨(hrow' x hr).2.1, fun k t v hk hv hvx => (hlive k t hk).2 v x hv hvx hr⟩
    · refine ⟨fun b hb => by have := hW.mlt hb; omega, fun k t v hk hv hvx => ?_⟩
      have := (hO.lt (hlive k t hk).1 hv hvx).1
      omega
  refine ⟨hW', he, fun k t hk => ?_, fun k t hk => ?_, fun k t v x hk hv hx => ?_, fun k hk => ?_⟩
  · rcases hold hk with ⟨_, hk, hvk⟩ | ⟨rfl, e, hvk⟩
    · obtain ⟨v, s, rows, h1, h2, h3⟩ := hO.live k t (hlive k t hk).1
      refine ⟨v, s, rows, by rw [hvk]; exact h1, h2, h3.mono he.imm he.same fun x hx => ⟨hsame hk h1 hx, (hO.lt (hlive k t hk).1 h1 hx).2.2⟩⟩
    · cases e
      exact ⟨v', s', rows', hvk, ht', hv'⟩
  · rcases hold hk with ⟨_, hk, hvk⟩ | ⟨rfl, e, hvk⟩
    · obtain ⟨v, d, h1, h2, h3⟩ := hO.frozen k t (hfroz k t hk)
      exact ⟨v, d, by rw [hvk]; exact h1, h2, h3.mono he.imm he.same⟩
    · cases e
  · rcases hold hk with ⟨hl, hk, hvk⟩ | ⟨rfl, e, hvk⟩
    · rw [hvk] at hv
      obtain ⟨h1, h2⟩ := hO.dis k t v x (hlive k t hk).1 hv hx
      refine ⟨h1, fun k' t'' v'' hne hk' hv'' => ?_⟩
      rcases hold hk' with ⟨hl', hk', hvk'⟩ | ⟨rfl, e', hvk'⟩
      · rw [hvk'] at hv''
        exact h2 k' t'' v'' hne (hlive k' t'' hk').1 hv''
      · rw [hvk'] at hv''
        cases hv''
        exact fun hx' => (hnew x hx').2 k t v hk hv hx
    · rw [hvk] at hv
      cases hv
      obtain ⟨h1, h2⟩ := hnew x hx
      refine ⟨h1, fun k' t'' v'' hne hk' hv'' => ?_⟩
      rcases hold hk' with ⟨hl', hk', hvk'⟩ | ⟨rfl, e', hvk'⟩
      · rw [hvk'] at hv''
        exact h2 k' t'' v'' hk' hv''
      · exact absurd rfl hne
  · simp only [List.length_append, List.length_singleton] at hk
    simp only [Mu.push]
    rw [if_neg (by omega)]
    exact hO.new k (by omega)

theorem OwnR.write {k x : Nat} {t t' : Ex} {v : Value} {w' : World} {s' : Nat} {rows' : List (List D)} (hW : WR G B I₀ w₀ I μ w ρ h) (hO : OwnR B I μ w ρ o) (hk : o[k]? = some ⟨t, .live⟩) (hv : μ.v k = some v) (hx : v.ownBlock = some x)
    (hg : w.grownBy w' (some x)) (hv' : OwnV B I w' s' rows' v) (ht' : t'.eval ρ = some (.sl s' rows')) : WR G B I₀ w₀ I μ w' ρ h ∧ Evo I μ w I μ w' ∧ OwnR B I μ w' ρ (o.set k ⟨t', .live⟩) := by
  obtain ⟨_, hB, hnI⟩ := hO.lt hk hv hx
  obtain ⟨hd1, hd2⟩ := hO.dis k t v x hk hv hx
  obtain ⟨hW', he⟩ := hW.other (μ' := μ) (gr_of hg) (fun y hy => by cases hy; exact ⟨hnI, hd1, hB⟩) rfl (fun _ _ h => h)
  have hkl : k < o.length := (List.getElem?_eq_some_iff.1 hk).1
  have hget : ∀ {j : Nat} {os : OS}, (o.set k ⟨t', .live⟩)[j]? = some os → (j = k ∧ os = ⟨t', .live⟩) ∨ (j ≠ k ∧ o[j]? = some os) := by
    intro j os hj
    by_cases he : k = j
    · subst he
      simp [hkl] at hj
      exact .inl ⟨rfl, hj.symm⟩
    · rw [List.getElem?_set_ne he] at hj
      exact .inr ⟨Ne.symm he, hj⟩
  have hlive : ∀ {j : Nat} {t'' : Ex}, (o.set k ⟨t', .live⟩)[j]? = some ⟨t'', .live⟩ → ∃ t0, o[j]? = some ⟨t0, .live⟩ := by
    intro j t'' hj
    rcases hget hj with ⟨rfl, _⟩ | ⟨_, h⟩
    · exact ⟨t, hk⟩
    · exact ⟨t'', h⟩
  refine ⟨hW', he, fun j t'' hj => ?_, fun j t'' hj => ?_, fun j t'' u y hj hu hy => ?_, fun j hj => hO.new j (by simpa using hj)⟩
  · rcases hget hj with ⟨rfl, e⟩ | ⟨hne, hj⟩
    · cases e
      exact ⟨v, s', rows', hv, ht', hv'⟩
    · obtain ⟨u, s, rows, h1, h2, h3⟩ := hO.live j t'' hj
      refine ⟨u, s, rows, h1, h2, h3.mono he.imm he.same fun y hy => ?_⟩
      obtain ⟨h4, _, h5⟩ := hO.lt hj h1 hy
      exact ⟨hg.block y h4 fun e => by cases e; exact hd2 j t'' u hne hj h1 hy, h5⟩
  · rcases hget hj with ⟨rfl, e⟩ | ⟨hne, hj⟩
    · cases e
    · obtain ⟨u, d, h1, h2, h3⟩ := hO.frozen j t'' hj
      exact ⟨u, d, h1, h2, h3.mono he.imm he.same⟩
  · obtain ⟨t0, hj⟩ := hlive hj
    obtain ⟨h1, h2⟩ := hO.dis j t0 u y hj hu hy
    refine ⟨h1, fun j' t1 u' hne hj' hu' => ?_⟩
    obtain ⟨t1', hj'⟩ := hlive hj'
    exact h2 j' t1' u' hne hj' hu'

/-! ### rows of cells -/

/-- a list of cells holds rows of n leaves -/
def RowsL (I : Imm) (w : World) (n : Nat) (rows : List (List D)) (L : List Value) : Prop := ∀ i r j d, rows[i]? = some r → r[j]? = some d → ∃ u, L[i * n + j]? = some u ∧ DR I w d u

theorem RowsL.append {n : Nat} {rows rows2 : List (List D)} {L1 L2 : List Value} (h1 : RowsL I w n rows L1) (hl : L1.length = rows.length * n) (hw : ∀ r ∈ rows, r.length = n) (hw2 : ∀ r ∈ rows2, r.length = n) (h2 : RowsL I w n rows2 L2) (L3 : List Value)
    (hl2 : L2.length = rows2.length * n) : RowsL I w n (rows ++ rows2) (L1 ++ L2 ++ L3) := by
  intro i r j d hi hj
  by_cases hil : i < rows.length
  · rw [List.getElem?_append_left hil] at hi
    obtain ⟨u, hu, hd⟩ := h1 i r j d hi hj
    refine ⟨u, ?_, hd⟩
    have hlt := (List.getElem?_eq_some_iff.1 hu).1
    rw [List.append_assoc, List.getElem?_append_left hlt]
    exact hu
  · rw [List.getElem?_append_right (by omega)] at hi
    obtain ⟨u, hu, hd⟩ := h2 _ r j d hi hj
    refine ⟨u, ?_, hd⟩
    have hlt := (List.getElem?_eq_some_iff.1 hu).1
    have hmul : rows.length * n ≤ i * n := Nat.mul_le_mul_right _ (by omega)
    have he : i * n + j - L1.length = (i - rows.length) * n + j := by rw [hl, Nat.sub_mul]; omega
    rw [List.append_assoc, List.getElem?_append_right (by omega), he, List.getElem?_append_left hlt]
    exact hu

theorem RowsL.mono {I' : Imm} {w' : World} {n : Nat} {rows : List (List D)} {L : List Value} (h : RowsL I w n rows L) (hI : ∀ x, I x → I' x) (hw : ∀ x, I x → w'.heap[x]? = w.heap[x]?) : RowsL I' w' n rows L := fun i r j d hi hj => by
  obtain ⟨u, hu, hd⟩ := h i r j d hi hj
  exact ⟨u, hu, hd.mono hI hw⟩

/-- what is appended -/
def SrcV (I : Imm) (w : World) (n : Nat) (rows : List (List D)) (v : Value) : Prop :=
  (∀ r ∈ rows, r.length = n) ∧ ∃ p c, v = .slice p rows.length c ∧ (rows = [] ∨ ∃ a, p = some a ∧ ∃ L : List Value, L.length = rows.length * n ∧ RowsL I w n rows L ∧ (∀ q u, L[q]? = some u → w.cell? (a.add q) = some u) ∧ ∀ u ∈ L, u.oneCell' = true)

theorem zeroT_info {t : TypeId} {z : List SL} (h : zeroT P t = some z) : ∃ i v, P.info? t = some i ∧ i.zero = some v ∧ v.cells.size = z.length ∧ constLs v.cells.toList = some z := by
  unfold zeroT at h
  split at h
  · rename_i i hi
    split at h
    · rename_i v hv
      refine ⟨i, v, hi, hv, ?_, h⟩
      have := (constLs_sound (I := fun _ => False) (μ := ⟨fun _ => none, fun _ => none⟩) (w := default) (ρ := []) h).length
      simpa using this.symm
    · cases h
  · cases h

theorem row_index {n m q : Nat} (hn : 0 < n) (hq : q < m * n) : q / n < m ∧ q % n < n ∧ q / n * n + q % n = q :=
  ⟨(Nat.div_lt_iff_lt_mul hn).2 hq, Nat.mod_lt _ hn, by rw [Nat.mul_comm]; exact Nat.div_add_mod q n⟩

/-- APPEND. -/
theorem run_appendV {t ty el : TypeId} {i : TypeInfo} {z : Value} {n s : Nat} {rows rows2 : List (List D)} {v v2 : Value} (ht : P.underlying t = some (.slice el)) (hi : P.info? el = some i) (hz : i.zero = some z) (hsz : i.size = n) (hzs : z.cells.size = n) (hn : 0 < n)
    (hown : OwnV B I w s rows v) (hs : s = n ∨ s = 0) (hsrc : SrcV I w n rows2 v2) (hroom : (rows.length + rows2.length) * (i.bytes + 1) ≤ 2 ^ 40) (hB : B ≤ w.heap.size) (hI : ∀ x, I x → x < w.heap.size) :
    ∃ v' w', (Builtin.append_ #[t, t] ty #[v, v2]).run P w = .ok v' w' ∧ OwnV B I w' (if rows2.isEmpty then s else n) (rows ++ rows2) v' ∧ w.grownBy w' v.ownBlock ∧ (∀ x, v'.ownBlock = some x → v.ownBlock = some x ∨ w.heap.size ≤ x) := by
  subst hsz
  obtain ⟨hw2, p, c, rfl, hsrc⟩ := hsrc
  have hlen : rows.length + rows2.length ≤ 2 ^ 40 := Nat.le_trans (Nat.le_mul_of_pos_right _ (by omega)) hroom
  have hbytes : (rows.length + rows2.length) * i.bytes ≤ 2 ^ 40 := Nat.le_trans (Nat.mul_le_mul_left _ (Nat.le_succ _)) hroom
  by_cases hr2 : rows2 = []
  · subst hr2
    have hf : (Builtin.firstCells i.size 0 (.slice p 0 c)).run P w = .ok #[] w := by
      cases p <;> simp [Builtin.firstCells, loadCells, loadCellsFrom]
    refine ⟨v, w, ?_, by simpa using hown, ⟨rfl, rfl, rfl, Nat.le_refl _, fun _ _ _ => rfl⟩, fun x hx => .inl hx⟩
    rcases hown.2 with ⟨rfl, rfl⟩ | ⟨x, cap, cur, tyy, rfl, h1, h2, h3, h4, h5, h6, h7, h8⟩
    · simp [Builtin.append_, run_underlying ht, sizeOf, typeInfo, hi, Builtin.lenOf, hf]
    · simp [Builtin.append_, run_underlying ht, sizeOf, typeInfo, hi, Builtin.lenOf, hf, h4, storeCells]
  · obtain ⟨a, rfl, L, hLl, hLr, hLc, hL1⟩ := hsrc.resolve_left hr2
    have hne : rows2.isEmpty = false := by cases rows2 <;> simp_all
    have hpos : 0 < rows2.length := List.length_pos_iff.2 hr2
    rw [hne]
    simp only [Bool.false_eq_true, if_false]
    rcases hown.2 with ⟨rfl, rfl⟩ | ⟨x, cap, cur, tyy, rfl, h1, h2, h3, h4, h5, h6, h7, h8⟩
    · have hr := run_append_nil (P := P) w t ty el i z ht hi hz a rows2.length c L hLl hLc hpos (by omega) (by simp at hbytes; omega)
      refine ⟨_, _, hr, ⟨by simpa using hw2, .inr ⟨w.heap.size, grownCap w rows2.length 0 el, _, el, by simp, hB, hn, heap_alloc_new w.drew _, by simpa using grownCap_ge w _ _ _, grownCap_le_maxLen w _ _ _ (by simp only [maxLen]; omega), ?_, ?_, fun hx => by have := hI _ hx; omega⟩⟩,
        ⟨rfl, rfl, rfl, by simp, fun k hk _ => heap_alloc_old w.drew _ hk⟩, fun y hy => ?_⟩
      · have := grownCap_ge w rows2.length 0 el
        simp only [Array.size_append, List.size_toArray, size_zeroCells, hzs, hLl, ← Nat.add_mul]
        congr 1
        omega
      · intro ii r j d hii hj
        obtain ⟨u, hu, hd⟩ := hLr ii r j d (by simpa using hii) hj
        refine ⟨u, ?_, hd.mono (fun _ h => h) fun y hy => heap_alloc_old w.drew _ (hI y hy)⟩
        have hlt := (List.getElem?_eq_some_iff.1 hu).1
        rw [Array.getElem?_append_left (by simpa using hlt)]
        simpa using hu
      · simp [Value.ownBlock] at hy
        exact .inr (Nat.le_of_eq hy)
    · have hsn : s = i.size := by rcases hs with h | h; exact h; omega
      subst hsn
      have hcl : cur.toList.length = cap * i.size := by simpa using h6
      have hle : rows.length * i.size ≤ cap * i.size := Nat.mul_le_mul_right _ h4
      have hold : (cur.toList.take (rows.length * i.size)).length = rows.length * i.size := by rw [List.length_take]; omega
      have hRold : RowsL I w i.size rows (cur.toList.take (rows.length * i.size)) := by
        intro ii r j d hii hj
        obtain ⟨u, hu, hd⟩ := h7 ii r j d hii hj
        refine ⟨u, ?_, hd⟩
        have hj' : j < i.size := by have := (List.getElem?_eq_some_iff.1 hj).1; rw [hown.1 r (List.mem_of_getElem? hii)] at this; exact this
        have hi' : ii < rows.length := (List.getElem?_eq_some_iff.1 hii).1
        have : ii * i.size + j < rows.length * i.size := by
          have : (ii + 1) * i.size ≤ rows.length * i.size := Nat.mul_le_mul_right _ hi'
          rw [Nat.succ_mul] at this
          omega
        rw [List.getElem?_take, if_pos this]
        simpa using hu
      by_cases hfit : rows.length + rows2.length ≤ cap
      · have hf := run_firstCells_some (P := P) w i.size rows2.length a rows2.length c L hLl hLc
        have hsp : rows.length * i.size + L.length ≤ cur.size := by rw [hLl, h6, ← Nat.add_mul]; exact Nat.mul_le_mul_right _ hfit
        have hst := run_storeCells_at P x (rows.length * i.size) tyy L 0 cur w h3 (by simpa using hsp) hL1
        simp only [Nat.add_zero] at hst
        have hwid : ∀ r ∈ rows ++ rows2, r.length = i.size := fun r hr => (List.mem_append.1 hr).elim (hown.1 r) (hw2 r)
        have hrun : (Builtin.append_ #[t, t] ty #[.slice (some ⟨x, 0, none⟩) rows.length cap, .slice (some a) rows2.length c]).run P w = .ok (.slice (some ⟨x, 0, none⟩) (rows.length + rows2.length) cap)
            (w.setRow x (cur.toList.take (rows.length * i.size) ++ L ++ cur.toList.drop (rows.length * i.size + L.length)).toArray) := by
          simp [Builtin.append_, run_underlying ht, sizeOf, typeInfo, hi, Builtin.lenOf, hfit, hf, Addr.add_lit, hst]
        refine ⟨_, _, hrun, ⟨hwid, .inr ⟨x, cap, _, tyy, by simp, h1, h2, setRow_heap w x cur _ tyy _ h3, by simpa using hfit, h5, ?_, ?_, h8⟩⟩,
          ⟨rfl, rfl, rfl, by simp, fun k _ hk => setRow_other w x k _ (fun e => hk (by simp [Value.ownBlock, e]))⟩, fun y hy => .inl hy⟩
        · simp only [List.size_toArray, List.length_append, List.length_take, List.length_drop, Array.length_toList]
          omega
        · intro ii r j d hii hj
          obtain ⟨u, hu, hd⟩ := (hRold.append hold hown.1 hw2 hLr (cur.toList.drop (rows.length * i.size + L.length)) hLl) ii r j d hii hj
          exact ⟨u, by simpa using hu, hd.mono (fun _ h => h) fun y hy => setRow_other w x y _ (fun e => h8 (e ▸ hy))⟩
      · have holds : ∀ j u, (cur.toList.take (rows.length * i.size))[j]? = some u → w.cell? ((⟨x, 0, none⟩ : Addr).add j) = some u := by
          intro j u hj
          rw [List.getElem?_take] at hj
          split at hj
          · rw [addr_add, Nat.zero_add, cell_of_row w x j cur tyy (0, 0) h3]
            simpa using hj
          · cases hj
        have hr := run_append_grow (P := P) w t ty el i z ht hi hz ⟨x, 0, none⟩ rows.length cap (cur.toList.take (rows.length * i.size)) hold holds a rows2.length c L hLl hLc (by omega) (by omega) (growslice_fits (by omega) (by omega))
        have hge := grownCap_ge w (rows.length + rows2.length) cap el
        have hwid : ∀ r ∈ rows ++ rows2, r.length = i.size := fun r hr => (List.mem_append.1 hr).elim (hown.1 r) (hw2 r)
        refine ⟨_, _, hr, ⟨hwid, .inr ⟨w.heap.size, grownCap w (rows.length + rows2.length) cap el, _, el, by simp, hB, h2, heap_alloc_new w.drew _, by simpa using hge, grownCap_le_maxLen w _ _ _ (by simp only [maxLen]; omega), ?_, ?_, fun hx => by have := hI _ hx; omega⟩⟩,
          ⟨rfl, rfl, rfl, by simp, fun k hk _ => heap_alloc_old w.drew _ hk⟩, fun y hy => ?_⟩
        · simp only [Array.size_append, List.size_toArray, size_zeroCells, hzs, hold, hLl, ← Nat.add_mul]
          congr 1
          omega
        · intro ii r j d hii hj
          obtain ⟨u, hu, hd⟩ := (hRold.append hold hown.1 hw2 hLr (Builtin.zeroCells z.cells (grownCap w (rows.length + rows2.length) cap el - (rows.length + rows2.length))).toList hLl) ii r j d hii hj
          refine ⟨u, ?_, hd.mono (fun _ h => h) fun y hy => heap_alloc_old w.drew _ (hI y hy)⟩
          rw [← hu, ← Array.getElem?_toList]
          simp
        · simp [Value.ownBlock] at hy
          exact .inr (Nat.le_of_eq hy)

end
end Go.Proofs.Ytffahdloddkcfaa.Sx
