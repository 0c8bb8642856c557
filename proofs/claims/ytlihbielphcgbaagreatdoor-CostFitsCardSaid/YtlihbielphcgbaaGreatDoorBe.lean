/-
  A region whose operations run in any order that their edges leave open: whatever the order, it comes to what the text's order comes to.
  Ways that are joined behind a region: the state at the join.
  The soundness of the executor: all in one; a function's contract out of its IR.
-/
import Derived.Test.YtlihbielphcgbaaGreatDoorBd
import Derived.Orders
import Derived.Scope
namespace Go.Proofs.YtlihbielphcgbaaGreatDoor.Sx
open Go
set_option linter.unnecessarySimpa false
set_option linter.unusedSimpArgs false
set_option linter.unusedVariables false

variable {C : Con} {R : List DV → Prop} {E : Env}

/-- no operation of a list writes the temporary t -/
def NoDst (l : List Oper) (t : Nat) : Prop := ∀ p ∈ l, p.dst ≠ some t

/-- what an operation comes to, from a frame and a heap on -/
def Comes (C : Con) (E : Env) (o0 : OwP) (ρ : List D) (all : List Oper) (o : Oper) (fr : List S) (h h' : Heap) (frE : List S) : Prop :=
  (Unwanted ρ all fr o ∧ h' = h ∧ (∀ d, o.dst = some d → frE.getD d .x = .x ∨ Eqv ρ .u (frE.getD d .x)) ∧ isP o0 o = false) ∨
  (Wanted ρ all fr o ∧ ∃ s, Step C E o0 all ρ o fr h s h' ∧ (∀ d, o.dst = some d → frE.getD d .x = .x ∨ Eqv ρ s (frE.getD d .x)) ∧ isP o0 o = false) ∨
  (o.guard = none ∧ h' = h ∧ o0.o = [] ∧ ((∃ d u t, o.dst = some d ∧ o0.pr = some (d, u, t) ∧ StepN C E ρ o fr t ∧ (frE.getD d .x = .x ∨ Eqv ρ (.val false [.g 0]) (frE.getD d .x))) ∨
    (∃ d d1 t s, o.dst = some d ∧ o0.pr = some (d1, some d, t) ∧ (d1 ≠ d ∧ lastTmp o = some d1) ∧ StepE C E ρ o fr t s ∧ (frE.getD d .x = .x ∨ Eqv ρ s (frE.getD d .x)))))

theorem Eqv.of_eq {ρ : List D} {s s' : S} (h : s = s') : Eqv ρ s s' := h ▸ Eqv.refl ρ s

theorem putS_length (fr : List S) (d : Option Tmp) (s : S) : (putS fr d s).length = fr.length := by
  cases d <;> simp [putS]
theorem putS_ne {fr : List S} {d : Option Tmp} {s : S} {t : Nat} (h : d ≠ some t) : (putS fr d s).getD t .x = fr.getD t .x := by
  cases d with
  | none => rfl
  | some k =>
    have hk : k ≠ t := fun e => h (by rw [e])
    simp [putS, List.getD, List.getElem?_set_ne hk]
theorem putS_at {fr : List S} {s : S} {t : Nat} : (putS fr (some t) s).getD t .x = if t < fr.length then s else .x := by
  by_cases h : t < fr.length <;> simp [putS, List.getD, h]

theorem path_info {o0 : OwP} {all : List Oper} {ρ : List D} {lg : List Acc} {todo : List Oper} {fr frE : List S} {h hE : Heap} (hp : Path C E o0 all ρ lg todo fr h frE hE) : (todo.filterMap (·.dst)).Nodup →
    fr.length = frE.length ∧ (∀ t, NoDst todo t → Eqv ρ (fr.getD t .x) (frE.getD t .x)) ∧
    ∃ (Fr : Nat → List S) (H : Nat → Heap), H 0 = h ∧ H todo.length = hE ∧ ∀ (j : Nat) (o : Oper), todo[j]? = some o →
      (Fr j).length = fr.length ∧ (∀ t, NoDst (todo.take j) t → Eqv ρ (fr.getD t .x) ((Fr j).getD t .x)) ∧ (∀ t, NoDst (todo.drop j) t → Eqv ρ ((Fr j).getD t .x) (frE.getD t .x)) ∧
      Comes C E o0 ρ all o (Fr j) (H j) (H (j + 1)) frE ∧ lg[j]? = some (opAcc E.P (Fr j) (H j) o) := by
  induction hp with
  | @nil fr h => intro _; exact ⟨rfl, fun t _ => Eqv.refl _ _, fun _ => fr, fun _ => h, rfl, rfl, fun j o h => by simp at h⟩
  | @refine lg todo fr frE h hE d s he hp ih =>
    intro hn
    obtain ⟨h1, h2, Fr, H, h3, h4, h5⟩ := ih hn
    have key : ∀ t, Eqv ρ (fr.getD t .x) ((fr.set d s).getD t .x) := by
      intro t
      by_cases ht : d = t
      · subst ht
        by_cases hl : d < fr.length
        · have : (fr.set d s).getD d .x = s := by simp [List.getD, hl]
          rw [this]
          exact he
        · exact Eqv.of_eq (by simp [List.getD, hl])
      · exact Eqv.of_eq (by simp [List.getD, List.getElem?_set_ne ht])
    refine ⟨by simpa using h1, fun t ht => (key t).trans (h2 t ht), Fr, H, h3, h4, fun j o ho => ?_⟩
    obtain ⟨h6, h7, h8, h9, h10⟩ := h5 j o ho
    exact ⟨by simpa using h6, fun t ht => (key t).trans (h7 t ht), h8, h9, h10⟩
  | @skip lg o rest fr frE h hE hg hq hp ih =>
    intro hn
    have hn' : (rest.filterMap (·.dst)).Nodup := by
      rw [List.filterMap_cons] at hn
      split at hn
      · exact hn
      · exact (List.nodup_cons.1 hn).2
    have hd : ∀ d, o.dst = some d → NoDst rest d := by
      intro d hd p hp' hpd
      rw [List.filterMap_cons, hd] at hn
      exact (List.nodup_cons.1 hn).1 (List.mem_filterMap.2 ⟨p, hp', hpd⟩)
    obtain ⟨h1, h2, Fr, H, h3, h4, h5⟩ := ih hn'
    rw [putS_length] at h1
    have hall : ∀ t, NoDst (o :: rest) t → Eqv ρ (fr.getD t .x) (frE.getD t .x) := fun t ht => by
      have := h2 t fun p hp' => ht p (List.mem_cons_of_mem _ hp')
      rwa [putS_ne (ht o (List.mem_cons_self ..))] at this
    refine ⟨h1, hall, fun j => match j with | 0 => fr | j + 1 => Fr j, fun j => match j with | 0 => h | j + 1 => H j, rfl, h4, fun j p hj => ?_⟩
    cases j with
    | zero =>
      simp at hj
      subst hj
      refine ⟨rfl, fun t _ => Eqv.refl _ _, fun t ht => hall t (by simpa using ht), .inl ⟨hg, h3, fun d hdd => ?_, hq⟩, by simp⟩
      have := h2 d (hd d hdd)
      rw [hdd, putS_at] at this
      by_cases hl : d < fr.length
      · rw [if_pos hl] at this; exact .inr this
      · left; simp [List.getD, ← h1, hl]
    | succ j =>
      obtain ⟨h6, h7, h8, h9, h10⟩ := h5 j p (by simpa using hj)
      refine ⟨by rw [h6, putS_length], fun t ht => ?_, fun t ht => h8 t (by simpa using ht), h9, by simpa using h10⟩
      have := h7 t fun q hq => ht q (by simp [hq])
      rwa [putS_ne (ht o (by simp))] at this
  | @step lg o rest fr frE h h' hE s hg hs hq hp ih =>
    intro hn
    have hn' : (rest.filterMap (·.dst)).Nodup := by
      rw [List.filterMap_cons] at hn
      split at hn
      · exact hn
      · exact (List.nodup_cons.1 hn).2
    have hd : ∀ d, o.dst = some d → NoDst rest d := by
      intro d hd p hp' hpd
      rw [List.filterMap_cons, hd] at hn
      exact (List.nodup_cons.1 hn).1 (List.mem_filterMap.2 ⟨p, hp', hpd⟩)
    obtain ⟨h1, h2, Fr, H, h3, h4, h5⟩ := ih hn'
    rw [putS_length] at h1
    have hall : ∀ t, NoDst (o :: rest) t → Eqv ρ (fr.getD t .x) (frE.getD t .x) := fun t ht => by
      have := h2 t fun p hp' => ht p (List.mem_cons_of_mem _ hp')
      rwa [putS_ne (ht o (List.mem_cons_self ..))] at this
    refine ⟨h1, hall, fun j => match j with | 0 => fr | j + 1 => Fr j, fun j => match j with | 0 => h | j + 1 => H j, rfl, h4, fun j p hj => ?_⟩
    cases j with
    | zero =>
      simp at hj
      subst hj
      refine ⟨rfl, fun t _ => Eqv.refl _ _, fun t ht => hall t (by simpa using ht), .inr (.inl ⟨hg, s, by show Step C E o0 all ρ o fr h s (H 0); rw [h3]; exact hs, fun d hdd => ?_, hq⟩), by simp⟩
      have := h2 d (hd d hdd)
      rw [hdd, putS_at] at this
      by_cases hl : d < fr.length
      · rw [if_pos hl] at this; exact .inr this
      · left; simp [List.getD, ← h1, hl]
    | succ j =>
      obtain ⟨h6, h7, h8, h9, h10⟩ := h5 j p (by simpa using hj)
      refine ⟨by rw [h6, putS_length], fun t ht => ?_, fun t ht => h8 t (by simpa using ht), h9, by simpa using h10⟩
      have := h7 t fun q hq => ht q (by simp [hq])
      rwa [putS_ne (ht o (by simp))] at this
  | @stepN lg o rest fr frE h hE d0 u0 t0 hg hd0 hpr ho0 hs hp ih =>
    intro hn
    have hn' : (rest.filterMap (·.dst)).Nodup := by
      rw [List.filterMap_cons] at hn
      split at hn
      · exact hn
      · exact (List.nodup_cons.1 hn).2
    have hd : ∀ d, o.dst = some d → NoDst rest d := by
      intro d hd p hp' hpd
      rw [List.filterMap_cons, hd] at hn
      exact (List.nodup_cons.1 hn).1 (List.mem_filterMap.2 ⟨p, hp', hpd⟩)
    obtain ⟨h1, h2, Fr, H, h3, h4, h5⟩ := ih hn'
    rw [putS_length] at h1
    have hall : ∀ t, NoDst (o :: rest) t → Eqv ρ (fr.getD t .x) (frE.getD t .x) := fun t ht => by
      have := h2 t fun p hp' => ht p (List.mem_cons_of_mem _ hp')
      rwa [putS_ne (ht o (List.mem_cons_self ..))] at this
    refine ⟨h1, hall, fun j => match j with | 0 => fr | j + 1 => Fr j, fun j => match j with | 0 => h | j + 1 => H j, rfl, h4, fun j p hj => ?_⟩
    cases j with
    | zero =>
      simp at hj
      subst hj
      refine ⟨rfl, fun t _ => Eqv.refl _ _, fun t ht => hall t (by simpa using ht), .inr (.inr ⟨hg, h3, ho0, .inl ⟨d0, u0, t0, hd0, hpr, hs, ?_⟩⟩), by simp⟩
      have := h2 d0 (hd d0 hd0)
      rw [hd0, putS_at] at this
      by_cases hl : d0 < fr.length
      · rw [if_pos hl] at this; exact .inr this
      · left; simp [List.getD, ← h1, hl]
    | succ j =>
      obtain ⟨h6, h7, h8, h9, h10⟩ := h5 j p (by simpa using hj)
      refine ⟨by rw [h6, putS_length], fun t ht => ?_, fun t ht => h8 t (by simpa using ht), h9, by simpa using h10⟩
      have := h7 t fun q hq => ht q (by simp [hq])
      rwa [putS_ne (ht o (by simp))] at this
  | @stepE lg o rest fr frE h hE d0 d1 t0 s hg hd0 hpr hne ho0 hs hp ih =>
    intro hn
    have hn' : (rest.filterMap (·.dst)).Nodup := by
      rw [List.filterMap_cons] at hn
      split at hn
      · exact hn
      · exact (List.nodup_cons.1 hn).2
    have hd : ∀ d, o.dst = some d → NoDst rest d := by
      intro d hd p hp' hpd
      rw [List.filterMap_cons, hd] at hn
      exact (List.nodup_cons.1 hn).1 (List.mem_filterMap.2 ⟨p, hp', hpd⟩)
    obtain ⟨h1, h2, Fr, H, h3, h4, h5⟩ := ih hn'
    rw [putS_length] at h1
    have hall : ∀ t, NoDst (o :: rest) t → Eqv ρ (fr.getD t .x) (frE.getD t .x) := fun t ht => by
      have := h2 t fun p hp' => ht p (List.mem_cons_of_mem _ hp')
      rwa [putS_ne (ht o (List.mem_cons_self ..))] at this
    refine ⟨h1, hall, fun j => match j with | 0 => fr | j + 1 => Fr j, fun j => match j with | 0 => h | j + 1 => H j, rfl, h4, fun j p hj => ?_⟩
    cases j with
    | zero =>
      simp at hj
      subst hj
      refine ⟨rfl, fun t _ => Eqv.refl _ _, fun t ht => hall t (by simpa using ht), .inr (.inr ⟨hg, h3, ho0, .inr ⟨d0, d1, t0, s, hd0, hpr, hne, hs, ?_⟩⟩), by simp⟩
      have := h2 d0 (hd d0 hd0)
      rw [hd0, putS_at] at this
      by_cases hl : d0 < fr.length
      · rw [if_pos hl] at this; exact .inr this
      · left; simp [List.getD, ← h1, hl]
    | succ j =>
      obtain ⟨h6, h7, h8, h9, h10⟩ := h5 j p (by simpa using hj)
      refine ⟨by rw [h6, putS_length], fun t ht => ?_, fun t ht => h8 t (by simpa using ht), h9, by simpa using h10⟩
      have := h7 t fun q hq => ht q (by simp [hq])
      rwa [putS_ne (ht o (by simp))] at this

/-- the first operation that writes memory and is not listed, or the end -/
structure Mark (all : List Oper) (Lst : Nat → Bool) (m : Nat) : Prop where
  le : m ≤ all.length
  below : ∀ (j : Nat) (o : Oper), j < m → all[j]? = some o → isSt o = true → Lst j = true
  here : ∀ (o : Oper), all[m]? = some o → isSt o = true ∧ Lst m = false

theorem Mark.exists (all : List Oper) (Lst : Nat → Bool) : ∃ m, Mark all Lst m := by
  have key : ∀ (k : Nat), k ≤ all.length → (∀ (j : Nat) (o : Oper), j < all.length - k → all[j]? = some o → isSt o = true → Lst j = true) → ∃ m, Mark all Lst m := by
    intro k
    induction k with
    | zero => intro _ h; exact ⟨all.length, Nat.le_refl _, fun j o hj => h j o (by omega), fun o ho => by simp at ho⟩
    | succ k ih =>
      intro hk h
      have hi : all.length - (k + 1) < all.length := by omega
      by_cases hc : isSt all[all.length - (k + 1)] = true ∧ Lst (all.length - (k + 1)) = false
      · exact ⟨all.length - (k + 1), by omega, h, fun o ho => by rw [List.getElem?_eq_getElem hi] at ho; cases ho; exact hc⟩
      · refine ih (by omega) fun j o hj ho hco => ?_
        by_cases he : j = all.length - (k + 1)
        · subst he
          rw [List.getElem?_eq_getElem hi] at ho
          cases ho
          cases hl : Lst (all.length - (k + 1)) with
          | true => rfl
          | false => exact absurd ⟨hco, hl⟩ hc
        · exact h j o (by omega) ho hco
  exact key all.length (Nat.le_refl _) fun j o hj => by omega

theorem Mark.unique {all : List Oper} {Lst : Nat → Bool} {m m' : Nat} (h : Mark all Lst m) (h' : Mark all Lst m') : m = m' := by
  have key : ∀ {m m' : Nat}, Mark all Lst m → Mark all Lst m' → ¬ m < m' := by
    intro m m' h h' hlt
    have hi : m < all.length := by have := h'.le; omega
    have h1 := h.here _ (List.getElem?_eq_getElem hi)
    have h2 := h'.below m _ hlt (List.getElem?_eq_getElem hi) h1.1
    rw [h1.2] at h2
    cases h2
  have := key h h'
  have := key h' h
  omega

/-! ### heaps along the way -/

/-- the blocks that were made ahead of an operation, as they were made -/
def ibs (H : Nat → Heap) : Nat → Heap
  | 0 => []
  | j + 1 => ibs H j ++ (H (j + 1)).drop (H j).length
/-- the heap ahead of the operation m, the later blocks as they will be made -/
def PH (H : Nat → Heap) (n m : Nat) : Heap := H m ++ (ibs H n).drop ((H m).length - (H 0).length)

/-- what the operations do to the heap -/
def HS (all : List Oper) (H : Nat → Heap) : Prop := ∀ (j : Nat) (o : Oper), all[j]? = some o →
  (isSt o = false → H (j + 1) = H j ∨ (isAl o = true ∧ ∃ ls, H (j + 1) = H j ++ [{ ro := false, ls := ls }])) ∧ (isSt o = true → (H (j + 1)).length = (H j).length)

theorem HS.le {all : List Oper} {H : Nat → Heap} (hs : HS all H) {j : Nat} (hj : j < all.length) : (H j).length ≤ (H (j + 1)).length := by
  obtain ⟨h1, h2⟩ := hs j _ (List.getElem?_eq_getElem hj)
  cases hst : isSt all[j] with
  | true => rw [h2 hst]; exact Nat.le_refl _
  | false =>
    rcases h1 hst with h | ⟨_, ls, h⟩
    · rw [h]; exact Nat.le_refl _
    · rw [h]; simp

theorem HS.mono {all : List Oper} {H : Nat → Heap} (hs : HS all H) : ∀ {j m : Nat}, j ≤ m → m ≤ all.length → (H j).length ≤ (H m).length := by
  intro j m hjm
  induction m with
  | zero => intro _; have : j = 0 := by omega
            subst this; exact Nat.le_refl _
  | succ m ih =>
    intro hm
    by_cases he : j = m + 1
    · subst he; exact Nat.le_refl _
    · exact Nat.le_trans (ih (by omega) (by omega)) (hs.le (by omega))

theorem HS.ibs_len {all : List Oper} {H : Nat → Heap} (hs : HS all H) : ∀ {j : Nat}, j ≤ all.length → (ibs H j).length + (H 0).length = (H j).length
  | 0, _ => by simp [ibs]
  | j + 1, hj => by
    have h1 := hs.ibs_len (j := j) (by omega)
    have h2 := hs.le (j := j) (by omega)
    simp only [ibs, List.length_append, List.length_drop]
    omega

theorem ibs_pre {H : Nat → Heap} : ∀ {j m : Nat}, j ≤ m → ibs H j <+: ibs H m := by
  intro j m hjm
  induction m with
  | zero => have : j = 0 := by omega
            subst this; exact List.prefix_refl _
  | succ m ih =>
    by_cases he : j = m + 1
    · subst he; exact List.prefix_refl _
    · exact (ih (by omega)).trans (List.prefix_append _ _)

theorem HS.ph_same {all : List Oper} {H : Nat → Heap} (hs : HS all H) {j : Nat} {o : Oper} (ho : all[j]? = some o) (hst : isSt o = false) : PH H all.length (j + 1) = PH H all.length j := by
  have hj : j < all.length := (List.getElem?_eq_some_iff.1 ho).1
  rcases (hs j o ho).1 hst with h | ⟨_, ls, h⟩
  · unfold PH; rw [h]
  · have h1 := hs.ibs_len (j := j) (by omega)
    have h2 := hs.ibs_len (j := j + 1) hj
    have hib : ibs H (j + 1) = ibs H j ++ [{ ro := false, ls := ls }] := by simp [ibs, h]
    obtain ⟨r, hr⟩ := ibs_pre (H := H) (show j + 1 ≤ all.length from hj)
    unfold PH
    rw [← hr, hib, h]
    have e1 : (H j).length - (H 0).length = (ibs H j).length := by omega
    have e2 : (H j ++ [({ ro := false, ls := ls } : SB)]).length - (H 0).length = (ibs H j ++ [({ ro := false, ls := ls } : SB)]).length := by rw [← h, ← hib]; omega
    rw [e1, e2, List.drop_left, List.append_assoc (ibs H j), List.drop_left]
    simp

theorem HS.ph_run {all : List Oper} {H : Nat → Heap} (hs : HS all H) {j m : Nat} (hjm : j ≤ m) (hm : m ≤ all.length) (hn : ∀ k o, j ≤ k → k < m → all[k]? = some o → isSt o = false) : PH H all.length m = PH H all.length j := by
  induction m with
  | zero => have : j = 0 := by omega
            subst this; rfl
  | succ m ih =>
    by_cases he : j = m + 1
    · subst he; rfl
    · have hml : m < all.length := by omega
      rw [hs.ph_same (List.getElem?_eq_getElem hml) (hn m _ (by omega) (by omega) (List.getElem?_eq_getElem hml)), ih (by omega) (by omega) fun k o h1 h2 => hn k o h1 (by omega)]

theorem ph_pre {H : Nat → Heap} {n m : Nat} : H m <+: PH H n m := List.prefix_append _ _

/-! ### what is read and what is written -/

/-- two heaps are the same where something is looked at -/
def Agr (a : Acc) (h h' : Heap) : Prop :=
  match a with
  | none => True
  | some (b, lo, hi) => ∀ blk, h[b]? = some blk → ∃ blk', h'[b]? = some blk' ∧ blk'.ro = blk.ro ∧ blk'.ls.length = blk.ls.length ∧ ∀ q, lo ≤ q → (∀ x, hi = some x → q < x) → blk'.ls[q]? = blk.ls[q]?

theorem Agr.refl (a : Acc) (h : Heap) : Agr a h h := by
  unfold Agr
  split
  · trivial
  · exact fun blk hb => ⟨blk, hb, rfl, rfl, fun _ _ _ => rfl⟩

theorem Agr.trans {a : Acc} {h h' h'' : Heap} (h1 : Agr a h h') (h2 : Agr a h' h'') : Agr a h h'' := by
  unfold Agr at *
  split
  · trivial
  · rename_i b lo hi
    intro blk hb
    obtain ⟨blk', h3, h4, h5, h6⟩ := h1 blk hb
    obtain ⟨blk'', h7, h8, h9, h10⟩ := h2 blk' h3
    exact ⟨blk'', h7, h8.trans h4, h9.trans h5, fun q h11 h12 => (h10 q h11 h12).trans (h6 q h11 h12)⟩

theorem dynStore_out {base sz j : Nat} {i : Ex} {new : List SL} (hj : j + new.length ≤ sz) : ∀ {n : Nat} {ls ls' : List SL}, dynStore base sz i j new n ls = some ls' → base + n * sz ≤ ls.length → ls'.length = ls.length ∧ ∀ q, (q < base ∨ base + n * sz ≤ q) → ls'[q]? = ls[q]?
  | 0, ls, ls', h, _ => by
    simp only [dynStore, Option.some.injEq] at h
    subst h
    exact ⟨rfl, fun _ _ => rfl⟩
  | n + 1, ls, ls', h, hl => by
    rw [Nat.succ_mul] at hl
    simp only [dynStore] at h
    split at h
    · rename_i ls1 h1
      obtain ⟨h3, h4⟩ := dynStore_out hj h1 (by omega)
      split at h
      · rename_i r hr
        cases h
        have hrl : r.length = new.length := by
          unfold dynPut at hr
          split at hr
          · rename_i a b ha hb
            cases hr
            have e1 := congrArg List.length (exLs_get ha)
            have e2 := congrArg List.length (exLs_get hb)
            simp at e1 e2 ⊢
            omega
          · cases hr
        have hle : base + n * sz + j + r.length ≤ ls1.length := by omega
        refine ⟨by rw [over_length hle]; exact h3, fun q hq => ?_⟩
        rw [over_get hle]
        rw [Nat.succ_mul] at hq
        by_cases h5 : q < base + n * sz + j
        · rw [if_pos h5]
          exact h4 q (by omega)
        · rw [if_neg h5, if_neg (by omega)]
          exact h4 q (by omega)
      · cases h
    · cases h

theorem storeLs_agr {h h' : Heap} {new : List SL} {l : SL} {a : Acc} (hs : storeLs h new l = some h') (hd : disjA a (accOf new.length l) = true) : Agr a h h' ∧ Agr a h' h := by
  have go : ∀ (b0 lo hi : Nat) (blk : SB) (ls' : List SL), h[b0]? = some blk → ls'.length = blk.ls.length → (∀ q, (q < lo ∨ hi ≤ q) → ls'[q]? = blk.ls[q]?) → h' = h.set b0 { blk with ls := ls' } → accOf new.length l = some (b0, lo, some hi) → Agr a h h' ∧ Agr a h' h := by
    intro b0 lo hi blk ls' hb hlen hq he hacc
    subst he
    rw [hacc] at hd
    unfold Agr
    cases a with
    | none => exact ⟨trivial, trivial⟩
    | some x =>
      obtain ⟨b, lo', hi'⟩ := x
      simp only
      have hlt := (List.getElem?_eq_some_iff.1 hb).1
      by_cases hbb : b = b0
      · subst hbb
        simp only [disjA, bne_self_eq_false, Bool.false_or, Bool.or_eq_true, decide_eq_true_eq] at hd
        have hout : ∀ q, lo' ≤ q → (∀ x, hi' = some x → q < x) → ls'[q]? = blk.ls[q]? := by
          intro q h1 h2
          refine hq q ?_
          rcases hd with h3 | h3
          · cases hi' with
            | none => cases h3
            | some x => have := h2 x rfl; simp at h3; omega
          · omega
        refine ⟨fun blk1 h1 => ?_, fun blk1 h1 => ?_⟩
        · rw [hb] at h1
          cases h1
          exact ⟨{ blk with ls := ls' }, by simp [hlt], rfl, hlen, hout⟩
        · have : blk1 = { blk with ls := ls' } := by simpa [hlt] using h1.symm
          subst this
          exact ⟨blk, hb, rfl, hlen.symm, fun q h2 h3 => (hout q h2 h3).symm⟩
      · refine ⟨fun blk1 h1 => ⟨blk1, by rw [List.getElem?_set_ne (Ne.symm hbb)]; exact h1, rfl, rfl, fun _ _ _ => rfl⟩, fun blk1 h1 => ⟨blk1, by rwa [List.getElem?_set_ne (Ne.symm hbb)] at h1, rfl, rfl, fun _ _ _ => rfl⟩⟩
  cases l with
  | p r off =>
    cases r with
    | glo g => simp [storeLs] at hs
    | loc b =>
      simp only [storeLs] at hs
      split at hs
      · rename_i blk hblk
        split at hs
        · rename_i hc
          simp only [Bool.and_eq_true, Bool.not_eq_true', decide_eq_true_eq] at hc
          cases hs
          refine go b off (off + new.length) blk _ hblk (over_length hc.2) (fun q hq => ?_) rfl rfl
          rw [over_get hc.2]
          rcases hq with h1 | h1
          · rw [if_pos h1]
          · rw [if_neg (by omega), if_neg (by omega)]
        · cases hs
      · cases hs
  | dyn r base sz n i j =>
    cases r with
    | glo g => simp [storeLs] at hs
    | loc b =>
      simp only [storeLs] at hs
      split at hs
      · rename_i blk hblk
        split at hs
        · rename_i hc
          simp only [Bool.and_eq_true, Bool.not_eq_true', decide_eq_true_eq] at hc
          split at hs
          · rename_i ls' hls'
            cases hs
            obtain ⟨h1, h2⟩ := dynStore_out hc.1.2 hls' hc.2
            exact go b base (base + n * sz) blk _ hblk h1 h2 rfl rfl
          · cases hs
        · cases hs
      · cases hs
  | _ => simp [storeLs] at hs

theorem storeLs_pad {h h' : Heap} {new : List SL} {l : SL} (r : Heap) (hs : storeLs h new l = some h') : storeLs (h ++ r) new l = some (h' ++ r) := by
  have hset : ∀ (b : Nat) (blk blk' : SB), h[b]? = some blk → (h ++ r).set b blk' = h.set b blk' ++ r := fun b blk blk' hb => by
    rw [List.set_append_left _ _ (List.getElem?_eq_some_iff.1 hb).1]
  have hget : ∀ (b : Nat) (blk : SB), h[b]? = some blk → (h ++ r)[b]? = some blk := fun b blk hb => by
    rw [List.getElem?_append_left (List.getElem?_eq_some_iff.1 hb).1]; exact hb
  cases l with
  | p q off =>
    cases q with
    | glo g => simp [storeLs] at hs
    | loc b =>
      simp only [storeLs] at hs ⊢
      split at hs
      · rename_i blk hblk
        rw [hget b blk hblk]
        simp only
        split at hs
        · rename_i hc
          cases hs
          rw [if_pos hc, hset b blk _ hblk]
        · cases hs
      · cases hs
  | dyn q base sz n i j =>
    cases q with
    | glo g => simp [storeLs] at hs
    | loc b =>
      simp only [storeLs] at hs ⊢
      split at hs
      · rename_i blk hblk
        rw [hget b blk hblk]
        simp only
        split at hs
        · rename_i hc
          rw [if_pos hc]
          split at hs
          · rename_i ls' hls'
            cases hs
            rw [hset b blk _ hblk]
          · cases hs
        · cases hs
      · cases hs
  | _ => simp [storeLs] at hs

theorem optAll_map_congr {α β : Type} {f g : α → Option β} : ∀ {l : List α}, (∀ x ∈ l, f x = g x) → optAll (l.map f) = optAll (l.map g)
  | [], _ => rfl
  | x :: l, h => by
    have h1 := h x (List.mem_cons_self ..)
    have h2 := optAll_map_congr (l := l) fun y hy => h y (List.mem_cons_of_mem _ hy)
    simp only [List.map_cons, h1]
    cases g x with
    | none => simp [optAll]
    | some y => simp [optAll, h2]

theorem loadLs_agr {G : Glo} {h h' : Heap} {m : Nat} {l : SL} {ls : List SL} (ha : Agr (accOf m l) h h') (hl : loadLs G h m l = some ls) : loadLs G h' m l = some ls := by
  cases l with
  | p r off =>
    cases r with
    | glo g => exact hl
    | loc b =>
      simp only [loadLs, leavesAt] at hl ⊢
      cases hb : h[b]? with
      | none => rw [hb] at hl; cases hl
      | some blk =>
        rw [hb] at hl
        simp only at hl
        obtain ⟨blk', h1, _, h2, h3⟩ := ha blk hb
        rw [h1]
        simp only
        split at hl
        · rename_i hle
          cases hl
          rw [if_pos (by omega)]
          congr 1
          apply List.ext_getElem?
          intro q
          rw [List.getElem?_take, List.getElem?_take]
          split
          · rename_i hq
            rw [List.getElem?_drop, List.getElem?_drop]
            exact h3 _ (by omega) fun x hx => by cases hx; omega
          · rfl
        · cases hl
  | dyn r base sz n i j =>
    cases r with
    | glo g => exact hl
    | loc b =>
      simp only [loadLs, leavesAt] at hl ⊢
      cases hb : h[b]? with
      | none => rw [hb] at hl; cases hl
      | some blk =>
        rw [hb] at hl
        simp only at hl
        obtain ⟨blk', h1, _, h2, h3⟩ := ha blk hb
        rw [h1]
        simp only
        split at hl
        · rename_i hc
          rw [if_pos (by rw [h2]; exact hc), ← hl]
          refine optAll_map_congr fun q hq => ?_
          have hqm : q < m := by simpa using hq
          unfold dynSel
          have : ((List.range n).map fun k => blk'.ls.getD (base + k * sz + (j + q)) .x) = (List.range n).map fun k => blk.ls.getD (base + k * sz + (j + q)) .x := by
            refine List.map_congr_left fun k hk => ?_
            have hkn : k < n := by simpa using hk
            have : (k + 1) * sz ≤ n * sz := Nat.mul_le_mul_right _ hkn
            rw [Nat.succ_mul] at this
            rw [List.getD_eq_getElem?_getD, List.getD_eq_getElem?_getD, h3 _ (by omega) fun x hx => by cases hx; omega]
          rw [this]
        · cases hl
  | _ => exact hl

theorem simple_load_agr {P : Program} {G : Glo} {fr : List S} {h h' h1 h2 : Heap} {o : Oper} {t : TypeId} {x : Operand} {cs : List Ex} {s : S} (ho : o.op = .load t x) (ha : Agr (opAcc P fr h2 o) h h') (hs : simple P G fr h (.load t x) = some (cs, s, h1)) :
    simple P G fr h' (.load t x) = some (cs, s, h') := by
  simp only [opAcc, ho] at ha
  simp only [simple] at hs ⊢
  split at hs
  · rename_i l n hl hg hn
    rw [hl, hg, hn] at ha
    simp only [if_true] at ha
    split at hs
    · rename_i ls hls
      simp only [Option.some.injEq, Prod.mk.injEq] at hs
      obtain ⟨rfl, rfl, rfl⟩ := hs
      rw [loadLs_agr ha hls]
    · cases hs
  · rename_i l n hl hg hn
    rw [hl, hg, hn] at ha
    simp only [Bool.false_eq_true, if_false] at ha
    split at hs
    · rename_i ls hls
      simp only [Option.some.injEq, Prod.mk.injEq] at hs
      obtain ⟨rfl, rfl, rfl⟩ := hs
      rw [loadLs_agr ha hls]
    · cases hs
  · cases hs

theorem simple_store_inv {P : Program} {G : Glo} {fr : List S} {h h1 : Heap} {o : Oper} {cs : List Ex} {s : S} (hst : isSt o = true) (hs : simple P G fr h o.op = some (cs, s, h1)) :
    (∀ a h2, disjA a (opAcc P fr h2 o) = true → Agr a h h1 ∧ Agr a h1 h) ∧ (∀ r, simple P G fr (h ++ r) o.op = some (cs, s, h1 ++ r)) ∧ h1.length = h.length := by
  unfold isSt at hst
  cases ho : o.op with
  | store t x y =>
    rw [ho] at hs
    simp only [simple] at hs ⊢
    simp only [opAcc, ho]
    split at hs
    · rename_i l g ls n hl hls hn
      split at hs
      · rename_i hlen
        split at hs
        · rename_i h2 hst2
          simp only [Option.some.injEq, Prod.mk.injEq] at hs
          obtain ⟨rfl, rfl, rfl⟩ := hs
          refine ⟨fun a h3 hd => ?_, fun r => ?_, ?_⟩
          · rw [hl, hn] at hd
            simp only at hd
            rw [← hlen] at hd
            exact storeLs_agr hst2 hd
          · rw [storeLs_pad r hst2, if_pos hlen]
          · unfold storeLs at hst2
            split at hst2
            · split at hst2
              · split at hst2
                · cases hst2; simp
                · cases hst2
              · cases hst2
            · split at hst2
              · split at hst2
                · split at hst2
                  · cases hst2; simp
                  · cases hst2
                · cases hst2
              · cases hst2
            · cases hst2
        · cases hs
      · cases hs
    · cases hs
  | _ => rw [ho] at hst; cases hst

section
variable {G : Glo} {B : Nat} {I₀ : Imm} {w₀ : World}

/-- a store makes no block -/
theorem store_stays {P : Program} {ρ : List D} {h h' : Heap} {I : Imm} {μ : Mu} {w : World} (hW : WR G B I₀ w₀ I μ w ρ h) {fr : List S} {a : Act} {o : Oper} {cs : List Ex} {s : S} (hop : ∀ x, SR I μ w ρ (opd fr x) (a.eval x))
    (hso : isSt o = true) (hs : simple P G fr h o.op = some (cs, s, h')) : ∃ w', (execOp a.eval o).run P w = .ok .skip w' ∧ SR I μ w' ρ s undef ∧ WR G B I₀ w₀ I μ w' ρ h' ∧ Evo I μ w I μ w' := by
  unfold isSt at hso
  cases ho : o.op with
  | store t x y =>
    rw [ho] at hs
    simp only [simple] at hs
    split at hs
    · rename_i l g ls n hl hls hn
      split at hs
      · rename_i hlen
        split at hs
        · rename_i h1 hst
          simp only [Option.some.injEq, Prod.mk.injEq] at hs
          obtain ⟨rfl, rfl, rfl⟩ := hs
          have hy := hop y
          rw [hls] at hy
          obtain ⟨vs, hc, hv⟩ := VR.cells (g := g) hy
          obtain ⟨x', off, hp, w', hrun, hW', he⟩ := storeLs_sound (P := P) hW hst (l?_sound hl (hop x)) hv
          refine ⟨w', ?_, trivial, hW', he⟩
          have hvl := hv.length
          simp [execOp, ho, Instr.storeAt, Instr.sureAddr, hp, storeVar, hc, run_sizeT hn, hrun, ← hvl, hlen]
        · cases hs
      · cases hs
    · cases hs
  | _ => rw [ho] at hso; cases hso

theorem store_own {P : Program} {ρ : List D} {h h' : Heap} {I : Imm} {μ : Mu} {w : World} {o0 : Own} (hW : WR G B I₀ w₀ I μ w ρ h) (hO : OwnR B I μ w ρ o0) {fr : List S} {a : Act} {o : Oper} {cs : List Ex} {s : S} (hop : ∀ x, SR I μ w ρ (opd fr x) (a.eval x))
    (hso : isSt o = true) (hs : simple P G fr h o.op = some (cs, s, h')) : ∃ w', (execOp a.eval o).run P w = .ok .skip w' ∧ SR I μ w' ρ s undef ∧ WR G B I₀ w₀ I μ w' ρ h' ∧ Evo I μ w I μ w' ∧ OwnR B I μ w' ρ o0 := by
  obtain ⟨w', hrun, hsr, hW', he⟩ := store_stays (P := P) hW hop hso hs
  obtain ⟨hW2, he2⟩ := hW.more hO.blocks
  obtain ⟨w2, hrun2, _, _, he3⟩ := store_stays (P := P) hW2 (fun x => (hop x).mono he2 (List.prefix_refl _)) hso hs
  rw [hrun] at hrun2
  cases hrun2
  exact ⟨w', hrun, hsr, hW', he, hO.frame he (Fresh.refl _ _) (fun x hx => .inl hx) fun k t v x hk hv hx => he3.same x (.inr ⟨k, t, v, hk, hv, hx⟩)⟩

/-- is the call with this slot listed? -/
def lstD (all : List Oper) (Lst : Nat → Bool) (d : Nat) : Bool := (List.range all.length).any fun i => Lst i && (match all[i]? with | some o => o.dst == some d | none => false)
/-- the slices of the call's own behind the region -/
def pnO (o : Own) : Option (Nat × Option Nat × Ex) → Own
  | some (_, u, t) => [⟨t, if u.isSome then .dead else .live⟩]
  | none => o
/-- the slices of the call's own, when these operations are listed -/
def oL (o0 : OwP) (all : List Oper) (Lst : Nat → Bool) : Own :=
  if o0.o.isEmpty then match o0.pr with
    | some (d1, u, t) => if lstD all Lst d1 then [⟨t, match u with | some d2 => if lstD all Lst d2 then .dead else .live | none => .live⟩] else []
    | none => []
  else o0.o
theorem lstD_iff {all : List Oper} {Lst : Nat → Bool} {d : Nat} : lstD all Lst d = true ↔ ∃ i o, all[i]? = some o ∧ o.dst = some d ∧ Lst i = true := by
  unfold lstD
  rw [List.any_eq_true]
  constructor
  · rintro ⟨i, hi, h⟩
    rw [Bool.and_eq_true] at h
    obtain ⟨h1, h2⟩ := h
    split at h2
    · rename_i o ho
      exact ⟨i, o, ho, by simpa using h2, h1⟩
    · cases h2
  · rintro ⟨i, o, ho, hd, hl⟩
    refine ⟨i, List.mem_range.2 (List.getElem?_eq_some_iff.1 ho).1, ?_⟩
    rw [ho, hl]
    simp [hd]
theorem lstD_other {all : List Oper} {Lst : Nat → Bool} {d i : Nat} {o : Oper} (ho : all[i]? = some o) (hd : o.dst ≠ some d) : lstD all (fun j => if j = i then true else Lst j) d = lstD all Lst d := by
  rw [Bool.eq_iff_iff, lstD_iff, lstD_iff]
  constructor
  · rintro ⟨j, p, hp, hpd, hl⟩
    by_cases hj : j = i
    · subst hj
      rw [ho] at hp
      cases hp
      exact absurd hpd hd
    · exact ⟨j, p, hp, hpd, by simpa [hj] using hl⟩
  · rintro ⟨j, p, hp, hpd, hl⟩
    exact ⟨j, p, hp, hpd, by simp [hl]⟩
theorem lstD_self {all : List Oper} {Lst : Nat → Bool} {d i : Nat} {o : Oper} (ho : all[i]? = some o) (hd : o.dst = some d) : lstD all (fun j => if j = i then true else Lst j) d = true :=
  lstD_iff.2 ⟨i, o, ho, hd, by simp⟩
theorem lstD_not {all : List Oper} {Lst : Nat → Bool} {d i : Nat} {o : Oper} (hnd : ∀ (i j : Nat) (o p : Oper) (t : Tmp), all[i]? = some o → all[j]? = some p → o.dst = some t → p.dst = some t → i = j) (ho : all[i]? = some o) (hd : o.dst = some d) (hl : Lst i = false) : lstD all Lst d = false := by
  rw [Bool.eq_false_iff]
  intro h
  obtain ⟨j, p, hp, hpd, hl'⟩ := lstD_iff.1 h
  have := hnd i j o p d ho hp hd hpd
  subst this
  rw [hl] at hl'
  cases hl'
theorem oL_upd {o0 : OwP} {all : List Oper} {Lst : Nat → Bool} {i : Nat} {o : Oper} (ho : all[i]? = some o) (hP : isP o0 o = false) : oL o0 all (fun j => if j = i then true else Lst j) = oL o0 all Lst := by
  unfold oL isP at *
  rw [List.any_eq_false] at hP
  split
  · cases hpr : o0.pr with
    | none => rfl
    | some q =>
      obtain ⟨d1, u, t⟩ := q
      rw [hpr] at hP
      cases u with
      | none =>
        have h1 : o.dst ≠ some d1 := by simpa using hP d1 (by simp [pnDs])
        simp only [lstD_other ho h1]
      | some d2 =>
        have h1 : o.dst ≠ some d1 := by simpa using hP d1 (by simp [pnDs])
        have h2 : o.dst ≠ some d2 := by simpa using hP d2 (by simp [pnDs])
        simp only [lstD_other ho h1, lstD_other ho h2]
  · rfl
theorem exLs_fix {o : Own} : ∀ {ls : List SL} {es : List Ex}, exLs (ls.map (fixL [])) = some es → ls.map (fixL o) = ls.map (fixL [])
  | [], _, _ => rfl
  | l :: r, es, h => by
    cases l with
    | e x =>
      simp only [List.map_cons, fixL, exLs] at h ⊢
      split at h
      · rename_i z hz
        rw [exLs_fix hz]
      · cases h
    | g k => simp [fixL, exLs] at h
    | x => simp [fixL, exLs] at h
    | p a b => simp [fixL, exLs] at h
    | dyn a b c d e f => simp [fixL, exLs] at h
    | clo a b => simp [fixL, exLs] at h
    | ge a b c d => simp [fixL, exLs] at h
    | elt a b c d => simp [fixL, exLs] at h
    | gs a b c => simp [fixL, exLs] at h
    | sc a b c d => simp [fixL, exLs] at h
theorem exVs_fix {o : Own} : ∀ {ps : List (Bool × List SL)} {xs : List XV}, exVs (fixVs [] ps) = some xs → fixVs o ps = fixVs [] ps
  | [], _, _ => rfl
  | (g, ls) :: r, xs, h => by
    simp only [fixVs, List.map_cons, exVs] at h ⊢
    split at h
    · rename_i es vs h1 h2
      have h3 := exVs_fix (o := o) (ps := r) (xs := vs) (by unfold fixVs; exact h2)
      unfold fixVs at h3
      rw [exLs_fix h1, h3]
    · cases h
theorem ownQ_nil {P : Program} {G : Glo} {fr : List S} {h : Heap} {op : Op} : ownQ P G fr h [] op = none := by
  unfold ownQ
  split
  · rename_i t a i
    have : ownOp P G fr h [] (.indexAddr t a i) = none := by
      have hl : ∀ k, Own.live? ([] : Own) k = none := fun k => by simp [Own.live?]
      unfold ownOp
      simp only [hl]
      split <;> (try rfl) <;> split <;> simp_all
    rw [this]; rfl
  · rename_i t a
    have : ownOp P G fr h [] (.load t a) = none := by
      have hl : ∀ k, Own.live? ([] : Own) k = none := fun k => by simp [Own.live?]
      unfold ownOp
      simp only [hl]
      split <;> (try rfl) <;> split <;> simp_all
    rw [this]; rfl
  · rfl

structure AnyInv (all : List Oper) (fr0 frE : List S) (H : Nat → Heap) (o0 : OwP) (G : Glo) (B : Nat) (I₀ : Imm) (w₀ : World) (ρ : List D) (Lst : Nat → Bool) (I : Imm) (μ : Mu) (w : World) (a : Act) : Prop where
  len : frE.length = a.tmps.size
  df : a.defers = []
  f1 : ∀ t, NoDst all t → SR I μ w ρ (fr0.getD t .x) (a.tmps.getD t undef)
  f2 : ∀ (i : Nat) (o : Oper) (t : Nat), all[i]? = some o → o.dst = some t → Lst i = true → SR I μ w ρ (frE.getD t .x) (a.tmps.getD t undef)
  f3 : ∀ (i : Nat) (o : Oper) (t : Nat), all[i]? = some o → o.dst = some t → Lst i = false → isC o = true → SR I μ w ρ (fr0.getD t .x) (a.tmps.getD t undef)
  wr : ∀ m, Mark all Lst m → WR G B I₀ w₀ I μ w ρ (PH H all.length m)
  own : OwnR B I μ w ρ (oL o0 all Lst)
  al : ∀ (i : Nat) (o : Oper), all[i]? = some o → isAl o = true → (H (i + 1)).length ≠ (H i).length → Lst i = false → μ (H i).length = none
  cl : ∀ (i : Nat) (o : Oper), all[i]? = some o → Lst i = true → ∀ e ∈ bindsOn o, Lst e = true

def upd (Lst : Nat → Bool) (i : Nat) : Nat → Bool := fun j => if j = i then true else Lst j
theorem upd_self {Lst : Nat → Bool} {i : Nat} : upd Lst i i = true := by simp [upd]
theorem upd_ne {Lst : Nat → Bool} {i j : Nat} (h : j ≠ i) : upd Lst i j = Lst j := by simp [upd, h]

theorem put_ne {a : Act} {d : Option Tmp} {v : Value} {t : Nat} (h : d ≠ some t) : (a.put d v).tmps.getD t undef = a.tmps.getD t undef := by
  cases d with
  | none => rfl
  | some k =>
    have hk : k ≠ t := fun e => h (by rw [e])
    simp [Act.put, Array.getD_eq_getD_getElem?, Array.getElem?_setIfInBounds_ne hk]
theorem put_at {a : Act} {v : Value} {t : Nat} (h : t < a.tmps.size) : (a.put (some t) v).tmps.getD t undef = v := by
  simp [Act.put, Array.getD_eq_getD_getElem?, h]
theorem put_size (a : Act) (d : Option Tmp) (v : Value) : (a.put d v).tmps.size = a.tmps.size := by
  cases d <;> simp [Act.put]

theorem AnyInv.next {all : List Oper} {fr0 frE : List S} {H : Nat → Heap} {o0 : OwP} {ρ : List D} {Lst : Nat → Bool} {I I' : Imm} {μ μ' : Mu} {w w' : World} {a : Act} (hok : DrawOK all)
    (inv : AnyInv all fr0 frE H o0 G B I₀ w₀ ρ Lst I μ w a) {i : Nat} {o : Oper} (ho : all[i]? = some o) (hnl : Lst i = false) (hrd : ∀ e ∈ bindsOn o, Lst e = true) (he : Evo I μ w I' μ' w') {v : Value}
    (hv : ∀ d, o.dst = some d → frE.getD d .x = .x ∨ SR I' μ' w' ρ (frE.getD d .x) v) (hwr : ∀ m, Mark all (upd Lst i) m → WR G B I₀ w₀ I' μ' w' ρ (PH H all.length m)) (hown : OwnR B I' μ' w' ρ (oL o0 all (upd Lst i)))
    (hal : ∀ (j : Nat) (p : Oper), all[j]? = some p → isAl p = true → (H (j + 1)).length ≠ (H j).length → upd Lst i j = false → μ' (H j).length = none) : AnyInv all fr0 frE H o0 G B I₀ w₀ ρ (upd Lst i) I' μ' w' (a.put o.dst v) := by
  have mono : ∀ {s : S} {u : Value}, SR I μ w ρ s u → SR I' μ' w' ρ s u := fun h => h.mono he (List.prefix_refl _)
  have hother : ∀ (j : Nat) (p : Oper) (t : Nat), all[j]? = some p → p.dst = some t → j ≠ i → o.dst ≠ some t := fun j p t hp ht hj hd => hj (hok.nd j i p o t hp ho ht hd)
  refine ⟨by rw [put_size]; exact inv.len, by cases hd : o.dst <;> simpa [Act.put, hd] using inv.df, fun t ht => ?_, fun j p t hp ht hl => ?_, fun j p t hp ht hl hc => ?_, hwr, hown, hal, fun j p hp hl e hem => ?_⟩
  · rw [put_ne (ht o (List.mem_of_getElem? ho))]
    exact mono (inv.f1 t ht)
  · by_cases hj : j = i
    · subst hj
      rw [ho] at hp
      cases hp
      by_cases hs : t < a.tmps.size
      · rw [ht, put_at hs]
        rcases hv t ht with h | h
        · rw [h]; trivial
        · exact h
      · have : frE.getD t .x = .x := by simp [List.getD, inv.len, hs]
        rw [this]
        trivial
    · rw [upd_ne hj] at hl
      rw [put_ne (hother j p t hp ht hj)]
      exact mono (inv.f2 j p t hp ht hl)
  · have hj : j ≠ i := fun e => by subst e; rw [upd_self] at hl; cases hl
    rw [upd_ne hj] at hl
    rw [put_ne (hother j p t hp ht hj)]
    exact mono (inv.f3 j p t hp ht hl hc)
  · have h' : Lst e = true := by
      by_cases hj : j = i
      · subst hj
        rw [ho] at hp
        cases hp
        exact hrd e hem
      · rw [upd_ne hj] at hl
        exact inv.cl j p hp hl e hem
    unfold upd
    split
    · rfl
    · exact h'

theorem Mark.upd_other {all : List Oper} {Lst : Nat → Bool} {i m : Nat} {o : Oper} (ho : all[i]? = some o) (hc : isSt o = false) (h : Mark all (upd Lst i) m) : Mark all Lst m := by
  refine ⟨h.le, fun j p hj hp hcp => ?_, fun p hp => ?_⟩
  · have := h.below j p hj hp hcp
    rwa [upd_ne (fun e => by subst e; rw [ho] at hp; cases hp; rw [hc] at hcp; cases hcp)] at this
  · obtain ⟨h1, h2⟩ := h.here p hp
    refine ⟨h1, ?_⟩
    rwa [upd_ne (fun e => by subst e; rw [ho] at hp; cases hp; rw [hc] at h1; cases h1)] at h2

/-- The operands' temporaries hold what the text's order would have laid there. -/
theorem AnyInv.reads {all : List Oper} {fr0 frE : List S} {H : Nat → Heap} {o0 : OwP} {ρ : List D} {Lst : Nat → Bool} {I : Imm} {μ : Mu} {w : World} {a : Act} (hok : DrawOK all)
    (inv : AnyInv all fr0 frE H o0 G B I₀ w₀ ρ Lst I μ w a) {i : Nat} {o : Oper} (ho : all[i]? = some o) (hnl : Lst i = false) (hrd : ∀ e ∈ bindsOn o, Lst e = true) {fri : List S}
    (ha : ∀ t, NoDst (all.take i) t → Eqv ρ (fr0.getD t .x) (fri.getD t .x)) (hb : ∀ t, NoDst (all.drop i) t → Eqv ρ (fri.getD t .x) (frE.getD t .x)) {t : Nat} (ht : t ∈ readsT o) :
    SR I μ w ρ (fri.getD t .x) (a.tmps.getD t undef) := by
  by_cases hn : NoDst all t
  · exact (ha t (fun p hp => hn p (List.mem_of_mem_take hp)) I μ w _).1 (inv.f1 t hn)
  · have hn' : ∃ p ∈ all, p.dst = some t := by
      by_cases h' : ∃ p ∈ all, p.dst = some t
      · exact h'
      · exact absurd (fun p hp hd => h' ⟨p, hp, hd⟩) hn
    obtain ⟨p, hpm, hpd⟩ := hn'
    obtain ⟨j, hj⟩ := List.getElem?_of_mem hpm
    obtain ⟨hc1, hc0⟩ := hok.e2 i o ho t ht j p hj hpd
    cases hc : isC p with
    | true =>
      have hi := hc1 hc
      have hlt : i < j := hok.e1 j p hj i hi
      have hjn : Lst j = false := by
        cases hl : Lst j with
        | false => rfl
        | true => have := inv.cl j p hj hl i hi; rw [hnl] at this; cases this
      refine (ha t (fun q hq hqd => ?_) I μ w _).1 (inv.f3 j p t hj hpd hjn hc)
      obtain ⟨k, hk⟩ := List.getElem?_of_mem hq
      rw [List.getElem?_take] at hk
      split at hk
      · rename_i hki
        have := hok.nd k j q p t hk hj hqd hpd
        omega
      · cases hk
    | false =>
      have hjb := hc0 hc
      have hlt : j < i := hok.e1 i o ho j hjb
      refine (hb t (fun q hq hqd => ?_) I μ w _).2 (inv.f2 j p t hj hpd (hrd j hjb))
      obtain ⟨k, hk⟩ := List.getElem?_of_mem hq
      rw [List.getElem?_drop] at hk
      have := hok.nd (i + k) j q p t hk hj hqd hpd
      omega

theorem AnyInv.frame {all : List Oper} {fr0 frE : List S} {H : Nat → Heap} {o0 : OwP} {ρ : List D} {Lst : Nat → Bool} {I : Imm} {μ : Mu} {w : World} {a : Act} (hok : DrawOK all)
    (inv : AnyInv all fr0 frE H o0 G B I₀ w₀ ρ Lst I μ w a) {i : Nat} {o : Oper} (ho : all[i]? = some o) (hnl : Lst i = false) (hrd : ∀ e ∈ bindsOn o, Lst e = true) {fri : List S} (hlen : fri.length = frE.length)
    (ha : ∀ t, NoDst (all.take i) t → Eqv ρ (fr0.getD t .x) (fri.getD t .x)) (hb : ∀ t, NoDst (all.drop i) t → Eqv ρ (fri.getD t .x) (frE.getD t .x)) :
    ∃ fr', FR I μ w ρ fr' a ∧ ∀ x ∈ o.op.operands.toList, opd fri x = opd fr' x := by
  refine ⟨(List.range a.tmps.size).map fun t => if t ∈ readsT o then fri.getD t .x else .x, ⟨by simp, fun t => ?_⟩, fun x hx => ?_⟩
  · by_cases htl : t < a.tmps.size
    · have : ((List.range a.tmps.size).map fun t => if t ∈ readsT o then fri.getD t .x else .x).getD t .x = if t ∈ readsT o then fri.getD t .x else .x := by
        simp [List.getD, htl]
      rw [this]
      by_cases hm : t ∈ readsT o
      · rw [if_pos hm]
        exact inv.reads hok ho hnl hrd ha hb hm
      · rw [if_neg hm]
        trivial
    · have : ((List.range a.tmps.size).map fun t => if t ∈ readsT o then fri.getD t .x else .x).getD t .x = .x := by
        simp [List.getD, htl]
      rw [this]
      trivial
  · cases x with
    | tmp t =>
      have hm : t ∈ readsT o := by
        unfold readsT
        exact List.mem_filterMap.2 ⟨_, hx, rfl⟩
      simp only [opd]
      by_cases htl : t < a.tmps.size
      · simp [List.getD, htl, hm]
      · have h1 : ¬ t < fri.length := by rw [hlen, inv.len]; exact htl
        simp [List.getD, htl, h1]
    | const v => rfl
    | global g => rfl
    | func f => rfl

/-- what is neither reckoned nor simple nor a plain call: a new slice, or a call that is handed variables -/
def Other (C : Con) (E : Env) (o0 : OwP) (all : List Oper) (ρ : List D) (o : Oper) (fr : List S) (h : Heap) (s : S) : Prop :=
  (∃ cs t u d, freshOp E.P E.G all fr o = some (cs, t) ∧ (∀ c ∈ cs, c.eval ρ = some (.b true)) ∧ t.eval ρ = some d ∧ u.eval ρ = some d ∧ s = .val false [.e u]) ∨
  (∃ (f : FuncId) (g : Operand) (args : Array Operand) (tys : Array TypeId) (caps cs : List (BR × Nat)) (as : List S) (ps : List (Bool × List SL)) (xs cvs : List XV) (az caz rs : List DV) (k : Nat), o.op = .call { callee := .value g, args := args, argTypes := tys } ∧ CalleeK (opd fr g) f caps ∧
    splitCaps (args.toList.map (opd fr) ++ caps.map fun c => .val false [.p c.1 c.2]) = (as, cs) ∧ argsOf as = some ps ∧ exVs ps = some xs ∧ evalVs ρ xs = some az ∧ capsX h cs = some cvs ∧ evalVs ρ cvs = some caz ∧ all.all (fun o => !isSt o) = true ∧
    C (capOff + f) ((false, [.i .i64 (cs.length : Int)]) :: (az ++ caz)) rs ∧ ((∃ fn, E.P.funcs[f]? = some fn ∧ fn.body.isNone = false ∧ (fn.name == "runtime.NumGoroutine") = false) ∧ f < eatOff) ∧ VarsAt ρ k (leavesOf rs) ∧ s = tupS (shapeVs k (shapeOf rs))) ∨
  (∃ (f : FuncId) (g : Operand) (args : Array Operand) (tys : Array TypeId) (ps : List (Bool × List SL)) (xs : List XV) (az rs : List DV) (k : Nat), o.op = .call { callee := .value g, args := args, argTypes := tys } ∧ Callee (opd fr g) f ∧ argsOf (args.toList.map (opd fr)) = some ps ∧
      exVs (fixVs (frz (idsVs ps) o0.o) ps) = some xs ∧ evalVs ρ xs = some az ∧ C f az rs ∧ ((∃ fn, E.P.funcs[f]? = some fn ∧ fn.body.isNone = false ∧ (fn.name == "runtime.NumGoroutine") = false) ∧ f < eatOff) ∧ VarsAt ρ k (leavesOf rs) ∧ (∀ d ∈ leavesOf rs, d.plain) ∧ s = tupS (shapeVs k (shapeOf rs))) ∨
  (∃ cs, ownQ E.P E.G fr h o0.o o.op = some (cs, s) ∧ ∀ c ∈ cs, c.eval ρ = some (.b true))

theorem freshOp_op {P : Program} {G : Glo} {all : List Oper} {fr : List S} {o : Oper} {cs : List Ex} {t : Ex} (h : freshOp P G all fr o = some (cs, t)) :
    (ownOp P G (fr.map pureS) [] [] o.op = some (cs, .val false [.g 0], [⟨t, .live⟩]) ∧ ((∃ ty n parts, o.op = .buildSlice ty n parts) ∨ ∃ ty a b, o.op = .makeSlice ty a b)) ∨
    (zapp P fr o = some (cs, t) ∧ ∃ args tys, o.op = .call { callee := .builtin .append, args := args, argTypes := tys }) := by
  unfold freshOp at h
  split at h
  · rename_i ty n parts ho
    split at h
    · split at h
      · rename_i cs' t' hw
        cases h
        exact .inl ⟨by rw [ho]; exact hw, .inl ⟨_, _, _, ho⟩⟩
      · cases h
    · cases h
  · rename_i ty a b ho
    split at h
    · split at h
      · rename_i cs' t' hw
        cases h
        exact .inl ⟨by rw [ho]; exact hw, .inr ⟨_, _, _, ho⟩⟩
      · cases h
    · cases h
  · refine .inr ⟨h, ?_⟩
    unfold zapp at h
    split at h
    · rename_i args tys ho
      exact ⟨_, _, ho⟩
    · cases h

theorem Other.not_store {o0 : OwP} {all : List Oper} {ρ : List D} {o : Oper} {fr : List S} {h : Heap} {s : S} (ho : Other C E o0 all ρ o fr h s) : isSt o = false := by
  rcases ho with ⟨_, _, _, _, hf, _⟩ | ⟨_, _, _, _, _, _, _, _, _, _, _, _, _, _, ho, _⟩ | ⟨_, _, _, _, _, _, _, _, _, ho, _⟩ | ⟨_, hq, _⟩
  · rcases freshOp_op hf with ⟨_, ⟨_, _, _, h⟩ | ⟨_, _, _, h⟩⟩ | ⟨_, _, _, h⟩ <;> simp [isSt, h]
  · simp [isSt, ho]
  · simp [isSt, ho]
  · unfold ownQ at hq
    unfold isSt
    split at hq
    · rename_i ho; simp [ho]
    · rename_i ho; simp [ho]
    · cases hq

theorem step_inv {o0 : OwP} {all : List Oper} {ρ : List D} {o : Oper} {fr : List S} {h h' : Heap} {s : S} (hs : Step C E o0 all ρ o fr h s h') :
    (∃ t u d, arith E.P fr o.op = some t ∧ t.eval ρ = some d ∧ u.eval ρ = some d ∧ s = .val false [.e u] ∧ h' = h) ∨ (∃ cs, simple E.P E.G fr h o.op = some (cs, s, h') ∧ ∀ c ∈ cs, c.eval ρ = some (.b true)) ∨
    (∃ (f : FuncId) (g : Operand) (args : Array Operand) (tys : Array TypeId) (ps : List (Bool × List SL)) (xs : List XV) (az rs : List DV) (k : Nat), o.op = .call { callee := .value g, args := args, argTypes := tys } ∧ Callee (opd fr g) f ∧ argsOf (args.toList.map (opd fr)) = some ps ∧
      exVs ps = some xs ∧ evalVs ρ xs = some az ∧ C f az rs ∧ ((∃ fn, E.P.funcs[f]? = some fn ∧ fn.body.isNone = false ∧ (fn.name == "runtime.NumGoroutine") = false) ∧ f < eatOff) ∧ VarsAt ρ k (leavesOf rs) ∧ s = tupS (shapeVs k (shapeOf rs)) ∧ h' = h) ∨
    (Other C E o0 all ρ o fr h s ∧ h' = h) := by
  cases hs with
  | arith ht hd hu => exact .inl ⟨_, _, _, ht, hd, hu, rfl, rfl⟩
  | simple hs hc => exact .inr (.inl ⟨_, hs, hc⟩)
  | call ho hg ha hx he hc hf hv => exact .inr (.inr (.inl ⟨_, _, _, _, _, _, _, _, _, ho, hg, ha, hx, he, hc, hf, hv, rfl, rfl⟩))
  | fresh hs hc hd hu => exact .inr (.inr (.inr ⟨.inl ⟨_, _, _, _, hs, hc, hd, hu, rfl⟩, rfl⟩))
  | callK ho hg hsp ha hx he hcap hce hst hc hf hv => exact .inr (.inr (.inr ⟨.inr (.inl ⟨_, _, _, _, _, _, _, _, _, _, _, _, _, _, ho, hg, hsp, ha, hx, he, hcap, hce, hst, hc, hf, hv, rfl⟩), rfl⟩))
  | callL ho hg ha hx he hc hf hv hpl => exact .inr (.inr (.inr ⟨.inr (.inr (.inl ⟨_, _, _, _, _, _, _, _, _, ho, hg, ha, hx, he, hc, hf, hv, hpl, rfl⟩)), rfl⟩))
  | lendQ hs hc => exact .inr (.inr (.inr ⟨.inr (.inr (.inr ⟨_, hs, hc⟩)), rfl⟩))

/-- what the steps do to the heap -/
theorem comes_heap {o0 : OwP} {ρ : List D} {all : List Oper} {o : Oper} {fr frE : List S} {h h' : Heap} (hc : Comes C E o0 ρ all o fr h h' frE) :
    (isSt o = false → h' = h ∨ (isAl o = true ∧ ∃ ls, h' = h ++ [{ ro := false, ls := ls }])) ∧ (isSt o = true → h'.length = h.length) := by
  rcases hc with ⟨_, rfl, _⟩ | ⟨_, s, hs, _⟩ | ⟨_, rfl, _⟩
  · exact ⟨fun _ => .inl rfl, fun _ => rfl⟩
  · cases hs with
    | arith => exact ⟨fun _ => .inl rfl, fun _ => rfl⟩
    | call => exact ⟨fun _ => .inl rfl, fun _ => rfl⟩
    | fresh => exact ⟨fun _ => .inl rfl, fun _ => rfl⟩
    | callK => exact ⟨fun _ => .inl rfl, fun _ => rfl⟩
    | callL => exact ⟨fun _ => .inl rfl, fun _ => rfl⟩
    | lendQ => exact ⟨fun _ => .inl rfl, fun _ => rfl⟩
    | simple hs _ =>
      refine ⟨fun hst => ?_, fun hst => (simple_store_inv hst hs).2.2⟩
      by_cases ha : isA o.op = true
      · obtain ⟨rfl, _⟩ := simple_any ha hs h
        exact .inl rfl
      · have ha : isA o.op = false := by simpa using ha
        by_cases hl : ∃ t x, o.op = .load t x
        · obtain ⟨t, x, hl⟩ := hl
          rw [hl] at hs
          obtain ⟨rfl, _⟩ := simple_load_mono (List.prefix_refl _) hs
          exact .inl rfl
        · have hst' : ∀ t x y, o.op ≠ .store t x y := fun t x y e => by simp [isSt, e] at hst
          obtain ⟨ls, rfl⟩ := simple_al ha (fun t x e => hl ⟨t, x, e⟩) hst' hs
          refine .inr ⟨?_, ls, rfl⟩
          revert ha
          unfold isA isAl
          cases ho : o.op <;> simp
          · exact hl ⟨_, _, ho⟩
          · exact hst' _ _ _ ho
  · exact ⟨fun _ => .inl rfl, fun _ => rfl⟩

variable {all : List Oper} {fr0 frE : List S} {H : Nat → Heap} {o0 : OwP} {ρ : List D} {Lst : Nat → Bool} {I : Imm} {μ : Mu} {w : World} {a : Act} {lg : List Acc}

/-- what an operation that is not listed looks at is as it was in the text's order -/
theorem seen_agr (hok : DrawOK all) (hlog : logOK all lg = true) {Fr : Nat → List S}
    (hcomes : ∀ (j : Nat) (o : Oper), all[j]? = some o → Comes C E o0 ρ all o (Fr j) (H j) (H (j + 1)) frE ∧ lg[j]? = some (opAcc E.P (Fr j) (H j) o)) (hs : HS all H)
    (hcl : ∀ (i : Nat) (o : Oper), all[i]? = some o → Lst i = true → ∀ e ∈ bindsOn o, Lst e = true) {i m : Nat} {o : Oper} (ho : all[i]? = some o) (hnl : Lst i = false) (hrd : ∀ e ∈ bindsOn o, Lst e = true) (hk : isLd o = true ∨ isAl o = true) (hm : Mark all Lst m) :
    Agr (opAcc E.P (Fr i) (H i) o) (PH H all.length i) (PH H all.length m) := by
  have hil : i < all.length := (List.getElem?_eq_some_iff.1 ho).1
  have hlgi : lg.getD i none = opAcc E.P (Fr i) (H i) o := by rw [List.getD_eq_getElem?_getD, (hcomes i o ho).2]; rfl
  -- one step
  have step : ∀ (j : Nat) (p : Oper), all[j]? = some p → (isSt p = true → disjA (opAcc E.P (Fr i) (H i) o) (lg.getD j none) = true) →
      Agr (opAcc E.P (Fr i) (H i) o) (PH H all.length j) (PH H all.length (j + 1)) ∧ Agr (opAcc E.P (Fr i) (H i) o) (PH H all.length (j + 1)) (PH H all.length j) := by
    intro j p hp hd
    have hjl : j < all.length := (List.getElem?_eq_some_iff.1 hp).1
    cases hst : isSt p with
    | false => rw [hs.ph_same hp hst]; exact ⟨Agr.refl _ _, Agr.refl _ _⟩
    | true =>
      obtain ⟨hc, hlgj⟩ := hcomes j p hp
      have hlgj : lg.getD j none = opAcc E.P (Fr j) (H j) p := by rw [List.getD_eq_getElem?_getD, hlgj]; rfl
      have hd := hd hst
      rw [hlgj] at hd
      have hlen := (hs j p hp).2 hst
      rcases hc with ⟨_, he, _⟩ | ⟨_, s, hstep, _⟩ | ⟨_, he, _⟩
      rotate_left 2
      · have : PH H all.length (j + 1) = PH H all.length j := by unfold PH; rw [he]
        rw [this]
        exact ⟨Agr.refl _ _, Agr.refl _ _⟩
      · have : PH H all.length (j + 1) = PH H all.length j := by unfold PH; rw [he]
        rw [this]
        exact ⟨Agr.refl _ _, Agr.refl _ _⟩
      · rcases step_inv hstep with ⟨_, _, _, ht, _⟩ | ⟨_, hsim, _⟩ | ⟨_, _, _, _, _, _, _, _, _, ho', _⟩ | ⟨hoth, _⟩
        · exfalso
          revert hst ht
          unfold isSt
          cases hop' : p.op <;> simp [arith]
        rotate_left
        · exfalso; simp [isSt, ho'] at hst
        · exfalso; rw [hoth.not_store] at hst; cases hst
        ·
          obtain ⟨_, h2, _⟩ := simple_store_inv hst hsim
          have h3 := h2 ((ibs H all.length).drop ((H j).length - (H 0).length))
          obtain ⟨h4, _, _⟩ := simple_store_inv hst h3
          have h5 := h4 _ _ hd
          unfold PH
          rw [hlen]
          exact h5
  have hup : ∀ k, i + k ≤ all.length → (∀ j p, i ≤ j → j < i + k → all[j]? = some p → isSt p = true → disjA (opAcc E.P (Fr i) (H i) o) (lg.getD j none) = true) → Agr (opAcc E.P (Fr i) (H i) o) (PH H all.length i) (PH H all.length (i + k)) := by
    intro k
    induction k with
    | zero => intro _ _; exact Agr.refl _ _
    | succ k ih =>
      intro hle hd
      have hlt : i + k < all.length := by omega
      exact (ih (by omega) fun j p h1 h2 => hd j p h1 (by omega)).trans (step (i + k) _ (List.getElem?_eq_getElem hlt) fun h => hd (i + k) _ (by omega) (by omega) (List.getElem?_eq_getElem hlt) h).1
  have hdown : ∀ k, m + k ≤ all.length → (∀ j p, m ≤ j → j < m + k → all[j]? = some p → isSt p = true → disjA (opAcc E.P (Fr i) (H i) o) (lg.getD j none) = true) → Agr (opAcc E.P (Fr i) (H i) o) (PH H all.length (m + k)) (PH H all.length m) := by
    intro k
    induction k with
    | zero => intro _ _; exact Agr.refl _ _
    | succ k ih =>
      intro hle hd
      have hlt : m + k < all.length := by omega
      exact (step (m + k) _ (List.getElem?_eq_getElem hlt) fun h => hd (m + k) _ (by omega) (by omega) (List.getElem?_eq_getElem hlt) h).2.trans (ih (by omega) fun j p h1 h2 => hd j p h1 (by omega))
  have hnst : isSt o = false := by
    rcases hk with h | h
    · revert h; unfold isLd isSt; cases o.op <;> simp
    · revert h; unfold isAl isSt; cases o.op <;> simp
  rcases Nat.le_total i m with him | hmi
  · obtain ⟨k, rfl⟩ := Nat.exists_eq_add_of_le him
    refine hup k hm.le fun j p h1 h2 hp hst => ?_
    have hne : j ≠ i := fun e => by subst e; rw [ho] at hp; cases hp; rw [hnst] at hst; cases hst
    have hlj := hm.below j p h2 hp hst
    rcases logOK_sound hlog ho hp hk hst with ⟨_, hb⟩ | ⟨hb, _⟩ | hd
    · have := hcl j p hp hlj i hb
      rw [hnl] at this
      cases this
    · omega
    · rw [hlgi] at hd; exact hd
  · obtain ⟨k, rfl⟩ := Nat.exists_eq_add_of_le hmi
    refine hdown k (by omega) fun j p h1 h2 hp hst => ?_
    have hml : m < all.length := by omega
    obtain ⟨hms, hmn⟩ := hm.here _ (List.getElem?_eq_getElem hml)
    have hlj : Lst j = false := by
      cases hlj : Lst j with
      | false => rfl
      | true =>
        by_cases he : j = m
        · subst he; rw [hmn] at hlj; cases hlj
        · have := hcl j p hp hlj m (hok.e4 j p hp hst m _ (by omega) (List.getElem?_eq_getElem hml) hms)
          rw [hmn] at this
          cases this
    rcases logOK_sound hlog ho hp hk hst with ⟨hb, _⟩ | ⟨_, hb⟩ | hd
    · omega
    · have := hrd j hb
      rw [hlj] at this
      cases this
    · rw [hlgi] at hd; exact hd

/-! ### new slices, and variables that are handed on -/

theorem FR.pure {fr : List S} (h : FR I μ w ρ fr a) : FR I ⟨fun _ => none, fun _ => none⟩ w ρ (fr.map pureS) a := by
  refine ⟨by simp [h.len], fun t => ?_⟩
  have h0 := h.at_ t
  rw [List.getD_eq_getElem?_getD] at h0
  rw [List.getD_eq_getElem?_getD, List.getElem?_map]
  cases hf : fr[t]? with
  | none => simp [SR]
  | some s =>
    rw [hf] at h0
    simp only [Option.map_some, Option.getD_some] at h0 ⊢
    cases s with
    | val g ls =>
      simp only [pureS]
      split
      · rename_i hx
        obtain ⟨es, hes⟩ := Option.isSome_iff_exists.1 hx
        exact VR.exs hes h0
      · trivial
    | _ => trivial

theorem zapp_sound {P : Program} {G : Glo} {fr : List S} {o : Oper} {cs : List Ex} {t : Ex} {d : D} (hF : FR I μ w ρ fr a) (hG : GR G I w) (hI : ∀ x, I x → x < w.heap.size) (hs : zapp P fr o = some (cs, t)) (hc : ∀ c ∈ cs, c.eval ρ = some (.b true)) (hd : t.eval ρ = some d) :
    ∃ nx v w' I', (execOp a.eval o).run P w = .ok nx w' ∧ (nx = .value v ∨ (nx = .skip ∧ v = undef)) ∧ (∀ x, I x → I' x) ∧ (∀ x, I' x → I x ∨ w.heap.size ≤ x) ∧ (∀ x, I' x → x < w'.heap.size) ∧ (∀ x, x < w.heap.size → w'.heap[x]? = w.heap[x]?) ∧ w.heap.size ≤ w'.heap.size ∧
      (w'.os = w.os ∧ w'.output = w.output) ∧ DR I' w' d v := by
  have hW : WR G w.heap.size I w I ⟨fun _ => none, fun _ => none⟩ w ρ [] :=
    ⟨(fun b x h => by cases h), (fun b b' x h => by cases h), hG, fun _ _ => rfl, Nat.le_refl _, hI, fun x hx => .inl hx, ⟨rfl, rfl⟩⟩
  have hop := opd_sound hF
  unfold zapp at hs
  split at hs
  · rename_i args tys ho
    split at hs
    · rename_i x y ty ty' hargs htys
      split at hs
      · rename_i htt
        subst htt
        split at hs
        · rename_i el hu
          split at hs
          · rename_i n z hn hz
            split at hs
            · rename_i hcond
              obtain ⟨hpos, hzl⟩ := hcond
              split at hs
              · rename_i t1 t2 hdst hsrc
                simp only [Option.some.injEq, Prod.mk.injEq] at hs
                obtain ⟨rfl, rfl⟩ := hs
                have ha : args = #[x, y] := by rw [← Array.toList_inj, hargs]
                have ht : tys = #[ty, ty] := by rw [← Array.toList_inj, htys]
                subst ha
                subst ht
                obtain ⟨i, zv, hi, hzv, hzs, _⟩ := zeroT_info hz
                have hin : i.size = n := by simpa [sizeT, hi] using hn
                have hby : P.bytesOf el = i.bytes := by simp [Program.bytesOf, hi]
                obtain ⟨kr, mr, hlen, hm0, hroom⟩ := room_sound (hc _ (List.mem_singleton.2 rfl))
                obtain ⟨s1, rows, s2, rows2, h1, h2, hc1, hc2, rfl⟩ := app_sound hd
                have hsy : SR I ⟨fun _ => none, fun _ => none⟩ w ρ (.val false [.e t2]) (a.eval y) := by
                  have := hop y
                  rw [hsrc] at this
                  exact VR.exs (ls := [.e t2]) (es := [t2]) rfl this
                have hsrcV := appSrc_sound (h := []) (o := []) hW (OwnR.nil fun _ => rfl) hpos (t2 := t2) rfl hsy h2 hc2
                have hrows : rows = [] ∧ ((∃ a0, a.eval x = .slice (some a0) 0 0 ∧ s1 = n) ∨ (a.eval x = .slice none 0 0 ∧ s1 = 0)) := by
                  unfold zDst at hdst
                  split at hdst
                  · rename_i hsx
                    cases hdst
                    have hv := hop x
                    rw [hsx] at hv
                    obtain ⟨dd, hdd, hr⟩ := e?_sound (t := .c (.sl 0 [])) rfl hv
                    simp only [Ex.eval] at hdd h1
                    cases hdd
                    simp only [Option.some.injEq, D.sl.injEq] at h1
                    obtain ⟨rfl, rfl⟩ := h1
                    refine ⟨rfl, .inr ⟨?_, rfl⟩⟩
                    generalize hv' : a.eval x = vx at hr
                    cases hr with
                    | nil _ p cap hz => obtain ⟨rfl, rfl⟩ := hz rfl; rfl
                    | sl _ _ _ _ _ _ h0 => omega
                  · rename_i r b sz hsx
                    cases hdst
                    have hv := hop x
                    rw [hsx] at hv
                    obtain ⟨xb, cap, _, hv, hcap⟩ := l?_sound (l := .sc r b sz 0) rfl hv
                    subst hcap
                    simp only [Ex.eval] at h1
                    simp only [Option.some.injEq, D.sl.injEq] at h1
                    obtain ⟨rfl, rfl⟩ := h1
                    exact ⟨rfl, .inl ⟨_, hv, rfl⟩⟩
                  · cases hdst
                obtain ⟨rfl, hx⟩ := hrows
                have hlen' : mr = ((rows2.length : Nat) : Int) := by
                  rw [Ex.eval, hd] at hlen
                  split at hlen
                  · rename_i sz xs hx
                    cases hlen
                    split at hx
                    · rename_i he
                      cases hx
                      have : rows2 = [] := List.isEmpty_iff.1 he
                      simp [this]
                    · cases hx
                      simp
                  · cases hlen
                have hroom' : rows2.length * (i.bytes + 1) ≤ 2 ^ 40 := by
                  rw [hlen', hby] at hroom
                  have : ((rows2.length * (i.bytes + 1) : Nat) : Int) ≤ 2 ^ 40 := by rw [Int.natCast_mul]; exact_mod_cast hroom
                  exact_mod_cast this
                by_cases hr2 : rows2 = []
                · subst hr2
                  have hrun : ∀ p0, a.eval x = .slice p0 0 0 → (execOp a.eval o).run P w = .ok (.value (.slice p0 0 0)) w := fun p0 hp => by
                    have := run_appendZ0 (P := P) (w := w) (ty := o.type) (p0 := p0) hu hi hsrcV
                    simp [execOp, ho, resolve, invoke, builtin, hp, this]
                  rcases hx with ⟨a0, hx, rfl⟩ | ⟨hx, rfl⟩
                  · exact ⟨_, _, w, I, hrun _ hx, .inl rfl, fun _ h => h, fun _ h => .inl h, hI, fun _ _ => rfl, Nat.le_refl _, ⟨rfl, rfl⟩, .nil _ _ _ fun h => by omega⟩
                  · exact ⟨_, _, w, I, hrun _ hx, .inl rfl, fun _ h => h, fun _ h => .inl h, hI, fun _ _ => rfl, Nat.le_refl _, ⟨rfl, rfl⟩, .nil _ _ _ fun _ => ⟨rfl, rfl⟩⟩
                · have hemp : rows2.isEmpty = false := by cases rows2 <;> simp_all
                  rw [hemp]
                  simp only [Bool.false_eq_true, if_false, List.nil_append]
                  obtain ⟨v', w', hrun, hV, hg, hnew⟩ : ∃ v' w', (Builtin.append_ #[ty, ty] o.type #[a.eval x, a.eval y]).run P w = .ok v' w' ∧ OwnV w.heap.size I w' n rows2 v' ∧ w.grownBy w' none ∧ (∀ x, v'.ownBlock = some x → w.heap.size ≤ x) := by
                    rcases hx with ⟨a0, hx, _⟩ | ⟨hx, _⟩
                    · rw [hx]
                      exact run_appendZ hu hi hzv hin (by omega) hpos hsrcV hroom' (Nat.le_refl _) hI hr2
                    · obtain ⟨v', w', q1, q2, q3, q4⟩ := run_appendV (P := P) (ty := o.type) (B := w.heap.size) (s := 0) (rows := []) (v := a.eval x) hu hi hzv hin (by omega) hpos ⟨(fun r hr => by cases hr), .inl ⟨hx, rfl⟩⟩ (.inr rfl) hsrcV (by simpa using hroom') (Nat.le_refl _) hI
                      rw [hemp] at q2
                      simp only [Bool.false_eq_true, if_false, List.nil_append] at q2
                      rw [hx] at q3 q4
                      exact ⟨v', w', q1, q2, q3, fun x hb => (q4 x hb).resolve_left fun h => by simp [Value.ownBlock] at h⟩
                  have hg := gr_of hg
                  have hsl : ∀ xb, v'.ownBlock = some xb → xb < w'.heap.size := fun xb hb => by
                    obtain ⟨_, _, _, _, _, _, h5, _⟩ := hV.block hb
                    exact (Array.getElem?_eq_some_iff.1 h5).1
                  refine ⟨.value v', v', w', fun x => I x ∨ v'.ownBlock = some x, ?_, .inl rfl, fun _ h => .inl h, fun x hx => hx.imp id (hnew x), fun x hx => ?_, fun x hx => hg.block x hx (fun h => by cases h), hg.size, ⟨hg.os, hg.output⟩, hV.data (fun _ h => .inl h) fun x hb => .inr hb⟩
                  · simp [execOp, ho, resolve, invoke, builtin, hrun]
                  · rcases hx with hx | hx
                    · exact Nat.lt_of_lt_of_le (hI x hx) hg.size
                    · exact hsl x hx
              · cases hs
            · cases hs
          · cases hs
        · cases hs
      · cases hs
    · cases hs
  · cases hs

theorem fresh_sound {P : Program} {G : Glo} {fr : List S} {o : Oper} {cs : List Ex} {t : Ex} {d : D} (hF : FR I μ w ρ fr a) (hG : GR G I w) (hI : ∀ x, I x → x < w.heap.size) (hs : freshOp P G all fr o = some (cs, t)) (hc : ∀ c ∈ cs, c.eval ρ = some (.b true)) (hd : t.eval ρ = some d) :
    ∃ nx v w' I', (execOp a.eval o).run P w = .ok nx w' ∧ (nx = .value v ∨ (nx = .skip ∧ v = undef)) ∧ (∀ x, I x → I' x) ∧ (∀ x, I' x → I x ∨ w.heap.size ≤ x) ∧ (∀ x, I' x → x < w'.heap.size) ∧ (∀ x, x < w.heap.size → w'.heap[x]? = w.heap[x]?) ∧ w.heap.size ≤ w'.heap.size ∧
      (w'.os = w.os ∧ w'.output = w.output) ∧ DR I' w' d v := by
  rcases freshOp_op hs with hs' | ⟨hs', _⟩
  case inr => exact zapp_sound hF hG hI hs' hc hd
  have hW : WR G w.heap.size I w I ⟨fun _ => none, fun _ => none⟩ w ρ [] :=
    ⟨(fun b x h => by cases h), (fun b b' x h => by cases h), hG, fun _ _ => rfl, Nat.le_refl _, hI, fun x hx => .inl hx, ⟨rfl, rfl⟩⟩
  obtain ⟨nx, v, w', μ', hrun, hn, hsr, hW', he, hO'⟩ := ownOp_sound (B := w.heap.size) (I₀ := I) (w₀ := w) hW (OwnR.nil fun _ => rfl) (opd_sound hF.pure) hs'.1 hc
  obtain ⟨I', hW2, he2, hO2⟩ := hO'.frz hW' [0]
  obtain ⟨b, n, c, hv, hmu⟩ := l?_sound (l := .g 0) rfl hsr
  obtain ⟨v2, d2, h1, h2, h3⟩ := hO2.frozen 0 t (by simp [frz])
  rw [hmu] at h1
  cases h1
  rw [hd] at h2
  cases h2
  exact ⟨nx, v, w', I', hrun, hn, fun x hx => he2.imm x (he.imm x hx), fun x hx => hW2.imm0 x hx, hW2.imm, hW2.old, hW2.size, hW2.wd, h3⟩

theorem opd_pure {fr fr' : List S} {x : Operand} (h : opd fr x = opd fr' x) : opd (fr.map pureS) x = opd (fr'.map pureS) x := by
  cases x with
  | tmp t =>
    simp only [opd, List.getD_eq_getElem?_getD, List.getElem?_map] at h ⊢
    have hp : ∀ o : Option S, (o.map pureS).getD .x = pureS (o.getD .x) := fun o => by cases o <;> rfl
    rw [hp, hp, h]
  | _ => rfl

theorem zapp_congr {P : Program} {fr fr' : List S} {o : Oper} (hx : ∀ x ∈ o.op.operands.toList, opd fr x = opd fr' x) : zapp P fr o = zapp P fr' o := by
  unfold zapp
  split
  · rename_i args tys ho
    split
    · rename_i x y ty ty' hargs htys
      have hm : ∀ v ∈ args.toList, opd fr v = opd fr' v := fun v hv => hx v (by simpa [ho, Op.operands, Call.operands] using hv)
      rw [hm x (by rw [hargs]; simp), hm y (by rw [hargs]; simp)]
    · rfl
  · rfl
theorem freshOp_congr {P : Program} {G : Glo} {fr fr' : List S} {o : Oper} (hx : ∀ x ∈ o.op.operands.toList, opd fr x = opd fr' x) : freshOp P G all fr o = freshOp P G all fr' o := by
  unfold freshOp
  cases ho : o.op with
  | buildSlice t n parts =>
    have h1 : (parts.toList.map fun q => (q.1, opd (fr.map pureS) q.2)) = parts.toList.map fun q => (q.1, opd (fr'.map pureS) q.2) := parts_congr fun x hxm => opd_pure (hx x (by
      rw [ho]
      simp only [Op.operands]
      simpa using hxm))
    simp only [ownOp, h1]
  | makeSlice t x y =>
    have h1 := opd_pure (hx x (by rw [ho]; simp [Op.operands]))
    have h2 := opd_pure (hx y (by rw [ho]; simp [Op.operands]))
    simp only [ownOp, h1, h2]
  | _ => exact zapp_congr hx

theorem splitCaps_eq : ∀ {l as : List S} {cs : List (BR × Nat)}, splitCaps l = (as, cs) → l = as ++ cs.map fun c => .val false [.p c.1 c.2]
  | [], as, cs, h => by
    simp only [splitCaps, Prod.mk.injEq] at h
    obtain ⟨rfl, rfl⟩ := h
    rfl
  | y :: rest, as, cs, h => by
    have key : ∀ {a' : S} {as' : List S}, (splitCaps rest).1 = as' → a' :: as' = as → (splitCaps rest).2 = cs → a' = y → y :: rest = as ++ cs.map fun c => .val false [.p c.1 c.2] := by
      intro a' as' h1 h2 h3 h4
      subst h4
      rw [← h2, List.cons_append, ← h1, ← h3, ← splitCaps_eq (l := rest) rfl]
    unfold splitCaps at h
    split at h
    · rename_i heq; cases heq
    · rename_i r o rest' heq
      cases heq
      split at h
      · rename_i cs' hq
        cases h
        rw [splitCaps_eq hq]
        rfl
      · rename_i as' cs' hne hq
        cases h
        exact key (a' := .val false [.p r o]) (by rw [hq]) rfl (by rw [hq]) rfl
    · rename_i a' rest' hne heq
      cases heq
      cases h
      exact key (a' := y) rfl rfl rfl rfl

theorem all2_split {α β : Type} {R : α → β → Prop} : ∀ {as bs : List α} {cs : List β}, All2 R (as ++ bs) cs → ∃ c1 c2, cs = c1 ++ c2 ∧ All2 R as c1 ∧ All2 R bs c2
  | [], bs, cs, h => ⟨[], cs, rfl, .nil, h⟩
  | a :: as, bs, _, .cons h t => by
    obtain ⟨c1, c2, rfl, h1, h2⟩ := all2_split t
    exact ⟨_ :: c1, c2, rfl, .cons h h1, h2⟩

theorem caps_cells {h : Heap} : ∀ {cs : List (BR × Nat)} {cvs : List XV} {caz : List DV} {vs : List Value}, capsX h cs = some cvs → evalVs ρ cvs = some caz → (∀ b blk x, h[b]? = some blk → μ b = some x → ∃ B, BlkR B I μ w ρ blk x) →
    All2 (SR I μ w ρ) (cs.map fun c => .val false [.p c.1 c.2]) vs → ∃ zs : List Nat, vs = zs.map (fun x => .pointer (some ⟨x, 0, none⟩)) ∧ All2 (CellR I w) caz zs
  | [], cvs, caz, vs, h1, h2, _, h4 => by
    simp only [capsX, Option.some.injEq] at h1
    subst h1
    simp only [evalVs, Option.some.injEq] at h2
    subst h2
    cases h4
    exact ⟨[], rfl, .nil⟩
  | c :: cs, cvs, caz, _, h1, h2, h3, .cons hv ht => by
    unfold capsX at h1
    split at h1
    · rename_i heq; cases heq
    · rename_i b r heq
      cases heq
      split at h1
      · rename_i blk hb
        split at h1
        · rename_i es l hes hl
          cases h1
          simp only [evalVs] at h2
          split at h2
          · rename_i ds cz hds hcz
            cases h2
            obtain ⟨zs, rfl, hz⟩ := caps_cells hl hcz h3 ht
            obtain ⟨x, hx, rfl⟩ := l?_sound (l := .p (.loc b) 0) rfl hv
            obtain ⟨B, vs, ty, hcell, hls, _⟩ := h3 b blk x hb hx
            exact ⟨x :: zs, rfl, .cons ⟨rfl, vs, ty, hcell, lsR_data hes hds hls⟩ hz⟩
          · cases h2
        · cases h1
      · cases h1
    · cases h1

theorem ownQ_congr {P : Program} {G : Glo} {fr fr' : List S} {h : Heap} {o : Own} {op : Op} (hx : ∀ x ∈ op.operands.toList, opd fr x = opd fr' x) : ownQ P G fr h o op = ownQ P G fr' h o op := by
  cases op <;> try rfl
  · rename_i t a
    simp only [ownQ, ownOp, hx a (by simp [Op.operands])]
  · rename_i t a i
    simp only [ownQ, ownOp, hx a (by simp [Op.operands]), hx i (by simp [Op.operands])]
theorem lastTmp_reads {o : Oper} {t : Nat} (h : lastTmp o = some t) : t ∈ readsT o := by
  unfold lastTmp at h
  split at h
  · rename_i c args tys sp ho
    split at h
    · rename_i t' hl
      cases h
      unfold readsT
      refine List.mem_filterMap.2 ⟨.tmp t, ?_, rfl⟩
      rw [ho]
      have := List.mem_of_getLast? hl
      cases c <;> simp [Op.operands, Call.operands] <;> first | exact .inr (by simpa using this) | simpa using this
    · cases h
  · cases h
theorem any_step {Q : Exit → Act → World → Prop} {K : Act → World → Prop} (hM : ∀ f as rs, C f as rs → ConX E.P E.G f as rs) (hok : DrawOK all) (hlog : logOK all lg = true) (hlen : fr0.length = frE.length)
    {Fr : Nat → List S} (hinfo : ∀ (j : Nat) (o : Oper), all[j]? = some o → (Fr j).length = fr0.length ∧ (∀ t, NoDst (all.take j) t → Eqv ρ (fr0.getD t .x) ((Fr j).getD t .x)) ∧
      (∀ t, NoDst (all.drop j) t → Eqv ρ ((Fr j).getD t .x) (frE.getD t .x)) ∧ Comes C E o0 ρ all o (Fr j) (H j) (H (j + 1)) frE ∧ lg[j]? = some (opAcc E.P (Fr j) (H j) o)) (hs' : HS all H)
    (inv : AnyInv all fr0 frE H o0 E.G B I₀ w₀ ρ Lst I μ w a) (hpn1 : ∀ d ∈ pnDs o0.pr, ∃ (i : Nat) (p : Oper), all[i]? = some p ∧ p.dst = some d) (hpn2 : ∀ d1 d2 t, o0.pr = some (d1, some d2, t) → d1 ≠ d2) {i : Nat} {o : Oper} (ho : all[i]? = some o) (hnl : Lst i = false) (hrd : ∀ e ∈ bindsOn o, Lst e = true)
    (hK : ∀ I' μ' w' a', AnyInv all fr0 frE H o0 E.G B I₀ w₀ ρ (upd Lst i) I' μ' w' a' → Evo I μ w I' μ' w' → a'.tmps.size = a.tmps.size → K a' w') : wpO E.P all.toArray Q i K a w := by
  obtain ⟨hFl, ha, hb, hcomes, hlgi⟩ := hinfo i o ho
  obtain ⟨fr', hF, hopd⟩ := inv.frame hok ho hnl hrd (hFl.trans hlen) ha hb
  have hop := opd_sound hF
  have hil : i < all.length := (List.getElem?_eq_some_iff.1 ho).1
  have hget : all.toArray[i]? = some o := by simpa using ho
  unfold wpO
  rw [hget]
  dsimp only
  -- the guard
  have hguard : ∀ g b, o.guard = some (g, b) → ∀ d, (all[g]?).bind (·.dst) = some d → SR I μ w ρ ((Fr i).getD d .x) (a.tmps.getD d undef) := by
    intro g b hg d hd
    obtain ⟨hgb, _⟩ := hok.e3 i o g b ho hg
    obtain ⟨p, hp, hpd⟩ := Option.bind_eq_some_iff.1 hd
    have hlt := hok.e1 i o ho g hgb
    refine (hb d (fun q hq hqd => ?_) I μ w _).2 (inv.f2 g p d hp hpd (hrd g hgb))
    obtain ⟨k, hk⟩ := List.getElem?_of_mem hq
    rw [List.getElem?_drop] at hk
    have := hok.nd (i + k) g q p d hk hp hqd hpd
    omega
  obtain ⟨m, hm⟩ := Mark.exists all Lst
  have hWm := inv.wr m hm
  have halu : ∀ (j : Nat) (p : Oper), all[j]? = some p → isAl p = true → (H (j + 1)).length ≠ (H j).length → upd Lst i j = false → μ (H j).length = none := fun j p hp hap hne hl => inv.al j p hp hap hne (by
    rwa [upd_ne (fun e => by subst e; rw [upd_self] at hl; cases hl)] at hl)
  have hcomes0 := hcomes
  rcases hcomes with ⟨hun, hH, hslot, hP⟩ | ⟨hwant, s, hs, hslot, hP⟩ | hNE
  · -- not wanted
    obtain ⟨j, want, d, hg, hd, hun⟩ := hun
    obtain ⟨hgb, hC⟩ := hok.e3 i o j want ho hg
    have hSt : isSt o = false := by revert hC; unfold isC isSt; cases o.op <;> simp
    have hsl := hguard j want hg d hd
    have hnw : Region.wanted o (yielded all.toArray a.tmps) = false := by
      rcases hun with hu | ⟨t, b, ht, hte, hne⟩
      · rw [hu] at hsl
        simp [Region.wanted, hg, yielded_undef hd hsl]
      · rw [ht] at hsl
        obtain ⟨dd, hdd, hr⟩ := e?_sound (t := t) rfl hsl
        rw [hte] at hdd
        cases hdd
        have hy := yielded_of hd b hr.b_inv
        simp only [Region.wanted, hg, hy]
        simpa using hne
    rw [if_neg (by simp [hnw])]
    refine hK I μ w _ (inv.next hok ho hnl hrd (Evo.refl _ _ _) (fun d hd => ?_) (fun m hm => inv.wr m (hm.upd_other ho hSt)) ((oL_upd ho hP).symm ▸ inv.own) halu) (Evo.refl _ _ _) (put_size _ _ _)
    exact (hslot d hd).imp id fun h => (h I μ w _).1 rfl
  · have hoL : oL o0 all (upd Lst i) = oL o0 all Lst := oL_upd ho hP
    have hw : Region.wanted o (yielded all.toArray a.tmps) = true := by
      unfold Wanted at hwant
      unfold Region.wanted
      cases hg : o.guard with
      | none => rfl
      | some gb =>
        obtain ⟨j, want⟩ := gb
        rw [hg] at hwant
        obtain ⟨d, t, hd, ht, hte⟩ := hwant
        have hsl := hguard j want hg d hd
        rw [ht] at hsl
        obtain ⟨dd, hdd, hr⟩ := e?_sound (t := t) rfl hsl
        rw [hte] at hdd
        cases hdd
        have hy := yielded_of hd want hr.b_inv
        simp only [hy]
        simp
    rw [if_pos hw]
    cases hSt : isSt o with
    | true =>
      -- a store: all stores ahead of it are done
      have hmi : Mark all Lst i := ⟨by omega, fun j p hj hp hcp => hrd j (hok.e4 i o ho hSt j p hj hp hcp), fun p hp => by rw [ho] at hp; cases hp; exact ⟨hSt, hnl⟩⟩
      have hWi := inv.wr i hmi
      rcases step_inv hs with ⟨_, _, _, ht, _⟩ | ⟨_, hs, hcs⟩ | ⟨_, _, _, _, _, _, _, _, _, ho', _⟩ | ⟨hoth, _⟩
      · exfalso
        revert hSt ht
        unfold isSt
        cases hop' : o.op <;> simp [arith]
      rotate_left
      · exfalso; simp [isSt, ho'] at hSt
      · exfalso; rw [hoth.not_store] at hSt; cases hSt
      ·
        have hs2 := (simple_store_inv hSt hs).2.1 ((ibs H all.length).drop ((H i).length - (H 0).length))
        rw [simple_congr hopd] at hs2
        have hPH : H (i + 1) ++ (ibs H all.length).drop ((H i).length - (H 0).length) = PH H all.length (i + 1) := by unfold PH; rw [(hs' i o ho).2 hSt]
        rw [hPH] at hs2
        obtain ⟨w', hrun, hsr, hW', he, hOw⟩ := store_own (P := E.P) hWi inv.own hop hSt hs2
        refine wp_value hrun (.inr ⟨rfl, rfl⟩) (hK I μ w' _ (inv.next hok ho hnl hrd he (fun d hd => ?_) (fun m' hm' => ?_) (hoL.symm ▸ hOw) halu) he (put_size _ _ _))
        · exact (hslot d hd).imp id fun h => (h I μ w' _).1 hsr
        · have hlt : i < m' := by
            rcases Nat.lt_or_ge i m' with h | h
            · exact h
            · have hml : m' < all.length := by omega
              obtain ⟨h1, h2⟩ := hm'.here _ (List.getElem?_eq_getElem hml)
              by_cases he : m' = i
              · subst he; rw [upd_self] at h2; cases h2
              · rw [upd_ne he, hmi.below m' _ (by omega) (List.getElem?_eq_getElem hml) h1] at h2
                cases h2
          rw [hs'.ph_run (j := i + 1) hlt hm'.le fun k p hk1 hk2 hp => ?_]
          · exact hW'
          · cases hcp : isSt p with
            | false => rfl
            | true =>
              have h1 := hm'.below k p hk2 hp hcp
              rw [upd_ne (by omega)] at h1
              have := inv.cl k p hp h1 i (hok.e4 k p hp hcp i o (by omega) ho hSt)
              rw [hnl] at this
              cases this
    | false =>
      -- a quiet one
      have quiet : GoesQ E.G B I₀ w₀ I μ w ρ ((execOp a.eval o).run E.P w) s (PH H all.length m) → o.wp E.P a w K Q := by
        rintro ⟨nx, v, hrun, hn, hsr, hW'⟩
        refine wp_value hrun hn (hK I μ w _ (inv.next hok ho hnl hrd (Evo.refl _ _ _) (fun d hd => ?_) (fun m' hm' => inv.wr m' (hm'.upd_other ho hSt)) (hoL.symm ▸ inv.own) halu) (Evo.refl _ _ _) (put_size _ _ _))
        exact (hslot d hd).imp id fun h => (h I μ w _).1 hsr
      rcases step_inv hs with ⟨t, u, d, ht, hd, hu, rfl, _⟩ | ⟨_, hs, hcs⟩ | ⟨f, g, args, tys, ps, xs, az, rs, k, ho', hg, hargs, hx, he, hc, hf, hv, rfl, _⟩ | ⟨⟨cs, t, u, d, hfr, hcs, hd, hu, rfl⟩ | ⟨f, g, args, tys, caps, cs, as, ps, xs, cvs, az, caz, rs, k, ho', hg, hsp, hps, hxs, haz, hcv, hcaz, hnst, hc, hf, hv, rfl⟩ | ⟨f, g, args, tys, ps, xs, az, rs, k, ho', hg, hargs, hx, he, hc, hf, hv, hpl, rfl⟩ | ⟨cs, hq, hcs⟩, _⟩
      · rw [arith_congr hopd] at ht
        obtain ⟨v, hv, hr⟩ := arith_sound hop ht hd
        exact quiet ⟨_, v, hv, .inl rfl, ⟨_, rfl, d, hu, hr⟩, hWm⟩
      rotate_left
      ·
        have hopg : opd (Fr i) g = opd fr' g := hopd g (by simp [ho', Op.operands, Call.operands])
        have hopa : args.toList.map (opd (Fr i)) = args.toList.map (opd fr') := map_opd_congr fun x hx => hopd x (by simp [ho', Op.operands, Call.operands]; exact .inr (by simpa using hx))
        rw [hopg] at hg
        rw [hopa] at hargs
        have hgv := hop g
        have hval : a.eval g = .func (.func f) #[] #[] := by
          rcases hg with hg | hg
          · rw [hg] at hgv
            obtain ⟨d, hd, hr⟩ := e?_sound (t := .c (.f f)) rfl hgv
            simp only [Ex.eval] at hd
            cases hd
            exact hr.f_inv
          · rw [hg] at hgv
            obtain ⟨vs, hvv, hcaps⟩ := l?_sound (l := .clo f []) rfl hgv
            cases hcaps
            exact hvv
        have hda := exVs_sound hx he (argsOf_sound hargs (all2_map_opd hF args.toList))
        refine wp_enter (run_call ho' hval hf.1) ?_
        rw [show (#[] ++ args.map a.eval ++ #[] : Array Value) = (args.toList.map a.eval).toArray from by apply Array.toList_inj.1; simp]
        refine ((hM f az rs hc).1 hf.2 I w _ hWm.glo hWm.imm hda).mono ?_
        rintro e w' ⟨v, I', rfl, h1, h2, h3, h4, h5, hn, h6⟩
        obtain ⟨_, hev⟩ := hWm.call h1 h2 h3 h4 h5 hn
        refine hK I' μ w' _ (inv.next hok ho hnl hrd hev (fun d hd => ?_) (fun m' hm' => ((inv.wr m' (hm'.upd_other ho hSt)).call h1 h2 h3 h4 h5 hn).1) (hoL.symm ▸ inv.own.call h1 h2 hWm.imm h4) halu) hev (put_size _ _ _)
        exact (hslot d hd).imp id fun h => (h I' μ w' _).1 (tupS_sound hv h6)
      ·
        rw [freshOp_congr hopd] at hfr
        obtain ⟨nx, v, w', I', hrun, hn, h1, h2, h3, h4, h5, hos, hdr⟩ := fresh_sound hF hWm.glo hWm.imm hfr hcs hd
        obtain ⟨_, hev⟩ := hWm.call h1 h2 h3 h4 h5 hos
        refine wp_value hrun hn (hK I' μ w' _ (inv.next hok ho hnl hrd hev (fun d hd => ?_) (fun m' hm' => ((inv.wr m' (hm'.upd_other ho hSt)).call h1 h2 h3 h4 h5 hos).1) (hoL.symm ▸ inv.own.call h1 h2 hWm.imm h4) halu) hev (put_size _ _ _))
        exact (hslot d hd).imp id fun h => (h I' μ w' _).1 ⟨_, rfl, _, hu, hdr⟩
      ·
        have hopg : opd (Fr i) g = opd fr' g := hopd g (by simp [ho', Op.operands, Call.operands])
        have hopa : args.toList.map (opd (Fr i)) = args.toList.map (opd fr') := map_opd_congr fun x hx => hopd x (by simp [ho', Op.operands, Call.operands]; exact .inr (by simpa using hx))
        rw [hopg] at hg
        rw [hopa] at hsp
        have hgv := hop g
        obtain ⟨us, hval, hcaps⟩ : ∃ us : List Value, a.eval g = .func (.func f) #[] us.toArray ∧ All2 (SR I μ w ρ) (caps.map fun c => .val false [.p c.1 c.2]) us := by
          rcases hg with ⟨hg, rfl⟩ | hg
          · rw [hg] at hgv
            obtain ⟨d, hd, hr⟩ := e?_sound (t := .c (.f f)) rfl hgv
            simp only [Ex.eval] at hd
            cases hd
            exact ⟨[], hr.f_inv, .nil⟩
          · rw [hg] at hgv
            obtain ⟨vs, hvv, hcaps⟩ := l?_sound (l := .clo f caps) rfl hgv
            refine ⟨vs, hvv, All2.map_left (hcaps.imp fun c u hc => ?_)⟩
            obtain ⟨x, hx, hu⟩ := hc
            exact ⟨_, rfl, x, hx, hu⟩
        have hall := (all2_map_opd hF args.toList).append hcaps
        rw [splitCaps_eq hsp] at hall
        obtain ⟨vs1, vs2, hvs, hall1, hall2⟩ := all2_split hall
        have hst0 : ∀ k o, all[k]? = some o → isSt o = false := fun k o hk => by simpa using List.all_eq_true.1 hnst o (List.mem_of_getElem? hk)
        have hpre : H i <+: PH H all.length m := by
          rcases Nat.le_total i m with h | h
          · rw [hs'.ph_run h hm.le fun k p _ _ hp => hst0 k p hp]
            exact ph_pre
          · rw [← hs'.ph_run h (by omega) fun k p _ _ hp => hst0 k p hp]
            exact ph_pre
        obtain ⟨zs, rfl, hcell⟩ := caps_cells hcv hcaz (fun b blk x hb hx => by
          obtain ⟨blk', h1, h2⟩ := hWm.blk b x hx
          rw [pre_get hpre hb] at h1
          cases h1
          exact ⟨_, h2⟩) hall2
        have hcK := ((hM _ _ _ hc).2.2 (Nat.le_add_right _ _)).1 (Nat.lt_of_lt_of_le (Nat.add_lt_add_left hf.2 capOff) (by decide))
        rw [Nat.add_sub_cancel_left] at hcK
        obtain ⟨az', caz', heq, hcK⟩ := hcK
        simp only [List.cons.injEq, Prod.mk.injEq, true_and, and_true, D.i.injEq, Int.natCast_inj] at heq
        have hcl : caz.length = cs.length := by
          have h1 := hcell.length
          have h2 := hall2.length
          simp at h2
          omega
        obtain ⟨rfl, rfl⟩ := List.append_inj' heq.2 (by omega)
        have hda := exVs_sound hxs haz (argsOf_sound hps hall1)
        refine wp_enter (run_call ho' hval hf.1) ?_
        rw [show (#[] ++ args.map a.eval ++ us.toArray : Array Value) = (args.toList.map a.eval ++ us).toArray from by apply Array.toList_inj.1; simp, hvs]
        refine (hcK I w vs1 zs hWm.glo hWm.imm hda hcell).mono ?_
        rintro e w' ⟨v, rfl, h4, h5, hn, h6⟩
        have h3 : ∀ x, I x → x < w'.heap.size := fun x hx => Nat.lt_of_lt_of_le (hWm.imm x hx) h5
        obtain ⟨_, hev⟩ := hWm.call (I' := I) (fun _ h => h) (fun x h => .inl h) h3 h4 h5 hn
        refine hK I μ w' _ (inv.next hok ho hnl hrd hev (fun d hd => ?_) (fun m' hm' => ((inv.wr m' (hm'.upd_other ho hSt)).call (I' := I) (fun _ h => h) (fun x h => .inl h) h3 h4 h5 hn).1) (hoL.symm ▸ inv.own.call (I' := I) (fun _ h => h) (fun x h => .inl h) hWm.imm h4) halu) hev (put_size _ _ _)
        exact (hslot d hd).imp id fun h => (h I μ w' _).1 (tupS_sound hv h6)
      ·
        have hopg : opd (Fr i) g = opd fr' g := hopd g (by simp [ho', Op.operands, Call.operands])
        have hopa : args.toList.map (opd (Fr i)) = args.toList.map (opd fr') := map_opd_congr fun x hx => hopd x (by simp [ho', Op.operands, Call.operands]; exact .inr (by simpa using hx))
        rw [hopg] at hg
        rw [hopa] at hargs
        have hgv := hop g
        have hval : a.eval g = .func (.func f) #[] #[] := by
          rcases hg with hg | hg
          · rw [hg] at hgv
            obtain ⟨d, hd, hr⟩ := e?_sound (t := .c (.f f)) rfl hgv
            simp only [Ex.eval] at hd
            cases hd
            exact hr.f_inv
          · rw [hg] at hgv
            obtain ⟨vs, hvv, hcaps⟩ := l?_sound (l := .clo f []) rfl hgv
            cases hcaps
            exact hvv
        obtain ⟨I1, hW1, he1, hO1⟩ := inv.own.frz hWm (idsVs ps)
        have hx : exVs (fixVs (frz (idsVs ps) (oL o0 all Lst)) ps) = some xs := by
          by_cases h0 : o0.o = []
          · rw [h0] at hx
            rw [exVs_fix hx]
            exact hx
          · unfold oL
            rw [if_neg (by simpa using h0)]
            exact hx
        have hargs1 : All2 (SR I1 μ w ρ) (args.toList.map (opd fr')) (args.toList.map a.eval) := (all2_map_opd hF args.toList).imp fun _ _ h => h.mono he1 (List.prefix_refl _)
        have hda := exVs_sound hx he (fixVs_sound hO1 (argsOf_sound hargs hargs1))
        refine wp_enter (run_call ho' hval hf.1) ?_
        rw [show (#[] ++ args.map a.eval ++ #[] : Array Value) = (args.toList.map a.eval).toArray from by apply Array.toList_inj.1; simp]
        refine ((hM f az rs hc).1 hf.2 I1 w _ hW1.glo hW1.imm hda).mono ?_
        rintro e w' ⟨v, I', rfl, h1, h2, h3, h4, h5, hn, h6⟩
        have h3 : ∀ x, I x → x < w'.heap.size := fun x hx => Nat.lt_of_lt_of_le (hWm.imm x hx) h5
        obtain ⟨_, hev⟩ := hWm.call (I' := I) (fun _ h => h) (fun x h => .inl h) h3 h4 h5 hn
        refine hK I μ w' _ (inv.next hok ho hnl hrd hev (fun d hd => ?_) (fun m' hm' => ((inv.wr m' (hm'.upd_other ho hSt)).call (I' := I) (fun _ h => h) (fun x h => .inl h) h3 h4 h5 hn).1) (hoL.symm ▸ inv.own.call (I' := I) (fun _ h => h) (fun x h => .inl h) hWm.imm h4) halu) hev (put_size _ _ _)
        exact (hslot d hd).imp id fun h => (h I μ w' _).1 (tupS_sound hv (RsR.plain hpl h6))
      ·
        rw [ownQ_congr hopd] at hq
        have hq : ownQ E.P E.G fr' (H i) (oL o0 all Lst) o.op = some (cs, s) := by
          by_cases h0 : o0.o = []
          · rw [h0, ownQ_nil] at hq
            cases hq
          · unfold oL
            rw [if_neg (by simpa using h0)]
            exact hq
        obtain ⟨v, hrun, hsr⟩ := ownQ_sound inv.own hop hq hcs
        exact quiet ⟨_, v, hrun, .inl rfl, hsr, hWm⟩
      ·
        by_cases hAq : isA o.op = true
        · obtain ⟨_, hs2⟩ := simple_any hAq hs (PH H all.length m)
          rw [simple_congr hopd] at hs2
          refine quiet (simple_quiet ?_ hWm hop hs2 hcs)
          revert hAq
          unfold isA
          cases o.op <;> simp
        · have hAq : isA o.op = false := by simpa using hAq
          have hcl := inv.cl
          have hco : ∀ (j : Nat) (o : Oper), all[j]? = some o → Comes C E o0 ρ all o (Fr j) (H j) (H (j + 1)) frE ∧ lg[j]? = some (opAcc E.P (Fr j) (H j) o) := fun j o h => (hinfo j o h).2.2.2
          by_cases hl : ∃ t x, o.op = .load t x
          · obtain ⟨t, x, hl⟩ := hl
            have hag := seen_agr hok hlog hco hs' hcl ho hnl hrd (.inl (by simp [isLd, hl])) hm
            obtain ⟨_, hs2⟩ := simple_pad (.inr ⟨t, x, hl⟩) (ph_pre (n := all.length)) hs
            rw [hl] at hs2
            have hs3 := simple_load_agr hl hag hs2
            rw [← hl, simple_congr hopd] at hs3
            exact quiet (simple_quiet (by rw [hl]; trivial) hWm hop hs3 hcs)
          · have hst : ∀ t x y, o.op ≠ .store t x y := fun t x y e => by simp [isSt, e] at hSt
            have hAl : isAl o = true := by
              revert hAq
              unfold isA isAl
              cases hoo : o.op <;> simp
              · exact hl ⟨_, _, hoo⟩
              · exact hst _ _ _ hoo
            have hag := seen_agr hok hlog hco hs' hcl ho hnl hrd (.inr hAl) hm
            have hacc : opAcc E.P (Fr i) (H i) o = some ((H i).length, 0, none) := by
              unfold opAcc
              revert hAl
              unfold isAl
              cases hoo : o.op <;> simp
            rw [hacc] at hag
            rw [simple_congr hopd] at hs
            obtain ⟨ls, vs, ty, v, hls, hvs, hrun, hsr⟩ := simple_made (I := I) (μ := μ) (w := w) (ρ := ρ) (a := a) (by
              revert hAl
              unfold isAl
              cases o.op <;> simp) hop hs
            have hPi : (PH H all.length i)[(H i).length]? = some { ro := false, ls := ls } := by
              have h1 : PH H all.length (i + 1) = PH H all.length i := hs'.ph_same ho hSt
              rw [← h1]
              refine pre_get ph_pre ?_
              rw [hls]
              simp
            obtain ⟨blk', h1, h2, h3, h4⟩ := hag _ hPi
            have hblk : blk' = { ro := false, ls := ls } := by
              obtain ⟨r', l'⟩ := blk'
              simp only at h2 h3 h4
              subst h2
              congr 1
              exact List.ext_getElem? fun q => h4 q (Nat.zero_le _) fun x hx => by cases hx
            subst hblk
            have hnone := inv.al i o ho hAl (by rw [hls]; simp) hnl
            obtain ⟨_, he⟩ := hWm.allocAt ty h1 hnone hvs
            have hfr := fresh_new μ w (H i).length
            have hOw := inv.own.frame he hfr (fun x hx => .inl hx) (fun k t v x hk hv hx => by
              have := (inv.own.lt hk hv hx).1
              show (w.heap.push _)[x]? = _
              rw [Array.getElem?_push, if_neg (by omega)])
            refine wp_value hrun (.inl rfl) (hK I _ _ _ (inv.next hok ho hnl hrd he (fun d hd => ?_) (fun m' hm' => ?_) (hoL.symm ▸ hOw) (fun j p hp hap hne hl => ?_)) he (put_size _ _ _))
            · exact (hslot d hd).imp id fun h => (h I _ _ _).1 (hsr I _ _ (by simp))
            · have := (hm'.upd_other ho hSt).unique hm
              subst this
              exact (hWm.allocAt ty h1 hnone hvs).1
            · have hji : j ≠ i := fun e => by subst e; rw [upd_self] at hl; cases hl
              have h0 := halu j p hp hap hne hl
              have hlen' : (H j).length ≠ (H i).length := by
                have hjl : j < all.length := (List.getElem?_eq_some_iff.1 hp).1
                rcases Nat.lt_or_ge i j with h | h
                · have e1 : (H (i + 1)).length = (H i).length + 1 := by rw [hls]; simp
                  have e2 := hs'.mono (show i + 1 ≤ j from h) (by omega)
                  omega
                · have hlt : j < i := by omega
                  intro e
                  -- the block of the elder operation
                  have hpn : isSt p = false := by revert hap; unfold isAl isSt; cases p.op <;> simp
                  rcases (hs' j p hp).1 hpn with h | ⟨_, ls', h⟩
                  · exact hne (by rw [h])
                  · have e1 : (H (j + 1)).length = (H j).length + 1 := by rw [h]; simp
                    have e2 := hs'.mono (show j + 1 ≤ i from hlt) (by omega)
                    omega
              simp only [hlen', if_false]
              exact h0
  · -- the slice in new memory
    obtain ⟨hgd, hH, ho0, hNE⟩ := hNE
    have hw : Region.wanted o (yielded all.toArray a.tmps) = true := by
      unfold Region.wanted
      rw [hgd]
    rw [if_pos hw]
    have hvals : ∀ {f : FuncId} {g : Operand} {args : Array Operand} {tys : Array TypeId}, o.op = .call { callee := .value g, args := args, argTypes := tys } → Callee (opd (Fr i) g) f →
        a.eval g = .func (.func f) #[] #[] ∧ args.toList.map (opd (Fr i)) = args.toList.map (opd fr') := by
      intro f g args tys ho' hg
      have hopg : opd (Fr i) g = opd fr' g := hopd g (by simp [ho', Op.operands, Call.operands])
      refine ⟨?_, map_opd_congr fun x hx => hopd x (by simp [ho', Op.operands, Call.operands]; exact .inr (by simpa using hx))⟩
      rw [hopg] at hg
      have hgv := hop g
      rcases hg with hg | hg
      · rw [hg] at hgv
        obtain ⟨d, hd, hr⟩ := e?_sound (t := .c (.f f)) rfl hgv
        simp only [Ex.eval] at hd
        cases hd
        exact hr.f_inv
      · rw [hg] at hgv
        obtain ⟨vs, hvv, hcaps⟩ := l?_sound (l := .clo f []) rfl hgv
        cases hcaps
        exact hvv
    rcases hNE with ⟨d, u, t, hd, hpr, ⟨f, g, args, tys, ps, xs, az, s, rows, ho', hg, hargs, hx, he, hc, hf, ht⟩, hslot⟩ | ⟨d, d1, t, s, hd, hpr, hne, ⟨f, g, args, tys, as, ps, xs, az, s0, rows, rs, k, ho', hg, hal, hargs, hx, he, ht, hc, hf, hv, rfl⟩, hslot⟩
    · have hSt : isSt o = false := by simp [isSt, ho']
      obtain ⟨hval, hopa⟩ := hvals ho' hg
      rw [hopa] at hargs
      have hda := exVs_sound hx he (argsOf_sound hargs (all2_map_opd hF args.toList))
      have hcN := (((hM _ _ _ hc).2.2 (Nat.le_trans (by decide) (Nat.le_add_right nwOff f))).2.2 (Nat.le_add_right _ _)).1 (Nat.lt_of_lt_of_le (Nat.add_lt_add_left hf.2 nwOff) (by decide))
      rw [Nat.add_sub_cancel_left] at hcN
      obtain ⟨r, hr, _, hcN⟩ := hcN
      have hr : r = (false, [.sl s rows]) := by simpa using hr.symm
      subst hr
      refine wp_enter (run_call ho' hval hf.1) ?_
      rw [show (#[] ++ args.map a.eval ++ #[] : Array Value) = (args.toList.map a.eval).toArray from by apply Array.toList_inj.1; simp]
      refine (hcN I w _ hWm.glo hWm.imm hda).mono ?_
      rintro e w' ⟨v, rfl, h4, h5, hn, h6⟩
      obtain ⟨d', hd', hnr⟩ : ∃ d', [D.sl s rows] = [d'] ∧ NR w.heap.size w' d' v := by simpa [NsR] using h6
      obtain rfl : d' = .sl s rows := by simpa using hd'.symm
      have hV' : OwnV B I w' s rows v := hnr.own hWm.size fun x hx => hWm.imm x hx
      have hgr : Gr w w' none := ⟨hn.1, hn.2, h5, fun y hy _ => h4 y hy⟩
      have ho1 : oL o0 all Lst = [] := by
        unfold oL
        rw [if_pos (by simpa using ho0), hpr]
        simp only [lstD_not hok.nd ho hd hnl]
        rfl
      have ho2 : oL o0 all (upd Lst i) = [⟨t, .live⟩] := by
        unfold oL
        rw [if_pos (by simpa using ho0), hpr]
        have h1 : lstD all (upd Lst i) d = true := lstD_self ho hd
        simp only [h1, if_true]
        cases u with
        | none => rfl
        | some d2 =>
          have h2 : lstD all (upd Lst i) d2 = false := by
            rw [Bool.eq_false_iff]
            intro h2
            obtain ⟨j, p, hp, hpd, hl⟩ := lstD_iff.1 h2
            obtain ⟨hFl', ha', hb', hcomes', hlgi'⟩ := hinfo j p hp
            have hPp : isP o0 p = false → False := fun hP' => by
              unfold isP at hP'
              rw [List.any_eq_false] at hP'
              exact hP' d2 (by simp [hpr, pnDs]) (by simp [hpd])
            rcases hcomes' with ⟨_, _, _, hP'⟩ | ⟨_, _, _, _, hP'⟩ | ⟨_, _, _, h3⟩
            · exact hPp hP'
            · exact hPp hP'
            · have hne2 : d ≠ d2 ∧ lastTmp p = some d := by
                rcases h3 with ⟨d3, u3, t3, hd3, hpr3, hN3, _⟩ | ⟨d3, d4, t3, s3, hd3, hpr3, hne3, _⟩
                · rw [hpr] at hpr3
                  cases hpr3
                  rw [hpd] at hd3
                  cases hd3
                  exact (hpn2 _ _ _ hpr rfl).elim
                · rw [hpr] at hpr3
                  cases hpr3
                  exact hne3
              have hji : j ≠ i := fun e => by
                subst e
                rw [ho] at hp
                cases hp
                rw [hd] at hpd
                exact hne2.1 (Option.some.inj hpd)
              rw [upd_ne hji] at hl
              have h4 := (hok.e2 j p hp d (lastTmp_reads hne2.2) i o ho hd).2 (by unfold isC; rw [ho'])
              have h5 := inv.cl j p hp hl i h4
              rw [hnl] at h5
              cases h5
          show [(⟨t, if lstD all (upd Lst i) d2 = true then .dead else .live⟩ : OS)] = _
          rw [h2]
          rfl
      have hO0 : OwnR B I μ w ρ [] := ho1 ▸ inv.own
      have hpush : ∀ {h : Heap}, WR E.G B I₀ w₀ I μ w ρ h → WR E.G B I₀ w₀ I (μ.push 0 v) w' ρ h ∧ Evo I μ w I (μ.push 0 v) w' ∧ OwnR B I (μ.push 0 v) w' ρ ([] ++ [⟨t, .live⟩]) := fun hW =>
        OwnR.push (o1 := []) (row := none) (w' := w') (v' := v) (s' := s) (rows' := rows) (t' := t) hW hO0 rfl (fun k t h => by simp at h) (fun k t h => by simp at h) (fun x hx => by cases hx) hgr hV' (fun x hx => by
          have hV0 : OwnV w.heap.size (fun _ => False) w' s rows v := hnr.1
          obtain ⟨_, _, _, _, hB, _⟩ := hV0.block hx
          exact .inr hB) ht
      obtain ⟨_, hev, hO1⟩ := hpush hWm
      refine hK I (μ.push 0 v) w' _ (inv.next hok ho hnl hrd hev (fun e hde => ?_) (fun m' hm' => (hpush (inv.wr m' (hm'.upd_other ho hSt))).1) (ho2.symm ▸ hO1) halu) hev (put_size _ _ _)
      rw [hd] at hde
      cases hde
      obtain ⟨b, c, rfl⟩ := hV'.slice
      exact hslot.imp id fun h => (h I _ w' _).1 push_sr
    · have hSt : isSt o = false := by simp [isSt, ho']
      obtain ⟨hval, hopa⟩ := hvals ho' hg
      rw [hopa] at hal
      obtain ⟨e, p, hp, hpd⟩ := hpn1 d1 (by simp [hpr, pnDs])
      have hpC : isC p = false := by
        obtain ⟨_, _, _, hcomes', _⟩ := hinfo e p hp
        have hPp : isP o0 p = false → False := fun hP' => by
          unfold isP at hP'
          rw [List.any_eq_false] at hP'
          exact hP' d1 (by simp [hpr, pnDs]) (by simp [hpd])
        rcases hcomes' with ⟨_, _, _, hP'⟩ | ⟨_, _, _, _, hP'⟩ | ⟨_, _, _, h3⟩
        · exact (hPp hP').elim
        · exact (hPp hP').elim
        · rcases h3 with ⟨_, _, _, _, _, ⟨_, _, _, _, _, _, _, _, _, ho3, _⟩, _⟩ | ⟨_, _, _, _, _, _, _, ⟨_, _, _, _, _, _, _, _, _, _, _, _, ho3, _⟩, _⟩ <;> (unfold isC; rw [ho3])
      have hbe := (hok.e2 i o ho d1 (lastTmp_reads hne.2) e p hp hpd).2 hpC
      have hle := hrd e hbe
      have ho1 : oL o0 all Lst = [⟨t, .live⟩] := by
        unfold oL
        rw [if_pos (by simpa using ho0), hpr]
        simp only [lstD_not hok.nd ho hd hnl]
        rw [lstD_iff.2 ⟨e, p, hp, hpd, hle⟩]
        rfl
      have hei : e ≠ i := fun h => by rw [h, hnl] at hle; cases hle
      have ho2 : oL o0 all (upd Lst i) = [⟨t, .dead⟩] := by
        unfold oL
        rw [if_pos (by simpa using ho0), hpr]
        have h1 : lstD all (upd Lst i) d = true := lstD_self ho hd
        have h2 : lstD all (upd Lst i) d1 = true := lstD_iff.2 ⟨e, p, hp, hpd, by rw [upd_ne hei]; exact hle⟩
        simp only [h1, h2, if_true]
      have hO1 : OwnR B I μ w ρ [⟨t, .live⟩] := ho1 ▸ inv.own
      obtain ⟨v, s1, rows1, hmv, hte, hV⟩ := hO1.live 0 t rfl
      rw [ht] at hte
      cases hte
      have hall : All2 (SR I μ w ρ) (as ++ [.val false [.g 0]]) (args.toList.map a.eval) := hal ▸ all2_map_opd hF args.toList
      obtain ⟨vs1, vs2, hvs, hall1, hall2⟩ := all2_split hall
      obtain ⟨v', rfl, hgv⟩ : ∃ v', vs2 = [v'] ∧ SR I μ w ρ (.val false [.g 0]) v' := by
        cases hall2 with
        | cons h1 h2 => cases h2; exact ⟨_, rfl, h1⟩
      obtain rfl : v' = v := by
        obtain ⟨l, hl, hlr⟩ := hgv
        obtain rfl : l = .g 0 := by simpa using hl.symm
        obtain ⟨b, n, c, hv', hm'⟩ := hlr
        rw [hmv] at hm'
        cases hm'
        rfl
      have hda := exVs_sound hx he (argsOf_sound hargs hall1)
      have hcE := (((hM _ _ _ hc).2.2 (Nat.le_trans (by decide) (Nat.le_add_right useOff f))).2.2 (Nat.le_trans (by decide) (Nat.le_add_right useOff f))).2 (Nat.le_trans (by decide) (Nat.le_add_right useOff f)) |>.2 (Nat.le_add_right useOff f)
      rw [Nat.add_sub_cancel_left] at hcE
      obtain ⟨az', s1, rows1, hae, hcE⟩ := hcE
      obtain ⟨rfl, hae⟩ := List.append_inj' hae rfl
      obtain ⟨rfl, rfl⟩ : s0 = s1 ∧ rows = rows1 := by simpa using hae
      refine wp_enter (run_call ho' hval hf.1) ?_
      rw [show (#[] ++ args.map a.eval ++ #[] : Array Value) = (args.toList.map a.eval).toArray from by apply Array.toList_inj.1; simp, hvs]
      refine (hcE B I w vs1 v' hWm.glo hWm.imm hWm.size hda hV).mono ?_
      rintro e' w' ⟨u, I', rfl, h1, h2, h3, hgr, h6⟩
      have hrow : ∀ x, v'.ownBlock = some x → ¬ I x ∧ (∀ b, μ b ≠ some x) ∧ B ≤ x := fun x hx => by
        obtain ⟨h7, h8, h9⟩ := hO1.lt (k := 0) rfl hmv hx
        exact ⟨h9, (hO1.dis 0 t v' x rfl hmv hx).1, h8⟩
      have heq : (fun x => I x ∨ (I' x ∧ ¬ I x)) = I' := by
        funext x
        apply propext
        constructor
        · rintro (h | h)
          · exact h1 x h
          · exact h.1
        · intro h
          by_cases hI : I x
          · exact .inl hI
          · exact .inr ⟨h, hI⟩
      have hfin : ∀ {h : Heap}, WR E.G B I₀ w₀ I μ w ρ h → WR E.G B I₀ w₀ I' μ w' ρ h ∧ Evo I μ w I' μ w' := fun {h} hW => by
        obtain ⟨hW1, he1⟩ := hW.other (μ' := μ) hgr hrow rfl (fun _ _ h => h)
        obtain ⟨hW2, he2⟩ := hW1.more (X := fun x => I' x ∧ ¬ I x) (fun x hx => ⟨h3 x hx.1, by
          rcases h2 x hx.1 with h' | h' | h'
          · exact absurd h' hx.2
          · exact Nat.le_trans hW.size h'
          · exact (hrow x h').2.2, fun b hb => by
          rcases h2 x hx.1 with h' | h' | h'
          · exact absurd h' hx.2
          · have := hW.mlt hb; omega
          · exact (hrow x h').2.1 b hb⟩)
        rw [heq] at hW2 he2
        exact ⟨hW2, he1.trans he2⟩
      obtain ⟨_, hev⟩ := hfin hWm
      have hO2 : OwnR B I' μ w' ρ [⟨t, .dead⟩] := ⟨fun k t h => by cases k <;> simp at h, fun k t h => by cases k <;> simp at h, fun k t v x h => by cases k <;> simp at h, fun k hk => hO1.new k hk⟩
      refine hK I' μ w' _ (inv.next hok ho hnl hrd hev (fun e hde => ?_) (fun m' hm' => (hfin (inv.wr m' (hm'.upd_other ho hSt))).1) (ho2.symm ▸ hO2) halu) hev (put_size _ _ _)
      rw [hd] at hde
      cases hde
      exact hslot.imp id fun h => (h I' μ w' _).1 (tupS_sound hv h6)

theorem ready_mem {ops : Array Oper} {listed : Array Bool} (hsz : listed.size = ops.size) {i : Nat} (h : i ∈ Region.ready .any ops listed) : ∃ o, ops[i]? = some o ∧ listed[i]? = some false ∧ ∀ e ∈ bindsOn o, listed.getD e false = true := by
  unfold Region.ready at h
  obtain ⟨h1, h2⟩ := List.mem_filter.1 h
  have hi : i < ops.size := by simpa using h1
  simp only [Bool.and_eq_true, Bool.not_eq_true'] at h2
  obtain ⟨h3, h4⟩ := h2
  refine ⟨ops[i], Array.getElem?_eq_getElem hi, ?_, fun e he => ?_⟩
  · have hi' : i < listed.size := by omega
    rw [Array.getD_eq_getD_getElem?, Array.getElem?_eq_getElem hi'] at h3
    rw [Array.getElem?_eq_getElem hi']
    simpa using h3
  · rw [Array.getElem?_eq_getElem hi] at h4
    simp only [Option.map_some, Option.getD_some] at h4
    unfold bindsOn at he
    obtain ⟨x, hx, rfl⟩ := List.mem_map.1 he
    obtain ⟨hx1, hx2⟩ := List.mem_filter.1 hx
    have := Array.all_eq_true'.1 h4 x (by simpa using hx1)
    rw [hx2] at this
    simpa using this

theorem ready_of {ops : Array Oper} {listed : Array Bool} (hsz : listed.size = ops.size) {i : Nat} {o : Oper} (ho : ops[i]? = some o) (hl : listed[i]? = some false) (hb : ∀ e ∈ bindsOn o, listed.getD e false = true) : i ∈ Region.ready .any ops listed := by
  unfold Region.ready
  have hi : i < ops.size := (Array.getElem?_eq_some_iff.1 ho).1
  refine List.mem_filter.2 ⟨by simpa using hi, ?_⟩
  simp only [Bool.and_eq_true, Bool.not_eq_true']
  refine ⟨by rw [Array.getD_eq_getD_getElem?, hl]; rfl, ?_⟩
  rw [ho]
  simp only [Option.map_some, Option.getD_some]
  refine Array.all_eq_true'.2 fun x hx => ?_
  cases hbx : Region.binds .any x with
  | false => rfl
  | true => simpa using hb x.on (by unfold bindsOn; exact List.mem_map.2 ⟨x, List.mem_filter.2 ⟨by simpa using hx, hbx⟩, rfl⟩)

/-- Whatever the order: as a predicate on the orders. -/
theorem any_sound0 {Q : Exit → Act → World → Prop} (hM : ∀ f as rs, C f as rs → ConX E.P E.G f as rs) (hd : drawB all = true) {h0 hE : Heap} (hp : Path C E o0 all ρ lg all fr0 h0 frE hE) (hlog : logOK all lg = true)
    (hF : FR I μ w ρ fr0 a) (hW : WR E.G B I₀ w₀ I μ w ρ h0) (hO : OwnR B I μ w ρ o0.o) (hpn1 : ∀ d ∈ pnDs o0.pr, ∃ p ∈ all, p.dst = some d) (hpn3 : o0.pr ≠ none → o0.o = []) (hpn2 : ∀ d1 d2 t, o0.pr = some (d1, some d2, t) → d1 ≠ d2) (hdf : a.defers = []) (hQ : ∀ I' μ' w' a', FR I' μ' w' ρ frE a' → WR E.G B I₀ w₀ I' μ' w' ρ hE → OwnR B I' μ' w' ρ (pnO o0.o o0.pr) → Evo I μ w I' μ' w' → a'.defers = [] → Q .normal a' w') :
    wpA E.P .any all.toArray Q all.toArray.size (Array.replicate all.toArray.size false) a { w with drawn := w.drawn + 1 } := by
  have hok := drawB_sound hd
  have hnodup : (all.filterMap (·.dst)).Nodup := by
    unfold drawB at hd
    simp only [Bool.and_eq_true] at hd
    exact nodupB_sound hd.1
  obtain ⟨hlen, heqv, Fr, H, hH0, hHn, hinfo⟩ := path_info hp hnodup
  subst hH0
  subst hHn
  have hs' : HS all H := fun j o ho => comes_heap (hinfo j o ho).2.2.2.1
  have hpn1' : ∀ d ∈ pnDs o0.pr, ∃ (i : Nat) (p : Oper), all[i]? = some p ∧ p.dst = some d := fun d hd => by
    obtain ⟨p, hm, hp⟩ := hpn1 d hd
    obtain ⟨i, hi⟩ := List.getElem?_of_mem hm
    exact ⟨i, p, hi, hp⟩
  have hoE : ∀ Lst : Nat → Bool, (∀ i, i < all.length → Lst i = true) → oL o0 all Lst = (pnO o0.o o0.pr) := fun Lst hall => by
    have hl : ∀ d ∈ pnDs o0.pr, lstD all Lst d = true := fun d hd => by
      obtain ⟨i, p, hi, hp⟩ := hpn1' d hd
      exact lstD_iff.2 ⟨i, p, hi, hp, hall i (List.getElem?_eq_some_iff.1 hi).1⟩
    unfold oL
    cases hpr : o0.pr with
    | none =>
      split
      · rename_i h0
        exact (List.isEmpty_iff.1 h0).symm
      · rfl
    | some q =>
      obtain ⟨d1, u, t⟩ := q
      have h0 := hpn3 (by simp [hpr])
      rw [if_pos (by simpa using h0)]
      rw [hpr] at hl
      cases u with
      | none => simp [pnO, hl d1 (by simp [pnDs])]
      | some d2 => simp [pnO, hl d1 (by simp [pnDs]), hl d2 (by simp [pnDs])]
  -- all listed
  have hend : ∀ {Lst I' μ' w' a'}, AnyInv all fr0 frE H o0 E.G B I₀ w₀ ρ Lst I' μ' w' a' → Evo I μ w I' μ' w' → (∀ i, i < all.length → Lst i = true) → Q .normal a' w' := by
    intro Lst I' μ' w' a' inv he hall
    have hPn : PH H all.length all.length = H all.length := by
      have h1 := hs'.ibs_len (j := all.length) (Nat.le_refl _)
      unfold PH
      rw [List.drop_eq_nil_of_le (by omega), List.append_nil]
    refine hQ I' μ' w' a' ⟨inv.len, fun t => ?_⟩ (hPn ▸ inv.wr _ ⟨Nat.le_refl _, fun j o hj _ _ => hall j hj, fun o ho => by simp at ho⟩) (hoE Lst hall ▸ inv.own) he inv.df
    by_cases hn : NoDst all t
    · exact (heqv t hn I' μ' w' _).1 (inv.f1 t hn)
    · have hn' : ∃ p ∈ all, p.dst = some t := by
        by_cases h' : ∃ p ∈ all, p.dst = some t
        · exact h'
        · exact absurd (fun p hp hd => h' ⟨p, hp, hd⟩) hn
      obtain ⟨p, hpm, hpd⟩ := hn'
      obtain ⟨j, hj⟩ := List.getElem?_of_mem hpm
      exact inv.f2 j p t hj hpd (hall j (List.getElem?_eq_some_iff.1 hj).1)
  have hgo : ∀ (fuel : Nat) (listed : Array Bool) (I' : Imm) (μ' : Mu) (w' : World) (a' : Act), listed.size = all.length → listed.toList.count false = fuel → AnyInv all fr0 frE H o0 E.G B I₀ w₀ ρ (fun j => listed.getD j false) I' μ' w' a' → Evo I μ w I' μ' w' →
      wpA E.P .any all.toArray Q fuel listed a' w' := by
    intro fuel
    induction fuel with
    | zero =>
      intro listed I' μ' w' a' hsz hcnt inv he
      have hall : ∀ i, i < all.length → listed.getD i false = true := by
        intro i hi
        have hi' : i < listed.size := by omega
        rw [Array.getD_eq_getD_getElem?, Array.getElem?_eq_getElem hi']
        cases hb : listed[i] with
        | true => rfl
        | false =>
          exfalso
          have := List.count_pos_iff.2 (show false ∈ listed.toList from by rw [← hb]; simp)
          omega
      unfold wpA
      refine ⟨?_, hend inv he hall⟩
      refine List.eq_nil_iff_forall_not_mem.2 fun i hi => ?_
      obtain ⟨o, h1, h2, _⟩ := ready_mem (by simpa using hsz) hi
      have hi' : i < all.length := by simpa using (Array.getElem?_eq_some_iff.1 h1).1
      have := hall i hi'
      rw [Array.getD_eq_getD_getElem?, h2] at this
      cases this
    | succ fuel ih =>
      intro listed I' μ' w' a' hsz hcnt inv he
      unfold wpA
      refine ⟨fun hnil => ?_, fun i hi => ?_⟩
      · refine hend inv he fun i hi => ?_
        have key : ∀ k, k < all.length → listed.getD k false = true := by
          intro k
          induction k using Nat.strongRecOn with
          | ind k ihk =>
            intro hk
            cases hb : listed.getD k false with
            | true => rfl
            | false =>
              exfalso
              have hk' : k < listed.size := by omega
              have hm : k ∈ Region.ready .any all.toArray listed := ready_of (o := all[k]) (by simpa using hsz) (by simp [hk]) (by
                rw [Array.getD_eq_getD_getElem?, Array.getElem?_eq_getElem hk'] at hb
                rw [Array.getElem?_eq_getElem hk']
                simpa using hb) (fun e hem => ihk e (hok.e1 k _ (List.getElem?_eq_getElem hk) e hem) (by have := hok.e1 k _ (List.getElem?_eq_getElem hk) e hem; omega))
              rw [hnil] at hm
              cases hm
        exact key i hi
      · obtain ⟨o, h1, h2, h3⟩ := ready_mem (by simpa using hsz) hi
        have ho : all[i]? = some o := by simpa using h1
        have hil : i < listed.size := (Array.getElem?_eq_some_iff.1 h2).1
        have hnl : listed.getD i false = false := by rw [Array.getD_eq_getD_getElem?, h2]; rfl
        refine any_step hM hok hlog hlen hinfo hs' inv hpn1' hpn2 ho hnl h3 fun I'' μ'' w'' a'' inv' he' _ => ?_
        refine ih _ I'' μ'' w'' a'' (by simpa using hsz) ?_ ?_ (he.trans he')
        · have hil' : i < listed.toList.length := by simpa using hil
          have hf : listed.toList[i] = false := by
            have := (Array.getElem?_eq_some_iff.1 h2).2
            simpa using this
          have hpos : 0 < listed.toList.count false := List.count_pos_iff.2 (by rw [← hf]; exact List.getElem_mem hil')
          simp only [Array.toList_setIfInBounds]
          rw [List.count_set hil', hf]
          simp only [beq_self_eq_true, if_true, show (true == false) = false from rfl, Bool.false_eq_true, if_false]
          omega
        · have : (fun j => (listed.setIfInBounds i true).getD j false) = upd (fun j => listed.getD j false) i := by
            funext j
            unfold upd
            by_cases hj : j = i
            · subst hj
              simp [Array.getD_eq_getD_getElem?, hil]
            · rw [if_neg hj]
              simp [Array.getD_eq_getD_getElem?, Array.getElem?_setIfInBounds_ne (Ne.symm hj)]
          rw [this]
          exact inv'
  obtain ⟨hW1, he1⟩ := hW.same (w' := { w with drawn := w.drawn + 1 }) rfl ⟨rfl, rfl⟩
  have hnl0 : ∀ (i : Nat), (Array.replicate all.length false).getD i false = false := fun i => by
    simp [Array.getD_eq_getD_getElem?, Array.getElem?_replicate]
    split <;> simp
  have hoS : o0.o = oL o0 all (fun j => (Array.replicate all.toArray.size false).getD j false) := by
    have hl : ∀ d, lstD all (fun j => (Array.replicate all.toArray.size false).getD j false) d = false := fun d => by
      rw [Bool.eq_false_iff]
      intro h
      obtain ⟨i, p, hi, hp, h⟩ := lstD_iff.1 h
      have := hnl0 i
      simp only [List.size_toArray] at h
      rw [this] at h
      cases h
    unfold oL
    split
    · rename_i h0
      cases hpr : o0.pr with
      | none => exact List.isEmpty_iff.1 h0
      | some q =>
        obtain ⟨d1, u, t⟩ := q
        show o0.o = if lstD all (fun j => (Array.replicate all.toArray.size false).getD j false) d1 = true then _ else []
        rw [if_neg (by rw [hl d1]; decide)]
        exact List.isEmpty_iff.1 h0
    · rfl
  refine hgo _ _ I μ _ a (by simp) (by simp) ?_ he1
  refine ⟨hlen.symm.trans hF.len, hdf, fun t _ => ((hF.at_ t).mono he1 (List.prefix_refl _)), fun i o t hi _ hl => ?_, fun i o t hi hd _ hc => ((hF.at_ t).mono he1 (List.prefix_refl _)), fun m hm => ?_, hoS ▸ hO.frame he1 (Fresh.refl _ _) (fun x hx => .inl hx) (fun _ _ _ _ _ _ _ => rfl), fun i o hi hal _ hl => ?_, fun i o hi hl => ?_⟩
  · exfalso
    have := hnl0 i
    simp only [List.size_toArray] at hl
    rw [this] at hl
    cases hl
  · -- at the beginning none is listed: no store is done
    have hrun := hs'.ph_run (j := 0) (Nat.zero_le m) hm.le fun k p _ hk hp => by
      cases hc : isSt p with
      | false => rfl
      | true =>
        have h1 := hm.below k p hk hp hc
        have h2 := hnl0 k
        simp only [List.size_toArray] at h1
        rw [h2] at h1
        cases h1
    rw [hrun]
    refine ⟨fun b x hb => ?_, hW1.inj, hW1.glo, hW1.old, hW1.size, hW1.imm, hW1.imm0, hW1.wd⟩
    obtain ⟨blk, h1, h2⟩ := hW1.blk b x hb
    exact ⟨blk, pre_get ph_pre h1, h2⟩
  · -- no block of the call's own stands where the new one will
    cases hμ : μ (H i).length with
    | none => rfl
    | some x =>
      exfalso
      have h1 := hW.dom hμ
      have hi' : i < all.length := (List.getElem?_eq_some_iff.1 hi).1
      have := hs'.mono (Nat.zero_le i) (by omega)
      omega
  · exfalso
    have := hnl0 i
    simp only [List.size_toArray] at hl
    rw [this] at hl
    cases hl


/-! ### the operations that stand behind all others -/

theorem wp_weak {P : Program} {Q : Exit → Act → World → Prop} {N : Act → World → Prop} {o : Oper} {a : Act} {w : World} {K K' : Act → World → Prop} (h : ∀ a w, K a w → K' a w) (hh : o.wp P a w K (fun e a w => match e with | .normal => N a w | _ => False)) : o.wp P a w K' Q := by
  unfold Oper.wp at *
  generalize (execOp a.eval o).run P w = r at *
  cases r with
  | ok nx w' =>
    cases nx <;> simp only [Oper.upon] at hh ⊢ <;>
      first
        | exact h _ _ hh
        | exact Calls.mono hh (fun e w'' he => by cases e <;> first | exact h _ _ he | exact he.elim | (obtain ⟨_, _, he⟩ := he; exact he.elim))
        | exact Rows.mono hh (fun _ _ he => h _ _ he)
  | halt x w' => cases x <;> simp only [Oper.upon] at hh ⊢

/-- the listing: all up to k -/
theorem seq_any {P : Program} {Q : Exit → Act → World → Prop} {all : List Oper} (hord : ∀ (j : Nat) (o : Oper), all[j]? = some o → ∀ e ∈ bindsOn o, e < j) {k0 : Nat}
    (hanc : ∀ (j : Nat) (o : Oper), k0 ≤ j → all[j]? = some o → ∀ Lst : Nat → Bool, (∀ (i : Nat) (p : Oper), all[i]? = some p → Lst i = true → ∀ e ∈ bindsOn p, Lst e = true) → (∀ e ∈ bindsOn o, Lst e = true) → ∀ i, i < j → Lst i = true) :
    ∀ (rest : List Oper) (k : Nat) (listed : Array Bool) (a : Act) (w : World), k0 ≤ k → all.drop k = rest → k ≤ all.length → listed.size = all.length → (∀ j, j < all.length → listed.getD j false = decide (j < k)) → wpL P all.toArray Q rest a w →
      wpA P .any all.toArray Q rest.length listed a w := by
  intro rest
  induction rest with
  | nil =>
    intro k listed a w hk hd hle hsz hl h
    have hkl : all.length ≤ k := List.drop_eq_nil_iff.1 hd
    refine ⟨List.eq_nil_iff_forall_not_mem.2 fun i hi => ?_, h⟩
    obtain ⟨o, h1, h2, _⟩ := ready_mem (by simpa using hsz) hi
    have hi' : i < all.length := by simpa using (Array.getElem?_eq_some_iff.1 h1).1
    have := hl i hi'
    rw [Array.getD_eq_getD_getElem?, h2] at this
    simp at this
    omega
  | cons o rest ih =>
    intro k listed a w hk hd hle hsz hl h
    have hkl : k < all.length := by
      rcases Nat.lt_or_ge k all.length with h | h
      · exact h
      · rw [List.drop_of_length_le h] at hd; cases hd
    have hok : all[k]? = some o := by
      have := congrArg (·[0]?) hd
      simpa [List.getElem?_drop] using this
    have hd' : all.drop (k + 1) = rest := by
      have := congrArg List.tail hd
      simpa [List.tail_drop] using this
    have hcl : ∀ (i : Nat) (p : Oper), all[i]? = some p → listed.getD i false = true → ∀ e ∈ bindsOn p, listed.getD e false = true := by
      intro i p hp hli e he
      have hi' : i < all.length := (List.getElem?_eq_some_iff.1 hp).1
      have h1 := hl i hi'
      rw [hli] at h1
      have h2 := hord i p hp e he
      rw [hl e (by omega)]
      have : i < k := by simpa using h1.symm
      exact decide_eq_true (by omega)
    refine ⟨fun hnil => ?_, fun i hi => ?_⟩
    · exfalso
      have hm : k ∈ Region.ready .any all.toArray listed := ready_of (o := o) (by simpa using hsz) (by simpa using hok) (by
        have := hl k hkl
        rw [Array.getD_eq_getD_getElem?] at this
        have hks : k < listed.size := by omega
        rw [Array.getElem?_eq_getElem hks] at this ⊢
        simpa using this) (fun e he => by
          have h2 := hord k o hok e he
          rw [hl e (by omega)]
          exact decide_eq_true h2)
      rw [hnil] at hm
      cases hm
    · obtain ⟨o', h1, h2, h3⟩ := ready_mem (by simpa using hsz) hi
      have ho' : all[i]? = some o' := by simpa using h1
      have hi' : i < all.length := (List.getElem?_eq_some_iff.1 ho').1
      have hnl : listed.getD i false = false := by rw [Array.getD_eq_getD_getElem?, h2]; rfl
      have hik : i = k := by
        have h4 := hl i hi'
        rw [hnl] at h4
        have h5 : ¬ i < k := by simpa using h4.symm
        rcases Nat.lt_or_ge k i with h | h
        · have : listed.getD k false = true := hanc i o' (by omega) ho' (fun j => listed.getD j false) hcl h3 k h
          have h6 := hl k hkl
          rw [this] at h6
          simp at h6
        · omega
      subst hik
      rw [hok] at ho'
      cases ho'
      unfold wpO
      rw [show all.toArray[i]? = some o by simpa using hok]
      have hnext : ∀ a' w', wpL P all.toArray Q rest a' w' → wpA P .any all.toArray Q rest.length (listed.setIfInBounds i true) a' w' := fun a' w' h' =>
        ih (i + 1) _ a' w' (by omega) hd' hkl (by simpa using hsz) (fun j hj => by
          by_cases hji : j = i
          · subst hji
            have : j < listed.size := by omega
            simp [Array.getD_eq_getD_getElem?, this]
          · have h4 := hl j hj
            rw [Array.getD_eq_getD_getElem?] at h4 ⊢
            rw [Array.getElem?_setIfInBounds_ne (Ne.symm hji), h4]
            have : (j < i) ↔ (j < i + 1) := by omega
            simp [this]) h'
      unfold wpL at h
      dsimp only
      split
      · rename_i hw
        rw [if_pos hw] at h
        exact Oper.wp_mono hnext h
      · rename_i hw
        rw [if_neg hw] at h
        exact hnext _ _ h

theorem dedupN_mem {x : Nat} : ∀ {l : List Nat}, x ∈ dedupN l → x ∈ l
  | y :: r, h => by
    simp only [dedupN] at h
    split at h
    · exact List.mem_cons_of_mem _ (dedupN_mem h)
    · rcases List.mem_cons.1 h with rfl | h
      · exact List.mem_cons_self ..
      · exact List.mem_cons_of_mem _ (dedupN_mem h)

/-- what stands ahead of an operation is listed, if what it names is -/
theorem ancL_sound {Lst : Nat → Bool} {all : List Oper} (hcl : ∀ (i : Nat) (p : Oper), all[i]? = some p → Lst i = true → ∀ e ∈ bindsOn p, Lst e = true) : ∀ (todo done : List Oper) (acc : List (List Nat)), done ++ todo = all → acc.length = done.length →
    (∀ (j : Nat) (o : Oper), j < done.length → all[j]? = some o → (∀ e ∈ bindsOn o, Lst e = true) → ∀ i ∈ acc.getD j [], Lst i = true) → (∀ (j : Nat) (o : Oper), all[j]? = some o → ∀ e ∈ bindsOn o, e < j) →
    ∀ (j : Nat) (o : Oper), all[j]? = some o → (∀ e ∈ bindsOn o, Lst e = true) → ∀ i ∈ (ancL todo acc).getD j [], Lst i = true := by
  intro todo
  induction todo with
  | nil =>
    intro done acc hd hl h hord j o ho hb i hi
    have : j < done.length := by
      have := (List.getElem?_eq_some_iff.1 ho).1
      rw [← hd] at this
      simpa using this
    exact h j o this ho hb i hi
  | cons x todo ih =>
    intro done acc hd hl h hord
    have hx : all[done.length]? = some x := by rw [← hd]; simp
    refine ih (done ++ [x]) _ (by simpa using hd) (by simp [hl]) (fun j o hj ho hb i hi => ?_) hord
    by_cases hjd : j < done.length
    · rw [List.getD_eq_getElem?_getD, List.getElem?_append_left (by omega), ← List.getD_eq_getElem?_getD] at hi
      exact h j o hjd ho hb i hi
    · have hj' : j = done.length := by simp at hj; omega
      subst hj'
      rw [hx] at ho
      cases ho
      rw [List.getD_eq_getElem?_getD, List.getElem?_append_right (by omega), hl, Nat.sub_self] at hi
      simp only [List.getElem?_cons_zero, Option.getD_some] at hi
      obtain ⟨e, he, hie⟩ := List.mem_flatMap.1 (dedupN_mem hi)
      rcases List.mem_cons.1 hie with rfl | hie
      · exact hb _ he
      · have hlt := hord _ x hx e he
        have heo : all[e]? = some (all[e]'(by have := (List.getElem?_eq_some_iff.1 hx).1; omega)) := List.getElem?_eq_getElem _
        exact h e _ hlt heo (hcl e _ heo (hb e he)) i hie

theorem yielded_pre {pre post : List Oper} {tmps : Array Value} {g : Nat} (hg : g < pre.length) : yielded (pre ++ post).toArray tmps g = yielded pre.toArray tmps g := by
  unfold yielded
  have : (pre ++ post).toArray[g]? = pre.toArray[g]? := by
    rw [List.getElem?_toArray, List.getElem?_toArray, List.getElem?_append_left hg]
  rw [this]

theorem wanted_pre {pre post : List Oper} {tmps : Array Value} {o : Oper} (hg : ∀ g b, o.guard = some (g, b) → g < pre.length) : Region.wanted o (yielded (pre ++ post).toArray tmps) = Region.wanted o (yielded pre.toArray tmps) := by
  unfold Region.wanted
  cases h : o.guard with
  | none => rfl
  | some gb =>
    obtain ⟨g, b⟩ := gb
    simp only
    rw [yielded_pre (hg g b h)]

/-- more rounds than are needed -/
theorem wpA_more {P : Program} {Q : Exit → Act → World → Prop} {ops : Array Oper} : ∀ {n : Nat} {listed : Array Bool} {a : Act} {w : World} {m : Nat}, wpA P .any ops Q n listed a w → n ≤ m → wpA P .any ops Q m listed a w := by
  intro n
  induction n with
  | zero =>
    intro listed a w m ⟨h1, h2⟩ _
    cases m with
    | zero => exact ⟨h1, h2⟩
    | succ m => exact ⟨fun _ => h2, fun i hi => by rw [h1] at hi; cases hi⟩
  | succ n ih =>
    intro listed a w m ⟨h1, h2⟩ hm
    cases m with
    | zero => omega
    | succ m =>
      refine ⟨h1, fun i hi => ?_⟩
      have := h2 i hi
      unfold wpO at this ⊢
      split
      · rename_i hn; rw [hn] at this; exact ih this (by omega)
      · rename_i o hn
        rw [hn] at this
        dsimp only at this
        split
        · rename_i hw
          rw [if_pos hw] at this
          exact Oper.wp_mono (fun a w h => ih h (by omega)) this
        · rename_i hw
          rw [if_neg hw] at this
          exact ih this (by omega)

/-- first those that may run in any order, then the others -/
theorem wpA_split {P : Program} {Q : Exit → Act → World → Prop} {pre post : List Oper} (hord : ∀ (j : Nat) (o : Oper), (pre ++ post)[j]? = some o → ∀ e ∈ bindsOn o, e < j)
    (hgd : ∀ (j : Nat) (o : Oper), pre[j]? = some o → ∀ g b, o.guard = some (g, b) → g < pre.length)
    (hanc : ∀ (j : Nat) (o : Oper), pre.length ≤ j → (pre ++ post)[j]? = some o → ∀ Lst : Nat → Bool, (∀ (i : Nat) (p : Oper), (pre ++ post)[i]? = some p → Lst i = true → ∀ e ∈ bindsOn p, Lst e = true) → (∀ e ∈ bindsOn o, Lst e = true) → ∀ i, i < j → Lst i = true) :
    ∀ (n : Nat) (lp l : Array Bool) (a : Act) (w : World), lp.size = pre.length → l.size = (pre ++ post).length → (∀ j, j < pre.length → l.getD j false = lp.getD j false) → (∀ j, pre.length ≤ j → l.getD j false = false) →
      (∀ (i : Nat) (p : Oper), pre[i]? = some p → lp.getD i false = true → ∀ e ∈ bindsOn p, lp.getD e false = true) →
      wpA P .any pre.toArray (fun e a w => match e with | .normal => wpL P (pre ++ post).toArray Q post a w | _ => False) n lp a w → wpA P .any (pre ++ post).toArray Q (n + post.length) l a w := by
  intro n
  -- all of the first ones are done
  have hdone : ∀ (lp l : Array Bool) (a : Act) (w : World), lp.size = pre.length → l.size = (pre ++ post).length → (∀ j, j < pre.length → l.getD j false = lp.getD j false) → (∀ j, pre.length ≤ j → l.getD j false = false) →
      Region.ready .any pre.toArray lp = [] → wpL P (pre ++ post).toArray Q post a w → wpA P .any (pre ++ post).toArray Q post.length l a w := by
    intro lp l a w hsp hsl h1 h2 hnil h
    have key : ∀ k, k < pre.length → lp.getD k false = true := by
      intro k
      induction k using Nat.strongRecOn with
      | ind k ihk =>
        intro hk
        cases hb : lp.getD k false with
        | true => rfl
        | false =>
          exfalso
          have hk' : k < lp.size := by omega
          have hpk : (pre ++ post)[k]? = some pre[k] := by rw [List.getElem?_append_left hk, List.getElem?_eq_getElem hk]
          have hm : k ∈ Region.ready .any pre.toArray lp := ready_of (o := pre[k]) (by simpa using hsp) (by simp [hk]) (by
            rw [Array.getD_eq_getD_getElem?, Array.getElem?_eq_getElem hk'] at hb
            rw [Array.getElem?_eq_getElem hk']
            simpa using hb) (fun e hem => ihk e (hord k _ hpk e hem) (by have := hord k _ hpk e hem; omega))
          rw [hnil] at hm
          cases hm
    refine seq_any (k0 := pre.length) hord hanc post pre.length l a w (Nat.le_refl _) (by simp) (by simp) hsl (fun j hj => ?_) h
    by_cases hjp : j < pre.length
    · rw [h1 j hjp, key j hjp]; simp [hjp]
    · rw [h2 j (by omega)]; simp [hjp]
  induction n with
  | zero =>
    intro lp l a w hsp hsl h1 h2 _ ⟨hnil, h⟩
    rw [Nat.zero_add]
    exact hdone lp l a w hsp hsl h1 h2 hnil h
  | succ n ih =>
    intro lp l a w hsp hsl h1 h2 hcl ⟨hnil, hstep⟩
    by_cases hr : Region.ready .any pre.toArray lp = []
    · -- done ahead of time: the count of rounds is of no matter
      exact wpA_more (hdone lp l a w hsp hsl h1 h2 hr (hnil hr)) (by omega)
    · rw [show n + 1 + post.length = (n + post.length) + 1 by omega]
      refine ⟨fun hn => ?_, fun i hi => ?_⟩
      · exfalso
        obtain ⟨i, hi⟩ := List.exists_mem_of_ne_nil _ hr
        obtain ⟨o, ho, hl, hb⟩ := ready_mem (by simpa using hsp) hi
        have hil : i < pre.length := by simpa using (Array.getElem?_eq_some_iff.1 ho).1
        have hoa : (pre ++ post)[i]? = some o := by rw [List.getElem?_append_left hil]; simpa using ho
        have : i ∈ Region.ready .any (pre ++ post).toArray l := ready_of (o := o) (by simpa using hsl) (by simpa using hoa) (by
          have h3 := h1 i hil
          have hls : i < l.size := by rw [hsl]; simp; omega
          rw [Array.getD_eq_getD_getElem?, Array.getElem?_eq_getElem hls, Array.getD_eq_getD_getElem?, hl] at h3
          rw [Array.getElem?_eq_getElem hls]
          simpa using h3) (fun e he => by rw [h1 e (by have := hord i o hoa e he; omega)]; exact hb e he)
        rw [hn] at this
        cases this
      · obtain ⟨o, ho, hl, hb⟩ := ready_mem (by simpa using hsl) hi
        have hoa : (pre ++ post)[i]? = some o := by simpa using ho
        have hnl : l.getD i false = false := by rw [Array.getD_eq_getD_getElem?, hl]; rfl
        have hcla : ∀ (j : Nat) (p : Oper), (pre ++ post)[j]? = some p → l.getD j false = true → ∀ e ∈ bindsOn p, l.getD e false = true := by
          intro j p hp hlj e he
          by_cases hjp : j < pre.length
          · rw [List.getElem?_append_left hjp] at hp
            rw [h1 j hjp] at hlj
            have := hcl j p hp hlj e he
            rw [h1 e (by have := hord j p (by rw [List.getElem?_append_left hjp]; exact hp) e he; omega)]
            exact this
          · rw [h2 j (by omega)] at hlj; cases hlj
        have hil : i < pre.length := by
          rcases Nat.lt_or_ge i pre.length with h | h
          · exact h
          · exfalso
            refine hr (List.eq_nil_iff_forall_not_mem.2 fun j hj => ?_)
            obtain ⟨p, hp, hlp, _⟩ := ready_mem (by simpa using hsp) hj
            have hjl : j < pre.length := by simpa using (Array.getElem?_eq_some_iff.1 hp).1
            have h3 : l.getD j false = true := hanc i o h hoa (fun j => l.getD j false) hcla hb j (by omega)
            rw [h1 j hjl, Array.getD_eq_getD_getElem?, hlp] at h3
            cases h3
        have hop : pre[i]? = some o := by rwa [List.getElem?_append_left hil] at hoa
        have hlpi : lp[i]? = some false := by
          have h3 := h1 i hil
          rw [hnl] at h3
          have hls : i < lp.size := by omega
          rw [Array.getD_eq_getD_getElem?, Array.getElem?_eq_getElem hls] at h3
          rw [Array.getElem?_eq_getElem hls]
          simpa using h3.symm
        have hir : i ∈ Region.ready .any pre.toArray lp := ready_of (o := o) (by simpa using hsp) (by simpa using hop) hlpi (fun e he => by rw [← h1 e (by have := hord i o hoa e he; omega)]; exact hb e he)
        have hst := hstep i hir
        unfold wpO at hst ⊢
        rw [show pre.toArray[i]? = some o by simpa using hop] at hst
        rw [show (pre ++ post).toArray[i]? = some o by simpa using hoa]
        dsimp only at hst ⊢
        rw [wanted_pre (hgd i o hop)]
        have hnext : ∀ a' w', wpA P .any pre.toArray (fun e a w => match e with | .normal => wpL P (pre ++ post).toArray Q post a w | _ => False) n (lp.setIfInBounds i true) a' w' → wpA P .any (pre ++ post).toArray Q (n + post.length) (l.setIfInBounds i true) a' w' := by
          intro a' w' h'
          have hget : ∀ (x : Array Bool) (j : Nat), i < x.size → (x.setIfInBounds i true).getD j false = if j = i then true else x.getD j false := by
            intro x j hx
            by_cases hji : j = i
            · subst hji; simp [Array.getD_eq_getD_getElem?, hx]
            · rw [if_neg hji, Array.getD_eq_getD_getElem?, Array.getElem?_setIfInBounds_ne (Ne.symm hji), Array.getD_eq_getD_getElem?]
          have hls : i < l.size := by rw [hsl]; simp; omega
          refine ih _ _ a' w' (by simpa using hsp) (by simpa using hsl) (fun j hj => ?_) (fun j hj => ?_) (fun j p hp hj e he => ?_) h'
          · rw [hget l j hls, hget lp j (by omega), h1 j hj]
          · rw [hget l j hls, if_neg (by omega), h2 j hj]
          · rw [hget lp j (by omega)] at hj
            rw [hget lp e (by omega)]
            by_cases hei : e = i
            · simp [hei]
            · rw [if_neg hei]
              by_cases hji : j = i
              · subst hji
                rw [hop] at hp
                cases hp
                rw [← h1 e (by have := hord j o hoa e he; omega)]
                exact hb e he
              · rw [if_neg hji] at hj
                exact hcl j p hp hj e he
        split
        · rename_i hw
          rw [if_pos hw] at hst
          exact wp_weak hnext hst
        · rename_i hw
          rw [if_neg hw] at hst
          exact hnext _ _ hst

end
end Go.Proofs.YtlihbielphcgbaaGreatDoor.Sx

namespace Go.Proofs.YtlihbielphcgbaaGreatDoor.Sx
open Go
set_option linter.unnecessarySimpa false
set_option linter.unusedSimpArgs false
set_option linter.unusedVariables false

section
variable {G : Glo} {B : Nat} {I₀ : Imm} {w₀ : World}

theorem joinFr_at {ds live : List Nat} : ∀ (fr : List S) (t j : Nat), (joinFr ds live t fr).getD j .x = fr.getD j .x ∨ (joinFr ds live t fr).getD j .x = .x ∨ (joinFr ds live t fr).getD j .x = .val false [.e (.c (.b false))]
  | [], t, j => .inl rfl
  | s :: r, t, 0 => by
    simp only [joinFr, List.getD_cons_zero]
    split
    · split
      · exact .inr (.inr rfl)
      · exact .inr (.inl rfl)
    · exact .inl rfl
  | s :: r, t, j + 1 => by
    simp only [joinFr, List.getD_cons_succ]
    exact joinFr_at r (t + 1) j

theorem joinFr_some {ds live : List Nat} {fr : List S} {I : Imm} {μ : Mu} {w : World} {ρ : List D} (h : ∀ j, ∃ v, SR I μ w ρ (fr.getD j .x) v) (j : Nat) : ∃ v, SR I μ w ρ ((joinFr ds live 0 fr).getD j .x) v := by
  rcases joinFr_at (ds := ds) (live := live) fr 0 j with h1 | h1 | h1
  · rw [h1]; exact h j
  · rw [h1]; exact ⟨undef, trivial⟩
  · rw [h1]; exact ⟨.bool false, sr_e.2 ⟨.b false, rfl, .b false⟩⟩

theorem join_evals {ds live : List Nat} {ρ : List D} : ∀ (fr : List S) (t k : Nat), ∃ dd, Ex.evals ρ (genFr ds t k (joinFr ds live t fr)).1 = some dd
  | [], t, k => ⟨[], rfl⟩
  | s :: r, t, k => by
    simp only [joinFr, genFr]
    by_cases hd : ds.contains t = true
    · rw [if_pos hd, if_pos hd]
      by_cases hl : live.contains t = true
      · rw [if_pos hl]
        obtain ⟨dd, hdd⟩ := join_evals (ds := ds) (live := live) (ρ := ρ) r (t + 1) (k + 1)
        refine ⟨.b false :: dd, ?_⟩
        show Ex.evals ρ (.c (.b false) :: (genFr ds (t + 1) (k + 1) (joinFr ds live (t + 1) r)).1) = _
        simp [Ex.evals, Ex.eval, hdd]
      · rw [if_neg hl]
        exact join_evals r (t + 1) k
    · rw [if_neg hd, if_neg hd]
      exact join_evals r (t + 1) k

theorem join_lands {r : Option Nat} {st s : St} {L L'' : List Lp} {ρ ρ'' : List D} {I I'' : Imm} {μ μ'' : Mu} {w w'' : World} {a a'' : Act} {ds live : List Nat} {vs : List Ex} {dd : List D} (hs : StR r G B I₀ w₀ st L ρ I μ w a) (h5 : StR r G B I₀ w₀ s L'' ρ'' I'' μ'' w'' a'')
    (h6 : Evo I μ w I'' μ'' w'') (hρ : ρ <+: ρ'') (hst : st.o = []) (hb : backFr ds 0 (genFr ds 0 st.nv (joinFr ds live 0 st.fr)).2 s.fr = some vs) (he : Ex.evals ρ'' vs = some dd)
    (hd : diffHp [] 0 (genHeap [] st.nv st.h) s.h = []) (hsh : shapeHp (genHeap [] st.nv st.h) s.h = true) (hq : s.q = st.q) :
    ∃ μ3, StR r G B I₀ w₀ { st with fr := (genFr ds 0 st.nv (joinFr ds live 0 st.fr)).2, h := genHeap [] st.nv st.h, nv := st.nv + (genFr ds 0 st.nv (joinFr ds live 0 st.fr)).1.length } L (ρ ++ dd) I'' μ3 w'' a'' ∧ Evo I μ w I'' μ3 w'' := by
  have hdom : ∀ b x, μ b = some x → (μ b).isSome = true := fun b x hb => by rw [hb]; rfl
  have hqom : ∀ k v, μ.v k = some v → (false : Bool) = true := fun k v hv => by
    rw [hs.own.new k (by rw [hst]; exact Nat.zero_le _)] at hv
    cases hv
  have h0 := joinFr_some (ds := ds) (live := live) (fr := st.fr) (I := I) (μ := μ) (w := w) (ρ := ρ) fun j => ⟨_, hs.fr.at_ j⟩
  obtain ⟨dd0, hdd0⟩ := join_evals (ds := ds) (live := live) (ρ := ρ) st.fr 0 st.nv
  have hgen := genFr_sound (I := I) (μ := μ) (w := w) (pre_append ρ dd0) ds (joinFr ds live 0 st.fr) 0 st.nv hdd0 (hs.nv ▸ VarsAt.self ρ dd0)
  have hv : VarsAt (ρ ++ dd) st.nv dd := hs.nv ▸ VarsAt.self ρ dd
  have hlen := backFr_exs (joinFr ds live 0 st.fr) hb
  have hlen2 := evals_length he
  refine ⟨μ''.res (fun b => (μ b).isSome) fun _ => false, ⟨⟨(backFr_len hb).trans h5.fr.len, fun t => ?_⟩, ?_, ?_, ?_, hs.lv, ?_⟩, h6.upto hdom hqom⟩
  · obtain ⟨v0, hv0⟩ := h0 t
    exact SR.upto hdom hqom (hgen.2 t v0 hv0) (backFr_sound (I := I'') (μ := μ'') (w := w'') hρ (pre_append ρ dd) ds (joinFr ds live 0 st.fr) s.fr 0 st.nv h0 hb he hv t _ (h5.fr.at_ t))
  · refine genHeap_sound (ms := []) (k := st.nv) (ys := []) (dd := []) h5.wr (fun b hb => ?_) (fun bb blk hpb hblk => ?_) rfl rfl (fun i d h => by simp at h)
    · obtain ⟨x, hx⟩ := Option.isSome_iff_exists.1 hb
      exact hs.wr.dom hx
    · obtain ⟨x, hbx⟩ := Option.isSome_iff_exists.1 hpb
      obtain ⟨blk0, hb0, vs0, ty0, _, hl0, _⟩ := hs.wr.blk bb x hbx
      rw [hblk] at hb0
      cases hb0
      have hgg : (genHeap [] st.nv st.h)[bb]? = some { blk with ls := blk.ls.mapIdx fun o l => match idxAt (bb, o) [] st.nv with
          | some i => SL.e (.v i)
          | none => l } := by
        unfold genHeap
        rw [List.getElem?_mapIdx, hblk]
        rfl
      obtain ⟨sb, hsb, hro, hsl⟩ := shapeHp_get hsh bb _ hgg
      have hdl := diffHp_nil hd bb _ sb hgg hsb
      refine ⟨sb, hsb, hro, by simpa using hsl, fun o l l' hl hl' hnm v hv => ?_⟩
      have hgl : (blk.ls.mapIdx fun o l => match idxAt (bb, o) [] st.nv with
          | some i => SL.e (.v i)
          | none => l)[o]? = some l := by
        rw [List.getElem?_mapIdx, hl]
        rfl
      have hsame := diffLs_nil hdl o l l' hgl hl' (by simp)
      obtain ⟨v0, _, hr0⟩ := hl0.get hl
      exact LR.upto hr0 hdom hqom (LR.rebase hr0 hρ (pre_append ρ dd) (SL.same_sound hsame hv))
  · show OwnR B I'' _ w'' (ρ ++ dd) st.o
    rw [hst]
    exact OwnR.nil fun k => by simp [Mu.res]
  · simp only [List.length_append, hs.nv]
    omega
  · show DfR r B I'' w'' st.q a''.defers
    rw [← hq]
    exact h5.df
end
end Go.Proofs.YtlihbielphcgbaaGreatDoor.Sx

namespace Go.Proofs.YtlihbielphcgbaaGreatDoor.Sx
open Go
set_option linter.unnecessarySimpa false
set_option linter.unusedSimpArgs false
set_option linter.unusedVariables false

section
variable {C : Con} {R : List DV → Prop} {E : Env} {B : Nat} {I₀ : Imm} {w₀ : World}

theorem region_both {r : Option Nat} {n : Nat} (hM : ∀ f as rs, C f as rs → ConX E.P E.G f as rs) (hO : SOps C R B I₀ w₀ E n) {me : FuncId} {id : Nat} {ops : Array Oper} {draw : Bool} {st : St} {k : K} {ir : IR} {L : List Lp} {ρ : List D} {I : Imm} {μ : Mu} {w : World} {a : Act}
    {Q : Exit → Act → World → Prop} (hnd : ∀ o ∈ ops.toList, noDefer o = true) (hx : (if draw = true then (if st.q < 2 then drawn E (dexec E n) (exec E n me) ops.toList st k else .no "draw: q") else exec E n me (.ops ops.toList ops.toList) st k) = .ok ir)
    (hw : IR.wp C R ir L ρ) (hs : StR r E.G B I₀ w₀ st L ρ I μ w a) (hk : Post C R r E.G B I₀ w₀ k L ρ I μ w Q) : if draw = true then E.P.follows .mixedOrders = true ∧ wpA E.P .any ops Q ops.size (Array.replicate ops.size false) a { w with drawn := w.drawn + 1 } else wpL E.P ops Q ops.toList a w := by
  split at hx
  · rename_i hd
    subst hd
    rw [if_pos rfl]
    split at hx
    case isFalse => cases hx
    rename_i hq2
    unfold drawn at hx
    dsimp only at hx
    generalize hm : sufAt ops.toList.length (ancL ops.toList []) ops.toList.length = m at hx
    split at hx
    · rename_i hc
      simp only [Bool.and_eq_true] at hc
      obtain ⟨⟨⟨⟨hc1, hc2⟩, hc3⟩, hc4⟩, hc5⟩ := hc
      have hc5 : st.pn = none := by simpa using hc5
      have hnod : ((ops.toList.take m).filterMap (·.dst)).Nodup := by
        have := hc2
        unfold drawB at this
        simp only [Bool.and_eq_true] at this
        exact nodupB_sound this.1
      have hord : ∀ (j : Nat) (o : Oper), ops.toList[j]? = some o → ∀ e ∈ bindsOn o, e < j := by
        intro j o ho e he
        have hj := (List.getElem?_eq_some_iff.1 ho).1
        have := List.all_eq_true.1 hc4 j (List.mem_range.2 hj)
        rw [ho] at this
        simpa using List.all_eq_true.1 this e he
      have hsplit : ops.toList.take m ++ ops.toList.drop m = ops.toList := List.take_append_drop ..
      obtain ⟨pr, lg2, frE, hE, ρE, ir', hpre, hpath, hlog, hk', hw', _, hp1, hp3, hp2⟩ := path_of (C := C) (R := R) (E := E) hM (ops.toList.take m) n [] (ops.toList.take m) st _ ir L ρ hx hw hs.nv ⟨hnod, fun d hd => by rw [hc5] at hd; simp [pnDs] at hd, fun h => absurd hc5 h, fun _ _ _ h => by rw [hc5] at h; cases h⟩
      have hev := Evo.refl I μ w
      have h0 := any_sound0 (Q := fun e a w => match e with | .normal => wpL E.P ops.toList.toArray Q (ops.toList.drop m) a w | _ => False) (B := B) (I₀ := I₀) (w₀ := w₀) hM hc2 hpath (by simpa using hlog) (hs.fr.mono hev hpre) (hs.wr.vars hpre) (hs.own.vars hpre) (fun d hd => (hp1 d hd).resolve_left (by rw [hc5]; simp [pnDs])) hp3 hp2 (hs.df.low hq2)
        (fun I' μ' w' a' h1 h2 h3 h4 h5 => by
          refine hO r me ops.toList (ops.toList.drop m) _ k ir' L ρE I' μ' w' a' Q hk' hw' ?_ (hk.mono (List.prefix_refl _) hpre h4)
          have hst : StR r E.G B I₀ w₀ { fr := frE, h := hE, o := pnO st.o pr, nv := ρE.length, lv := st.lv, q := st.q, dp := st.dp } L ρE I' μ' w' a' := ⟨h1, h2, h3, rfl, hs.lv, by have := hs.df.same hq2 (I' := I') (w' := w'); rw [hs.df.low hq2] at this; rw [h5]; exact this⟩
          cases pr with
          | none => exact hst
          | some q => exact hst)
      refine ⟨hc1, ?_⟩
      have h1 := wpA_split (P := E.P) (Q := Q) (pre := ops.toList.take m) (post := ops.toList.drop m) (by rw [hsplit]; exact hord)
        (fun j o ho g b hg => by
          have h2 := (drawB_sound hc2).e3 j o g b ho hg
          have h3 := (drawB_sound hc2).e1 j o ho g h2.1
          have h4 := (List.getElem?_eq_some_iff.1 ho).1
          omega)
        (fun j o hj ho Lst hcl hb i hi => by
          rw [hsplit] at ho hcl
          have hjl := (List.getElem?_eq_some_iff.1 ho).1
          have h2 := List.all_eq_true.1 hc3 j (List.mem_range.2 hjl)
          have hmj : m ≤ j := by
            rw [List.length_take] at hj
            omega
          rw [if_pos hmj] at h2
          have h3 := List.all_eq_true.1 h2 i (List.mem_range.2 hi)
          exact ancL_sound hcl ops.toList [] [] rfl rfl (fun j o h => by simp at h) hord j o ho hb i (by simpa using h3))
        (ops.toList.take m).toArray.size (Array.replicate (ops.toList.take m).toArray.size false) (Array.replicate ops.toList.length false) a { w with drawn := w.drawn + 1 } (by simp) (by rw [hsplit]; simp)
        (fun j hj => by
          have hjl : j < ops.toList.length := by rw [List.length_take] at hj; omega
          simp only [Array.getD_eq_getD_getElem?, Array.getElem?_replicate, List.size_toArray]
          rw [if_pos hjl, if_pos hj])
        (fun j hj => by
          simp only [Array.getD_eq_getD_getElem?, Array.getElem?_replicate]
          split <;> rfl)
        (fun i p hp hl => by
          exfalso
          simp only [Array.getD_eq_getD_getElem?, Array.getElem?_replicate] at hl
          split at hl <;> cases hl)
        (by rw [hsplit]; exact h0)
      rw [hsplit] at h1
      have hlen : (ops.toList.take m).toArray.size + (ops.toList.drop m).length = ops.size := by
        simp only [List.size_toArray, ← List.length_append, hsplit, Array.length_toList]
      rw [hlen] at h1
      simpa only [Array.toArray_toList, Array.length_toList] using h1
    · cases hx
  · rename_i hd
    have hd : draw = false := by simpa using hd
    subst hd
    rw [if_neg (by decide)]
    have := hO r me ops.toList ops.toList st k ir L ρ I μ w a Q hx hw hs hk
    simpa using this

theorem region_inner {r : Option Nat} {n : Nat} (hM : ∀ f as rs, C f as rs → ConX E.P E.G f as rs) (hO : SOps C R B I₀ w₀ E n) {me : FuncId} {id : Nat} {ops : Array Oper} {draw : Bool} {st : St} {k : K} {ir : IR} {L : List Lp} {ρ : List D} {I : Imm} {μ : Mu} {w : World} {a : Act}
    {Q : Exit → Act → World → Prop} (hnd : ∀ o ∈ ops.toList, noDefer o = true) (hx : (if draw = true then (if st.q < 2 then drawn E (dexec E n) (exec E n me) ops.toList st k else .no "draw: q") else exec E n me (.ops ops.toList ops.toList) st k) = .ok ir)
    (hw : IR.wp C R ir L ρ) (hs : StR r E.G B I₀ w₀ st L ρ I μ w a) (hk : Post C R r E.G B I₀ w₀ k L ρ I μ w Q) : (Code.region id ops draw).wpIn (Rd r) 0 E.P Q a w := by
  have h := region_both (id := id) hM hO hnd hx hw hs hk
  split at h
  · rename_i hd
    subst hd
    exact wpIn_region_any h.1 (any_in hnd h.2)
  · rename_i hd
    have hd : draw = false := by simpa using hd
    subst hd
    exact wpIn_region_list (list_in hnd h)

/-! ### temporaries that a region does not write -/

theorem put_keep {a : Act} {d : Option Tmp} {v : Value} {t : Nat} (h : d ≠ some t) : (a.put d v).tmps.getD t undef = a.tmps.getD t undef := by
  cases d with
  | none => rfl
  | some k =>
    have hk : k ≠ t := fun e => h (by rw [e])
    show (a.tmps.setIfInBounds k v).getD t undef = _
    rw [Array.getD_eq_getD_getElem?, Array.getElem?_setIfInBounds_ne hk, ← Array.getD_eq_getD_getElem?]
/-- as Q, and what is not written stands -/
def Keep (ts : List Nat) (n : Nat) (f : Nat → Value) (Q : Exit → Act → World → Prop) : Exit → Act → World → Prop := fun e a w => Q e a w ∧ a.tmps.size = n ∧ ∀ t, t ∉ ts → a.tmps.getD t undef = f t
theorem op_keep {P : Program} {o : Oper} {a : Act} {w : World} {K K' : Act → World → Prop} {Q Q' : Exit → Act → World → Prop} (h : o.wp P a w K Q) (hK : ∀ a' w', (∃ v, a'.tmps = (a.put o.dst v).tmps) → K a' w' → K' a' w') (hQ : ∀ e a w, e ≠ .normal → ¬ Q e a w) : o.wp P a w K' Q' := by
  unfold Oper.wp at h ⊢
  have hd : ∀ (ds : List Deferred), (Act.put { a with defers := ds } o.dst undef).tmps = (a.put o.dst undef).tmps := fun ds => by cases o.dst <;> rfl
  generalize (execOp a.eval o).run P w = x at h ⊢
  cases x with
  | ok nx w' =>
    cases nx with
    | value v => exact hK _ _ ⟨_, rfl⟩ h
    | skip => exact hK _ _ ⟨_, rfl⟩ h
    | defer d => exact hK _ _ ⟨_, hd _⟩ h
    | enter f args =>
      refine Calls.mono h fun e w'' he => ?_
      cases e with
      | returned v => exact hK _ _ ⟨_, rfl⟩ he
      | panicked c => exact absurd he (hQ _ _ _ (by simp))
      | outgrown => obtain ⟨a', w2, he⟩ := he; exact absurd he (hQ _ _ _ (by simp))
    | row r args => exact Rows.mono h fun v w'' he => hK _ _ ⟨_, rfl⟩ he
    | _ => exact h.elim
  | halt x w' =>
    cases x with
    | panic v => exact absurd h (hQ _ _ _ (by simp))
    | _ => exact h.elim
theorem list_keep {P : Program} {ops : Array Oper} {ts : List Nat} {n : Nat} {f : Nat → Value} {Q : Exit → Act → World → Prop} (hQ : ∀ e a w, e ≠ .normal → ¬ Q e a w) : ∀ {l : List Oper} {a : Act} {w : World}, (∀ o ∈ l, ∀ t, o.dst = some t → t ∈ ts) → a.tmps.size = n → (∀ t, t ∉ ts → a.tmps.getD t undef = f t) →
    wpL P ops Q l a w → wpL P ops (Keep ts n f Q) l a w
  | [], _, _, _, hn, hf, h => ⟨h, hn, hf⟩
  | o :: l, a, w, hd, hn, hf, h => by
    have hput : ∀ v t, t ∉ ts → (a.put o.dst v).tmps.getD t undef = f t := fun v t ht => (put_keep fun e => ht (hd o (List.mem_cons_self ..) t e)).trans (hf t ht)
    simp only [wpL] at h ⊢
    split
    · rename_i hw
      rw [if_pos hw] at h
      refine op_keep h (fun a' w' ⟨v, hv⟩ hK => list_keep hQ (fun p hp => hd p (List.mem_cons_of_mem _ hp)) ?_ (fun t ht => ?_) hK) hQ
      · rw [hv, put_size]; exact hn
      · rw [hv]; exact hput v t ht
    · rename_i hw
      rw [if_neg hw] at h
      exact list_keep hQ (fun p hp => hd p (List.mem_cons_of_mem _ hp)) (by rw [put_size]; exact hn) (hput undef) h
theorem any_keep {P : Program} {md : Region.Mode} {ops : Array Oper} {ts : List Nat} {n : Nat} {f : Nat → Value} {Q : Exit → Act → World → Prop} (hQ : ∀ e a w, e ≠ .normal → ¬ Q e a w) (hd : ∀ o ∈ ops.toList, ∀ t, o.dst = some t → t ∈ ts) : ∀ {m : Nat} {listed : Array Bool} {a : Act} {w : World}, a.tmps.size = n → (∀ t, t ∉ ts → a.tmps.getD t undef = f t) →
    wpA P md ops Q m listed a w → wpA P md ops (Keep ts n f Q) m listed a w
  | 0, _, _, _, hn, hf, h => ⟨h.1, h.2, hn, hf⟩
  | m + 1, listed, a, w, hn, hf, h => by
    refine ⟨fun h0 => ⟨h.1 h0, hn, hf⟩, fun i hi => ?_⟩
    have h2 := h.2 i hi
    unfold wpO at h2 ⊢
    cases ho : ops[i]? with
    | none =>
      rw [ho] at h2
      exact any_keep hQ hd hn hf h2
    | some o =>
      rw [ho] at h2
      have hm : o ∈ ops.toList := Array.mem_toList_iff.2 (Array.mem_of_getElem? ho)
      have hput : ∀ v t, t ∉ ts → (a.put o.dst v).tmps.getD t undef = f t := fun v t ht => (put_keep fun e => ht (hd o hm t e)).trans (hf t ht)
      simp only at h2 ⊢
      split
      · rename_i hw
        rw [if_pos hw] at h2
        refine op_keep h2 (fun a' w' ⟨v, hv⟩ hK => any_keep hQ hd ?_ (fun t ht => ?_) hK) hQ
        · rw [hv, put_size]; exact hn
        · rw [hv]; exact hput v t ht
      · rename_i hw
        rw [if_neg hw] at h2
        exact any_keep hQ hd (by rw [put_size]; exact hn) (hput undef) h2

theorem plain_val {I : Imm} {w : World} {d : D} {u v : Value} (h : plainVal d = some u) (hd : DR I w d v) : v = u := by
  cases hd with
  | b x => cases h; rfl
  | i k n => cases h; rfl
  | s x => cases h
  | f g => cases h
  | nil _ _ _ _ => cases h
  | sl _ _ _ _ _ _ _ _ _ _ _ _ _ => cases h
/-- the value of plain data -/
def valOf (d : DV) : Option Value := match optAll (d.2.map plainVal) with
  | some vs => if d.1 then some (.agg vs.toArray) else match vs with | [v] => some v | _ => none
  | none => none
theorem plain_vals {I : Imm} {w : World} : ∀ {ds : List D} {us vs : List Value}, optAll (ds.map plainVal) = some us → All2 (DR I w) ds vs → vs = us
  | [], us, _, h, .nil => by simp [optAll] at h; exact h.symm
  | d :: ds, us, v :: vs, h, .cons h1 h2 => by
    simp only [List.map_cons] at h
    cases hp : plainVal d with
    | none => rw [hp] at h; simp [optAll] at h
    | some u =>
      rw [hp] at h
      simp only [optAll] at h
      split at h
      · rename_i l hl
        cases h
        rw [plain_val hp h1, plain_vals hl h2]
      · cases h
theorem valOf_val {I : Imm} {w : World} {d : DV} {u v : Value} (h : valOf d = some u) (hd : DVR I w d v) : v = u := by
  obtain ⟨g, ds⟩ := d
  unfold valOf at h
  simp only at h
  split at h
  · rename_i us hus
    unfold DVR at hd
    simp only at hd
    split at h
    · rename_i hg
      cases h
      rw [if_pos hg] at hd
      obtain ⟨vs, rfl, hvs⟩ := hd
      rw [plain_vals hus hvs]
    · rename_i hg
      rw [if_neg hg] at hd
      obtain ⟨d', rfl, hd⟩ := hd
      split at h
      · rename_i v'
        cases h
        have := plain_vals hus (.cons hd .nil)
        cases this
        rfl
      · cases h
  · cases h

/-- the temporaries that are asked for, as results -/
def askS : S → Option XV
  | .val g ls => match exLs ls with
    | some es => some (g, es)
    | none => none
  | _ => none
def askK (ts : List Nat) : K := fun e s => match e with
  | .normal => if s.q ≠ 0 then .no "q" else match optAll (ts.map fun t => askS (s.fr.getD t .x)) with
    | some xs => .ok (.ret xs)
    | none => .no "a temporary"
  | _ => .no "a way out"
theorem evalVs_get {ρ : List D} : ∀ {xs : List XV} {ds : List DV}, evalVs ρ xs = some ds → ∀ (i : Nat) (g : Bool) (es : List Ex), xs[i]? = some (g, es) → ∃ d, ds[i]? = some (g, d) ∧ Ex.evals ρ es = some d
  | [], ds, _, i, g, es, hi => by simp at hi
  | (g0, e0) :: xs, ds, h, i, g, es, hi => by
    simp only [evalVs] at h
    split at h
    · rename_i a b h1 h2
      cases h
      cases i with
      | zero => cases hi; exact ⟨a, rfl, h1⟩
      | succ i => exact evalVs_get h2 i g es (by simpa using hi)
    · cases h
theorem askS_sound {I : Imm} {μ : Mu} {w : World} {ρ : List D} {s : S} {g : Bool} {es : List Ex} {ds : List D} {v : Value} (h : askS s = some (g, es)) (he : Ex.evals ρ es = some ds) (hv : SR I μ w ρ s v) : DVR I w (g, ds) v := by
  unfold askS at h
  split at h
  · rename_i g' ls
    split at h
    · rename_i es' hes
      cases h
      have hv : VR I μ w ρ g ls v := hv
      unfold DVR
      unfold VR at hv
      split at hv
      · rename_i hg
        obtain ⟨vs, rfl, hls⟩ := hv
        rw [if_pos hg]
        exact ⟨vs, rfl, lsR_data hes he hls⟩
      · rename_i hg
        obtain ⟨l, rfl, hl⟩ := hv
        rw [if_neg hg]
        have := lsR_data hes he (.cons hl .nil)
        cases this with
        | cons h1 h2 => cases h2; exact ⟨_, rfl, h1⟩
    · cases h
  · cases h
/-- what is asked of a piece -/
def PieceQ (w : World) (ts : List Nat) (ds : List DV) : Exit → Act → World → Prop := fun e a' w' => e = .normal ∧ Grows w w' ∧ a'.defers = [] ∧ ∀ (i t : Nat) (d : DV) (u : Value), ts[i]? = some t → ds[i]? = some d → valOf d = some u → a'.tmps.getD t undef = u
theorem PieceQ.no {w : World} {ts : List Nat} {ds : List DV} : ∀ e a w', e ≠ .normal → ¬ PieceQ w ts ds e a w' := fun _ _ _ he h => he h.1
theorem ask_post {I₀ : Imm} {μ : Mu} {w : World} {ρ : List D} {ts : List Nat} {ds : List DV} : Post C (fun rs => rs = ds) none E.G w.heap.size I₀ w (askK ts) [] ρ I₀ μ w (PieceQ w ts ds) := by
  intro e s ir' L' ρ' I' μ' w' a' h1 h2 h3 h4 h5 h6
  cases e with
  | exit id => cases h1
  | ret => cases h1
  | goto l => cases h1
  | normal =>
    simp only [askK] at h1
    split at h1
    · cases h1
    rename_i hq0
    split at h1
    · rename_i xs hxs
      cases h1
      obtain ⟨rs', hrs, rfl⟩ := h2
      refine ⟨rfl, ⟨h5.wr.old, h5.wr.size, h5.wr.wd⟩, h5.df.low (by omega), fun i t d u hi hd hu => ?_⟩
      have hg := optAll_get hxs
      have h7 : (ts.map fun t => askS (s.fr.getD t .x))[i]? = some (askS (s.fr.getD t .x)) := by rw [List.getElem?_map, hi]; rfl
      rw [hg, List.getElem?_map] at h7
      obtain ⟨⟨g, es⟩, hx1, hx2⟩ := Option.map_eq_some_iff.1 h7
      obtain ⟨d', hd', hev⟩ := evalVs_get hrs i g es hx1
      rw [hd] at hd'
      cases hd'
      exact valOf_val hu (askS_sound hx2.symm hev (h5.fr.at_ t))
    · cases h1
/-- A region, run on data: what some of its temporaries hold behind it; what it does not write stands. -/
theorem region_piece {n : Nat} {ds : List DV} {w : World} {I₀ : Imm} (hM : ∀ f as rs, C f as rs → ConX E.P E.G f as rs) {me : FuncId} {id : Nat} {ops : Array Oper} {draw : Bool} {ts : List Nat} {st : St} {ir : IR} {ρ : List D} {μ : Mu} {a : Act}
    (hO : SOps C (fun rs => rs = ds) w.heap.size I₀ w E n) (hnd : ops.toList.all noDefer = true) (hx : (if draw = true then (if st.q < 2 then drawn E (dexec E n) (exec E n me) ops.toList st (askK ts) else .no "draw: q") else exec E n me (.ops ops.toList ops.toList) st (askK ts)) = .ok ir)
    (hw : IR.wp C (fun rs => rs = ds) ir [] ρ) (hs : StR none E.G w.heap.size I₀ w st [] ρ I₀ μ w a) :
    (Code.region id ops draw).wpIn (Rd none) 0 E.P (Keep (ops.toList.filterMap (·.dst)) a.tmps.size (fun t => a.tmps.getD t undef) (PieceQ w ts ds)) a w := by
  have hnd' : ∀ o ∈ ops.toList, noDefer o = true := fun o ho => List.all_eq_true.1 hnd o ho
  have hdst : ∀ o ∈ ops.toList, ∀ t, o.dst = some t → t ∈ ops.toList.filterMap (·.dst) := fun o ho t ht => List.mem_filterMap.2 ⟨o, ho, ht⟩
  have hboth := region_both (id := id) (draw := draw) hM hO hnd' hx hw hs ask_post
  split at hboth
  · rename_i hd
    subst hd
    exact wpIn_region_any hboth.1 (any_in hnd' (any_keep PieceQ.no hdst rfl (fun _ _ => rfl) hboth.2))
  · rename_i hd
    have hd : draw = false := by simpa using hd
    subst hd
    exact wpIn_region_list (list_in hnd' (list_keep PieceQ.no hdst rfl (fun _ _ => rfl) hboth))
/-! ### a region in which all is data -/

theorem DR.keep {I I' : Imm} {w w' : World} {d : D} {v : Value} (h : DR I w d v) (hw : ∀ x, I x → w'.heap[x]? = w.heap[x]?) : DR I w' d v := h.mono (fun _ h => h) hw
theorem WR.ro {G : Glo} {I : Imm} {μ : Mu} {w : World} {ρ : List D} {h : Heap} (hW : WR G B I₀ w₀ I μ w ρ h) : WR G B I₀ w₀ (fun x => I x ∨ ∃ b, μ b = some x) μ w ρ (roHp h) ∧ Evo I μ w (fun x => I x ∨ ∃ b, μ b = some x) μ w := by
  have he : Evo I μ w (fun x => I x ∨ ∃ b, μ b = some x) μ w := ⟨fun _ h => .inl h, fun _ _ => rfl, fun _ _ h => h, fun _ _ h => h⟩
  refine ⟨⟨fun b x hb => ?_, fun b b' x h1 h2 => .inr (.inr ⟨b, h1⟩), hW.glo.mono he.imm he.same, hW.old, hW.size, fun x hx => ?_, fun x hx => ?_, hW.wd⟩, he⟩
  · obtain ⟨blk, h1, vs, ty, h2, h3, h4⟩ := hW.blk b x hb
    refine ⟨{ blk with ro := true }, by unfold roHp; rw [List.getElem?_map, h1]; rfl, vs, ty, h2, h3.imp fun _ _ h => h.mono he (List.prefix_refl _), ?_⟩
    rw [if_pos rfl]
    exact .inr ⟨b, hb⟩
  · rcases hx with hx | ⟨b, hb⟩
    · exact hW.imm x hx
    · obtain ⟨blk, h1, vs, ty, h2, h3, h4⟩ := hW.blk b x hb
      exact (Array.getElem?_eq_some_iff.1 h2).1
  · rcases hx with hx | ⟨b, hb⟩
    · exact hW.imm0 x hx
    · obtain ⟨blk, h1, vs, ty, h2, h3, h4⟩ := hW.blk b x hb
      split at h4
      · exact hW.imm0 x h4
      · exact .inr h4.2
theorem frz_all {o : Own} {k : Nat} {t : Ex} : (frz (List.range o.length) o)[k]? ≠ some ⟨t, .live⟩ := by
  intro h
  rw [frz_get] at h
  obtain ⟨os, ho, he⟩ := Option.map_eq_some_iff.1 h
  have hk : k ∈ List.range o.length := List.mem_range.2 (List.getElem?_eq_some_iff.1 ho).1
  obtain ⟨t', st⟩ := os
  cases st <;> simp [(List.mem_range.1 hk)] at he
theorem OwnR.ro {I : Imm} {μ : Mu} {w : World} {ρ : List D} {o : Own} (hO : OwnR B I μ w ρ o) (hn : ∀ (k : Nat) (t : Ex), o[k]? ≠ some ⟨t, .live⟩) {I' : Imm} (he : Evo I μ w I' μ w) : OwnR B I' μ w ρ o :=
  ⟨fun k t hk => absurd hk (hn k t), fun k t hk => by obtain ⟨v, d, h1, h2, h3⟩ := hO.frozen k t hk; exact ⟨v, d, h1, h2, h3.mono he.imm he.same⟩, fun k t v x hk => absurd hk (hn k t), hO.new⟩
theorem thawFr_len {ops : List Oper} : ∀ {t : Nat} {f0 f1 : List S}, (thawFr ops t f0 f1).2.length = f0.length
  | _, [], _ => rfl
  | t, s :: f0, f1 => by simp only [thawFr, List.length_cons]; rw [thawFr_len]
theorem thawFr_get {ops : List Oper} : ∀ {t : Nat} {f0 f1 : List S} (i : Nat), i < f0.length → ((thawFr ops t f0 f1).2.getD i .x = (thawS ops (t + i) (f0.getD i .x) (f1.getD i .x)).2) ∧ ∀ c ∈ (thawS ops (t + i) (f0.getD i .x) (f1.getD i .x)).1, c ∈ (thawFr ops t f0 f1).1
  | t, [], f1, i, h => by simp at h
  | t, s :: f0, f1, 0, h => by
    simp only [thawFr, Nat.add_zero, List.getD_cons_zero]
    have e : f1.headD .x = f1.getD 0 .x := by cases f1 <;> rfl
    rw [e]
    exact ⟨rfl, fun c hc => List.mem_append_left _ hc⟩
  | t, s :: f0, f1, i + 1, h => by
    obtain ⟨h1, h2⟩ := thawFr_get (ops := ops) (t := t + 1) (f0 := f0) (f1 := f1.drop 1) i (by simpa using h)
    have e : (f1.drop 1).getD i .x = f1.getD (i + 1) .x := by simp [List.getD_eq_getElem?_getD, Nat.add_comm]
    rw [e, show t + 1 + i = t + (i + 1) by omega] at h1 h2
    simp only [thawFr, List.getD_cons_succ]
    exact ⟨h1, fun c hc => List.mem_append_right _ (h2 c hc)⟩
theorem thaw_sound {r : Option Nat} {n : Nat} (hM : ∀ f as rs, C f as rs → ConX E.P E.G f as rs) (hO : SOps C R B I₀ w₀ E n) {me : FuncId} {id : Nat} {ops : Array Oper} {draw : Bool} {st : St} {k : K} {ir : IR} {L : List Lp} {ρ : List D} {I : Imm} {μ : Mu} {w : World} {a : Act}
    {Q : Exit → Act → World → Prop} (hnd : ops.toList.all noDefer = true) (hx : thawGo (fun st k => if draw = true then (if st.q < 2 then drawn E (dexec E n) (exec E n me) ops.toList st k else .no "draw: q") else exec E n me (.ops ops.toList ops.toList) st k) ops.toList st k = .ok ir)
    (hw : IR.wp C R ir L ρ) (hs : StR r E.G B I₀ w₀ st L ρ I μ w a) (hk : Post C R r E.G B I₀ w₀ k L ρ I μ w Q) : (Code.region id ops draw).wpIn (Rd r) 0 E.P Q a w := by
  unfold thawGo at hx
  split at hx
  · cases hx
  rename_i hq0
  have hq0 : st.q = 0 := by simpa using hq0
  have hnd' : ∀ o ∈ ops.toList, noDefer o = true := fun o ho => List.all_eq_true.1 hnd o ho
  have hdst : ∀ o ∈ ops.toList, ∀ t, o.dst = some t → t ∈ ops.toList.filterMap (·.dst) := fun o ho t ht => List.mem_filterMap.2 ⟨o, ho, ht⟩
  -- all is data
  obtain ⟨I1, hW1, he1, hO1, hX1⟩ := hs.own.frz2 hs.wr (List.range st.o.length)
  have hW1' := hW1.fix hO1
  obtain ⟨hW2, he2⟩ := hW1'.ro
  have hF1 := (hs.fr.mono he1 (List.prefix_refl _)).fix hO1
  have hO2 := hO1.ro (fun _ _ => frz_all) he2
  have he12 := he1.trans he2
  have hs2 : StR r E.G B I₀ w₀ { prepSt (List.range st.o.length) st with h := roHp (prepSt (List.range st.o.length) st).h } L ρ (fun x => I1 x ∨ ∃ b, μ b = some x) μ w a := ⟨hF1.mono he2 (List.prefix_refl _), hW2, hO2, hs.nv, hs.lv, hs.df.mono he12⟩
  obtain ⟨I2, hI2⟩ : ∃ I2 : Imm, I2 = fun x => I1 x ∨ ∃ b, μ b = some x := ⟨_, rfl⟩
  rw [← hI2] at hs2 he12
  have hXb : ∀ b x, μ b = some x → I2 x := fun b x hb => by rw [hI2]; exact .inr ⟨b, hb⟩
  have hXo : ∀ k t v x, st.o[k]? = some ⟨t, .live⟩ → μ.v k = some v → v.ownBlock = some x → I2 x := fun k t v x hkk hv hxx => by
    rw [hI2]
    exact .inl (hX1 k t v x (List.mem_range.2 (List.getElem?_eq_some_iff.1 hkk).1) hkk hv hxx)
  -- the region
  obtain ⟨Q1, hQ1⟩ : ∃ Q1 : Exit → Act → World → Prop, Q1 = fun e a' w' => e = .normal ∧ ∃ (s : St) (ir' : IR) (L' : List Lp) (ρ' : List D) (I' : Imm) (μ' : Mu), (if s.q ≠ 0 then Res.no "thaw: q" else chks (thawFr ops.toList 0 st.fr s.fr).1 (k .normal { st with fr := (thawFr ops.toList 0 st.fr s.fr).2, nv := s.nv, lv := s.lv })) = .ok ir' ∧ IR.wp C R ir' L' ρ' ∧ L <+: L' ∧ ρ <+: ρ' ∧ StR r E.G B I₀ w₀ s L' ρ' I' μ' w' a' ∧ Evo I2 μ w I' μ' w' := ⟨_, rfl⟩
  have hno : ∀ e a w, e ≠ .normal → ¬ Q1 e a w := fun e a w he h => by rw [hQ1] at h; exact he h.1
  have hboth := region_both (id := id) (draw := draw) (Q := Q1) hM hO hnd' hx hw hs2 (by
    intro e s ir' L' ρ' I' μ' w' a' h1 h2 h3 h4 h5 h6
    cases e with
    | normal => rw [hQ1]; exact ⟨rfl, s, ir', L', ρ', I', μ', h1, h2, h3, h4, h5, h6⟩
    | ret => cases h1
    | exit id => cases h1
    | goto l => cases h1)
  -- behind it
  have hend : ∀ e a' w', Keep (ops.toList.filterMap (·.dst)) a.tmps.size (fun t => a.tmps.getD t undef) Q1 e a' w' → Q e a' w' := by
    rintro e a' w' ⟨hq, hsz, hkeep⟩
    rw [hQ1] at hq
    obtain ⟨rfl, s, ir', L', ρ', I', μ', h1, h2, h3, h4, h5, h6⟩ := hq
    split at h1
    · cases h1
    rename_i hq1
    have hq1 : s.q = 0 := by simpa using hq1
    obtain ⟨ir2, h7, h8, hcs⟩ := chks_ok h1 h2
    have hII : ∀ x, I x → I' x := fun x hx => h6.imm x (he12.imm x hx)
    have hsame : ∀ x, I2 x → w'.heap[x]? = w.heap[x]? := h6.same
    have heI : Evo I μ w I μ w' := ⟨fun _ h => h, fun x hx => hsame x (he12.imm x hx), fun _ _ h => h, fun _ _ h => h⟩
    have hdf5 := h5.df
    unfold DfR at hdf5
    rw [if_pos hq1] at hdf5
    refine hk .normal _ ir2 L' ρ' I μ w' a' h7 h8 h3 h4 ⟨⟨?_, fun t => ?_⟩, ⟨fun b x hb => ?_, hs.wr.inj, hs.wr.glo.mono (fun _ h => h) heI.same, h5.wr.old, h5.wr.size, fun x hx => h5.wr.imm x (hII x hx), hs.wr.imm0, h5.wr.wd⟩, ⟨fun j t hj => ?_, fun j t hj => ?_, hs.own.dis, hs.own.new⟩, h5.nv, h5.lv, ?_⟩ heI
    · rw [thawFr_len, hsz]; exact hs.fr.len
    · by_cases ht : t < st.fr.length
      · obtain ⟨h9, h10⟩ := thawFr_get (ops := ops.toList) (t := 0) (f0 := st.fr) (f1 := s.fr) t ht
        rw [Nat.zero_add] at h9 h10
        show SR I μ w' ρ' ((thawFr ops.toList 0 st.fr s.fr).2.getD t .x) (a'.tmps.getD t undef)
        rw [h9]
        unfold thawS at h10 ⊢
        by_cases hd : (ops.toList.filterMap (·.dst)).contains t = true
        · rw [if_pos hd] at h10 ⊢
          have hat := h5.fr.at_ t
          split
          · rename_i x hsx
            rw [hsx] at hat h10
            split
            · rename_i hcmp
              simp only [hcmp, if_true] at h10
              have hc := hcs _ (h10 _ (List.mem_singleton_self _))
              obtain ⟨l, hl, hat⟩ := hat
              cases hl
              obtain ⟨d, hde, hdr⟩ := hat
              refine ⟨_, rfl, d, hde, DR.plain (eqt_plain (e := d) (g := true) (t := true) ?_) hdr⟩
              simpa only [Ex.eval, hde] using hc
            · trivial
          · trivial
        · rw [if_neg hd]
          have hnm : t ∉ ops.toList.filterMap (·.dst) := fun h => hd (List.contains_iff_mem.2 h)
          rw [hkeep t hnm]
          exact (hs.fr.at_ t).mono heI h4
      · have : (thawFr ops.toList 0 st.fr s.fr).2.getD t .x = .x := by
          rw [List.getD_eq_getElem?_getD, List.getElem?_eq_none (by rw [thawFr_len]; omega)]
          rfl
        show SR I μ w' ρ' ((thawFr ops.toList 0 st.fr s.fr).2.getD t .x) (a'.tmps.getD t undef)
        rw [this]
        trivial
    · obtain ⟨blk, g1, vs, ty, g2, g3, g4⟩ := hs.wr.blk b x hb
      exact ⟨blk, g1, vs, ty, by rw [hsame x (hXb b x hb)]; exact g2, g3.imp fun _ _ h => h.mono heI h4, g4⟩
    · obtain ⟨v, sz, rows, g1, g2, g3⟩ := hs.own.live j t hj
      refine ⟨v, sz, rows, g1, Ex.eval_pre h4 t g2, g3.mono heI.imm heI.same fun x hx => ⟨hsame x (hXo j t v x hj g1 hx), (hs.own.lt hj g1 hx).2.2⟩⟩
    · obtain ⟨v, d, g1, g2, g3⟩ := hs.own.frozen j t hj
      exact ⟨v, d, g1, Ex.eval_pre h4 t g2, g3.mono heI.imm heI.same⟩
    · show DfR r B I w' st.q a'.defers
      unfold DfR
      rw [if_pos hq0]
      exact hdf5
  have hmono : (Code.region id ops draw).wpIn (Rd r) 0 E.P (Keep (ops.toList.filterMap (·.dst)) a.tmps.size (fun t => a.tmps.getD t undef) Q1) a w := by
    split at hboth
    · rename_i hd
      subst hd
      exact wpIn_region_any hboth.1 (any_in hnd' (any_keep hno hdst rfl (fun _ _ => rfl) hboth.2))
    · rename_i hd
      have hd : draw = false := by simpa using hd
      subst hd
      exact wpIn_region_list (list_in hnd' (list_keep hno hdst rfl (fun _ _ => rfl) hboth))
  intro b kk cs hro hb hr
  obtain ⟨e, a', w', hq, harr⟩ := hmono b kk cs hro hb hr
  exact ⟨e, a', w', hend e a' w' hq, harr⟩
/-- Some operations of a region, likewise. -/
theorem list_piece {n : Nat} {ds : List DV} {w : World} {I₀ : Imm} {me : FuncId} {all l : List Oper} {ts : List Nat} {st : St} {ir : IR} {ρ : List D} {μ : Mu} {a : Act}
    (hO : SOps C (fun rs => rs = ds) w.heap.size I₀ w E n) (hx : exec E n me (.ops all l) st (askK ts) = .ok ir) (hw : IR.wp C (fun rs => rs = ds) ir [] ρ) (hs : StR none E.G w.heap.size I₀ w st [] ρ I₀ μ w a) :
    wpL E.P all.toArray (Keep (l.filterMap (·.dst)) a.tmps.size (fun t => a.tmps.getD t undef) (PieceQ w ts ds)) l a w :=
  list_keep PieceQ.no (fun o ho t ht => List.mem_filterMap.2 ⟨o, ho, ht⟩) rfl (fun _ _ => rfl) (hO none me all l st (askK ts) ir [] ρ I₀ μ w a _ hx hw hs ask_post)
theorem list_then {P : Program} {ops : Array Oper} {Q0 Q : Exit → Act → World → Prop} {l2 : List Oper} (hQ0 : ∀ e a w, e ≠ .normal → ¬ Q0 e a w) (hn : ∀ a w, Q0 .normal a w → wpListIn (Rd none) 0 P ops Q l2 a w) : ∀ {l1 : List Oper} {a : Act} {w : World}, (∀ o ∈ l1, noDefer o = true) → wpL P ops Q0 l1 a w → wpListIn (Rd none) 0 P ops Q (l1 ++ l2) a w
  | [], a, w, _, h => hn a w h
  | o :: l1, a, w, hnd, h => by
    simp only [wpL] at h
    simp only [List.cons_append, wpListIn]
    split
    · rename_i hw
      rw [if_pos hw] at h
      exact op_in (hnd o (List.mem_cons_self ..)) (fun _ _ h => h) (op_keep h (fun a' w' _ hK => list_then hQ0 hn (fun p hp => hnd p (List.mem_cons_of_mem _ hp)) hK) hQ0)
    · rename_i hw
      rw [if_neg hw] at h
      exact ⟨fun _ _ => trivial, list_then hQ0 hn (fun p hp => hnd p (List.mem_cons_of_mem _ hp)) h⟩

/-- a frame of which some places are known -/
def frOf (n : Nat) (l : List (Nat × S)) : List S := (List.range n).map fun t => match l.find? (·.1 == t) with
  | some p => p.2
  | none => .x
theorem fr_of {I : Imm} {μ : Mu} {w : World} {ρ : List D} {l : List (Nat × S)} {n : Nat} {a : Act} (hn : a.tmps.size = n) (h : ∀ p ∈ l, SR I μ w ρ p.2 (a.tmps.getD p.1 undef)) : FR I μ w ρ (frOf n l) a := by
  refine ⟨by simp [frOf, hn], fun t => ?_⟩
  unfold frOf
  rw [List.getD_eq_getElem?_getD, List.getElem?_map]
  by_cases ht : t < n
  · rw [List.getElem?_range ht]
    simp only [Option.map_some, Option.getD_some]
    split
    · rename_i p hp
      have h1 := List.mem_of_find?_eq_some hp
      have h2 := List.find?_some hp
      have h3 : p.1 = t := by simpa using h2
      rw [← h3]
      exact h p h1
    · trivial
  · rw [List.getElem?_eq_none (by simp; omega)]
    trivial
/-- the state at a piece's beginning: some places of the frame, and the variables that a function is handed -/
def stOf (n : Nat) (l : List (Nat × S)) (csh : List Nat) (nv : Nat) : St := { fr := frOf n l, h := capHeap 0 csh, o := [], nv := nv, lv := 0, q := 0 }

/-! ### a range over a function -/

theorem cell_obj {w : World} {x o : Nat} {v : Value} {ob : Obj} (h : w.cell? ⟨x, o, none⟩ = some v) (hx : w.heap[x]? = some ob) : ob.isCells = true := by
  unfold World.cell? at h
  rw [hx] at h
  cases ob <;> first | rfl | cases h
theorem DR.drop {I : Imm} {w : World} {x : Nat} {ob : Obj} (hx : w.heap[x]? = some ob) (hc : ob.isCells = false) {d : D} {v : Value} (h : DR I w d v) : DR (fun y => I y ∧ y ≠ x) w d v := by
  induction h with
  | b y => exact .b y
  | i k n => exact .i k n
  | s y => exact .s y
  | f g => exact .f g
  | nil sz p cap hz => exact .nil sz p cap hz
  | sl sz xs blk off cap vs hpos hw hcap hI hcl hd hf ih =>
    cases xs with
    | nil => exact .nil sz (some ⟨blk, off, none⟩) cap fun h => by omega
    | cons r rs =>
      refine .sl sz (r :: rs) blk off cap vs hpos hw hcap ⟨hI, ?_⟩ hcl ih hf
      rintro rfl
      have hr := hw r (List.mem_cons_self ..)
      have h0 : r[0]? = some r[0] := List.getElem?_eq_getElem (by omega)
      have := cell_obj (hcl 0 r 0 _ rfl h0) hx
      rw [hc] at this
      cases this
theorem LR.drop {I : Imm} {μ : Mu} {w : World} {ρ : List D} {x : Nat} {ob : Obj} (hx : w.heap[x]? = some ob) (hc : ob.isCells = false) {l : SL} {v : Value} (h : LR I μ w ρ l v) : LR (fun y => I y ∧ y ≠ x) μ w ρ l v := by
  cases l with
  | e t => obtain ⟨d, h1, h2⟩ := h; exact ⟨d, h1, h2.drop hx hc⟩
  | elt t i n j =>
    obtain ⟨xs, k, m, r, blk, off, h1, h2, h3, h4, h5, h6, h7, h8⟩ := h
    refine ⟨xs, k, m, r, blk, off, h1, h2, h3, h4, h5, h6, ⟨h7, ?_⟩, fun q d hq => ?_⟩
    · rintro rfl
      obtain ⟨u, hu, _⟩ := h8 0 _ (List.getElem?_eq_getElem (by omega))
      have := cell_obj hu hx
      rw [hc] at this
      cases this
    · obtain ⟨u, hu, hd⟩ := h8 q d hq
      exact ⟨u, hu, hd.drop hx hc⟩
  | x => exact h
  | p r off => exact h
  | dyn r base sz n i j => exact h
  | sc r base sz n => exact h
  | g k => exact h
  | ge k i sz j => exact h
  | gs k sz lo => exact h
  | clo f caps => exact h
theorem SR.drop {I : Imm} {μ : Mu} {w : World} {ρ : List D} {x : Nat} {ob : Obj} (hx : w.heap[x]? = some ob) (hc : ob.isCells = false) {s : S} {v : Value} (h : SR I μ w ρ s v) : SR (fun y => I y ∧ y ≠ x) μ w ρ s v := by
  have hv : ∀ {g : Bool} {ls : List SL} {v : Value}, VR I μ w ρ g ls v → VR (fun y => I y ∧ y ≠ x) μ w ρ g ls v := by
    intro g ls v h
    cases g
    · obtain ⟨l, h1, h2⟩ := h; exact ⟨l, h1, h2.drop hx hc⟩
    · obtain ⟨vs, h1, h2⟩ := h; exact ⟨vs, h1, h2.imp fun _ _ h => h.drop hx hc⟩
  cases s with
  | x => trivial
  | u => exact h
  | val g ls => exact hv h
  | tup xs => obtain ⟨vs, h1, h2⟩ := h; exact ⟨vs, h1, h2.imp fun _ _ h => hv h⟩

/-- how a state stands in the world -/
structure R3 (G : Glo) (B : Nat) (I₀ : Imm) (w₀ : World) (I : Imm) (μ : Mu) (w : World) (ρ : List D) (fr : List S) (h : Heap) (o : Own) (a : Act) : Prop where
  fr : FR I μ w ρ fr a
  wr : WR G B I₀ w₀ I μ w ρ h
  own : OwnR B I μ w ρ o
section
variable {G : Glo} {B : Nat} {I₀ : Imm} {w₀ : World} {I : Imm} {μ : Mu} {w : World} {ρ : List D} {fr : List S} {h : Heap} {o : Own} {a : Act} {x : Nat} {ob : Obj}
theorem cells_ne {y : Nat} {cs : Array Value} {ty : TypeId} {fz : Nat × Nat} (hy : w.heap[y]? = some (.cells cs ty fz)) (hx : w.heap[x]? = some ob) (hc : ob.isCells = false) : y ≠ x := by
  rintro rfl
  rw [hx] at hy
  cases hy
  cases hc
theorem R3.drop (hR : R3 G B I₀ w₀ I μ w ρ fr h o a) (hx : w.heap[x]? = some ob) (hc : ob.isCells = false) : R3 G B I₀ w₀ (fun y => I y ∧ y ≠ x) μ w ρ fr h o a := by
  refine ⟨⟨hR.fr.len, fun t => (hR.fr.at_ t).drop hx hc⟩, ⟨fun b y hb => ?_, fun b b' y hb hb' => ?_, fun g ds hg => ?_, hR.wr.old, hR.wr.size, fun y hy => hR.wr.imm y hy.1, fun y hy => hR.wr.imm0 y hy.1, hR.wr.wd⟩,
    ⟨fun k t hk => ?_, fun k t hk => ?_, hR.own.dis, hR.own.new⟩⟩
  · obtain ⟨blk, h1, vs, ty, h2, h3, h4⟩ := hR.wr.blk b y hb
    refine ⟨blk, h1, vs, ty, h2, h3.imp fun _ _ h => h.drop hx hc, ?_⟩
    split
    · rename_i hro
      rw [if_pos hro] at h4
      exact ⟨h4, cells_ne h2 hx hc⟩
    · rename_i hro
      rw [if_neg hro] at h4
      exact ⟨fun h => h4.1 h.1, h4.2⟩
  · obtain ⟨blk, h1, vs, ty, h2, h3, h4⟩ := hR.wr.blk b y hb
    exact (hR.wr.inj b b' y hb hb').imp id fun h => ⟨h, cells_ne h2 hx hc⟩
  · obtain ⟨h1, vs, ty, fz, h2, h3⟩ := hR.wr.glo g ds hg
    exact ⟨⟨h1, cells_ne h2 hx hc⟩, vs, ty, fz, h2, h3.imp fun _ _ h => h.drop hx hc⟩
  · obtain ⟨v, s, rows, h1, h2, h3, h4⟩ := hR.own.live k t hk
    refine ⟨v, s, rows, h1, h2, h3, ?_⟩
    rcases h4 with h4 | ⟨y, cap, cur, ty, h5, h6, h7, h8, h9, h10, h11, h12, h13⟩
    · exact .inl h4
    · refine .inr ⟨y, cap, cur, ty, h5, h6, h7, h8, h9, h10, h11, fun i r j d hi hj => ?_, fun h => h13 h.1⟩
      obtain ⟨u, hu, hd⟩ := h12 i r j d hi hj
      exact ⟨u, hu, hd.drop hx hc⟩
  · obtain ⟨v, d, h1, h2, h3⟩ := hR.own.frozen k t hk
    exact ⟨v, d, h1, h2, h3.drop hx hc⟩
theorem evo_add : Evo I μ w (fun y => I y ∨ y = x) μ w := ⟨fun _ h => .inl h, fun _ _ => rfl, fun _ _ h => h, fun _ _ h => h⟩
theorem R3.add (hR : R3 G B I₀ w₀ I μ w ρ fr h o a) (hx : w.heap[x]? = some ob) (hc : ob.isCells = false) (hB : B ≤ x) : R3 G B I₀ w₀ (fun y => I y ∨ y = x) μ w ρ fr h o a := by
  have hxl : x < w.heap.size := (Array.getElem?_eq_some_iff.1 hx).1
  refine ⟨hR.fr.mono evo_add (List.prefix_refl _), ⟨fun b y hb => ?_, fun b b' y hb hb' => (hR.wr.inj b b' y hb hb').imp id .inl, hR.wr.glo.mono (fun _ h => .inl h) (fun _ _ => rfl), hR.wr.old, hR.wr.size, fun y hy => ?_, fun y hy => ?_, hR.wr.wd⟩,
    ⟨fun k t hk => ?_, fun k t hk => ?_, hR.own.dis, hR.own.new⟩⟩
  · obtain ⟨blk, h1, vs, ty, h2, h3, h4⟩ := hR.wr.blk b y hb
    refine ⟨blk, h1, vs, ty, h2, h3.imp fun _ _ h => h.mono evo_add (List.prefix_refl _), ?_⟩
    split
    · rename_i hro
      rw [if_pos hro] at h4
      exact .inl h4
    · rename_i hro
      rw [if_neg hro] at h4
      exact ⟨fun h => h.elim h4.1 (cells_ne h2 hx hc), h4.2⟩
  · rcases hy with hy | rfl
    · exact hR.wr.imm y hy
    · exact hxl
  · rcases hy with hy | rfl
    · exact hR.wr.imm0 y hy
    · exact .inr hB
  · obtain ⟨v, s, rows, h1, h2, h3, h4⟩ := hR.own.live k t hk
    refine ⟨v, s, rows, h1, h2, h3, ?_⟩
    rcases h4 with h4 | ⟨y, cap, cur, ty, h5, h6, h7, h8, h9, h10, h11, h12, h13⟩
    · exact .inl h4
    · refine .inr ⟨y, cap, cur, ty, h5, h6, h7, h8, h9, h10, h11, fun i r j d hi hj => ?_, fun h => h.elim h13 (cells_ne h8 hx hc)⟩
      obtain ⟨u, hu, hd⟩ := h12 i r j d hi hj
      exact ⟨u, hu, hd.mono (fun _ h => .inl h) fun _ _ => rfl⟩
  · obtain ⟨v, d, h1, h2, h3⟩ := hR.own.frozen k t hk
    exact ⟨v, d, h1, h2, h3.mono (fun _ h => .inl h) fun _ _ => rfl⟩
theorem evo_put {o' : Obj} (hI : ¬ I x) : Evo I μ w I μ (w.putObj x o') := ⟨fun _ h => h, fun y hy => World.putObj_heap_other fun e => hI (e ▸ hy), fun _ _ h => h, fun _ _ h => h⟩
theorem R3.put {o' : Obj} (hR : R3 G B I₀ w₀ I μ w ρ fr h o a) (hx : w.heap[x]? = some ob) (hc : ob.isCells = false) (hB : B ≤ x) (hI : ¬ I x) : R3 G B I₀ w₀ I μ (w.putObj x o') ρ fr h o a := by
  have he : Evo I μ w I μ (w.putObj x o') := evo_put hI
  refine ⟨hR.fr.mono he (List.prefix_refl _), ⟨fun b y hb => ?_, hR.wr.inj, hR.wr.glo.mono (fun _ h => h) he.same, fun y hy => ?_, ?_, fun y hy => ?_, hR.wr.imm0, hR.wr.wd⟩,
    hR.own.frame he (Fresh.refl _ _) (fun y hy => .inl hy) fun k t v y hk hv hy => ?_⟩
  · obtain ⟨blk, h1, vs, ty, h2, h3, h4⟩ := hR.wr.blk b y hb
    exact ⟨blk, h1, vs, ty, (World.putObj_heap_other (cells_ne h2 hx hc)).trans h2, h3.imp fun _ _ h => h.mono he (List.prefix_refl _), h4⟩
  · exact (World.putObj_heap_other (by omega)).trans (hR.wr.old y hy)
  · have := hR.wr.size; simpa using this
  · have := hR.wr.imm y hy; simpa using this
  · obtain ⟨v', s, rows, h1, h2, h3⟩ := hR.own.live k t hk
    rw [hv] at h1
    cases h1
    obtain ⟨cap, cur, ty, _, _, _, h4, _⟩ := OwnV.block h3 hy
    exact World.putObj_heap_other (cells_ne h4 hx hc)
theorem R3.grow {w' : World} (hR : R3 G B I₀ w₀ I μ w ρ fr h o a) (hg : Grows w w') : R3 G B I₀ w₀ I μ w' ρ fr h o a ∧ Evo I μ w I μ w' := by
  obtain ⟨h1, h2⟩ := hR.wr.call (I' := I) (w' := w') (fun _ h => h) (fun _ h => .inl h) (fun x hx => Nat.lt_of_lt_of_le (hR.wr.imm x hx) hg.size) hg.old hg.size hg.wd
  exact ⟨⟨hR.fr.mono h2 (List.prefix_refl _), h1, hR.own.call (fun _ h => h) (fun _ h => .inl h) hR.wr.imm hg.old⟩, h2⟩
theorem R3.vars {ρ' : List D} (hR : R3 G B I₀ w₀ I μ w ρ fr h o a) (hp : ρ <+: ρ') : R3 G B I₀ w₀ I μ w ρ' fr h o a :=
  ⟨hR.fr.mono (Evo.refl _ _ _) hp, hR.wr.vars hp, hR.own.vars hp⟩
end
theorem grows_alloc (w : World) (o : Obj) : Grows w (w.alloc o) := ⟨fun x hx => by
  show (w.heap.push o)[x]? = w.heap[x]?
  rw [Array.getElem?_push, if_neg (by omega)], by simp, ⟨rfl, rfl⟩⟩
theorem Grows.trans {w w' w'' : World} (h : Grows w w') (h' : Grows w' w'') : Grows w w'' := ⟨fun x hx => (h'.old x (Nat.lt_of_lt_of_le hx h.size)).trans (h.old x hx), Nat.le_trans h.size h'.size, ⟨h'.wd.1.trans h.wd.1, h'.wd.2.trans h.wd.2⟩⟩

theorem rowVals_len : ∀ {sh : Shape} {ds : List D} {vs : List Value}, rowVals sh ds = some vs → vs.length = sh.length
  | [], ds, vs, h => by
    simp only [rowVals] at h
    split at h <;> cases h
    rfl
  | (g, n) :: sh, ds, vs, h => by
    simp only [rowVals] at h
    split at h
    · rename_i us r h1 h2
      have := rowVals_len h2
      split at h
      · split at h
        · cases h; simp [this]
        · split at h
          · cases h; simp [this]
          · cases h
      · cases h
    · cases h

/-- how a round may end -/
def itPost (l : Nat) (o : Obj) (S : World → Prop) (SX : Code → World → Prop) : Exit → Act → World → Prop
  | .normal, _, W => W.heap[l]? = some o ∧ S W
  | .ret, _, W => W.heap[l]? = some o ∧ SX .ret W
  | .exit id, _, W => W.heap[l]? = some o ∧ SX (.exit id) W
  | .goto t, _, W => W.heap[l]? = some o ∧ SX (.goto t) W
  | _, _, _ => False
/-- A range over a function that hands out rows: what its rounds keep. -/
theorem wp_it {P : Program} {G : Glo} {gf : Nat} {g : Operand} {ps : Array Tmp} {x y : Code} {Q : Exit → Act → World → Prop} {a : Act} {w : World} {caz : List DV} {sh : Shape} {rows : List (List D)} {xs : List Nat}
    (hg : a.eval g = .func (.func gf) #[] (xs.map fun x => Value.pointer (some ⟨x, 0, none⟩)).toArray)
    (hgf : ∃ fn, P.funcs[gf]? = some fn ∧ fn.body.isNone = false ∧ (fn.name == "runtime.NumGoroutine") = false) (hps : ps.size = sh.length)
    (hT : ∀ (l : Nat) (J Jx : Nat → World → Prop) (w : World) (xs : List Nat),
      (∀ i W, J i W → ∃ I, GR G I W ∧ (∀ x, I x → x < W.heap.size) ∧ All2 (CellR I W) caz xs) → (∀ i W W', J i W → Grows W W' → J i W') →
      (∀ i r vs W, rows[i]? = some r → rowVals sh r = some vs → J i W → YieldAt (Rd none) 0 P l vs.toArray W fun e W' => (e = .returned (.bool true) ∧ J (i + 1) W') ∨ (e = .returned (.bool false) ∧ Jx i W')) →
      J 0 w → CallsIn (Rd none) 0 P gf (#[.func (.yield l) #[] #[]] ++ (xs.map fun x => Value.pointer (some ⟨x, 0, none⟩)).toArray) w fun e W' => (∃ v, e = .returned v) ∧ (J rows.length W' ∨ ∃ i, Jx i W'))
    (S : Nat → World → Prop) (SX : Code → World → Prop)
    (hcap : ∀ i W, S i W → ∃ I, GR G I W ∧ (∀ x, I x → x < W.heap.size) ∧ All2 (CellR I W) caz xs) (hgrow : ∀ i W W', S i W → Grows W W' → S i W')
    (hput : ∀ i W (o o' : Loop), S i W → W.heap[w.heap.size + 1]? = some (.loop o) → S i (W.putObj (w.heap.size + 1) (.loop o')))
    (hputX : ∀ c W (o o' : Loop), SX c W → W.heap[w.heap.size + 1]? = some (.loop o) → SX c (W.putObj (w.heap.size + 1) (.loop o')))
    (h0 : ∀ o : Loop, S 0 ((w.alloc (.deferred (some []))).alloc (.loop o)))
    (hround : ∀ (i : Nat) (r : List D) (vs : List Value) (W : World) (o1 o2 : Loop), rows[i]? = some r → rowVals sh r = some vs → S i W → W.heap[w.heap.size + 1]? = some (.loop o1) →
      x.wpIn (Rd (some (w.heap.size + 1))) 0 P (Exit.then (fun a1 W1 => W1.heap[w.heap.size + 1]? = some (.loop o1) ∧ y.wpIn (Rd (some (w.heap.size + 1))) 0 P (itPost (w.heap.size + 1) (.loop o2) (S (i + 1)) SX) a1 (W1.putObj (w.heap.size + 1) (.loop o2))) (fun _ _ _ => False))
        { tmps := (ps.zip vs.toArray).foldl (fun t (p, v) => t.setIfInBounds p v) a.tmps, defers := [] } W)
    (hdone : ∀ W, S rows.length W → Q .normal { a with defers := { target := .collected w.heap.size, args := #[] } :: a.defers } W)
    (hstop : ∀ c W, SX c W → c.wpIn (Rd none) 0 P Q { a with defers := { target := .collected w.heap.size, args := #[] } :: a.defers } W) :
    (Code.rangeFunc g ps x y).wpIn (Rd none) 0 P Q a w := by
  refine wpIn_rangeFunc ?_
  intro fn _
  obtain ⟨l, hl⟩ : ∃ l, l = w.heap.size + 1 := ⟨_, rfl⟩
  obtain ⟨rec, hrec⟩ : ∃ rec : LoopState → Option Code → Loop, rec = fun st pe => { state := st, pending := pe, fn, tmps := a.tmps, params := ps, assign := x, body := y, defers := w.heap.size } := ⟨_, rfl⟩
  have hl1 : ((w.alloc (.deferred (some []))).alloc (.loop (rec .ready none))).heap[l]? = some (.loop (rec .ready none)) := by
    have := World.alloc_heap_new (w.alloc (.deferred (some []))) (.loop (rec .ready none))
    rw [World.size_alloc] at this
    rw [hl]
    exact this
  rw [← hl] at hput hputX hround
  refine ⟨l, [{ target := .collected w.heap.size, args := #[] }], (w.alloc (.deferred (some []))).alloc (.loop (rec .ready none)), { target := .fn (.func gf) (xs.map fun x => Value.pointer (some ⟨x, 0, none⟩)).toArray, args := #[.func (.yield l) #[] #[]] },
    (w.alloc (.deferred (some []))).alloc (.loop (rec .ready none)), gf, #[.func (.yield l) #[] #[]] ++ (xs.map fun x => Value.pointer (some ⟨x, 0, none⟩)).toArray, (w.alloc (.deferred (some []))).alloc (.loop (rec .ready none)), ?_, ?_, fun _ _ => trivial, ?_, (fun h => by cases h), ?_⟩
  · rw [hrec, hl]
    exact run_enterLoop_outer _ _ _ _ _
  · simp only [resolve, hg]
    simp [go_sem, rangeCall]
  · simp only [invoke]
    exact run_callFunc hgf
  refine (hT l (fun i W => S i W ∧ W.heap[l]? = some (.loop (rec .ready none))) (fun i W => ∃ c, SX c W ∧ W.heap[l]? = some (.loop (rec .done (some c)))) _ xs (fun i W h => hcap i W h.1)
    (fun i W W' h hg => ⟨hgrow i W W' h.1 hg, (hg.old l (Array.getElem?_eq_some_iff.1 h.2).1).trans h.2⟩) ?_ ⟨h0 _, hl1⟩).mono ?_
  · rintro i r vs W hr hvs ⟨hS, hlW⟩
    have hlt : l < W.heap.size := (Array.getElem?_eq_some_iff.1 hlW).1
    have hy := run_yield (P := P) (args := vs.toArray) hlW (by rw [hrec]; simp [rowVals_len hvs, hps])
    rw [hrec] at hy
    refine ⟨fn, _, x, y, hy, roundIn_of_wpIn trivial (wpIn_mono (hround i r vs W (rec .ready none) { rec .ready none with state := .busy } hr hvs hS hlW) fun e a1 W1 he => ?_)⟩
    cases e with
    | normal =>
      obtain ⟨h1, h2⟩ := he
      refine ⟨_, run_beginRound h1 (by rw [hrec]), wpIn_mono h2 fun e a2 W2 he2 => ?_⟩
      have fin : ∀ (jump : Option Code), W2.heap[l]? = some (.loop { rec .ready none with state := .busy }) →
          (Instr.endRound l jump).run P W2 = .ok (.bool jump.isNone) (W2.putObj l (.loop (rec (if jump.isNone then .ready else .done) jump))) ∧ (W2.putObj l (.loop (rec (if jump.isNone then .ready else .done) jump))).heap[l]? = some (.loop (rec (if jump.isNone then .ready else .done) jump)) := fun jump h => by
        have := run_endRound (P := P) jump h
        rw [hrec] at this ⊢
        exact ⟨this, World.putObj_heap_same (Array.getElem?_eq_some_iff.1 h).1⟩
      cases e with
      | normal => obtain ⟨h3, h4⟩ := he2; obtain ⟨h5, h6⟩ := fin none h3; exact ⟨_, _, h5, .inl ⟨rfl, hput _ _ _ _ h4 h3, h6⟩⟩
      | ret => obtain ⟨h3, h4⟩ := he2; obtain ⟨h5, h6⟩ := fin (some .ret) h3; exact ⟨_, _, h5, .inr ⟨rfl, .ret, hputX _ _ _ _ h4 h3, h6⟩⟩
      | exit id => obtain ⟨h3, h4⟩ := he2; obtain ⟨h5, h6⟩ := fin (some (.exit id)) h3; exact ⟨_, _, h5, .inr ⟨rfl, .exit id, hputX _ _ _ _ h4 h3, h6⟩⟩
      | goto t => obtain ⟨h3, h4⟩ := he2; obtain ⟨h5, h6⟩ := fin (some (.goto t)) h3; exact ⟨_, _, h5, .inr ⟨rfl, .goto t, hputX _ _ _ _ h4 h3, h6⟩⟩
      | panic ch => exact he2.elim
      | outgrown => exact he2.elim
    | ret => exact he.elim
    | exit id => exact he.elim
    | goto t => exact he.elim
    | panic ch => exact he.elim
    | outgrown => exact he.elim
  · rintro e W ⟨⟨v, rfl⟩, hJ⟩
    rcases hJ with ⟨hS, hlW⟩ | ⟨i, c, hS, hlW⟩
    · have := run_endLoop (P := P) hlW (by rw [hrec]; simp)
      rw [hrec] at this
      exact ⟨none, _, this, hdone _ (hput _ _ _ _ hS hlW)⟩
    · have := run_endLoop (P := P) hlW (by rw [hrec]; simp)
      rw [hrec] at this
      exact ⟨some c, _, this, hstop c _ (hputX _ _ _ _ hS hlW)⟩

/-! #### a loop over what is handed out -/

theorem XVs.same_eq : ∀ {a b : List XV}, XVs.same a b = true → a = b
  | [], [], _ => rfl
  | (g, a) :: l, (h, b) :: m, hs => by
    simp only [XVs.same, Bool.and_eq_true, beq_iff_eq] at hs
    obtain ⟨⟨rfl, h1⟩, h2⟩ := hs
    rw [Ex.sames_eq h1, XVs.same_eq h2]
  | [], _ :: _, h => by simp [XVs.same] at h
  | _ :: _, [], h => by simp [XVs.same] at h
theorem shD_inj : ∀ {a b : Shape}, shD a = shD b → a = b
  | [], [], _ => rfl
  | (g, n) :: a, (h, m) :: b, e => by
    simp only [shD, List.cons.injEq, D.b.injEq, D.i.injEq, true_and] at e
    obtain ⟨rfl, h2, h3⟩ := e
    rw [shD_inj h3, show n = m from by omega]
  | [], _ :: _, e => by cases e
  | _ :: _, [], e => by cases e
theorem plain_dr {I : Imm} {w : World} {d : D} {u : Value} (h : plainVal d = some u) : DR I w d u := by
  cases d with
  | b x => cases h; exact .b x
  | i k n => cases h; exact .i k n
  | s x => cases h
  | f g => cases h
  | sl n xs => cases h
theorem setPs_sound {I : Imm} {μ : Mu} {w : World} {ρ : List D} {v c i sz : Nat} {rows : List (List D)} {row : List D} (hv : ρ[v]? = some (.sl sz rows)) (hc : ρ[c]? = some (.i .i64 (i : Int))) (hr : rows[i]? = some row) :
    ∀ (ts : List Nat) (sh : Shape) (j : Nat) (fr : List S) (tmps : Array Value) (vs : List Value), fr.length = tmps.size → (∀ t, SR I μ w ρ (fr.getD t .x) (tmps.getD t undef)) → ts.length = sh.length → rowVals sh (row.drop j) = some vs →
      (setPs v c ts sh j fr).length = ((ts.zip vs).foldl (fun t (p, v) => t.setIfInBounds p v) tmps).size ∧ ∀ t, SR I μ w ρ ((setPs v c ts sh j fr).getD t .x) (((ts.zip vs).foldl (fun t (p, v) => t.setIfInBounds p v) tmps).getD t undef)
  | [], sh, j, fr, tmps, vs, h1, h2, _, _ => by
    cases sh <;> exact ⟨h1, h2⟩
  | t :: ts, [], j, fr, tmps, vs, _, _, h3, _ => by cases h3
  | t :: ts, (g, n) :: sh, j, fr, tmps, vs, h1, h2, h3, h4 => by
    simp only [rowVals] at h4
    split at h4
    case h_2 => cases h4
    rename_i us r hus hr'
    have key : ∀ u, vs = u :: r → VR I μ w ρ g ((List.range n).map fun q => SL.e (.idx (.v v) (.v c) (j + q))) u → (setPs v c (t :: ts) ((g, n) :: sh) j fr).length = (((t :: ts).zip vs).foldl (fun t (p, v) => t.setIfInBounds p v) tmps).size ∧
        ∀ t', SR I μ w ρ ((setPs v c (t :: ts) ((g, n) :: sh) j fr).getD t' .x) ((((t :: ts).zip vs).foldl (fun t (p, v) => t.setIfInBounds p v) tmps).getD t' undef) := by
      rintro u rfl hu
      simp only [setPs, List.zip_cons_cons, List.foldl_cons]
      refine setPs_sound hv hc hr ts sh (j + n) _ _ r (by simp [h1]) (fun t' => ?_) (by simpa using h3) (by rw [List.drop_drop] at hr'; rw [Nat.add_comm j n] at *; first | exact hr' | (rw [Nat.add_comm n j] at *; exact hr'))
      by_cases ht : t = t'
      · subst ht
        by_cases hl : t < fr.length
        · have hl' : t < tmps.size := h1 ▸ hl
          rw [List.getD_eq_getElem?_getD, List.getElem?_set_self hl, Array.getD_eq_getD_getElem?, Array.getElem?_setIfInBounds_self_of_lt hl']
          exact hu
        · rw [List.getD_eq_getElem?_getD, List.getElem?_eq_none (by simp; omega)]
          trivial
      · have := h2 t'
        rw [List.getD_eq_getElem?_getD, List.getElem?_set_ne ht, ← List.getD_eq_getElem?_getD, Array.getD_eq_getD_getElem?, Array.getElem?_setIfInBounds_ne ht, ← Array.getD_eq_getD_getElem?]
        exact this
    have hleaf : All2 (LR I μ w ρ) ((List.range us.length).map fun q => SL.e (.idx (.v v) (.v c) (j + q))) us := by
      refine All2.of_get (by simp) fun q l u hl hu => ?_
      rw [List.getElem?_map, List.getElem?_range (by have := (List.getElem?_eq_some_iff.1 hu).1; omega)] at hl
      cases hl
      have hget := optAll_get hus
      have h5 : (((row.drop j).take n).map plainVal)[q]? = some (some u) := by rw [hget, List.getElem?_map, hu]; rfl
      rw [List.getElem?_map] at h5
      obtain ⟨d, hd, hp⟩ := Option.map_eq_some_iff.1 h5
      have hd' : row[j + q]? = some d := by
        rw [List.getElem?_take] at hd
        split at hd
        · rwa [List.getElem?_drop] at hd
        · cases hd
      refine ⟨d, ?_, plain_dr hp⟩
      simp only [Ex.eval, hv, hc, idxD, Int.toNat_natCast, hr]
      rw [if_pos (by omega)]
      exact hd'
    split at h4
    case isFalse => cases h4
    rename_i hun
    rw [hun] at hleaf
    split at h4
    · rename_i hg
      cases h4
      exact key _ rfl (by unfold VR; rw [if_pos hg]; exact ⟨us, rfl, hleaf⟩)
    · rename_i hg
      split at h4
      · rename_i u
        cases h4
        refine key _ rfl ?_
        unfold VR
        rw [if_neg hg]
        simp only [List.length_cons, List.length_nil, Nat.zero_add] at hun
        subst hun
        cases hleaf with
        | cons h _ => exact ⟨_, rfl, h⟩
      · cases h4

variable (C R B I₀ w₀) in
def SIt (E : Env) (n : Nat) : Prop := ∀ (me : FuncId) (v : Nat) (ps : Array Tmp) (sh : Shape) (caps : List (BR × Nat)) (cvs : List XV) (x y : Code) (gn : GN) (tries : Nat) (st : St) (k : K) (ir : IR) (L : List Lp) (ρ : List D) (I : Imm) (μ : Mu) (w : World) (a : Act) (Q : Exit → Act → World → Prop) (g : Operand) (gf : Nat) (caz : List DV) (sz : Nat) (rows : List (List D)) (xs : List Nat), exec E n me (.it v ps.toList sh caps cvs x y gn tries) st k = .ok ir → IR.wp C R ir L ρ → StR none E.G B I₀ w₀ st L ρ I μ w a → st.q = 0 → Post C R none E.G B I₀ w₀ k L ρ I μ w Q →
  a.eval g = .func (.func gf) #[] (xs.map fun x => Value.pointer (some ⟨x, 0, none⟩)).toArray → (∃ fn, E.P.funcs[gf]? = some fn ∧ fn.body.isNone = false ∧ (fn.name == "runtime.NumGoroutine") = false) → ps.size = sh.length → ρ[v]? = some (.sl sz rows) → (∀ r ∈ rows, (rowVals sh r).isSome) → rows.length ≤ 4611686018427387904 →
  (∀ (l : Nat) (J Jx : Nat → World → Prop) (w : World) (xs : List Nat),
      (∀ i W, J i W → ∃ I, GR E.G I W ∧ (∀ x, I x → x < W.heap.size) ∧ All2 (CellR I W) caz xs) → (∀ i W W', J i W → Grows W W' → J i W') →
      (∀ i r vs W, rows[i]? = some r → rowVals sh r = some vs → J i W → YieldAt (Rd none) 0 E.P l vs.toArray W fun e W' => (e = .returned (.bool true) ∧ J (i + 1) W') ∨ (e = .returned (.bool false) ∧ Jx i W')) →
      J 0 w → CallsIn (Rd none) 0 E.P gf (#[.func (.yield l) #[] #[]] ++ (xs.map fun x => Value.pointer (some ⟨x, 0, none⟩)).toArray) w fun e W' => (∃ v, e = .returned v) ∧ (J rows.length W' ∨ ∃ i, Jx i W')) →
  evalVs ρ cvs = some caz → All2 (SR I μ w ρ) (caps.map fun c => S.val false [.p c.1 c.2]) (xs.map fun x => Value.pointer (some ⟨x, 0, none⟩)) → (Code.rangeFunc g ps x y).wpIn (Rd none) 0 E.P Q a w
theorem it_step {n : Nat} (hC : SCode C R B I₀ w₀ E n) (hI : SIt C R B I₀ w₀ E n) : SIt C R B I₀ w₀ E (n + 1) := by
  intro me v ps sh caps cvs x y gn tries st k ir L ρ I μ w a Q g gf caz sz rows xs hx hw hs hq hk hg hgf hps hv hrv hrl hT hcz hcp
  cases tries with
  | zero => simp only [exec] at hx; cases hx
  | succ tries =>
    simp only [exec] at hx
    split at hx
    · cases hx
    rename_i hd hhd
    split at hx
    · cases hx
    rename_i cvs' hcv
    split at hx
    case isFalse => cases hx
    rename_i hcond
    obtain ⟨hsame, hto⟩ := hcond
    have hcv' := (XVs.same_eq hsame).symm
    subst hcv'
    split at hx
    case h_2 lv l hnd2 =>
      split at hx
      · exact hI me v ps sh caps cvs' x y (gn.add l) tries st k ir L ρ I μ w a Q g gf caz sz rows xs hx hw hs hq hk hg hgf hps hv hrv hrl hT hcz hcp
      · cases hx
    case h_3 z hz1 hz2 => exact absurd hx (hz1 _)
    case h_1 body hbody =>
    split at hx
    case h_2 z hz => exact absurd hx (hz _)
    case h_1 rest hrest =>
    cases hx
    obtain ⟨N, dd0, hdd0, hP⟩ := hw
    obtain ⟨dd, d0, rfl, hdd, hd0⟩ := evals_append hdd0
    have hd0' : d0 = [.i .i64 0] := by simp [Ex.evals, litN, Ex.eval] at hd0; exact hd0.symm
    subst hd0'
    obtain ⟨I1, he1, hnv, ⟨μ2, hR2, hev2⟩, hback⟩ := loop_facts hs hhd hdd
    obtain ⟨hsq, hsl⟩ := headOf_sg hhd
    have hk1 := hk.mono (List.prefix_refl _) (List.prefix_refl _) he1
    have ha0 : a.defers = [] := hs.df.low (by omega)
    have hsz := hR2.wr.size
    obtain ⟨D0, hD0⟩ : ∃ D0, D0 = w.heap.size := ⟨_, rfl⟩
    obtain ⟨l, hl⟩ : ∃ l, l = w.heap.size + 1 := ⟨_, rfl⟩
    have hI1 : ∀ x, I1 x → x < w.heap.size := hR2.wr.imm
    have hcnt : ∀ (dn : List D) (i : Nat), dn.length = dd.length → (ρ ++ (dn ++ [D.i .i64 (i : Int)]))[hd.sg.nv]? = some (.i .i64 (i : Int)) := fun dn i hdn => by
      rw [← hnv dn hdn, ← List.append_assoc, List.getElem?_append_right (Nat.le_refl _)]
      simp
    have hrow : ∀ (dn : List D), (ρ ++ dn)[v]? = some (.sl sz rows) := fun dn => pre_get (pre_append _ _) hv
    have hlt : ∀ (dn : List D) (i : Nat), dn.length = dd.length → (Ex.bin .lss (.v hd.sg.nv) (.len (.v v))).eval (ρ ++ (dn ++ [D.i .i64 (i : Int)])) = some (.b (decide (i < rows.length))) := fun dn i hdn => by
      simp only [Ex.eval, hcnt dn i hdn, hrow, binD, if_true]
      congr 2
      rw [decide_eq_decide]
      omega
    -- between the rounds
    obtain ⟨S, hS⟩ : ∃ S : Nat → World → Prop, S = fun i W => ∃ (N : Nat) (dn : List D) (I' : Imm) (μ' : Mu),
        (Nat.rec (motive := fun _ => Lp) (fun _ => False) (fun _ Pn es => IR.wp C R (.ite (.bin .lss (.v hd.sg.nv) (.len (.v v))) body rest) (L ++ [Pn]) (ρ ++ es)) N (dn ++ [.i .i64 (i : Int)]) : Prop) ∧ dn.length = dd.length ∧
        R3 E.G B I₀ w₀ I' μ' W (ρ ++ dn) hd.sg.fr hd.sg.h hd.sg.o a ∧ Evo I1 μ w I' μ' W ∧ I' D0 ∧ W.heap[D0]? = some (.deferred (some [])) ∧ ¬ I' l ∧ ∃ o : Loop, W.heap[l]? = some (.loop o) := ⟨_, rfl⟩
    obtain ⟨SX, hSX⟩ : ∃ SX : Code → World → Prop, SX = fun c W => ∃ (e : Xit) (s : St) (ir' : IR) (L' : List Lp) (ρ' : List D) (I' : Imm) (μ' : Mu), k e { s with fr := hd.sg.fr, q := 2 } = .ok ir' ∧ IR.wp C R ir' L' ρ' ∧ L <+: L' ∧ ρ <+: ρ' ∧
        ((e = .ret ∧ c = .ret) ∨ (∃ id, e = .exit id ∧ c = .exit id) ∨ ∃ t, e = .goto t ∧ c = .goto t) ∧ R3 E.G B I₀ w₀ I' μ' W ρ' hd.sg.fr s.h s.o a ∧ ρ'.length = s.nv ∧ L'.length = s.lv ∧ Evo I1 μ w I' μ' W ∧ I' D0 ∧ W.heap[D0]? = some (.deferred (some [])) ∧ ¬ I' l ∧ ∃ o : Loop, W.heap[l]? = some (.loop o) := ⟨_, rfl⟩
    have hdl : D0 ≠ l := by omega
    refine wp_it hg hgf hps hT S SX ?_ ?_ ?_ ?_ ?_ ?_ ?_ ?_
    · -- the iterator's variables
      intro i W hSi
      rw [hS] at hSi
      obtain ⟨N, dn, I', μ', _, _, hR, hev, _⟩ := hSi
      have hev' := he1.trans hev
      obtain ⟨zs, hzs, hcell⟩ := caps_cells hcv (evalVs_pre (pre_append ρ dn) hcz) (fun b blk x hb hx => by
        obtain ⟨blk', h1, h2⟩ := hR.wr.blk b x hx
        rw [hb] at h1
        cases h1
        exact ⟨_, h2⟩) (hcp.imp fun _ _ h => h.mono hev' (pre_append ρ dn))
      have : xs = zs := by
        have inj : Function.Injective fun x : Nat => Value.pointer (some ⟨x, 0, none⟩) := fun p q h => by
          simpa using h
        exact (List.map_inj_right fun p q h => inj h).1 hzs
      subst this
      exact ⟨I', hR.wr.glo, hR.wr.imm, hcell⟩
    · intro i W W' hSi hgr
      rw [hS] at hSi ⊢
      obtain ⟨N, dn, I', μ', h1, h2, hR, hev, h5, h6, h7, o, h8⟩ := hSi
      obtain ⟨hR', he'⟩ := hR.grow hgr
      exact ⟨N, dn, I', μ', h1, h2, hR', hev.trans he', h5, (hgr.old D0 (Array.getElem?_eq_some_iff.1 h6).1).trans h6, h7, o, (hgr.old l (Array.getElem?_eq_some_iff.1 h8).1).trans h8⟩
    · intro i W o o' hSi hlo
      rw [← hl] at hlo ⊢
      rw [hS] at hSi ⊢
      obtain ⟨N, dn, I', μ', h1, h2, hR, hev, h5, h6, h7, _⟩ := hSi
      exact ⟨N, dn, I', μ', h1, h2, hR.put hlo rfl (by omega) h7, hev.trans (evo_put h7), h5, (World.putObj_heap_other hdl).trans h6, h7, o', World.putObj_heap_same (Array.getElem?_eq_some_iff.1 hlo).1⟩
    · intro c W o o' hSi hlo
      rw [← hl] at hlo ⊢
      rw [hSX] at hSi ⊢
      obtain ⟨e, s, ir', L', ρ', I', μ', h1, h2, h3, h4, h5, hR, h6, h7, hev, h8, h9, h10, _⟩ := hSi
      exact ⟨e, s, ir', L', ρ', I', μ', h1, h2, h3, h4, h5, hR.put hlo rfl (by omega) h10, h6, h7, hev.trans (evo_put h10), h8, (World.putObj_heap_other hdl).trans h9, h10, o', World.putObj_heap_same (Array.getElem?_eq_some_iff.1 hlo).1⟩
    · intro o
      rw [hS]
      have hgr : Grows w ((w.alloc (.deferred (some []))).alloc (.loop o)) := (grows_alloc _ _).trans (grows_alloc _ _)
      have hD : ((w.alloc (.deferred (some []))).alloc (.loop o)).heap[D0]? = some (.deferred (some [])) := by
        rw [hD0]
        exact ((grows_alloc (w.alloc (.deferred (some []))) (.loop o)).old w.heap.size (by simp)).trans (World.alloc_heap_new w _)
      have hL : ((w.alloc (.deferred (some []))).alloc (.loop o)).heap[l]? = some (.loop o) := by
        have := World.alloc_heap_new (w.alloc (.deferred (some []))) (.loop o)
        rw [World.size_alloc] at this
        rw [hl]
        exact this
      obtain ⟨hR3, he3⟩ := (R3.mk hR2.fr hR2.wr hR2.own).grow hgr
      have hR4 := hR3.add hD rfl (by omega)
      exact ⟨N, dd, _, μ2, hP, rfl, hR4, (hev2.trans he3).trans evo_add, .inr rfl, hD, fun h => by
        rcases h with h | h
        · have := hI1 l h; omega
        · omega, o, hL⟩
    · -- a round
      intro i r vs W o1 o2 hri hvs hSi hlo
      rw [← hl] at hlo ⊢
      rw [hS] at hSi
      obtain ⟨N', dn, I', μ', hPN, hdn, hR, hev, hID, hWD, hIl, _⟩ := hSi
      have hil : i < rows.length := (List.getElem?_eq_some_iff.1 hri).1
      cases N' with
      | zero => exact hPN.elim
      | succ N' =>
      have hw1 : IR.wp C R (.ite (.bin .lss (.v hd.sg.nv) (.len (.v v))) body rest) (L ++ [_]) (ρ ++ (dn ++ [.i .i64 (i : Int)])) := hPN
      obtain ⟨t, ht, hwb, _⟩ := hw1
      rw [hlt dn i hdn, decide_eq_true hil] at ht
      cases ht
      have hwb := hwb rfl
      have hpd : ρ <+: ρ ++ (dn ++ [D.i .i64 (i : Int)]) := pre_append _ _
      have hpe : ρ ++ dn <+: ρ ++ (dn ++ [D.i .i64 (i : Int)]) := by rw [← List.append_assoc]; exact pre_append _ _
      have hRa := (hR.vars hpe).add hlo rfl (by omega)
      have heva := hev.trans (evo_add (x := l))
      obtain ⟨hsp1, hsp2⟩ := setPs_sound (I := fun y => I' y ∨ y = l) (μ := μ') (w := W) (hrow (dn ++ [.i .i64 (i : Int)])) (hcnt dn i hdn) hri ps.toList sh 0 hd.sg.fr a.tmps vs hRa.fr.len hRa.fr.at_ (by simpa using hps) (by simpa using hvs)
      have hfold : (ps.zip vs.toArray).foldl (fun t (p, v) => t.setIfInBounds p v) a.tmps = (ps.toList.zip vs).foldl (fun t (p, v) => t.setIfInBounds p v) a.tmps := by
        rw [← Array.foldl_toList, Array.toList_zip]
      rw [hfold]
      refine hC (some l) me x _ _ body (L ++ [_]) _ (fun y => I' y ∨ y = l) μ' W _ _ hbody hwb ⟨⟨hsp1, hsp2⟩, hRa.wr, hRa.own, ?_, by rw [hsl]; simp [hs.lv], rfl⟩ ?_
      · have := hnv dn hdn
        simp only [List.length_append, List.length_cons, List.length_nil] at this ⊢
        omega
      intro e s ir1 L1 ρ1 I3 μ3 W1 a1 h1 h2 h3 h4 h5 h6
      cases e with
      | exit id => cases h1
      | ret => cases h1
      | goto t => cases h1
      | normal =>
      have hl1 : W1.heap[l]? = some (.loop o1) := (h6.same l (.inr rfl)).trans hlo
      refine ⟨hl1, ?_⟩
      have hRd := (R3.mk h5.fr h5.wr h5.own).drop hl1 rfl
      have hRp := hRd.put (o' := .loop o2) hl1 rfl (by omega) (fun h => h.2 rfl)
      have hl2 : (W1.putObj l (.loop o2)).heap[l]? = some (.loop o2) := World.putObj_heap_same (Array.getElem?_eq_some_iff.1 hl1).1
      have hRq := hRp.add hl2 rfl (by omega)
      have hevb : Evo I1 μ w (fun y => (I3 y ∧ y ≠ l) ∨ y = l) μ3 (W1.putObj l (.loop o2)) := by
        have q := heva.trans h6
        refine ⟨fun z hz => .inl ⟨q.imm z hz, fun e => by have := hI1 z hz; omega⟩, fun z hz => (World.putObj_heap_other (fun e => by have := hI1 z hz; omega)).trans (q.same z hz), q.mu, q.hv⟩
      have hDb : (fun y => (I3 y ∧ y ≠ l) ∨ y = l) D0 := .inl ⟨h6.imm D0 (.inl hID), hdl⟩
      have hWDb : (W1.putObj l (.loop o2)).heap[D0]? = some (.deferred (some [])) := (World.putObj_heap_other hdl).trans ((h6.same D0 (.inl hID)).trans hWD)
      have hL1 : L <+: L1 := (pre_append _ _).trans h3
      have hρ1 : ρ <+: ρ1 := hpd.trans h4
      have hdf1 := h5.df
      refine hC (some l) me y s _ ir1 L1 ρ1 _ μ3 _ a1 _ h1 h2 ⟨hRq.fr, hRq.wr, hRq.own, h5.nv, h5.lv, ?_⟩ ?_
      · by_cases hs0 : s.q < 2
        · exact hdf1.same hs0
        · exfalso
          unfold DfR at hdf1
          rw [if_neg (by omega), if_neg (by omega)] at hdf1
          cases hdf1.1
      intro e s2 ir2 L2 ρ2 I4 μ4 W2 a2 g1 g2 g3 g4 g5 g6
      have hl3 : W2.heap[l]? = some (.loop o2) := (g6.same l (.inr rfl)).trans hl2
      have hevc := hevb.trans g6
      have hDc : I4 D0 := g6.imm D0 hDb
      have hWDc : W2.heap[D0]? = some (.deferred (some [])) := (g6.same D0 hDb).trans hWDb
      have hfr0 : FR I4 μ4 W2 ρ2 hd.sg.fr a := by
        refine (hR.fr.mono (?_ : Evo I' μ' W I4 μ4 W2) ((hpe.trans h4).trans g4))
        refine ⟨fun z hz => g6.imm z (.inl ⟨h6.imm z (.inl hz), fun e => hIl (e ▸ hz)⟩), fun z hz => ?_, fun b z hb => g6.mu b z (h6.mu b z hb), fun q z hq => g6.hv q z (h6.hv q z hq)⟩
        have hzl : z ≠ l := fun e => hIl (e ▸ hz)
        exact ((g6.same z (.inl ⟨h6.imm z (.inl hz), hzl⟩)).trans (World.putObj_heap_other hzl)).trans (h6.same z (.inl hz))
      have hev0 : ∀ {I5 : Imm}, (∀ z, I4 z → I5 z) → Evo I1 μ w (fun z => I5 z ∧ z ≠ l) μ4 W2 := fun h => ⟨fun z hz => ⟨h z (hevc.imm z hz), fun e => by have := hI1 z hz; omega⟩, hevc.same, hevc.mu, hevc.hv⟩
      have hout : ∀ (c : Code), k e { s2 with fr := hd.sg.fr, q := 2 } = .ok ir2 → ((e = .ret ∧ c = .ret) ∨ (∃ id, e = .exit id ∧ c = .exit id) ∨ ∃ t, e = .goto t ∧ c = .goto t) → SX c W2 := fun c hk2 hc => by
        rw [hSX]
        have hRe := (R3.mk hfr0 g5.wr g5.own).drop hl3 rfl
        exact ⟨e, s2, ir2, L2, ρ2, _, μ4, hk2, g2, hL1.trans g3, hρ1.trans g4, hc, hRe, g5.nv, g5.lv, hev0 fun _ h => h, ⟨hDc, hdl⟩, hWDc, fun h => h.2 rfl, o2, hl3⟩
      cases e with
      | ret => exact ⟨hl3, hout .ret g1 (.inl ⟨rfl, rfl⟩)⟩
      | exit id => exact ⟨hl3, hout (.exit id) g1 (.inr (.inl ⟨id, rfl, rfl⟩))⟩
      | goto t => exact ⟨hl3, hout (.goto t) g1 (.inr (.inr ⟨t, rfl, rfl⟩))⟩
      | normal =>
      refine ⟨hl3, ?_⟩
      rw [hS]
      simp only at g1
      split at g1
      case h_2 => cases g1
      case h_3 => cases g1
      case h_1 vs' hbk =>
      cases g1
      obtain ⟨Pn, ds', hLn, hds', hPn⟩ := g2
      rw [← hs.lv, prefix_get (h3.trans g3)] at hLn
      cases hLn
      obtain ⟨e1, e2, rfl, he1', he2'⟩ := evals_append hds'
      have hcn : ρ2[hd.sg.nv]? = some (.i .i64 (i : Int)) := pre_get (h4.trans g4) (hcnt dn i hdn)
      have he2'' : e2 = [.i .i64 ((i + 1 : Nat) : Int)] := by
        simp only [Ex.evals, Ex.eval, hcn, binD, if_true, Option.some.injEq] at he2'
        rw [← he2', IntWalk.i64_in _ ⟨by omega, by omega⟩]
        rfl
      subst he2''
      obtain ⟨_, hlen, I5, μ5, hR5, hev5, he5⟩ := hback vs' { s2 with fr := hd.sg.fr, q := hd.sg.q } ρ2 e1 I4 μ4 W2 a (hρ1.trans g4) hfr0 g5.wr g5.own hevc hbk he1'
      have hRe := (R3.mk hR5.fr hR5.wr hR5.own).drop hl3 rfl
      refine ⟨N', e1, _, μ5, hPn, hlen, hRe, ⟨fun z hz => ⟨hev5.imm z hz, fun e => by have := hI1 z hz; omega⟩, hev5.same, hev5.mu, hev5.hv⟩, ⟨he5.imm D0 hDc, hdl⟩, hWDc, fun h => h.2 rfl, o2, hl3⟩
    · -- all have come
      intro W hSi
      rw [hS] at hSi
      obtain ⟨N', dn, I', μ', hPN, hdn, hR, hev, hID, hWD, hIl, _⟩ := hSi
      cases N' with
      | zero => exact hPN.elim
      | succ N' =>
      have hw1 : IR.wp C R (.ite (.bin .lss (.v hd.sg.nv) (.len (.v v))) body rest) (L ++ [_]) (ρ ++ (dn ++ [.i .i64 (rows.length : Int)])) := hPN
      obtain ⟨t, ht, _, hwr⟩ := hw1
      rw [hlt dn rows.length hdn, decide_eq_false (Nat.lt_irrefl _)] at ht
      cases ht
      have hwr := hwr rfl
      have hpe : ρ ++ dn <+: ρ ++ (dn ++ [D.i .i64 (rows.length : Int)]) := by rw [← List.append_assoc]; exact pre_append _ _
      have hRa := hR.vars hpe
      refine hk1 .normal _ rest (L ++ [_]) _ I' μ' W _ hrest hwr (pre_append _ _) (pre_append _ _) ⟨⟨hRa.fr.len, hRa.fr.at_⟩, hRa.wr, hRa.own, ?_, by show _ = hd.sg.lv; rw [hsl]; simp [hs.lv], ⟨rfl, D0, by rw [ha0, hD0], hID, by omega, hWD⟩⟩ hev
      have := hnv dn hdn
      simp only [List.length_append, List.length_cons, List.length_nil] at this ⊢
      omega
    · -- a way out of the loop
      intro c W hSi
      rw [hSX] at hSi
      obtain ⟨e, s, ir', L', ρ', I', μ', h1, h2, h3, h4, h5, hR, h6, h7, hev, h8, h9, h10, _⟩ := hSi
      have hfin : Q (xit e) { a with defers := { target := .collected w.heap.size, args := #[] } :: a.defers } W :=
        hk1 e _ ir' L' ρ' I' μ' W _ h1 h2 h3 h4 ⟨⟨hR.fr.len, hR.fr.at_⟩, hR.wr, hR.own, h6, h7, ⟨rfl, D0, by rw [ha0, hD0], h8, by omega, h9⟩⟩ hev
      rcases h5 with ⟨rfl, rfl⟩ | ⟨id, rfl, rfl⟩ | ⟨t, rfl, rfl⟩
      · exact wpIn_ret hfin
      · exact wpIn_exit hfin
      · exact wpIn_goto hfin

theorem code_step {n : Nat} (hM : ∀ f as rs, C f as rs → ConX E.P E.G f as rs) (hI : SIt C R B I₀ w₀ E n) (hC : SCode C R B I₀ w₀ E n) (hL : SLoop C R B I₀ w₀ E (n + 1)) (hG : SGen C R B I₀ w₀ E n) (hO : SOps C R B I₀ w₀ E n) : SCode C R B I₀ w₀ E (n + 1) := by
  intro r me c st k ir L ρ I μ w a Q hx hw hs hk
  cases c with
  | skip => simp only [exec] at hx; exact wpIn_skip (hk .normal st ir L ρ I μ w a hx hw (List.prefix_refl _) (List.prefix_refl _) hs (Evo.refl _ _ _))
  | ret => simp only [exec] at hx; exact wpIn_ret (hk .ret st ir L ρ I μ w a hx hw (List.prefix_refl _) (List.prefix_refl _) hs (Evo.refl _ _ _))
  | exit id => simp only [exec] at hx; exact wpIn_exit (hk (.exit id) st ir L ρ I μ w a hx hw (List.prefix_refl _) (List.prefix_refl _) hs (Evo.refl _ _ _))
  | seq x y =>
    simp only [exec] at hx
    refine wpIn_seq (hC r me x st _ ir L ρ I μ w a _ hx hw hs ?_)
    intro e s ir' L' ρ' I' μ' w' a' h1 h2 h3 h4 h5 h6
    cases e with
    | normal => exact hC r me y s k ir' L' ρ' I' μ' w' a' Q h1 h2 h5 (hk.mono h3 h4 h6)
    | exit id => exact hk (.exit id) s ir' L' ρ' I' μ' w' a' h1 h2 h3 h4 h5 h6
    | goto l => exact hk (.goto l) s ir' L' ρ' I' μ' w' a' h1 h2 h3 h4 h5 h6
    | ret => exact hk .ret s ir' L' ρ' I' μ' w' a' h1 h2 h3 h4 h5 h6
  | block id x =>
    simp only [exec] at hx
    refine wpIn_block (hC r me x st _ ir L ρ I μ w a _ hx hw hs ?_)
    intro e s ir' L' ρ' I' μ' w' a' h1 h2 h3 h4 h5 h6
    cases e with
    | normal => exact hk .normal s ir' L' ρ' I' μ' w' a' h1 h2 h3 h4 h5 h6
    | exit id' =>
      simp only at h1
      simp only [xit, Exit.inBlock]
      by_cases hid : id' = id
      · rw [if_pos hid] at h1 ⊢
        exact hk .normal s ir' L' ρ' I' μ' w' a' h1 h2 h3 h4 h5 h6
      · rw [if_neg hid] at h1 ⊢
        exact hk (.exit id') s ir' L' ρ' I' μ' w' a' h1 h2 h3 h4 h5 h6
    | ret => exact hk .ret s ir' L' ρ' I' μ' w' a' h1 h2 h3 h4 h5 h6
    | goto l => exact hk (.goto l) s ir' L' ρ' I' μ' w' a' h1 h2 h3 h4 h5 h6
  | cond q x y =>
    simp only [exec] at hx
    split at hx
    · rename_i t ht
      obtain ⟨d, hd, hr⟩ := e?_sound ht (opd_sound hs.fr q)
      split at hx
      · rename_i hb
        have := bool?_eval (ρ := ρ) hb
        rw [hd] at this
        cases this
        exact wpIn_cond_true hr.b_inv (hC r me x st k ir L ρ I μ w a Q hx hw hs hk)
      · rename_i hb
        have := bool?_eval (ρ := ρ) hb
        rw [hd] at this
        cases this
        exact wpIn_cond_false hr.b_inv (hC r me y st k ir L ρ I μ w a Q hx hw hs hk)
      · obtain ⟨irx, iry, h1, h2, rfl⟩ := both_ok hx
        · obtain ⟨tb, htb, hwx, hwy⟩ := hw
          rw [hd] at htb
          cases htb
          cases tb
          · exact wpIn_cond_false hr.b_inv (hC r me y st k iry L ρ I μ w a Q h2 (hwy rfl) hs hk)
          · exact wpIn_cond_true hr.b_inv (hC r me x st k irx L ρ I μ w a Q h1 (hwx rfl) hs hk)
    · cases hx
  | loop b =>
    by_cases hu : E.unr.contains me = true
    · exact wp_loop_LW (hL r me b st k ir L ρ I μ w a Q hu hx hw hs hk)
    · simp only [exec] at hx
      rw [if_neg hu] at hx
      exact wp_loop_LW (hG r me none b _ _ st k ir L ρ I μ w a Q hx hw hs hk)
  | region id ops draw =>
    simp only [exec] at hx
    split at hx
    · cases hx
    rename_i hnd
    have hnd0 : ops.toList.all noDefer = true := by simpa using hnd
    have hnd : ∀ o ∈ ops.toList, noDefer o = true := fun o ho => List.all_eq_true.1 hnd0 o ho
    split at hx
    · exact thaw_sound hM hO hnd0 hx hw hs hk
    split at hx
    · rename_i hc
      simp only [Bool.and_eq_true, List.isEmpty_iff] at hc
      split at hx
      · rename_i main hmain
        split at hx
        · rename_i body hbody
          cases hx
          have hw' : IR.wp C R main (L ++ [fun es => IR.wp C R body L (ρ ++ es)]) ρ := hw
          refine region_inner (hnd := hnd) hM hO (st := { st with lv := st.lv + 1 }) hmain hw' ⟨hs.fr, hs.wr, hs.own, hs.nv, by simp [hs.lv], hs.df⟩ ?_
          intro e s ir' L' ρ' I' μ' w' a' h1 h2 h3 h4 h5 h6
          cases e with
          | exit id' => exact hk (.exit id') s ir' L' ρ' I' μ' w' a' h1 h2 ((pre_append _ _).trans h3) h4 h5 h6
          | goto l => exact hk (.goto l) s ir' L' ρ' I' μ' w' a' h1 h2 ((pre_append _ _).trans h3) h4 h5 h6
          | ret => exact hk .ret s ir' L' ρ' I' μ' w' a' h1 h2 ((pre_append _ _).trans h3) h4 h5 h6
          | normal =>
            simp only at h1
            split at h1
            · rename_i hcc
              simp only [Bool.and_eq_true, List.isEmpty_iff, beq_iff_eq] at hcc
              split at h1
              · rename_i vs hvs
                cases h1
                obtain ⟨Pn, dd, hPn, hdd, hP⟩ := h2
                rw [← hs.lv, prefix_get h3] at hPn
                cases hPn
                obtain ⟨μ3, hs3, he3⟩ := join_lands hs h5 h6 h4 hc.2 hvs hdd hcc.1.2 hcc.2 hcc.1.1.1
                exact hk .normal _ body L (ρ ++ dd) I' μ3 w' a' hbody hP (List.prefix_refl _) (pre_append _ _) hs3 he3
              · cases h1
            · cases h1
        · rename_i r hr
          exact absurd hx (hr _)
      · rename_i r hr
        exact absurd hx (hr _)
    · cases draw with
      | false => exact region_inner (hnd := hnd) hM hO (draw := false) (by simpa using hx) hw hs hk
      | true =>
        by_cases hl : E.lnd.contains me = true
        · rw [if_pos rfl, if_pos hl] at hx
          exact region_inner (hnd := hnd) hM hO (draw := true) (st := st) (by rw [if_pos rfl]; exact hx) hw hs hk
        · rw [if_pos rfl, if_neg hl] at hx
          obtain ⟨I2, hs2, he2⟩ := prep_sound (drawIds st.fr st.h ops.toList) hs
          exact region_inner (hnd := hnd) hM hO (draw := true) (st := prepSt (drawIds st.fr st.h ops.toList) st) (by rw [if_pos rfl]; exact hx) hw hs2 (hk.mono (List.prefix_refl _) (List.prefix_refl _) he2)
  | rangeFunc g ps x y =>
    simp only [exec] at hx
    split at hx
    · cases hx
    rename_i hq
    have hq : st.q = 0 := by simpa using hq
    split at hx
    case h_2 => cases hx
    rename_i f caps hgl
    split at hx
    case h_2 => cases hx
    rename_i cvs sh hcv hsh
    split at hx
    case isFalse => cases hx
    rename_i hcond
    obtain ⟨hps, _, hlt⟩ := hcond
    split at hx
    case h_2 z hz => exact absurd hx (hz _)
    case h_1 ir' hx' =>
    cases hx
    obtain ⟨as, rs, has, hc, hrs, hw'⟩ := hw
    have hr0 : r = none := by
      have := hs.df
      unfold DfR at this
      rw [if_pos hq] at this
      exact this.1
    subst hr0
    have hcT := ((hM _ _ _ hc).2.2 (Nat.le_trans (by decide) (Nat.le_add_right itOff f))).2.1 (Nat.le_add_right _ _) (Nat.lt_of_lt_of_le (Nat.add_lt_add_left hlt itOff) (by decide))
    rw [Nat.add_sub_cancel_left] at hcT
    obtain ⟨caz, sh', sz, rows, rfl, rfl, hrv, hrl, hgf, hT⟩ := hcT
    simp only [evalVs, Ex.evals, litN, Ex.eval] at has
    have hconst : ∀ l : List D, Ex.evals ρ (l.map .c) = some l := fun l => by
      induction l with
      | nil => rfl
      | cons d l ih => simp [Ex.evals, Ex.eval, ih]
    rw [hconst] at has
    split at has
    case h_2 => cases has
    rename_i ds vs hd1 hd2
    cases hd1
    split at hd2
    case h_2 => cases hd2
    rename_i ds2 vs2 hd3 hd4
    cases hd3
    cases hd2
    simp only [Option.some.injEq, List.cons.injEq, Prod.mk.injEq, true_and] at has
    obtain ⟨_, hshe, rfl⟩ := has
    have hshe := shD_inj hshe
    subst hshe
    have hval := opd_sound hs.fr g
    obtain ⟨us, hus, hcaps⟩ := l?_sound (l := .clo f caps) hgl hval
    have hcaps' : All2 (SR I μ w ρ) (caps.map fun c => S.val false [.p c.1 c.2]) us := All2.map_left (hcaps.imp fun c u hc => by
      obtain ⟨x, hx, hu⟩ := hc
      exact ⟨_, rfl, x, hx, hu⟩)
    obtain ⟨zs, rfl, _⟩ := caps_cells hcv hd4 (fun b blk x hb hx => by
      obtain ⟨blk', h1, h2⟩ := hs.wr.blk b x hx
      rw [hb] at h1
      cases h1
      exact ⟨_, h2⟩) hcaps'
    have hpv : ρ <+: ρ ++ leavesOf [((false, [.sl sz rows]) : DV)] := pre_append _ _
    exact hI me st.nv ps sh caps cvs x y _ 12 _ k ir' L _ I μ w a Q g f vs2 sz rows zs hx' hw' ⟨hs.fr.mono (Evo.refl _ _ _) hpv, hs.wr.vars hpv, hs.own.vars hpv, by simp [hs.nv, leavesOf], hs.lv, hs.df⟩ hq (hk.mono (List.prefix_refl _) hpv (Evo.refl _ _ _))
      hus hgf hps (by rw [← hs.nv]; simp [leavesOf]) hrv hrl hT (evalVs_pre hpv hd4) (hcaps'.imp fun _ _ h => h.mono (Evo.refl _ _ _) hpv)
  | scope x =>
    simp only [exec] at hx
    split at hx
    · refine wp_scope_straightR (hC r me x st _ ir L ρ I μ w a _ hx hw hs ?_)
      intro e s ir' L' ρ' I' μ' w' a' h1 h2 h3 h4 h5 h6
      cases e with
      | goto l => cases h1
      | normal => exact hk .normal s ir' L' ρ' I' μ' w' a' h1 h2 h3 h4 h5 h6
      | exit id => exact hk (.exit id) s ir' L' ρ' I' μ' w' a' h1 h2 h3 h4 h5 h6
      | ret => exact hk .ret s ir' L' ρ' I' μ' w' a' h1 h2 h3 h4 h5 h6
    · rename_i p l y hsp
      refine wp_scope_split hsp (hC r me p st _ ir L ρ I μ w a _ hx hw hs ?_)
      intro e s ir' L' ρ' I' μ' w' a' h1 h2 h3 h4 h5 h6
      cases e with
      | goto l => cases h1
      | exit id => exact hk (.exit id) s ir' L' ρ' I' μ' w' a' h1 h2 h3 h4 h5 h6
      | ret => exact hk .ret s ir' L' ρ' I' μ' w' a' h1 h2 h3 h4 h5 h6
      | normal =>
        refine hG r me (some l) y _ _ s _ ir' L' ρ' I' μ' w' a' Q h1 h2 h5 ?_
        intro e2 s2 ir2 L2 ρ2 I2 μ2 w2 a2 g1 g2 g3 g4 g5 g6
        cases e2 with
        | goto l => cases g1
        | normal => exact (hk.mono h3 h4 h6) .normal s2 ir2 L2 ρ2 I2 μ2 w2 a2 g1 g2 g3 g4 g5 g6
        | exit id => exact (hk.mono h3 h4 h6) (.exit id) s2 ir2 L2 ρ2 I2 μ2 w2 a2 g1 g2 g3 g4 g5 g6
        | ret => exact (hk.mono h3 h4 h6) .ret s2 ir2 L2 ρ2 I2 μ2 w2 a2 g1 g2 g3 g4 g5 g6
  | label l => simp only [exec] at hx; exact wpIn_label (hk .normal st ir L ρ I μ w a hx hw (List.prefix_refl _) (List.prefix_refl _) hs (Evo.refl _ _ _))
  | goto l => simp only [exec] at hx; exact wpIn_goto (hk (.goto l) st ir L ρ I μ w a hx hw (List.prefix_refl _) (List.prefix_refl _) hs (Evo.refl _ _ _))
  | refuse s => simp only [exec] at hx; cases hx

theorem exec_sound (hM : ∀ f as rs, C f as rs → ConX E.P E.G f as rs) : ∀ n, SCode C R B I₀ w₀ E n ∧ SLoop C R B I₀ w₀ E n ∧ SGen C R B I₀ w₀ E n ∧ SOps C R B I₀ w₀ E n ∧ SGo C R B I₀ w₀ E n ∧ SIt C R B I₀ w₀ E n
  | 0 => ⟨fun r me c st k ir L ρ I μ w a Q hx => by simp [exec] at hx, fun r me b st k ir L ρ I μ w a Q _ hx => by simp [exec] at hx, fun r me lb b ms tries st k ir L ρ I μ w a Q hx => by simp [exec] at hx,
      fun r me all todo st k ir L ρ I μ w a Q hx => by simp [exec] at hx, fun r me f args o all rest st k ir L ρ I μ w a Q vs hx => by simp [exec] at hx,
      fun me v ps sh caps cvs x y gn tries st k ir L ρ I μ w a Q g gf caz sz rows xs hx => by simp [exec] at hx⟩
  | n + 1 => by
    obtain ⟨h1, h2, h3, h4, h5, h6⟩ := exec_sound hM n
    have hL := loop_step h1 h2
    exact ⟨code_step hM h6 h1 hL h3 h4, hL, gen_step h1 h3, ops_step h4 h5, go_step hM h1 h4, it_step h1 h6⟩

theorem shapeVars_map : ∀ (k : Nat) (sh : Shape), shapeVars k sh = (shapeVs k sh).map fun p => S.val p.1 p.2
  | k, [] => rfl
  | k, (g, n) :: r => by simp [shapeVars, shapeVs, shapeVars_map (k + n) r]

end

/-- results that may stand for others -/
def WkR (r rs : List DV) : Prop := ∀ (I : Imm) (w : World) (v : Value), RsR I w r v → RsR I w rs v

/-- A CONTRACT OUT OF THE IR. -/
theorem con_of_ir' {C : Con} {E : Env} {n : Nat} {f : FuncId} {ir : IR} {sh : Shape} (hM : ∀ f as rs, C f as rs → ConX E.P E.G f as rs) (hc : compile E n f = .ok ir) (hsh : paramShape E.P f = some sh)
    {as rs : List DV} {R : List DV → Prop} (hR : ∀ r, R r → WkR r rs) (has : shapeOf as = sh) (hw : IR.wp C R ir [] (leavesOf as)) : ConX E.P E.G f as rs := by
  unfold compile at hc
  split at hc
  · cases hc
  rename_i hlt
  have hlt : f < eatOff := by simpa using hlt
  refine ⟨fun _ => ?_, fun h => absurd h.1 (Nat.not_le.2 hlt), fun h => absurd h (Nat.not_le.2 (Nat.lt_trans hlt (by decide)))⟩
  intro I w vs hglo himm hargs
  unfold paramShape at hsh
  split at hc
  · cases hc
  · rename_i fn hfn
    rw [hfn] at hsh
    simp only at hsh
    split at hc
    · rename_i c sh' hbody hsh'
      rw [hsh'] at hsh
      cases hsh
      subst has
      refine (callsIn_wide (n := 0)).1 (callsIn_of_wp_marks (F := Rd none) hfn hbody trivial ?_)
      have hvr := shapeVs_sound (μ := ⟨fun _ => none, fun _ => none⟩) (env := leavesOf as) (k := 0) (fun i d hd => by rw [Nat.zero_add]; exact hd) hargs
      have hsl : (shapeOf as).length = vs.length := by
        have := hargs.length
        rw [← this]
        clear this hargs hvr hw hc hsh'
        induction as with
        | nil => rfl
        | cons p r ih => obtain ⟨g, ds⟩ := p; simp [shapeOf, ih]
      have hfr : FR I ⟨fun _ => none, fun _ => none⟩ w (leavesOf as) (shapeVars 0 (shapeOf as) ++ List.replicate (fn.ntmps - (shapeOf as).length) .x) { tmps := vs.toArray ++ Array.replicate (fn.ntmps - vs.toArray.size) undef, defers := [] } := by
        have hsv : All2 (SR I ⟨fun _ => none, fun _ => none⟩ w (leavesOf as)) (shapeVars 0 (shapeOf as)) vs := by
          rw [shapeVars_map]
          exact All2.map_left hvr
        have hl := hsv.length
        refine ⟨by simp [hl, hsl], fun t => ?_⟩
        by_cases ht : t < (shapeVars 0 (shapeOf as)).length
        · obtain ⟨v, hv, hr⟩ := hsv.get (List.getElem?_eq_getElem ht)
          have ht' : t < vs.length := by omega
          rw [List.getD_eq_getElem?_getD, List.getElem?_append_left ht, List.getElem?_eq_getElem ht]
          rw [Array.getD_eq_getD_getElem?, Array.getElem?_append_left (by simpa using ht')]
          simp only [List.getElem?_toArray, hv, Option.getD_some]
          exact hr
        · have : (shapeVars 0 (shapeOf as) ++ List.replicate (fn.ntmps - (shapeOf as).length) S.x).getD t .x = .x := by
            rw [List.getD_eq_getElem?_getD, List.getElem?_append_right (by omega), List.getElem?_replicate]
            split <;> rfl
          rw [this]
          trivial
      have hwr : WR E.G w.heap.size I w I ⟨fun _ => none, fun _ => none⟩ w (leavesOf as) [] :=
        ⟨(fun b x h => by cases h), (fun b b' x h => by cases h), hglo, fun _ _ => rfl, Nat.le_refl _, himm, fun x hx => .inl hx, ⟨rfl, rfl⟩⟩
      refine (exec_sound (C := C) (R := R) (B := w.heap.size) (I₀ := I) (w₀ := w) hM n).1 none f c _ _ ir [] (leavesOf as) I _ w _ _ hc hw ⟨hfr, hwr, OwnR.nil fun _ => rfl, (shapeLen_leaves as).symm, rfl, DfR.zero⟩ ?_
      intro e s ir' L' ρ' I' μ' w' a' h1 h2 h3 h4 h5 h6
      have main : ∀ (hx' : (if s.q = 1 then Res.no "q" else match resultsS E.P E.G fn s.fr s.h with
            | some vs => match exVs (fixVs (frz (idsVs vs) s.o) vs) with
              | some xs => Res.ok (.ret xs)
              | none => Res.no "a result that is no data"
            | none => Res.no "results") = .ok ir'),
          LeavesInM (Rd none) 0 E.P fn a'.tmps (fun e w' => ∃ v' I', e = Ending.returned v' ∧ (∀ x, I x → I' x) ∧ (∀ x, I' x → I x ∨ w.heap.size ≤ x) ∧ (∀ x, I' x → x < w'.heap.size) ∧
            (∀ x, x < w.heap.size → w'.heap[x]? = w.heap[x]?) ∧ w.heap.size ≤ w'.heap.size ∧ (w'.os = w.os ∧ w'.output = w.output) ∧ RsR I' w' rs v') a'.defers .returning w' := by
        intro hx'
        split at hx'
        · cases hx'
        rename_i hq1
        obtain ⟨I3, w3, hR3, himm3, hleave⟩ : ∃ I3 w3, R3 E.G w.heap.size I w I3 μ' w3 ρ' s.fr s.h s.o a' ∧ (∀ x, I x → I3 x) ∧ ∀ R' : Ending → World → Prop, (∃ v, (results fn a'.tmps).run E.P w3 = .ok v w3 ∧ R' (.returned v) w3) → LeavesInM (Rd none) 0 E.P fn a'.tmps R' a'.defers .returning w' := by
          by_cases hq : s.q = 0
          · refine ⟨I', w', ⟨h5.fr, h5.wr, h5.own⟩, h6.imm, fun R' h => ?_⟩
            rw [h5.df.low (by omega)]
            exact h
          · have hdf := h5.df
            unfold DfR at hdf
            rw [if_neg hq, if_neg hq1] at hdf
            obtain ⟨_, D, hl, hI, hB, hD⟩ := hdf
            refine ⟨fun y => I' y ∧ y ≠ D, w'.putObj D (.deferred none), ((R3.mk h5.fr h5.wr h5.own).drop hD rfl).put hD rfl hB (fun h => h.2 rfl), fun x hx => ⟨h6.imm x hx, fun e => by have := himm x hx; omega⟩, fun R' h => ?_⟩
            rw [hl]
            exact ⟨by simp, .inl ⟨D, _, rfl, run_takeDeferred hD, h⟩⟩
        split at hx'
        · rename_i ps hps
          split at hx'
          · rename_i xs hxs
            cases hx'
            obtain ⟨rs', hrs, hRr⟩ := h2
            obtain ⟨I2, hW2, he2, hO2⟩ := hR3.own.frz hR3.wr (idsVs ps)
            obtain ⟨v, hv, hvr⟩ := results_sound (P := E.P) hW2 (hR3.fr.mono he2 (List.prefix_refl _)) hps
            refine hleave _ ⟨v, hv, v, I2, rfl, fun x hx => he2.imm x (himm3 x hx), hW2.imm0, hW2.imm, hW2.old, hW2.size, hW2.wd, ?_⟩
            refine hR _ hRr _ _ _ ?_
            clear hRr
            generalize hoo : frz (idsVs ps) s.o = oo at hxs hO2
            clear hoo
            match ps, hxs, hvr with
            | [], hxs, hvr =>
              simp [exVs, fixVs] at hxs
              subst hxs
              simp [evalVs] at hrs
              subst hrs
              obtain ⟨us, hu, hall⟩ := hvr
              cases hall
              exact ⟨[], hu, .nil⟩
            | [(g, ls)], hxs, hvr =>
              have hvr' : VR I2 μ' w3 ρ' g ls v := hvr
              have := exVs_sound hxs hrs (fixVs_sound hO2 (All2.cons (a := ((g, ls) : Bool × List SL)) (b := v) (bs := []) hvr' .nil))
              match rs', this with
              | [r], .cons p q => exact p
            | p :: q :: r, hxs, hvr =>
              obtain ⟨us, hu, hall⟩ := hvr
              have hd := exVs_sound hxs hrs (fixVs_sound hO2 hall)
              match us, rs', hd with
              | u1 :: u2 :: us, r1 :: r2 :: rs', hd => exact ⟨_, hu, hd⟩
              | [], rs', hd => cases hall
              | [u], rs', hd => cases hall with | cons _ h => cases h
          · cases hx'
        · cases hx'
      cases e with
      | normal => exact main h1
      | ret => exact main h1
      | exit id => cases h1
      | goto l => cases h1
    · cases hc
theorem nwLs_get {o : Own} : ∀ {ls : List SL} {es : List Ex}, nwLs o ls = some es → es.length = ls.length ∧ ∀ (i : Nat) (l : SL), ls[i]? = some l → (∃ x, l = .e x ∧ es[i]? = some x) ∨ ∃ k t, l = .g k ∧ o.live? k = some t ∧ es[i]? = some t
  | [], es, h => by cases h; exact ⟨rfl, fun i l hl => by simp at hl⟩
  | l0 :: ls, es, h => by
    unfold nwLs at h
    split at h
    · rename_i e; cases e
    · rename_i x r e
      cases e
      split at h
      · rename_i es' hr
        cases h
        obtain ⟨h1, h2⟩ := nwLs_get hr
        refine ⟨by simp [h1], fun i l hl => ?_⟩
        cases i with
        | zero => simp at hl; exact .inl ⟨x, hl.symm, rfl⟩
        | succ i => simpa using h2 i l (by simpa using hl)
      · cases h
    · rename_i k r e
      cases e
      split at h
      · rename_i t es' hk hr
        cases h
        obtain ⟨h1, h2⟩ := nwLs_get hr
        refine ⟨by simp [h1], fun i l hl => ?_⟩
        cases i with
        | zero => simp at hl; exact .inr ⟨k, t, hl.symm, hk, rfl⟩
        | succ i => simpa using h2 i l (by simpa using hl)
      · cases h
    · cases h
theorem Ex.evals_len {ρ : List D} : ∀ {es : List Ex} {ds : List D}, Ex.evals ρ es = some ds → es.length = ds.length
  | [], ds, h => by simp [Ex.evals] at h; subst h; rfl
  | e :: es, ds, h => by
    simp only [Ex.evals] at h
    split at h
    · rename_i d ds' h1 h2
      cases h
      simp [Ex.evals_len h2]
    · cases h
/-- one slice at most -/
def Uniq (r : DV) : Prop := ∀ (i j s s' : Nat) (l l' : List (List D)), r.2[i]? = some (D.sl s l) → r.2[j]? = some (D.sl s' l') → i = j
/-- A CONTRACT of a function whose one result lies in new memory. -/
theorem con_of_irN {C : Con} {E : Env} {n : Nat} {f : FuncId} {ir : IR} {sh : Shape} (hM : ∀ f as rs, C f as rs → ConX E.P E.G f as rs) (hc : compileN E n f = .ok ir) (hsh : paramShape E.P f = some sh)
    {as : List DV} {r0 : DV} {R : List DV → Prop} (has : shapeOf as = sh) (huniq0 : Uniq r0) (hR : ∀ rs', R rs' → ∃ r, rs' = [r] ∧ Uniq r ∧ (∀ d ∈ r.2, d.plain ∨ ∃ s l, d = D.sl s l ∧ ∀ row ∈ l, ∀ x ∈ row, x.plain) ∧ ∀ B w v, NsR B w r v → NsR B w r0 v)
    (hw : IR.wp C R ir [] (leavesOf as)) : ConX E.P E.G (nwOff + f) as [r0] := by
  unfold compileN at hc
  split at hc
  · cases hc
  rename_i hlt
  have hlt : f < eatOff := by simpa using hlt
  refine ⟨fun h => absurd h (Nat.not_lt.2 (Nat.le_trans (by decide) (Nat.le_add_right nwOff f))), fun h => absurd h.2 (Nat.not_lt.2 (Nat.le_trans (by decide) (Nat.le_add_right nwOff f))), fun _ => ⟨fun h => absurd h (Nat.not_lt.2 (Nat.le_trans (by decide) (Nat.le_add_right nwOff f))), fun _ h => absurd h (Nat.not_lt.2 (Nat.le_add_right nwOff f)), fun _ => ⟨fun _ => ?_, fun h => absurd h (Nat.not_le.2 (Nat.lt_of_lt_of_le (Nat.add_lt_add_left hlt nwOff) (by decide)))⟩⟩⟩
  rw [Nat.add_sub_cancel_left]
  refine ⟨r0, rfl, huniq0, ?_⟩
  intro I w vs hglo himm hargs
  unfold paramShape at hsh
  split at hc
  · cases hc
  · rename_i fn hfn
    rw [hfn] at hsh
    simp only at hsh
    split at hc
    · rename_i c sh' hbody hsh'
      rw [hsh'] at hsh
      cases hsh
      subst has
      refine (callsIn_wide (n := 0)).1 (callsIn_of_wp_marks (F := Rd none) hfn hbody trivial ?_)
      have hvr := shapeVs_sound (μ := ⟨fun _ => none, fun _ => none⟩) (env := leavesOf as) (k := 0) (fun i d hd => by rw [Nat.zero_add]; exact hd) hargs
      have hsl : (shapeOf as).length = vs.length := by
        have := hargs.length
        rw [← this]
        clear this hargs hvr hw hc hsh'
        induction as with
        | nil => rfl
        | cons p r ih => obtain ⟨g, ds⟩ := p; simp [shapeOf, ih]
      have hfr : FR I ⟨fun _ => none, fun _ => none⟩ w (leavesOf as) (shapeVars 0 (shapeOf as) ++ List.replicate (fn.ntmps - (shapeOf as).length) .x) { tmps := vs.toArray ++ Array.replicate (fn.ntmps - vs.toArray.size) undef, defers := [] } := by
        have hsv : All2 (SR I ⟨fun _ => none, fun _ => none⟩ w (leavesOf as)) (shapeVars 0 (shapeOf as)) vs := by
          rw [shapeVars_map]
          exact All2.map_left hvr
        have hl := hsv.length
        refine ⟨by simp [hl, hsl], fun t => ?_⟩
        by_cases ht : t < (shapeVars 0 (shapeOf as)).length
        · obtain ⟨v, hv, hr⟩ := hsv.get (List.getElem?_eq_getElem ht)
          have ht' : t < vs.length := by omega
          rw [List.getD_eq_getElem?_getD, List.getElem?_append_left ht, List.getElem?_eq_getElem ht]
          rw [Array.getD_eq_getD_getElem?, Array.getElem?_append_left (by simpa using ht')]
          simp only [List.getElem?_toArray, hv, Option.getD_some]
          exact hr
        · have : (shapeVars 0 (shapeOf as) ++ List.replicate (fn.ntmps - (shapeOf as).length) S.x).getD t .x = .x := by
            rw [List.getD_eq_getElem?_getD, List.getElem?_append_right (by omega), List.getElem?_replicate]
            split <;> rfl
          rw [this]
          trivial
      have hwr : WR E.G w.heap.size I w I ⟨fun _ => none, fun _ => none⟩ w (leavesOf as) [] :=
        ⟨(fun b x h => by cases h), (fun b b' x h => by cases h), hglo, fun _ _ => rfl, Nat.le_refl _, himm, fun x hx => .inl hx, ⟨rfl, rfl⟩⟩
      refine (exec_sound (C := C) (R := R) (B := w.heap.size) (I₀ := I) (w₀ := w) hM n).1 none f c _ _ ir [] (leavesOf as) I _ w _ _ hc hw ⟨hfr, hwr, OwnR.nil fun _ => rfl, (shapeLen_leaves as).symm, rfl, DfR.zero⟩ ?_
      intro e s ir' L' ρ' I' μ' w' a' h1 h2 h3 h4 h5 h6
      have main : ∀ (hx' : (if s.q = 1 then Res.no "q" else match resultsS E.P E.G fn s.fr s.h with
            | some [(g, ls)] => if ls.any isG then match nwLs s.o ls with
              | some es => Res.ok (.ret [(g, es)])
              | none => Res.no "a result that is neither data nor the call's own"
              else Res.no "a result that is not the call's own"
            | _ => Res.no "results") = .ok ir'),
          LeavesInM (Rd none) 0 E.P fn a'.tmps (fun e w' => ∃ v', e = Ending.returned v' ∧ (∀ x, x < w.heap.size → w'.heap[x]? = w.heap[x]?) ∧ w.heap.size ≤ w'.heap.size ∧ (w'.os = w.os ∧ w'.output = w.output) ∧ NsR w.heap.size w' r0 v') a'.defers .returning w' := by
        intro hx'
        split at hx'
        · cases hx'
        rename_i hq1
        obtain ⟨I3, w3, hR3, himm3, hleave⟩ : ∃ I3 w3, R3 E.G w.heap.size I w I3 μ' w3 ρ' s.fr s.h s.o a' ∧ (∀ x, I x → I3 x) ∧ ∀ R' : Ending → World → Prop, (∃ v, (results fn a'.tmps).run E.P w3 = .ok v w3 ∧ R' (.returned v) w3) → LeavesInM (Rd none) 0 E.P fn a'.tmps R' a'.defers .returning w' := by
          by_cases hq : s.q = 0
          · refine ⟨I', w', ⟨h5.fr, h5.wr, h5.own⟩, h6.imm, fun R' h => ?_⟩
            rw [h5.df.low (by omega)]
            exact h
          · have hdf := h5.df
            unfold DfR at hdf
            rw [if_neg hq, if_neg hq1] at hdf
            obtain ⟨_, D, hl, hI, hB, hD⟩ := hdf
            refine ⟨fun y => I' y ∧ y ≠ D, w'.putObj D (.deferred none), ((R3.mk h5.fr h5.wr h5.own).drop hD rfl).put hD rfl hB (fun h => h.2 rfl), fun x hx => ⟨h6.imm x hx, fun e => by have := himm x hx; omega⟩, fun R' h => ?_⟩
            rw [hl]
            exact ⟨by simp, .inl ⟨D, _, rfl, run_takeDeferred hD, h⟩⟩
        split at hx'
        case h_2 => cases hx'
        rename_i g ls hps
        split at hx'
        case isFalse => cases hx'
        rename_i hany
        split at hx'
        case h_2 => cases hx'
        rename_i es hes
        cases hx'
        obtain ⟨rs', hrs, hRr⟩ := h2
        obtain ⟨r, rfl, huniq, hpl, hwk⟩ := hR _ hRr
        clear hRr
        obtain ⟨v, hv, hvr⟩ := results_sound (P := E.P) hR3.wr hR3.fr hps
        refine hleave _ ⟨v, hv, v, rfl, hR3.wr.old, hR3.wr.size, hR3.wr.wd, hwk _ _ _ ?_⟩
        have hvr : VR I3 μ' w3 ρ' g ls v := hvr
        simp only [evalVs] at hrs
        split at hrs
        case h_2 => cases hrs
        rename_i ds vs0 hd1 hd2
        cases hd2
        cases hrs
        obtain ⟨hlen, hget⟩ := nwLs_get hes
        obtain ⟨j, hj⟩ : ∃ j, (∃ k, ls[j]? = some (SL.g k)) ∨ ls[j]? = some (SL.e (.c (.sl 0 []))) := by
          obtain ⟨l, hl1, hl2⟩ := List.any_eq_true.1 hany
          obtain ⟨j, hj⟩ := List.getElem?_of_mem hl1
          unfold isG at hl2
          split at hl2
          · exact ⟨j, .inl ⟨_, hj⟩⟩
          · exact ⟨j, .inr hj⟩
          · cases hl2
        have hall : ∀ us : List Value, LsR I3 μ' w3 ρ' ls us → All2 (NR w.heap.size w3) ds us := fun us hus => by
          have hdl : ds.length = ls.length := by rw [← hlen]; exact (Ex.evals_len hd1).symm
          refine All2.of_get (by rw [hdl]; exact hus.length) fun i d u hd hu => ?_
          obtain ⟨l, hl, hlr⟩ := hus.get' hu
          have hmem : d ∈ ds := List.mem_of_getElem? hd
          rcases hget i l hl with ⟨x, rfl, hx⟩ | ⟨k, t, rfl, hk, ht⟩
          · obtain ⟨d', hd', hev⟩ := evals_get hd1 hx
            rw [hd] at hd'
            cases hd'
            obtain ⟨d', hev', hdr⟩ := hlr
            rw [hev] at hev'
            cases hev'
            rcases hpl d hmem with hp | ⟨s0, l0, rfl, _⟩
            · cases d with
              | b y => exact fun I => hdr.plain hp
              | i k y => exact fun I => hdr.plain hp
              | s y => exact hp.elim
              | f y => exact hp.elim
              | sl s0 l0 => exact hp.elim
            · rcases hj with ⟨k, hjk⟩ | hjk
              · exfalso
                rcases hget j _ hjk with ⟨x', e, _⟩ | ⟨k', t, _, hk, ht⟩
                · cases e
                · obtain ⟨d2, hd2, hev2⟩ := evals_get hd1 ht
                  obtain ⟨v', s', rows, _, ht', _⟩ := hR3.own.live k' _ (live?_some hk)
                  rw [hev2] at ht'
                  cases ht'
                  have e := huniq i j _ _ _ _ hd hd2
                  subst e
                  rw [hl] at hjk
                  cases hjk
              · rcases hget j _ hjk with ⟨x', e, hx'⟩ | ⟨k', t, e, hk, ht⟩
                · cases e
                  obtain ⟨d2, hd2, hev2⟩ := evals_get hd1 hx'
                  simp only [Ex.eval] at hev2
                  cases hev2
                  have e := huniq i j _ _ _ _ hd hd2
                  subst e
                  rw [hl] at hjk
                  cases hjk
                  rw [hd] at hd2
                  cases hd2
                  refine ⟨⟨fun r hr => (by cases hr), .inl ⟨?_, rfl⟩⟩, fun row hr => (by cases hr)⟩
                  cases hdr with
                  | nil _ p cap hz => obtain ⟨rfl, rfl⟩ := hz rfl; rfl
                  | sl _ _ _ _ _ _ h0 => exact absurd h0 (by decide)
                · cases e
          · obtain ⟨d', hd', hev⟩ := evals_get hd1 ht
            rw [hd] at hd'
            cases hd'
            obtain ⟨v', s', rows, hv', ht', hV⟩ := hR3.own.live k _ (live?_some hk)
            rw [hev] at ht'
            cases ht'
            obtain ⟨b, n', c', hb, hmu⟩ := hlr
            rw [hmu] at hv'
            cases hv'
            rcases hpl _ hmem with hp | ⟨s0, l0, e, hrows⟩
            · exact hp.elim
            cases e
            refine ⟨⟨hV.1, ?_⟩, fun row hr x hx s l e => ?_⟩
            · rcases hV.2 with h | ⟨x, cap, cur, ty, e, q1, q2, q3, q4, q5, q6, q7, q8⟩
              · exact .inl h
              · exact .inr ⟨x, cap, cur, ty, e, q1, q2, q3, q4, q5, q6, fun i r j d hr hd => by
                  obtain ⟨u, hu, hdr⟩ := q7 i r j d hr hd
                  exact ⟨u, hu, hdr.plain (hrows r (List.mem_of_getElem? hr) d (List.mem_of_getElem? hd))⟩, fun h => h⟩
            · have := hrows row hr x hx
              rw [e] at this
              exact this.elim
        unfold NsR
        unfold VR at hvr
        split at hvr
        · rename_i hg
          obtain ⟨us, hu, hls⟩ := hvr
          rw [if_pos hg]
          exact ⟨us, hu, hall us hls⟩
        · rename_i hg
          obtain ⟨l, rfl, hlr⟩ := hvr
          rw [if_neg hg]
          have := hall [v] (.cons hlr .nil)
          match ds, this with
          | [d], .cons h _ => exact ⟨d, rfl, h⟩
      cases e with
      | normal => exact main h1
      | ret => exact main h1
      | exit id => cases h1
      | goto l => cases h1
    · cases hc
theorem con_of_ir {C : Con} {E : Env} {n : Nat} {f : FuncId} {ir : IR} {sh : Shape} (hM : ∀ f as rs, C f as rs → ConX E.P E.G f as rs) (hc : compile E n f = .ok ir) (hsh : paramShape E.P f = some sh)
    {as rs : List DV} (has : shapeOf as = sh) (hw : IR.wp C (fun r => r = rs) ir [] (leavesOf as)) : ConX E.P E.G f as rs :=
  con_of_ir' hM hc hsh (fun r h => by subst h; exact fun _ _ _ h => h) has hw


theorem capHeap_len : ∀ (csh : List Nat) (k : Nat), (capHeap k csh).length = csh.length
  | [], _ => rfl
  | n :: r, k => by simp [capHeap, capHeap_len r]

theorem caps_blk {I : Imm} {μ : Mu} {w : World} {ρ : List D} {B : Nat} (hI : ∀ x, I x → True) : ∀ {caz : List DV} {xs : List Nat} {k : Nat}, All2 (CellR I w) caz xs → VarsAt ρ k (leavesOf caz) → ∀ (b x : Nat), xs[b]? = some x → I x → ∃ blk, (capHeap k (caz.map (·.2.length)))[b]? = some blk ∧ BlkR B I μ w ρ blk x
  | _, _, k, .nil, _, b, x, hb, _ => by simp at hb
  | (g, ds) :: caz, x0 :: xs, k, .cons h t, hv, b, x, hb, hIx => by
    simp only [leavesOf] at hv
    cases b with
    | zero =>
      simp at hb
      subst hb
      obtain ⟨_, vs, ty, h1, h2⟩ := h
      exact ⟨_, rfl, vs, ty, h1, vars_data hv.left h2, hIx⟩
    | succ b =>
      obtain ⟨blk, h1, h2⟩ := caps_blk hI t hv.right b x (by simpa using hb) hIx
      exact ⟨blk, by simpa [capHeap] using h1, h2⟩

/-- A CONTRACT of a function that is handed variables. -/
theorem st_of {G : Glo} {caz : List DV} {xs : List Nat} {I : Imm} {w : World} {ρ : List D} (hG : GR G I w) (himm : ∀ x, I x → x < w.heap.size) (hcell : All2 (CellR I w) caz xs) (hv : VarsAt ρ 0 (leavesOf caz)) :
    ∃ (I1 : Imm) (μ : Mu), (∀ (b x : Nat), xs[b]? = some x → μ b = some x) ∧ ∀ (n nv : Nat) (l : List (Nat × S)) (a : Act), a.tmps.size = n → a.defers = [] → ρ.length = nv → (∀ p ∈ l, SR I1 μ w ρ p.2 (a.tmps.getD p.1 undef)) → StR none G w.heap.size I1 w (stOf n l (caz.map (·.2.length)) nv) [] ρ I1 μ w a := by
  obtain ⟨I1, hI1⟩ : ∃ I1 : Imm, I1 = fun x => I x ∨ x ∈ xs := ⟨_, rfl⟩
  have hII : ∀ x, I x → I1 x := fun x hx => by rw [hI1]; exact .inl hx
  have hxs : ∀ x, x ∈ xs → x < w.heap.size := fun x hx => by
    obtain ⟨j, hj⟩ := List.getElem?_of_mem hx
    obtain ⟨d, _, _, _, _, hh, _⟩ := hcell.get' hj
    exact (Array.getElem?_eq_some_iff.1 hh).1
  have himm1 : ∀ x, I1 x → x < w.heap.size := fun x hx => by
    rw [hI1] at hx
    exact hx.elim (himm x) (hxs x)
  have hcell1 : All2 (CellR I1 w) caz xs := hcell.imp fun d x ⟨h1, us, ty, h2, h3⟩ => ⟨h1, us, ty, h2, h3.imp fun _ _ h => h.mono hII fun _ _ => rfl⟩
  obtain ⟨μ, hμ⟩ : ∃ μ : Mu, μ = ⟨fun b => xs[b]?, fun _ => none⟩ := ⟨_, rfl⟩
  refine ⟨I1, μ, fun b x h => by rw [hμ]; exact h, fun n nv l a hn hdf hnv hl => ⟨fr_of hn hl, ?_, OwnR.nil fun _ => by rw [hμ], hnv, rfl, ⟨rfl, hdf⟩⟩⟩
  refine ⟨fun b x hb => ?_, fun b b' x h _ => ?_, hG.mono hII fun _ _ => rfl, fun _ _ => rfl, Nat.le_refl _, himm1, fun x hx => .inl hx, ⟨rfl, rfl⟩⟩
  · rw [hμ] at hb
    have hb : xs[b]? = some x := hb
    exact caps_blk (fun _ _ => trivial) hcell1 hv b x hb (by rw [hI1]; exact .inr (List.mem_of_getElem? hb))
  · rw [hμ] at h
    have h : xs[b]? = some x := h
    right
    rw [hI1]
    exact .inr (List.mem_of_getElem? h)

theorem conK_of_ir {C : Con} {E : Env} {n : Nat} {f : FuncId} {ir : IR} {sh : Shape} {csh : List Nat} (hM : ∀ f as rs, C f as rs → ConX E.P E.G f as rs) (hc : compileK E n f csh = .ok ir) (hsh : paramShape E.P f = some sh)
    {as caz rs : List DV} (has : shapeOf as = sh) (hcs : caz.map (·.2.length) = csh) (hpl : ∀ d ∈ leavesOf rs, d.plain) (hw : IR.wp C (fun r => r = rs) ir [] (leavesOf as ++ leavesOf caz)) : ConX E.P E.G (capOff + f) ((false, [.i .i64 (caz.length : Int)]) :: (as ++ caz)) rs := by
  unfold compileK at hc
  split at hc
  · cases hc
  rename_i hlt
  have hlt : f < eatOff := by simpa using hlt
  refine ⟨fun h => absurd h (Nat.not_lt.2 (Nat.le_trans (by decide) (Nat.le_add_right capOff f))), fun h => absurd h.2 (Nat.not_lt.2 (Nat.le_add_right _ _)), fun _ => ⟨fun _ => ?_, fun h => absurd h (Nat.not_le.2 (Nat.lt_of_lt_of_le (Nat.add_lt_add_left hlt capOff) (by decide))), fun h => absurd h (Nat.not_le.2 (Nat.lt_of_lt_of_le (Nat.add_lt_add_left hlt capOff) (by decide)))⟩⟩
  rw [Nat.add_sub_cancel_left]
  refine ⟨as, caz, rfl, ?_⟩
  intro I w vs xs hglo himm hargs hcell
  unfold paramShape at hsh
  split at hc
  · cases hc
  · rename_i fn hfn
    rw [hfn] at hsh
    simp only at hsh
    split at hc
    · rename_i c sh' hbody hsh'
      rw [hsh'] at hsh
      cases hsh
      subst has
      subst hcs
      refine (callsIn_wide (n := 0)).1 (callsIn_of_wp (F := Rd none) hfn hbody trivial ?_)
      have hxl := hcell.length
      obtain ⟨I1, hI1⟩ : ∃ I1 : Imm, I1 = fun x => I x ∨ x ∈ xs := ⟨_, rfl⟩
      have hII : ∀ x, I x → I1 x := fun x hx => by rw [hI1]; exact .inl hx
      have hxs : ∀ x, x ∈ xs → x < w.heap.size := fun x hx => by
        obtain ⟨j, hj⟩ := List.getElem?_of_mem hx
        obtain ⟨d, _, _, _, _, hh, _⟩ := hcell.get' hj
        exact (Array.getElem?_eq_some_iff.1 hh).1
      have himm1 : ∀ x, I1 x → x < w.heap.size := fun x hx => by
        rw [hI1] at hx
        exact hx.elim (himm x) (hxs x)
      have hargs1 : All2 (DVR I1 w) as vs := hargs.imp fun d v h => by
        unfold DVR at h ⊢
        split at h
        · rename_i hg
          rw [if_pos hg]
          obtain ⟨us, h1, h2⟩ := h
          exact ⟨us, h1, h2.imp fun _ _ h => h.mono hII fun _ _ => rfl⟩
        · rename_i hg
          rw [if_neg hg]
          obtain ⟨d', h1, h2⟩ := h
          exact ⟨d', h1, h2.mono hII fun _ _ => rfl⟩
      have hcell1 : All2 (CellR I1 w) caz xs := hcell.imp fun d x ⟨h1, us, ty, h2, h3⟩ => ⟨h1, us, ty, h2, h3.imp fun _ _ h => h.mono hII fun _ _ => rfl⟩
      obtain ⟨μ, hμ⟩ : ∃ μ : Mu, μ = ⟨fun b => xs[b]?, fun _ => none⟩ := ⟨_, rfl⟩
      have hvr := shapeVs_sound (μ := μ) (env := leavesOf as ++ leavesOf caz) (k := 0) (fun i d hd => by rw [Nat.zero_add]; exact pre_get (List.prefix_append _ _) hd) hargs1
      have hsl : (shapeOf as).length = vs.length := by
        have := hargs.length
        rw [← this]
        clear this hargs hargs1 hvr hw hc hsh'
        induction as with
        | nil => rfl
        | cons p r ih => obtain ⟨g, ds⟩ := p; simp [shapeOf, ih]
      have hfr : FR I1 μ w (leavesOf as ++ leavesOf caz) ((shapeVars 0 (shapeOf as) ++ (List.range (caz.map (·.2.length)).length).map fun j => .val false [.p (.loc j) 0]) ++ List.replicate (fn.ntmps - ((shapeOf as).length + (caz.map (·.2.length)).length)) .x)
          { tmps := (vs ++ xs.map fun x => Value.pointer (some ⟨x, 0, none⟩)).toArray ++ Array.replicate (fn.ntmps - (vs ++ xs.map fun x => Value.pointer (some ⟨x, 0, none⟩)).toArray.size) undef, defers := [] } := by
        have hsv : All2 (SR I1 μ w (leavesOf as ++ leavesOf caz)) (shapeVars 0 (shapeOf as) ++ (List.range (caz.map (·.2.length)).length).map fun j => .val false [.p (.loc j) 0]) (vs ++ xs.map fun x => Value.pointer (some ⟨x, 0, none⟩)) := by
          rw [shapeVars_map]
          refine (All2.map_left hvr).append (All2.of_get (by simp; omega) fun i a b ha hb => ?_)
          rw [List.getElem?_map] at ha hb
          obtain ⟨j, hj, rfl⟩ := Option.map_eq_some_iff.1 ha
          obtain ⟨x, hx, rfl⟩ := Option.map_eq_some_iff.1 hb
          have hij : j = i := by
            have := (List.getElem?_eq_some_iff.1 hj).2
            simpa using this.symm
          subst hij
          exact ⟨_, rfl, x, by rw [hμ]; exact hx, rfl⟩
        have hl := hsv.length
        refine ⟨by simp at hl ⊢; omega, fun t => ?_⟩
        generalize hA : (shapeVars 0 (shapeOf as) ++ (List.range (caz.map (·.2.length)).length).map fun j => S.val false [.p (.loc j) 0]) = A at hsv hl ⊢
        generalize hV : (vs ++ xs.map fun x => Value.pointer (some ⟨x, 0, none⟩)) = V at hsv hl ⊢
        by_cases ht : t < A.length
        · obtain ⟨v, hv, hr⟩ := hsv.get (List.getElem?_eq_getElem ht)
          have ht' : t < V.length := by omega
          rw [List.getD_eq_getElem?_getD, List.getElem?_append_left ht, List.getElem?_eq_getElem ht]
          rw [Array.getD_eq_getD_getElem?, Array.getElem?_append_left (by simpa using ht')]
          simp only [List.getElem?_toArray, hv, Option.getD_some]
          exact hr
        · have : ∀ m, (A ++ List.replicate m S.x).getD t .x = .x := by
            intro m
            rw [List.getD_eq_getElem?_getD, List.getElem?_append_right (by omega), List.getElem?_replicate]
            split <;> rfl
          rw [this]
          trivial
      have hwr : WR E.G w.heap.size I1 w I1 μ w (leavesOf as ++ leavesOf caz) (capHeap (shapeLen (shapeOf as)) (caz.map (·.2.length))) := by
        refine ⟨fun b x hb => ?_, fun b b' x h _ => ?_, hglo.mono hII fun _ _ => rfl, fun _ _ => rfl, Nat.le_refl _, himm1, fun x hx => .inl hx, ⟨rfl, rfl⟩⟩
        · rw [hμ] at hb
          refine caps_blk (fun _ _ => trivial) hcell1 (fun i d hd => ?_) b x hb (by rw [hI1]; exact .inr (List.mem_of_getElem? hb))
          rw [shapeLen_leaves, List.getElem?_append_right (by omega), Nat.add_sub_cancel_left]
          exact hd
        · rw [hμ] at h
          exact .inr (by rw [hI1]; exact .inr (List.mem_of_getElem? h))
      have hnv : (leavesOf as ++ leavesOf caz).length = shapeLen (shapeOf as) + (caz.map (·.2.length)).sum := by
        have : ∀ l : List DV, (leavesOf l).length = (l.map (·.2.length)).sum := by
          intro l
          induction l with
          | nil => rfl
          | cons p r ih => obtain ⟨g, ds⟩ := p; simp [leavesOf, ih]
        rw [List.length_append, shapeLen_leaves, this caz]
      refine (exec_sound (C := C) (R := fun r => r = rs) (B := w.heap.size) (I₀ := I1) (w₀ := w) hM n).1 none f c _ _ ir [] (leavesOf as ++ leavesOf caz) I1 μ w _ _ hc hw ⟨hfr, hwr, OwnR.nil fun _ => by rw [hμ], hnv, rfl, DfR.zero⟩ ?_
      intro e s ir' L' ρ' I' μ' w' a' h1 h2 h3 h4 h5 h6
      have main : ∀ (hx' : (if s.q ≠ 0 then Res.no "q" else match resultsS E.P E.G fn s.fr s.h with
            | some vs => match exVs (fixVs (frz (idsVs vs) s.o) vs) with
              | some xs => Res.ok (.ret xs)
              | none => Res.no "a result that is no data"
            | none => Res.no "results") = .ok ir'),
          a'.defers = [] ∧ ∃ v, (results fn a'.tmps).run E.P w' = .ok v w' ∧ ∃ v', Ending.returned v = .returned v' ∧
            (∀ x, x < w.heap.size → w'.heap[x]? = w.heap[x]?) ∧ w.heap.size ≤ w'.heap.size ∧ (w'.os = w.os ∧ w'.output = w.output) ∧ RsR I w' rs v' := by
        intro hx'
        split at hx'
        · cases hx'
        rename_i hq0
        split at hx'
        · rename_i ps hps
          split at hx'
          · rename_i xs' hxs'
            cases hx'
            obtain ⟨rs', hrs, rfl⟩ := h2
            obtain ⟨I2, hW2, he2, hO2⟩ := h5.own.frz h5.wr (idsVs ps)
            obtain ⟨v, hv, hvr⟩ := results_sound (P := E.P) hW2 (h5.fr.mono he2 (List.prefix_refl _)) hps
            refine ⟨h5.df.low (by omega), v, hv, v, rfl, hW2.old, hW2.size, hW2.wd, RsR.plain (I := I2) hpl ?_⟩
            generalize hoo : frz (idsVs ps) s.o = oo at hxs' hO2
            clear hoo
            match ps, hxs', hvr with
            | [], hxs', hvr =>
              simp [exVs, fixVs] at hxs'
              subst hxs'
              simp [evalVs] at hrs
              subst hrs
              obtain ⟨us, hu, hall⟩ := hvr
              cases hall
              exact ⟨[], hu, .nil⟩
            | [(g, ls)], hxs', hvr =>
              have hvr' : VR I2 μ' w' ρ' g ls v := hvr
              have := exVs_sound hxs' hrs (fixVs_sound hO2 (All2.cons (a := ((g, ls) : Bool × List SL)) (b := v) (bs := []) hvr' .nil))
              match rs', this with
              | [r], .cons p q => exact p
            | p :: q :: r, hxs', hvr =>
              obtain ⟨us, hu, hall⟩ := hvr
              have hd := exVs_sound hxs' hrs (fixVs_sound hO2 hall)
              match us, rs', hd with
              | u1 :: u2 :: us, r1 :: r2 :: rs', hd => exact ⟨_, hu, hd⟩
              | [], rs', hd => cases hall
              | [u], rs', hd => cases hall with | cons _ h => cases h
          · cases hx'
        · cases hx'
      cases e with
      | normal => obtain ⟨hd, v, hv, hq⟩ := main h1; exact ⟨hd, v, hv, hq⟩
      | ret => obtain ⟨hd, v, hv, hq⟩ := main h1; exact ⟨hd, v, hv, hq⟩
      | exit id => cases h1
      | goto l => cases h1
    · cases hc

/-- The results, out of the state at the end. -/
theorem ret_data {C : Con} {E : Env} {fn : Func} {R : List DV → Prop} {B : Nat} {I₀ : Imm} {w₀ : World} {e : Xit} {s : St} {ir' : IR} {L' : List Lp} {ρ' : List D} {I' : Imm} {μ' : Mu} {w' : World} {a' : Act} (h1 : retGo E fn e s = .ok ir') (h2 : IR.wp C R ir' L' ρ') (h5 : StR none E.G B I₀ w₀ s L' ρ' I' μ' w' a') :
    (e = .normal ∨ e = .ret) ∧ a'.defers = [] ∧ ∃ v I2 rs, (results fn a'.tmps).run E.P w' = .ok v w' ∧ (∀ x, I' x → I2 x) ∧ (∀ x, I2 x → I₀ x ∨ B ≤ x) ∧ (∀ x, I2 x → x < w'.heap.size) ∧ R rs ∧ RsR I2 w' rs v := by
  have main : ∀ (hx' : (if s.q ≠ 0 then Res.no "q" else match resultsS E.P E.G fn s.fr s.h with
            | some vs => match exVs (fixVs (frz (idsVs vs) s.o) vs) with
              | some xs => Res.ok (.ret xs)
              | none => Res.no "a result that is no data"
            | none => Res.no "results") = .ok ir'), a'.defers = [] ∧ ∃ v I2 rs, (results fn a'.tmps).run E.P w' = .ok v w' ∧ (∀ x, I' x → I2 x) ∧ (∀ x, I2 x → I₀ x ∨ B ≤ x) ∧ (∀ x, I2 x → x < w'.heap.size) ∧ R rs ∧ RsR I2 w' rs v := by
    intro hx'
    split at hx'
    · cases hx'
    rename_i hq
    have hq : s.q = 0 := by simpa using hq
    split at hx'
    · rename_i ps hps
      split at hx'
      · rename_i xs hxs
        cases hx'
        obtain ⟨rs', hrs, hRr⟩ := h2
        obtain ⟨I2, hW2, he2, hO2⟩ := h5.own.frz h5.wr (idsVs ps)
        obtain ⟨v, hv, hvr⟩ := results_sound (P := E.P) hW2 (h5.fr.mono he2 (List.prefix_refl _)) hps
        refine ⟨h5.df.low (by omega), v, I2, rs', hv, he2.imm, hW2.imm0, hW2.imm, hRr, ?_⟩
        clear hRr
        generalize hoo : frz (idsVs ps) s.o = oo at hxs hO2
        clear hoo
        match ps, hxs, hvr with
        | [], hxs, hvr =>
          simp [exVs, fixVs] at hxs
          subst hxs
          simp [evalVs] at hrs
          subst hrs
          obtain ⟨us, hu, hall⟩ := hvr
          cases hall
          exact ⟨[], hu, .nil⟩
        | [(g, ls)], hxs, hvr =>
          have hvr' : VR I2 μ' w' ρ' g ls v := hvr
          have := exVs_sound hxs hrs (fixVs_sound hO2 (All2.cons (a := ((g, ls) : Bool × List SL)) (b := v) (bs := []) hvr' .nil))
          match rs', this with
          | [r], .cons p q => exact p
        | p :: q :: r, hxs, hvr =>
          obtain ⟨us, hu, hall⟩ := hvr
          have hd := exVs_sound hxs hrs (fixVs_sound hO2 hall)
          match us, rs', hd with
          | u1 :: u2 :: us, r1 :: r2 :: rs', hd => exact ⟨_, hu, hd⟩
          | [], rs', hd => cases hall
          | [u], rs', hd => cases hall with | cons _ h => cases h
      · cases hx'
    · cases hx'
  cases e with
  | normal => exact ⟨.inl rfl, main h1⟩
  | ret => exact ⟨.inr rfl, main h1⟩
  | exit id => cases h1
  | goto l => cases h1

theorem sortsB_some {o1 : List Oper} {tl td : Nat} {fs g : FuncId} {qd : Option Nat} (h : sortsB o1 = some (tl, td, fs, g, qd)) :
    ∃ p q args tys, o1 = [p, q] ∧ p.op = .move (.tmp tl) ∧ p.dst = some td ∧ q.op = .call { callee := .value (.func fs), args := args, argTypes := tys } ∧ args.toList = [.tmp td, .func g] ∧ p.guard = none ∧ q.guard = none ∧ td ≠ tl ∧ q.dst ≠ some tl ∧ q.dst = qd := by
  unfold sortsB at h
  split at h
  · rename_i p q
    split at h
    · rename_i tl' td' fs' args tys hp hd hq
      split at h
      · rename_i td2 g2 hargs
        split at h
        · rename_i hc
          cases h
          obtain ⟨rfl, h1, h2, h3, h4⟩ := hc
          exact ⟨p, q, args, tys, rfl, hp, hd, hq, hargs, by simpa using h1, by simpa using h2, h3, h4, rfl⟩
        · cases h
      · cases h
    · cases h
  · cases h

/-- A CONTRACT OUT OF THE IR: the last argument is a slice of the call's own, which is used up. -/
theorem con_of_irE {C : Con} {E : Env} {n : Nat} {f : FuncId} {ir : IR} {sh : Shape} (hM : ∀ f as rs, C f as rs → ConX E.P E.G f as rs) (hc : compileE E n f = .ok ir) (hsh : paramShape E.P f = some sh)
    {az rs : List DV} {s0 : Nat} {rows : List (List D)} (has : shapeOf (az ++ [(false, [.sl s0 rows])]) = sh) (hw : IR.wp C (fun r => r = rs) ir [] (leavesOf (az ++ [(false, [.sl s0 rows])]))) : ConX E.P E.G (useOff + f) (az ++ [(false, [.sl s0 rows])]) rs := by
  unfold compileE at hc
  split at hc
  · cases hc
  rename_i hlt
  have hlt : f < eatOff := by simpa using hlt
  have hle : ∀ m, m ≤ useOff → m ≤ useOff + f := fun m hm => Nat.le_trans hm (Nat.le_add_right useOff f)
  refine ⟨fun h => absurd h (Nat.not_lt.2 (hle _ (by decide))), fun h => absurd h.2 (Nat.not_lt.2 (hle _ (by decide))), fun _ => ⟨fun h => absurd h (Nat.not_lt.2 (hle _ (by decide))), fun _ h => absurd h (Nat.not_lt.2 (hle _ (by decide))), fun _ => ⟨fun h => absurd h (Nat.not_lt.2 (hle _ (by decide))), fun _ => ⟨fun h => absurd h (Nat.not_lt.2 (hle _ (by decide))), fun _ => ?_⟩⟩⟩⟩
  rw [Nat.add_sub_cancel_left]
  refine ⟨az, s0, rows, rfl, ?_⟩
  intro B I w vs v hglo himm hB hargs hV
  unfold paramShape at hsh
  split at hc
  · cases hc
  rename_i fn hfn
  rw [hfn] at hsh
  simp only at hsh
  split at hc
  case h_2 => cases hc
  rename_i i0 o0 i1 o1 rest sh' hbody hsh'
  rw [hsh'] at hsh
  cases hsh
  split at hc
  case h_2 => cases hc
  rename_i tl td fs g qd hsb
  split at hc
  case isFalse => cases hc
  rename_i hcond
  obtain ⟨htl, hshe, hnt, hnd0, hnd1, hct, hsig, htd⟩ := hcond
  split at hc
  case h_2 z hz => exact absurd hc (hz _)
  rename_i ir0 hx
  cases hc
  obtain ⟨shz, hsig⟩ := Option.isSome_iff_exists.1 hsig
  obtain ⟨hfs, hfslt⟩ := sigOf_some hsig
  obtain ⟨p, q, args, tys, ho1, hpo, hpd, hqo, hqa, hpg, hqg, hne1, hne2, rfl⟩ := sortsB_some hsb
  have hshz : shapeOf az = sh.dropLast := by
    rw [← has]
    have : ∀ (l : List DV) (x : DV), shapeOf (l ++ [x]) = shapeOf l ++ [(x.1, x.2.length)] := by
      intro l x
      induction l with
      | nil => rfl
      | cons p r ih => obtain ⟨g, ds⟩ := p; simp [shapeOf, ih]
    rw [this, List.dropLast_concat]
  have hsl : (shapeOf az).length = vs.length := by
    have := hargs.length
    rw [← this]
    clear hargs hw has hshz this
    induction az with
    | nil => rfl
    | cons p r ih => obtain ⟨g, ds⟩ := p; simp [shapeOf, ih]
  have hlv : leavesOf (az ++ [(false, [.sl s0 rows])]) = leavesOf az ++ [.sl s0 rows] := by
    clear hargs hw has hshz hsl
    induction az with
    | nil => rfl
    | cons p r ih => obtain ⟨g, ds⟩ := p; simp [leavesOf, ih]
  have hshl : sh.length = vs.length + 1 := by
    rw [hshe, List.length_append, ← hshz, hsl]; rfl
  have htlv : tl = vs.length := by omega
  subst htlv
  refine (callsIn_wide (n := 0)).1 (callsIn_of_wp (F := Rd none) hfn hbody trivial ?_)
  -- the first region
  have hnv : (leavesOf (az ++ [(false, [.sl s0 rows])])).length = shapeLen sh := by rw [← has, shapeLen_leaves]
  obtain ⟨a0, ha0⟩ : ∃ a0 : Act, a0 = { tmps := (vs ++ [v]).toArray ++ Array.replicate (fn.ntmps - (vs ++ [v]).toArray.size) undef, defers := [] } := ⟨_, rfl⟩
  rw [← ha0]
  have hsz0 : a0.tmps.size = fn.ntmps := by rw [ha0]; simp; omega
  have hva0 : a0.tmps.getD vs.length undef = v := by
    rw [ha0]
    simp [Array.getD_eq_getD_getElem?, Array.getElem?_append]
  have hfr : FR I ⟨fun _ => none, fun _ => none⟩ w (leavesOf (az ++ [(false, [.sl s0 rows])])) (shapeVars 0 sh.dropLast ++ List.replicate (fn.ntmps - sh.dropLast.length) .x) a0 := by
    have hvr := shapeVs_sound (I := I) (w := w) (μ := ⟨fun _ => none, fun _ => none⟩) (env := leavesOf (az ++ [(false, [.sl s0 rows])])) (k := 0) (fun i d hd => by rw [Nat.zero_add, hlv]; exact pre_get (List.prefix_append _ _) hd) hargs
    have hsv : All2 (SR I ⟨fun _ => none, fun _ => none⟩ w (leavesOf (az ++ [(false, [.sl s0 rows])]))) (shapeVars 0 sh.dropLast) vs := by
      rw [← hshz, shapeVars_map]
      exact All2.map_left hvr
    have hl := hsv.length
    have hdl : sh.dropLast.length = vs.length := by rw [← hshz, hsl]
    refine ⟨by rw [hsz0]; simp; omega, fun t => ?_⟩
    by_cases ht : t < (shapeVars 0 sh.dropLast).length
    · obtain ⟨u, hu, hr⟩ := hsv.get (List.getElem?_eq_getElem ht)
      have ht' : t < vs.length := by omega
      rw [List.getD_eq_getElem?_getD, List.getElem?_append_left ht, List.getElem?_eq_getElem ht]
      have : a0.tmps.getD t undef = u := by
        rw [ha0, Array.getD_eq_getD_getElem?, Array.getElem?_append_left (by simp; omega)]
        simp only [List.getElem?_toArray]
        rw [List.getElem?_append_left ht', hu]
        rfl
      rw [this]
      exact hr
    · have : (shapeVars 0 sh.dropLast ++ List.replicate (fn.ntmps - sh.dropLast.length) S.x).getD t .x = .x := by
        rw [List.getD_eq_getElem?_getD, List.getElem?_append_right (by omega), List.getElem?_replicate]
        split <;> rfl
      rw [this]
      trivial
  have hwr : WR E.G w.heap.size I w I ⟨fun _ => none, fun _ => none⟩ w (leavesOf (az ++ [(false, [.sl s0 rows])])) [] :=
    ⟨(fun b x h => by cases h), (fun b b' x h => by cases h), hglo, fun _ _ => rfl, Nat.le_refl _, himm, fun x hx => .inl hx, ⟨rfl, rfl⟩⟩
  obtain ⟨Q1, hQ1⟩ : ∃ Q1 : Exit → Act → World → Prop, Q1 = fun e a' w' => e = .normal ∧ ∃ (s : St) (ir' : IR) (L' : List Lp) (ρ' : List D) (I' : Imm) (μ' : Mu), (if s.q ≠ 0 || !s.o.isEmpty || !decide (vs.length < s.fr.length) then Res.no "sort" else
              match exec E n f (.code rest) { s with fr := (putS (s.fr.set td .x) q.dst .x).set vs.length (.val false [.e (.v s.nv)]), nv := s.nv + 1 } (retGo E fn) with
              | .ok ir => .ok (.call (srtOff + fs) [(false, [.v (shapeLen sh - 1)]), (false, [.c (.f g)])] [(false, 1)] ir)
              | z => z) = .ok ir' ∧ IR.wp C (fun r => r = rs) ir' L' ρ' ∧ leavesOf (az ++ [(false, [.sl s0 rows])]) <+: ρ' ∧ StR none E.G w.heap.size I w s L' ρ' I' μ' w' a' ∧ Evo I ⟨fun _ => none, fun _ => none⟩ w I' μ' w' := ⟨_, rfl⟩
  have hno : ∀ e a w, e ≠ .normal → ¬ Q1 e a w := fun e a w he h => by rw [hQ1] at h; exact he h.1
  have hst1 := (exec_sound (C := C) (R := fun r => r = rs) (B := w.heap.size) (I₀ := I) (w₀ := w) hM n).2.2.2.1 none f o0.toList o0.toList _ _ ir [] _ I ⟨fun _ => none, fun _ => none⟩ w a0 Q1 hx hw ⟨hfr, hwr, OwnR.nil fun _ => rfl, hnv, rfl, by rw [ha0]; exact DfR.zero⟩ (by
    intro e s ir' L' ρ' I' μ' w' a' h1 h2 h3 h4 h5 h6
    cases e with
    | normal => rw [hQ1]; exact ⟨rfl, s, ir', L', ρ', I', μ', h1, h2, h4, h5, h6⟩
    | ret => cases h1
    | exit id => cases h1
    | goto l => cases h1)
  have hk1 := list_keep (ts := o0.toList.filterMap (·.dst)) (n := fn.ntmps) (f := fun t => a0.tmps.getD t undef) hno (fun o ho t ht => List.mem_filterMap.2 ⟨o, ho, ht⟩) hsz0 (fun _ _ => rfl) hst1
  rw [Array.toArray_toList] at hk1
  refine wpIn_seq (wpIn_mono (wpIn_region_list (list_in (fun o ho => List.all_eq_true.1 hnd0 o ho) hk1)) fun e a1 w1 hq => ?_)
  obtain ⟨hq1, hsz1, hkeep⟩ := hq
  rw [hQ1] at hq1
  obtain ⟨rfl, s, ir1, L1, ρ1, I1, μ1, h1, h2, h3, h4, h5⟩ := hq1
  show (Code.seq (.region i1 o1 false) rest).wpIn (Rd none) 0 E.P _ a1 w1
  split at h1
  · cases h1
  rename_i hcs
  simp only [Bool.or_eq_true, not_or, Bool.not_eq_true, Bool.not_eq_false', decide_eq_false_iff_not, Bool.not_eq_eq_eq_not, Bool.not_true, Bool.not_false, decide_eq_true_eq, List.isEmpty_iff] at hcs
  obtain ⟨⟨hq0, ho0⟩, hlt0⟩ := hcs
  have hq0 : s.q = 0 := by simpa using hq0
  have ho0 : s.o = [] := by
    cases h : s.o with
    | nil => rfl
    | cons a l => rw [h] at ho0; simp at ho0
  split at h1
  case h_2 z hz => exact absurd h1 (hz _)
  rename_i ir2 hx2
  cases h1
  obtain ⟨as, rs2, has2, hc, hrs2, hw2⟩ := h2
  have hown : ∀ x, v.ownBlock = some x → x < w.heap.size ∧ ¬ I x := fun x hx => by
    obtain ⟨cap, cur, ty, _, _, _, h8, _, _, _, _, h9⟩ := hV.block hx
    exact ⟨(Array.getElem?_eq_some_iff.1 h8).1, h9⟩
  have hown1 : ∀ x, v.ownBlock = some x → ¬ I1 x := fun x hx hI => by
    obtain ⟨h8, h9⟩ := hown x hx
    rcases h4.wr.imm0 x hI with h | h
    · exact h9 h
    · omega
  have hV1 : OwnV B I1 w1 s0 rows v := hV.mono h5.imm h5.same fun x hx => ⟨h4.wr.old x (hown x hx).1, hown1 x hx⟩
  have hvv : a1.tmps.getD vs.length undef = v := by
    rw [hkeep _ (fun h => by rw [List.contains_iff_mem.2 h] at hct; cases hct)]
    exact hva0
  -- the sort
  have heval : evalVs ρ1 [(false, [.v (shapeLen sh - 1)]), (false, [.c (.f g)])] = some [(false, [.sl s0 rows]), (false, [.f g])] := by
    have hlast : ρ1[shapeLen sh - 1]? = some (.sl s0 rows) := by
      refine pre_get h3 ?_
      rw [← hnv, hlv]
      simp
    simp only [evalVs, Ex.evals, Ex.eval, hlast]
  rw [heval] at has2
  cases has2
  have hcS := (((hM _ _ _ hc).2.2 (Nat.le_trans (by decide) (Nat.le_add_right srtOff fs))).2.2 (Nat.le_trans (by decide) (Nat.le_add_right srtOff fs))).2 (Nat.le_add_right _ _) |>.1 (Nat.lt_of_lt_of_le (Nat.add_lt_add_left hfslt srtOff) (by decide))
  rw [Nat.add_sub_cancel_left] at hcS
  obtain ⟨s0', rows', d', rows2, has', rfl, hspec⟩ := hcS
  simp only [List.cons.injEq, Prod.mk.injEq, true_and, and_true, D.sl.injEq] at has'
  obtain ⟨⟨rfl, rfl⟩, rfl⟩ := has'
  refine wpIn_seq (wpIn_region_list (list_in (fun o ho => List.all_eq_true.1 hnd1 o ho) ?_))
  rw [ho1]
  refine wpL_go (by unfold Region.wanted; rw [hpg]) (wp_value (nx := .value v) (v := v) (w' := w1) ?_ (.inl rfl) ?_)
  · simp only [execOp, hpo, Sem.run_pure]
    rw [show a1.eval (.tmp vs.length) = v from hvv]
  refine wpL_go (by unfold Region.wanted; rw [hqg]) (wp_enter (run_call hqo (first := #[]) (caps := #[]) rfl hfs) ?_)
  have hargv : (#[] ++ args.map (a1.put p.dst v).eval ++ #[] : Array Value) = #[v, .func (.func g) #[] #[]] := by
    apply Array.toList_inj.1
    simp only [Array.toList_append, Array.toList_map, hqa, List.map_cons, List.map_nil]
    have : (a1.put p.dst v).eval (.tmp td) = v := by
      rw [hpd]
      show (a1.put (some td) v).tmps.getD td undef = v
      rw [put_at (by rw [hsz1]; exact htd)]
    rw [this]
    rfl
  rw [hargv]
  refine (hspec B I1 w1 v (.func (.func g) #[] #[]) h4.wr.glo h4.wr.imm (Nat.le_trans hB h4.wr.size) hV1 (.f g)).mono ?_
  rintro e w2 ⟨rfl, hV2, hgr⟩
  show rest.wpIn (Rd none) 0 E.P _ ((a1.put p.dst v).put q.dst (.tuple #[])) w2
  obtain ⟨I2, hI2⟩ : ∃ I2 : Imm, I2 = fun x => I1 x ∨ v.ownBlock = some x := ⟨_, rfl⟩
  obtain ⟨I0, hI0⟩ : ∃ I0 : Imm, I0 = fun x => I x ∨ v.ownBlock = some x := ⟨_, rfl⟩
  have hs12 : ∀ x, I1 x → w2.heap[x]? = w1.heap[x]? := fun x hx => hgr.block x (h4.wr.imm x hx) fun e => hown1 x e.symm hx
  have he12 : Evo I1 μ1 w1 I2 μ1 w2 := ⟨fun x hx => by rw [hI2]; exact .inl hx, hs12, fun _ _ h => h, fun _ _ h => h⟩
  have hpre : ρ1 <+: ρ1 ++ [.sl s0 rows2] := pre_append _ _
  have hdr : DR I2 w2 (.sl s0 rows2) v := hV2.data he12.imm fun x hx => by rw [hI2]; exact .inr hx
  have hbo : ∀ b x, μ1 b = some x → v.ownBlock ≠ some x := fun b x hb hx => by
    obtain ⟨blk, _, vs', ty, _, _, h8⟩ := h4.wr.blk b x hb
    split at h8
    · exact hown1 x hx h8
    · have := (hown x hx).1; have := h8.2; omega
  have hwr2 : WR E.G w.heap.size I0 w2 I2 μ1 w2 (ρ1 ++ [.sl s0 rows2]) s.h := by
    refine ⟨fun b x hb => ?_, fun b b' x g1 g2 => (h4.wr.inj b b' x g1 g2).imp id fun h => he12.imm x h, h4.wr.glo.mono he12.imm hs12, fun _ _ => rfl, Nat.le_trans h4.wr.size hgr.size, fun x hx => ?_, fun x hx => ?_, ⟨rfl, rfl⟩⟩
    · obtain ⟨blk, g1, vs', ty, g2, g3, g4⟩ := h4.wr.blk b x hb
      refine ⟨blk, g1, vs', ty, ?_, g3.imp fun _ _ h => h.mono he12 hpre, ?_⟩
      · rw [hgr.block x (Array.getElem?_eq_some_iff.1 g2).1 fun e => hbo b x hb e.symm]
        exact g2
      · split at g4
        · rename_i hro
          rw [if_pos hro]
          exact he12.imm x g4
        · rename_i hro
          rw [if_neg hro]
          exact ⟨fun h => by rw [hI2] at h; exact h.elim g4.1 (hbo b x hb), g4.2⟩
    · rw [hI2] at hx
      rcases hx with hx | hx
      · exact Nat.lt_of_lt_of_le (h4.wr.imm x hx) hgr.size
      · exact Nat.lt_of_lt_of_le (hown x hx).1 (Nat.le_trans h4.wr.size hgr.size)
    · rw [hI2] at hx
      rw [hI0]
      rcases hx with hx | hx
      · exact (h4.wr.imm0 x hx).imp .inl id
      · exact .inl (.inr hx)
  have hst2 : StR none E.G w.heap.size I0 w2 { s with fr := (putS (s.fr.set td .x) q.dst .x).set vs.length (.val false [.e (.v s.nv)]), nv := s.nv + 1 } L1 (ρ1 ++ [.sl s0 rows2]) I2 μ1 w2 ((a1.put p.dst v).put q.dst (.tuple #[])) := by
    refine ⟨?_, hwr2, ?_, by simp [h4.nv], h4.lv, ?_⟩
    · have f1 := h4.fr.mono he12 hpre
      have f2 : FR I2 μ1 w2 (ρ1 ++ [.sl s0 rows2]) (s.fr.set td .x) (a1.put p.dst v) := by
        rw [hpd]
        exact f1.put (s := .x) trivial (some td)
      have f3 : FR I2 μ1 w2 (ρ1 ++ [.sl s0 rows2]) (putS (s.fr.set td .x) q.dst .x) ((a1.put p.dst v).put q.dst (.tuple #[])) := f2.put (s := .x) trivial q.dst
      refine f3.set ⟨_, rfl, .sl s0 rows2, ?_, ?_⟩
      · simp only [Ex.eval]
        rw [← h4.nv]
        simp
      · rw [put_ne hne2, put_ne (by rw [hpd]; exact fun e => hne1 (Option.some.inj e)), hvv]
        exact hdr
    · show OwnR _ _ _ _ _ s.o
      rw [ho0]
      refine OwnR.nil fun k => h4.own.new k ?_
      rw [ho0]
      exact Nat.zero_le _
    · show DfR none _ _ _ s.q _
      rw [hq0, put_defers, put_defers, h4.df.low (by omega)]
      exact DfR.zero
  refine (exec_sound (C := C) (R := fun r => r = rs) (B := w.heap.size) (I₀ := I0) (w₀ := w2) hM n).1 none f rest _ (retGo E fn) ir2 L1 (ρ1 ++ [.sl s0 rows2]) I2 μ1 w2 _ _ hx2 (by simpa [leavesOf] using hw2) hst2 ?_
  intro e s2 ir3 L3 ρ3 I3 μ3 w3 a3 g1 g2 g3 g4 g5 g6
  obtain ⟨he, hdf, u, I4, rs', hres, hI4, hI40, hI4s, hR, hRs⟩ := ret_data g1 g2 g5
  subst hR
  have hfin : ∃ u' I', Ending.returned u = .returned u' ∧ (∀ x, I x → I' x) ∧ (∀ x, I' x → I x ∨ w.heap.size ≤ x ∨ v.ownBlock = some x) ∧ (∀ x, I' x → x < w3.heap.size) ∧ Gr w w3 v.ownBlock ∧ RsR I' w3 rs' u' := by
    refine ⟨u, I4, rfl, fun x hx => hI4 x (g6.imm x (he12.imm x (h5.imm x hx))), fun x hx => ?_, hI4s, ⟨g5.wr.wd.1.trans (hgr.os.trans h4.wr.wd.1), g5.wr.wd.2.trans (hgr.output.trans h4.wr.wd.2), g5.wr.size, fun k hk hne => ?_⟩, hRs⟩
    · rcases hI40 x hx with h | h
      · rw [hI0] at h
        exact h.elim .inl fun h => .inr (.inr h)
      · exact .inr (.inl h)
    · rw [g5.wr.old k hk, hgr.block k (Nat.lt_of_lt_of_le hk h4.wr.size) hne, h4.wr.old k hk]
  rcases he with rfl | rfl
  · exact ⟨hdf, u, hres, hfin⟩
  · exact ⟨hdf, u, hres, hfin⟩

end Go.Proofs.YtlihbielphcgbaaGreatDoor.Sx
