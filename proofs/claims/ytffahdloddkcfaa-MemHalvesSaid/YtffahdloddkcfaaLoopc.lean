/-
  Loops: the slices that grow, at the head and at the end of a round.
-/
import Derived.Test.YtffahdloddkcfaaExecb
namespace Go.Proofs.Ytffahdloddkcfaa.Sx
open Go
set_option linter.unnecessarySimpa false
set_option linter.unusedSimpArgs false
set_option linter.unusedVariables false

section
variable {B : Nat} {I : Imm} {μ : Mu} {w : World} {ρ ρ' : List D} {o : Own} {G : Glo} {I₀ : Imm} {w₀ : World} {h : Heap} {fr : List S} {a : Act}

theorem nodupB_sound : ∀ {l : List Nat}, nodupB l = true → l.Nodup
  | [], _ => List.nodup_nil
  | x :: r, h => by
    simp only [nodupB, Bool.and_eq_true, Bool.not_eq_true', List.contains_eq_mem, decide_eq_false_iff_not] at h
    exact List.nodup_cons.2 ⟨h.1, nodupB_sound h.2⟩

/-! ### what is forgotten -/

theorem forgetFr_length : ∀ (to : List Nat) (fr : List S), (forgetFr to fr).length = fr.length
  | [], fr => rfl
  | t :: r, fr => by simp [forgetFr, forgetFr_length r]

theorem FR.forget : ∀ (to : List Nat) {fr : List S}, FR I μ w ρ fr a → FR I μ w ρ (forgetFr to fr) a
  | [], fr, h => h
  | t :: r, fr, h => FR.forget r (h.set (s := .x) trivial)

theorem WR.set_leaf {b q : Nat} {blk : SB} {l : SL} (hW : WR G B I₀ w₀ I μ w ρ h) (hb : h[b]? = some blk) (hl : ∀ x vs ty v, μ b = some x → w.heap[x]? = some (.cells vs ty (0, 0)) → vs[q]? = some v → (∃ l', blk.ls[q]? = some l' ∧ LR I μ w ρ l' v) → LR I μ w ρ l v) :
    WR G B I₀ w₀ I μ w ρ (h.set b { blk with ls := blk.ls.set q l }) := by
  refine ⟨fun b' x hx => ?_, hW.inj, hW.glo, hW.old, hW.size, hW.imm, hW.imm0, hW.wd⟩
  obtain ⟨blk', h1, vs, ty, h2, h3, h4⟩ := hW.blk b' x hx
  by_cases hbb : b = b'
  · subst hbb
    rw [hb] at h1
    cases h1
    have hlt := (List.getElem?_eq_some_iff.1 hb).1
    refine ⟨{ blk with ls := blk.ls.set q l }, by simp [hlt], vs, ty, h2, ?_, h4⟩
    refine All2.of_get (by simpa using h3.length) fun i l' v hl' hv => ?_
    by_cases hqi : q = i
    · subst hqi
      have hql : q < blk.ls.length := by have := (List.getElem?_eq_some_iff.1 hl').1; simpa using this
      rw [List.getElem?_set_self hql] at hl'
      cases hl'
      refine hl x vs.toArray ty v hx h2 (by simpa using hv) ?_
      obtain ⟨l', hl', hr⟩ := h3.get' hv
      exact ⟨l', hl', hr⟩
    · rw [List.getElem?_set_ne hqi] at hl'
      obtain ⟨l'', hl'', hr⟩ := h3.get' hv
      rw [hl'] at hl''
      cases hl''
      exact hr
  · exact ⟨blk', by rw [List.getElem?_set_ne hbb]; exact h1, vs, ty, h2, h3, h4⟩

theorem forgetHp_length : ∀ (mo : List (Nat × Nat)) (h : Heap), (forgetHp mo h).length = h.length
  | [], h => rfl
  | (b, q) :: r, h => by
    simp only [forgetHp]
    rw [forgetHp_length r]
    split <;> simp

theorem WR.forget : ∀ (mo : List (Nat × Nat)) {h : Heap}, WR G B I₀ w₀ I μ w ρ h → WR G B I₀ w₀ I μ w ρ (forgetHp mo h)
  | [], h, hW => hW
  | (b, q) :: r, h, hW => by
    simp only [forgetHp]
    refine WR.forget r ?_
    split
    · rename_i blk hb
      exact hW.set_leaf hb fun x vs ty v _ _ _ ⟨l', _, hr⟩ => hr.one
    · exact hW

/-! ### what stands in the places -/

theorem optAll_length {α : Type} : ∀ {l : List (Option α)} {r : List α}, optAll l = some r → r.length = l.length := fun h => by rw [optAll_get h]; simp

structure Heads (B : Nat) (I : Imm) (μ : Mu) (w : World) (ρ : List D) (o : Own) (pl : List SL) (es : List Ex) (ks : List Nat) (hd : List Value) : Prop where
  len : hd.length = pl.length
  lene : es.length = pl.length
  val : ∀ (i : Nat) (l : SL) (v : Value), pl[i]? = some l → LR I μ w ρ l v → hd[i]? = some v
  own : ∀ (i : Nat) (e : Ex) (v : Value), es[i]? = some e → hd[i]? = some v → ∃ s rows, e.eval ρ = some (.sl s rows) ∧ OwnV B I w s rows v
  blk : ∀ (i : Nat) (v : Value) (x : Nat), hd[i]? = some v → v.ownBlock = some x → ∃ k t, k ∈ ks ∧ o[k]? = some ⟨t, .live⟩ ∧ μ.v k = some v
  dis : ∀ (i j : Nat) (v v' : Value) (x : Nat), i ≠ j → hd[i]? = some v → hd[j]? = some v' → v.ownBlock = some x → v'.ownBlock ≠ some x

theorem Heads.slice {pl : List SL} {es : List Ex} {ks : List Nat} {hd : List Value} (H : Heads B I μ w ρ o pl es ks hd) {i : Nat} {v : Value} (hv : hd[i]? = some v) : ∃ b n c, v = .slice b n c := by
  have hil : i < hd.length := (List.getElem?_eq_some_iff.1 hv).1
  obtain ⟨e, he⟩ : ∃ e, es[i]? = some e := ⟨_, List.getElem?_eq_getElem (by rw [H.lene, ← H.len]; exact hil)⟩
  obtain ⟨s, rows, _, hV⟩ := H.own i e v he hv
  obtain ⟨b, c, h⟩ := hV.slice
  exact ⟨b, _, c, h⟩

theorem heads_of (hO : OwnR B I μ w ρ o) : ∀ {pl : List SL} {es : List Ex} {ks : List Nat}, placeO o pl = some (es, ks) → ks.Nodup → ∃ hd, Heads B I μ w ρ o pl es ks hd
  | [], es, ks, h, _ => by
    simp [placeO] at h
    obtain ⟨rfl, rfl⟩ := h
    exact ⟨[], rfl, rfl, fun i l v h => by simp at h, fun i e v h => by simp at h, fun i v x h => by simp at h, fun i j v v' x _ h => by simp at h⟩
  | .g k :: r, es, ks, h, hn => by
    simp only [placeO] at h
    split at h
    · rename_i t es' ks' hk hr
      simp only [Option.some.injEq, Prod.mk.injEq] at h
      obtain ⟨rfl, rfl⟩ := h
      obtain ⟨hkn, hn'⟩ := List.nodup_cons.1 hn
      obtain ⟨hd, H⟩ := heads_of hO hr hn'
      have hk := live?_some hk
      obtain ⟨v0, s, rows, h1, h2, h3⟩ := hO.live k t hk
      refine ⟨v0 :: hd, by simp [H.len], by simp [H.lene], fun i l v hi hl => ?_, fun i e v hi hv => ?_, fun i v x hi hx => ?_, fun i j v v' x hij hi hj hx => ?_⟩
      · cases i with
        | zero =>
          simp at hi
          subst hi
          obtain ⟨b, n, c, _, hv⟩ := hl
          rw [h1] at hv
          simpa using hv
        | succ i => simpa using H.val i l v (by simpa using hi) hl
      · cases i with
        | zero =>
          simp at hi hv
          subst hi
          subst hv
          exact ⟨s, rows, h2, h3⟩
        | succ i => exact H.own i e v (by simpa using hi) (by simpa using hv)
      · cases i with
        | zero =>
          simp at hi
          subst hi
          exact ⟨k, t, by simp, hk, h1⟩
        | succ i =>
          obtain ⟨k', t', h4, h5⟩ := H.blk i v x (by simpa using hi) hx
          exact ⟨k', t', by simp [h4], h5⟩
      · cases i with
        | zero =>
          cases j with
          | zero => exact absurd rfl hij
          | succ j =>
            simp at hi hj
            subst hi
            intro hx'
            obtain ⟨k', t', h4, h5, h6⟩ := H.blk j v' x hj hx'
            exact (hO.dis k t v0 x hk h1 hx).2 k' t' v' (fun e => hkn (e ▸ h4)) h5 h6 hx'
        | succ i =>
          cases j with
          | zero =>
            simp at hi hj
            subst hj
            intro hx'
            obtain ⟨k', t', h4, h5, h6⟩ := H.blk i v x hi hx
            exact (hO.dis k t v0 x hk h1 hx').2 k' t' v (fun e => hkn (e ▸ h4)) h5 h6 hx
          | succ j => exact H.dis i j v v' x (fun e => hij (by rw [e])) (by simpa using hi) (by simpa using hj) hx
    · cases h
  | .e t :: r, es, ks, h, hn => by
    have ht : t = .c (.sl 0 []) := by
      unfold placeO at h
      split at h <;> simp_all
    subst ht
    simp only [placeO] at h
    split at h
    · rename_i es' ks' hr
      simp only [Option.some.injEq, Prod.mk.injEq] at h
      obtain ⟨rfl, rfl⟩ := h
      obtain ⟨hd, H⟩ := heads_of hO hr hn
      refine ⟨.slice none 0 0 :: hd, by simp [H.len], by simp [H.lene], fun i l v hi hl => ?_, fun i e v hi hv => ?_, fun i v x hi hx => ?_, fun i j v v' x hij hi hj hx => ?_⟩
      · cases i with
        | zero =>
          simp at hi
          subst hi
          obtain ⟨d, hd, hr⟩ := hl
          simp only [Ex.eval] at hd
          cases hd
          cases hr with
          | nil _ p cap hz => obtain ⟨rfl, rfl⟩ := hz rfl; rfl
          | sl _ _ _ _ _ _ h0 => omega
        | succ i => simpa using H.val i l v (by simpa using hi) hl
      · cases i with
        | zero =>
          simp at hi hv
          subst hi
          subst hv
          exact ⟨0, [], by simp [Ex.eval], (fun r hr => by cases hr), .inl ⟨rfl, rfl⟩⟩
        | succ i => exact H.own i e v (by simpa using hi) (by simpa using hv)
      · cases i with
        | zero => simp at hi; subst hi; simp [Value.ownBlock] at hx
        | succ i => exact H.blk i v x (by simpa using hi) hx
      · cases i with
        | zero => simp at hi; subst hi; simp [Value.ownBlock] at hx
        | succ i =>
          cases j with
          | zero => simp at hj; subst hj; simp [Value.ownBlock]
          | succ j => exact H.dis i j v v' x (fun e => hij (by rw [e])) (by simpa using hi) (by simpa using hj) hx
    · cases h
  | .x :: r, es, ks, h, _ => by simp [placeO] at h
  | .p .. :: r, es, ks, h, _ => by simp [placeO] at h
  | .dyn .. :: r, es, ks, h, _ => by simp [placeO] at h
  | .elt .. :: r, es, ks, h, _ => by simp [placeO] at h
  | .sc .. :: r, es, ks, h, _ => by simp [placeO] at h
  | .ge .. :: r, es, ks, h, _ => by simp [placeO] at h
  | .clo .. :: r, es, ks, h, _ => by simp [placeO] at h

/-! ### new slices in the places -/

/-- what the slices are at the head: the elder ones as they are, new ones -/
def Mu.bind (μ : Mu) (p : Nat → Bool) (base : Nat) (hd : List Value) : Mu := { m := fun b => if p b = true then μ b else none, v := fun k => if k < base then μ.v k else hd[k - base]? }

theorem evo_bind {p : Nat → Bool} {base : Nat} {hd : List Value} : Evo I (μ.res p fun k => decide (k < base)) w I (μ.bind p base hd) w :=
  ⟨fun _ h => h, fun _ _ => rfl, fun b x hb => by simpa [Mu.res, Mu.bind] using hb, fun k v hk => by
    simp only [Mu.res, decide_eq_true_eq] at hk
    split at hk
    · rename_i hlt; simp only [Mu.bind, if_pos hlt]; exact hk
    · cases hk⟩

theorem bindFr_length : ∀ (to : List Nat) (k : Nat) (fr : List S), (bindFr to k fr).length = fr.length
  | [], _, fr => rfl
  | t :: r, k, fr => by simp [bindFr, bindFr_length r]

theorem FR.bind : ∀ (to : List Nat) {k : Nat} {fr : List S}, FR I μ w ρ fr a → (∀ (i t : Nat), to[i]? = some t → ∃ b n c, a.tmps.getD t undef = .slice b n c ∧ μ.v (k + i) = some (.slice b n c)) → FR I μ w ρ (bindFr to k fr) a
  | [], k, fr, h, _ => h
  | t :: r, k, fr, h, hp => by
    refine FR.bind r (h.set (s := .val false [.g k]) ?_) fun i t' hi => ?_
    · obtain ⟨b, n, c, h1, h2⟩ := hp 0 t (by simp)
      exact ⟨_, rfl, b, n, c, h1, h1 ▸ h2⟩
    · have := hp (i + 1) t' (by simpa using hi)
      rwa [show k + (i + 1) = k + 1 + i from by omega] at this

theorem WR.bind : ∀ (mo : List (Nat × Nat)) {k : Nat} {h : Heap}, WR G B I₀ w₀ I μ w ρ h → (∀ (i b q x : Nat) (vs : Array Value) (ty : TypeId) (v : Value), mo[i]? = some (b, q) → μ b = some x → w.heap[x]? = some (.cells vs ty (0, 0)) → vs[q]? = some v → ∃ b n c, v = .slice b n c ∧ μ.v (k + i) = some v) →
    WR G B I₀ w₀ I μ w ρ (bindHp mo k h)
  | [], k, h, hW, _ => hW
  | (b, q) :: r, k, h, hW, hp => by
    simp only [bindHp]
    refine WR.bind r ?_ fun i b' q' x vs ty v hi h1 h2 h3 => ?_
    · split
      · rename_i blk hb
        refine hW.set_leaf hb fun x vs ty v h1 h2 h3 _ => ?_
        obtain ⟨b', n, c, h4, h5⟩ := hp 0 b q x vs ty v (by simp) h1 h2 h3
        exact ⟨b', n, c, h4, h5⟩
      · exact hW
    · have := hp (i + 1) b' q' x vs ty v (by simpa using hi) h1 h2 h3
      rwa [show k + (i + 1) = k + 1 + i from by omega] at this

/-- what is held at the head is what is held here -/
def HeadRel (ρ ρ' : List D) (H o : Own) (base : Nat) : Prop := ∀ (k : Nat) (os : OS), k < base → H[k]? = some os → os.st = .dead ∨ ∃ os' : OS, o[k]? = some os' ∧ os'.st = os.st ∧ ∀ d, os'.t.eval ρ = some d → os.t.eval ρ' = some d

theorem OwnR.bind {H : Own} {base nv : Nat} {pl : List SL} {es : List Ex} {ks : List Nat} {hd : List Value} {p : Nat → Bool} (hO : OwnR B I μ w ρ o) (hH : Heads B I μ w ρ o pl es ks hd) (hlen : H.length = base + pl.length)
    (hrel : HeadRel ρ ρ' H o base) (hks : ∀ k ∈ ks, k < base → ∀ os, H[k]? = some os → os.st = .dead) (hnew : ∀ (i : Nat) (os : OS), H[base + i]? = some os → os = ⟨.v (nv + i), .live⟩)
    (hval : ∀ (i : Nat) (e : Ex) (d : D), es[i]? = some e → e.eval ρ = some d → ρ'[nv + i]? = some d) : OwnR B I (μ.bind p base hd) w ρ' H := by
  have hvo : ∀ {k : Nat}, k < base → (μ.bind p base hd).v k = μ.v k := fun hk => by simp [Mu.bind, hk]
  have hvn : ∀ {i : Nat}, (μ.bind p base hd).v (base + i) = hd[i]? := fun {i} => by
    simp only [Mu.bind]
    rw [if_neg (by omega)]
    simp
  have hmo : ∀ {b x : Nat}, (μ.bind p base hd) b = some x → μ b = some x := fun {b x} hb => by
    simp only [Mu.bind] at hb
    split at hb
    · exact hb
    · cases hb
  have hcase : ∀ (k : Nat), k < base ∨ ∃ i, k = base + i := fun k => by
    rcases Nat.lt_or_ge k base with h | h
    · exact .inl h
    · exact .inr ⟨k - base, by omega⟩
  have hlive : ∀ {k : Nat} {t : Ex}, k < base → H[k]? = some ⟨t, .live⟩ → k ∉ ks ∧ ∃ t', o[k]? = some ⟨t', .live⟩ ∧ ∀ d, t'.eval ρ = some d → t.eval ρ' = some d := by
    intro k t hk hH'
    refine ⟨fun hm => ?_, ?_⟩
    · have := hks k hm hk _ hH'
      cases this
    · rcases hrel k _ hk hH' with h | ⟨⟨t', st'⟩, h1, h2, h3⟩
      · cases h
      · simp only at h2
        subst h2
        exact ⟨t', h1, h3⟩
  refine ⟨fun k t hk => ?_, fun k t hk => ?_, fun k t v x hk hv hx => ?_, fun k hk => ?_⟩
  · rcases hcase k with hlt | ⟨i, rfl⟩
    · obtain ⟨_, t', h1, h2⟩ := hlive hlt hk
      obtain ⟨v, s, rows, h3, h4, h5⟩ := hO.live k t' h1
      exact ⟨v, s, rows, by rw [hvo hlt]; exact h3, h2 _ h4, h5⟩
    · have := hnew i _ hk
      cases this
      have hil : i < pl.length := by have := (List.getElem?_eq_some_iff.1 hk).1; omega
      obtain ⟨v, hv⟩ : ∃ v, hd[i]? = some v := ⟨_, List.getElem?_eq_getElem (by rw [hH.len]; exact hil)⟩
      obtain ⟨e, he⟩ : ∃ e, es[i]? = some e := ⟨_, List.getElem?_eq_getElem (by rw [hH.lene]; exact hil)⟩
      obtain ⟨s, rows, h1, h2⟩ := hH.own i e v he hv
      exact ⟨v, s, rows, by rw [hvn]; exact hv, by simp only [Ex.eval]; exact hval i e _ he h1, h2⟩
  · rcases hcase k with hlt | ⟨i, rfl⟩
    · rcases hrel k _ hlt hk with h | ⟨⟨t', st'⟩, h1, h2, h3⟩
      · cases h
      · simp only at h2
        subst h2
        obtain ⟨v, d, h4, h5, h6⟩ := hO.frozen k t' h1
        exact ⟨v, d, by rw [hvo hlt]; exact h4, h3 _ h5, h6⟩
    · have := hnew i _ hk
      cases this
  · rcases hcase k with hlt | ⟨i, rfl⟩
    · obtain ⟨hkn, t', h1, _⟩ := hlive hlt hk
      rw [hvo hlt] at hv
      obtain ⟨h2, h3⟩ := hO.dis k t' v x h1 hv hx
      refine ⟨fun b hb => h2 b (hmo hb), fun k' t'' v' hne hk' hv' => ?_⟩
      rcases hcase k' with hlt' | ⟨j, rfl⟩
      · obtain ⟨_, t3, h4, _⟩ := hlive hlt' hk'
        rw [hvo hlt'] at hv'
        exact h3 k' t3 v' hne h4 hv'
      · rw [hvn] at hv'
        intro hx'
        obtain ⟨k2, t2, h4, h5, h6⟩ := hH.blk j v' x hv' hx'
        exact h3 k2 t2 v' (fun e => hkn (e ▸ h4)) h5 h6 hx'
    · rw [hvn] at hv
      obtain ⟨k1, t1, h1, h2, h3⟩ := hH.blk i v x hv hx
      obtain ⟨h4, h5⟩ := hO.dis k1 t1 v x h2 h3 hx
      refine ⟨fun b hb => h4 b (hmo hb), fun k' t'' v' hne hk' hv' => ?_⟩
      rcases hcase k' with hlt' | ⟨j, rfl⟩
      · obtain ⟨hkn, t3, h6, _⟩ := hlive hlt' hk'
        rw [hvo hlt'] at hv'
        exact h5 k' t3 v' (fun e => hkn (e ▸ h1)) h6 hv'
      · rw [hvn] at hv'
        exact hH.dis i j v v' x (fun e => hne (by rw [e])) hv hv' hx
  · have : ¬ k < base := by omega
    simp only [Mu.bind, if_neg this]
    rw [List.getElem?_eq_none (by rw [hH.len]; omega)]

/-! ### what the lists say -/

theorem diffO_nil {ks : List Nat} : ∀ {as bs : Own} {k : Nat}, diffO ks k as bs = some [] → ∀ (i : Nat) (os : OS), as[i]? = some os → ∃ os' : OS, bs[i]? = some os' ∧ os.st = os'.st ∧ (os.st = .dead ∨ (k + i) ∈ ks ∨ os.t = os'.t)
  | [], bs, k, h, i, os, hi => by simp at hi
  | _ :: _, [], k, h, _, _, _ => by simp [diffO] at h
  | a :: as, b :: bs, k, h, i, os, hi => by
    simp only [diffO] at h
    split at h
    · rename_i l hl
      split at h
      · rename_i hst
        split at h
        · rename_i hc
          cases h
          cases i with
          | zero =>
            simp at hi
            subst hi
            refine ⟨b, by simp, hst, ?_⟩
            simp only [Bool.or_eq_true, decide_eq_true_eq, List.contains_iff_mem] at hc
            rcases hc with (h | h) | h
            · exact .inl h
            · exact .inr (.inl h)
            · exact .inr (.inr (Ex.same_eq h))
          | succ i =>
            have := diffO_nil hl i os (by simpa using hi)
            simpa [Nat.add_assoc, Nat.add_comm 1 i] using this
        · cases h
      · split at h
        · cases h
        · cases h
    · cases h

theorem headO_length {o : Own} {ids ks : List Nat} {nv m : Nat} : (headO o ids ks nv m).length = o.length + m := by simp [headO]

theorem headO_old {o : Own} {ids ks : List Nat} {nv m k : Nat} {os : OS} (hk : k < o.length) (h : (headO o ids ks nv m)[k]? = some os) :
    ∃ os0, o[k]? = some os0 ∧ ((k ∈ ids ∧ os.st = .dead) ∨ (k ∉ ids ∧ ∃ i, ks[i]? = some k ∧ os = { os0 with t := .v (nv + m + i) }) ∨ (k ∉ ids ∧ k ∉ ks ∧ os = os0)) := by
  unfold headO at h
  rw [List.getElem?_append_left (by simpa using hk), List.getElem?_mapIdx] at h
  obtain ⟨os0, h0, h1⟩ := Option.map_eq_some_iff.1 h
  refine ⟨os0, h0, ?_⟩
  by_cases hm : k ∈ ids
  · simp [hm] at h1
    subst h1
    exact .inl ⟨hm, rfl⟩
  · simp only [List.contains_iff_mem, hm, if_false] at h1
    split at h1
    · rename_i i hi
      refine .inr (.inl ⟨hm, i, ?_, h1.symm⟩)
      obtain ⟨h2, h3, _⟩ := List.idxOf?_eq_some_iff.1 hi
      rw [List.getElem?_eq_getElem h2]
      simpa using h3
    · rename_i hi
      exact .inr (.inr ⟨hm, by simpa using hi, h1.symm⟩)

theorem headO_new {o : Own} {ids ks : List Nat} {nv m i : Nat} {os : OS} (h : (headO o ids ks nv m)[o.length + i]? = some os) : os = ⟨.v (nv + i), .live⟩ := by
  unfold headO at h
  rw [List.getElem?_append_right (by simp)] at h
  simp only [List.length_mapIdx, Nat.add_sub_cancel_left, List.getElem?_map] at h
  obtain ⟨j, hj, rfl⟩ := Option.map_eq_some_iff.1 h
  have : i < m := by have := (List.getElem?_eq_some_iff.1 hj).1; simpa using this
  rw [List.getElem?_range this] at hj
  cases hj
  rfl

/-- ALL AT THE HEAD. -/
theorem bind_all {gn : GN} {env : List D} {gfr : List S} {gh : Heap} {H : Own} {base nv : Nat} {pl : List SL} {es : List Ex} {ids : List Nat} {p : Nat → Bool}
    (hF : FR I (μ.res p fun k => decide (k < base)) w env gfr a) (hG : WR G B I₀ w₀ I (μ.res p fun k => decide (k < base)) w env gh) (hF0 : FR I μ w ρ fr a) (hW0 : WR G B I₀ w₀ I μ w ρ h) (hO : OwnR B I μ w ρ o)
    (hpl : placeLs gn fr h = some pl) (hpo : placeO o pl = some (es, ids)) (hnd : ids.Nodup) (hl : pl.length = gn.to.length + gn.mo.length) (hlen : H.length = base + pl.length) (hrel : HeadRel ρ env H o base)
    (hks : ∀ k ∈ ids, k < base → ∀ os, H[k]? = some os → os.st = .dead) (hnew : ∀ (i : Nat) (os : OS), H[base + i]? = some os → os = ⟨.v (nv + i), .live⟩) (hval : ∀ (i : Nat) (e : Ex) (d : D), es[i]? = some e → e.eval ρ = some d → env[nv + i]? = some d) :
    ∃ μ2, FR I μ2 w env (bindFr gn.to base gfr) a ∧ WR G B I₀ w₀ I μ2 w env (bindHp gn.mo (base + gn.to.length) gh) ∧ OwnR B I μ2 w env H ∧ Evo I (μ.res p fun k => decide (k < base)) w I μ2 w := by
  obtain ⟨hd, HH⟩ := heads_of hO hpo hnd
  have he := evo_bind (I := I) (w := w) (μ := μ) (p := p) (base := base) (hd := hd)
  unfold placeLs at hpl
  split at hpl
  · rename_i a1 b1 ha hb
    cases hpl
    have hal : a1.length = gn.to.length := by have := optAll_length ha; simpa using this
    have hbl : b1.length = gn.mo.length := by have := optAll_length hb; simpa using this
    have ha' := optAll_get ha
    have hb' := optAll_get hb
    refine ⟨μ.bind p base hd, FR.bind gn.to (hF.mono he (List.prefix_refl _)) fun i t hi => ?_, WR.bind gn.mo ?_ fun i b q x vs ty v hi h1 h2 h3 => ?_, hO.bind HH hlen hrel hks hnew hval, he⟩
    · have hil : i < gn.to.length := (List.getElem?_eq_some_iff.1 hi).1
      obtain ⟨l, hla⟩ : ∃ l, a1[i]? = some l := ⟨_, List.getElem?_eq_getElem (by omega)⟩
      have h1 : (gn.to.map fun t => (fr.getD t .x).l?)[i]? = some (some l) := by rw [ha', List.getElem?_map, hla]; rfl
      rw [List.getElem?_map, hi] at h1
      simp only [Option.map_some, Option.some.injEq] at h1
      have hlr := l?_sound h1 (hF0.at_ t)
      have hv := HH.val i l _ (by rw [List.getElem?_append_left (by omega)]; exact hla) hlr
      obtain ⟨b, n, c, hs⟩ := HH.slice hv
      refine ⟨b, n, c, hs, ?_⟩
      simp only [Mu.bind]
      rw [if_neg (by omega), show base + i - base = i from by omega, hv, hs]
    · obtain ⟨hW2, _⟩ : WR G B I₀ w₀ I (μ.bind p base hd) w env gh ∧ True := by
        refine ⟨⟨fun b x hx => ?_, fun b b' x h1 h2 => hG.inj b b' x h1 h2, hG.glo, hG.old, hG.size, hG.imm, hG.imm0, hG.wd⟩, trivial⟩
        obtain ⟨blk, h1, vs, ty, h2, h3, h4⟩ := hG.blk b x hx
        exact ⟨blk, h1, vs, ty, h2, h3.imp fun _ _ hr => hr.mono he (List.prefix_refl _), h4⟩
      exact hW2
    · have hil : i < gn.mo.length := (List.getElem?_eq_some_iff.1 hi).1
      obtain ⟨l, hlb⟩ : ∃ l, b1[i]? = some l := ⟨_, List.getElem?_eq_getElem (by omega)⟩
      have h4 : (gn.mo.map fun p => (h[p.1]?).bind (·.ls[p.2]?))[i]? = some (some l) := by rw [hb', List.getElem?_map, hlb]; rfl
      rw [List.getElem?_map, hi] at h4
      simp only [Option.map_some, Option.some.injEq] at h4
      obtain ⟨blk, h5, h6⟩ := Option.bind_eq_some_iff.1 h4
      have h1' : μ b = some x := by
        simp only [Mu.bind] at h1
        split at h1
        · exact h1
        · cases h1
      obtain ⟨blk', h7, vs', ty', h8, h9, _⟩ := hW0.blk b x h1'
      rw [h5] at h7
      cases h7
      rw [h2] at h8
      cases h8
      obtain ⟨v', h10, h11⟩ := h9.get h6
      have : v' = v := by
        have h3' : vs'[q]? = some v := by simpa using h3
        rw [h10] at h3'
        cases h3'
        rfl
      subst this
      have hv := HH.val (gn.to.length + i) l v' (by rw [List.getElem?_append_right (by omega), hal, Nat.add_sub_cancel_left]; exact hlb) h11
      obtain ⟨b', n, c, hs⟩ := HH.slice hv
      refine ⟨b', n, c, hs, ?_⟩
      simp only [Mu.bind]
      rw [if_neg (by omega), show base + gn.to.length + i - base = gn.to.length + i from by omega]
      exact hv
  · cases hpl

end
end Go.Proofs.Ytffahdloddkcfaa.Sx
