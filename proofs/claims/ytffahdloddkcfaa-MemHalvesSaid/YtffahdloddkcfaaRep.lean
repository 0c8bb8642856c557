/-
  What the executor's words say of the machine's: data, leaves, values, blocks, worlds.
-/
import Derived.Test.YtffahdloddkcfaaSym
import Derived.Laws.CopyRow
namespace Go.Proofs.Ytffahdloddkcfaa.Sx
open Go
set_option linter.unnecessarySimpa false
set_option linter.unusedSimpArgs false
set_option linter.unusedVariables false

/-- Two lists, place by place. -/
inductive All2 {α β : Type} (R : α → β → Prop) : List α → List β → Prop
  | nil : All2 R [] []
  | cons {a b as bs} : R a b → All2 R as bs → All2 R (a :: as) (b :: bs)

section
variable {α β γ : Type} {R R' : α → β → Prop}
theorem All2.imp {as : List α} {bs : List β} (h : All2 R as bs) (hi : ∀ a b, R a b → R' a b) : All2 R' as bs := by
  induction h with
  | nil => exact .nil
  | cons h _ ih => exact .cons (hi _ _ h) ih
theorem All2.length {as : List α} {bs : List β} (h : All2 R as bs) : as.length = bs.length := by
  induction h with
  | nil => rfl
  | cons _ _ ih => simp [ih]
theorem All2.get {as : List α} {bs : List β} (h : All2 R as bs) : ∀ {i : Nat} {a : α}, as[i]? = some a → ∃ b, bs[i]? = some b ∧ R a b := by
  induction h with
  | nil => intro i a h; simp at h
  | cons h _ ih =>
    intro i a hi
    cases i with
    | zero => simp at hi; subst hi; exact ⟨_, by simp, h⟩
    | succ i => simpa using ih (by simpa using hi)
theorem All2.get' {as : List α} {bs : List β} (h : All2 R as bs) : ∀ {i : Nat} {b : β}, bs[i]? = some b → ∃ a, as[i]? = some a ∧ R a b := by
  induction h with
  | nil => intro i a h; simp at h
  | cons h _ ih =>
    intro i a hi
    cases i with
    | zero => simp at hi; subst hi; exact ⟨_, by simp, h⟩
    | succ i => simpa using ih (by simpa using hi)
theorem All2.of_get : ∀ {as : List α} {bs : List β}, as.length = bs.length → (∀ (i : Nat) (a : α) (b : β), as[i]? = some a → bs[i]? = some b → R a b) → All2 R as bs
  | [], [], _, _ => .nil
  | a :: as, b :: bs, hl, h => .cons (h 0 a b (by simp) (by simp)) (All2.of_get (by simpa using hl) fun i a b ha hb => h (i + 1) a b (by simpa using ha) (by simpa using hb))
  | [], _ :: _, hl, _ => by simp at hl
  | _ :: _, [], hl, _ => by simp at hl
theorem All2.append {as as' : List α} {bs bs' : List β} (h : All2 R as bs) (h' : All2 R as' bs') : All2 R (as ++ as') (bs ++ bs') := by
  induction h with
  | nil => exact h'
  | cons h _ ih => exact .cons h ih
theorem All2.take {as : List α} {bs : List β} (h : All2 R as bs) : ∀ n, All2 R (as.take n) (bs.take n) := by
  induction h with
  | nil => intro n; simp; exact .nil
  | cons h _ ih =>
    intro n
    cases n with
    | zero => simp; exact .nil
    | succ n => simp; exact .cons h (ih n)
theorem All2.drop {as : List α} {bs : List β} (h : All2 R as bs) : ∀ n, All2 R (as.drop n) (bs.drop n) := by
  induction h with
  | nil => intro n; simp; exact .nil
  | cons h ht ih =>
    intro n
    cases n with
    | zero => simp; exact .cons h ht
    | succ n => simpa using ih n
theorem All2.replicate {a : α} {b : β} (h : R a b) : ∀ n, All2 R (List.replicate n a) (List.replicate n b)
  | 0 => .nil
  | n + 1 => by simp only [List.replicate_succ]; exact .cons h (All2.replicate h n)
theorem All2.map_left {f : γ → α} : ∀ {cs : List γ} {bs : List β}, All2 (fun c b => R (f c) b) cs bs → All2 R (cs.map f) bs := by
  intro cs bs h
  induction h with
  | nil => exact .nil
  | cons h _ ih => exact .cons h ih
theorem All2.of_map_left {f : γ → α} : ∀ {cs : List γ} {bs : List β}, All2 R (cs.map f) bs → All2 (fun c b => R (f c) b) cs bs
  | [], [], _ => .nil
  | _ :: _, _ :: _, .cons h t => .cons h (All2.of_map_left t)
  | [], _ :: _, h => by cases h
  | _ :: _, [], h => by cases h
end

abbrev Imm := Nat → Prop
/-- where the call's own blocks stand, and what the slices that grow are -/
structure Mu where
  m : Nat → Option Nat
  v : Nat → Option Value
instance : CoeFun Mu (fun _ => Nat → Option Nat) := ⟨Mu.m⟩

/-- A value in memory reads as data; the blocks of its slices are among I. -/
inductive DR (I : Imm) (w : World) : D → Value → Prop
  | b (x : Bool) : DR I w (.b x) (.bool x)
  | i (k : IntKind) (n : Int) : DR I w (.i k n) (.int k n)
  | s (x : ByteArray) : DR I w (.s x) (.string x)
  | f (g : FuncId) : DR I w (.f g) (.func (.func g) #[] #[])
  | nil (sz : Nat) (p : Option Addr) (cap : Nat) (hz : sz = 0 → p = none ∧ cap = 0) : DR I w (.sl sz []) (.slice p 0 cap)
  | sl (sz : Nat) (xs : List (List D)) (blk off cap : Nat) (vs : Nat → Nat → Value) (hpos : 0 < sz)
      (hw : ∀ r ∈ xs, r.length = sz) (hcap : xs.length ≤ cap) (hI : I blk)
      (hc : ∀ i r j d, xs[i]? = some r → r[j]? = some d → w.cell? ⟨blk, off + (i * sz + j), none⟩ = some (vs i j))
      (hd : ∀ i r j d, xs[i]? = some r → r[j]? = some d → DR I w d (vs i j)) :
      DR I w (.sl sz xs) (.slice (some ⟨blk, off, none⟩) xs.length cap)

theorem cell_same {w w' : World} {b : Nat} (h : w'.heap[b]? = w.heap[b]?) (o : Nat) : w'.cell? ⟨b, o, none⟩ = w.cell? ⟨b, o, none⟩ := by
  simp [World.cell?, h]

theorem DR.mono {I I' : Imm} {w w' : World} {d : D} {v : Value} (h : DR I w d v) (hI : ∀ x, I x → I' x) (hw : ∀ x, I x → w'.heap[x]? = w.heap[x]?) : DR I' w' d v := by
  induction h with
  | b x => exact .b x
  | i k n => exact .i k n
  | s x => exact .s x
  | f g => exact .f g
  | nil sz p cap hz => exact .nil sz p cap hz
  | sl sz xs blk off cap vs h0 h1 h2 h3 h4 _ ih =>
    exact .sl sz xs blk off cap vs h0 h1 h2 (hI _ h3) (fun i r j d hi hj => by rw [cell_same (hw _ h3)]; exact h4 i r j d hi hj) ih

theorem DR.one {I : Imm} {w : World} {d : D} {v : Value} (h : DR I w d v) : v.oneCell' = true := by cases h <;> rfl

def BRef (μ : Mu) : BR → Option Nat
  | .loc n => μ n
  | .glo g => some g

/-- A leaf. -/
def LR (I : Imm) (μ : Mu) (w : World) (ρ : List D) : SL → Value → Prop
  | .x, v => v.oneCell' = true
  | .e t, v => ∃ d, t.eval ρ = some d ∧ DR I w d v
  | .p r off, v => ∃ x, BRef μ r = some x ∧ v = .pointer (some ⟨x, off, none⟩)
  | .dyn r base sz n i j, v => ∃ x k m, BRef μ r = some x ∧ i.eval ρ = some (.i k m) ∧ 0 ≤ m ∧ m < n ∧ v = .pointer (some ⟨x, base + (m.toNat * sz + j), none⟩)
  | .elt t i n j, v => ∃ xs k m r blk off, t.eval ρ = some (.sl n xs) ∧ i.eval ρ = some (.i k m) ∧ 0 ≤ m ∧ xs[m.toNat]? = some r ∧ r.length = n ∧
      v = .pointer (some ⟨blk, off + j, none⟩) ∧ I blk ∧ ∀ q d, r[q]? = some d → ∃ u, w.cell? ⟨blk, off + q, none⟩ = some u ∧ DR I w d u
  | .sc r base _ n, v => ∃ x cap, BRef μ r = some x ∧ v = .slice (some ⟨x, base, none⟩) n cap
  | .g k, v => ∃ b n c, v = .slice b n c ∧ μ.v k = some v
  | .ge k i sz j, v => ∃ x n cap kk m, μ.v k = some (.slice (some ⟨x, 0, none⟩) n cap) ∧ i.eval ρ = some (.i kk m) ∧ 0 ≤ m ∧ m < n ∧ v = .pointer (some ⟨x, m.toNat * sz + j, none⟩)
  | .gs k sz lo, v => ∃ b n cap kk m p c, μ.v k = some (.slice b n cap) ∧ lo.eval ρ = some (.i kk m) ∧ 0 ≤ m ∧ m ≤ n ∧ v = .slice p (n - m.toNat) c ∧ (m < n → ∃ x, b = some ⟨x, 0, none⟩ ∧ p = some ⟨x, m.toNat * sz, none⟩)
  | .clo f caps, v => ∃ vs : List Value, v = .func (.func f) #[] vs.toArray ∧
      All2 (fun (c : BR × Nat) u => ∃ x, BRef μ c.1 = some x ∧ u = .pointer (some ⟨x, c.2, none⟩)) caps vs

theorem LR.one {I : Imm} {μ : Mu} {w : World} {ρ : List D} {l : SL} {v : Value} (h : LR I μ w ρ l v) : v.oneCell' = true := by
  cases l with
  | x => exact h
  | e t => obtain ⟨d, _, h⟩ := h; exact h.one
  | p r off => obtain ⟨x, _, rfl⟩ := h; rfl
  | dyn r base sz n i j => obtain ⟨x, k, m, _, _, _, _, rfl⟩ := h; rfl
  | elt t i n j => obtain ⟨xs, k, m, r, blk, off, _, _, _, _, _, rfl, _⟩ := h; rfl
  | sc r base sz n => obtain ⟨x, cap, _, rfl⟩ := h; rfl
  | g k => obtain ⟨b, n, c, rfl, _⟩ := h; rfl
  | ge k i sz j => obtain ⟨x, n, cap, kk, m, _, _, _, _, rfl⟩ := h; rfl
  | gs k sz lo => obtain ⟨b, n, cap, kk, m, p, c, _, _, _, _, rfl, _⟩ := h; rfl
  | clo f caps => obtain ⟨vs, rfl, _⟩ := h; rfl

abbrev LsR (I : Imm) (μ : Mu) (w : World) (ρ : List D) (ls : List SL) (vs : List Value) : Prop := All2 (LR I μ w ρ) ls vs

/-- A value: one cell, or many. -/
def VR (I : Imm) (μ : Mu) (w : World) (ρ : List D) (g : Bool) (ls : List SL) (v : Value) : Prop :=
  if g then ∃ vs : List Value, v = .agg vs.toArray ∧ LsR I μ w ρ ls vs else ∃ l, ls = [l] ∧ LR I μ w ρ l v

def SR (I : Imm) (μ : Mu) (w : World) (ρ : List D) : S → Value → Prop
  | .x, _ => True
  | .u, v => v = undef
  | .val g ls, v => VR I μ w ρ g ls v
  | .tup xs, v => ∃ vs : List Value, v = .tuple vs.toArray ∧ All2 (fun (p : Bool × List SL) u => VR I μ w ρ p.1 p.2 u) xs vs

/-- The variables' values are known as far as they were, and further. -/
theorem pre_get {α : Type} {l l' : List α} (h : l <+: l') {n : Nat} {d : α} (hn : l[n]? = some d) : l'[n]? = some d := by
  obtain ⟨t, rfl⟩ := h
  rw [List.getElem?_append_left]
  · exact hn
  · exact (List.getElem?_eq_some_iff.1 hn).1

mutual
theorem Ex.eval_pre {ρ ρ' : List D} (h : ρ <+: ρ') : ∀ (t : Ex) {d : D}, t.eval ρ = some d → t.eval ρ' = some d
  | .v n, d, e => by simp only [Ex.eval] at e ⊢; exact pre_get h e
  | .c d', d, e => by simpa only [Ex.eval] using e
  | .bin op x y, d, e => by
    simp only [Ex.eval] at e ⊢
    split at e
    · rename_i a b h1 h2; rw [Ex.eval_pre h x h1, Ex.eval_pre h y h2]; exact e
    · cases e
  | .un op x, d, e => by
    simp only [Ex.eval] at e ⊢
    split at e
    · rename_i a h1; rw [Ex.eval_pre h x h1]; exact e
    · cases e
  | .cv k x, d, e => by
    simp only [Ex.eval] at e ⊢
    split at e
    · rename_i k' n h1; rw [Ex.eval_pre h x h1]; exact e
    · cases e
  | .ite q x y, d, e => by
    simp only [Ex.eval] at e ⊢
    split at e
    · rename_i t h1
      rw [Ex.eval_pre h q h1]
      cases t
      · exact Ex.eval_pre h y e
      · exact Ex.eval_pre h x e
    · cases e
  | .len x, d, e => by
    simp only [Ex.eval] at e ⊢
    split at e
    · rename_i n xs h1; rw [Ex.eval_pre h x h1]; exact e
    · cases e
  | .inb x i n, d, e => by
    simp only [Ex.eval] at e ⊢
    split at e
    · rename_i a b h1 h2; rw [Ex.eval_pre h x h1, Ex.eval_pre h i h2]; exact e
    · cases e
  | .rng i n, d, e => by
    simp only [Ex.eval] at e ⊢
    split at e
    · rename_i k m h1; rw [Ex.eval_pre h i h1]; exact e
    · cases e
  | .isk i k, d, e => by
    simp only [Ex.eval] at e ⊢
    split at e
    · rename_i k m h1; rw [Ex.eval_pre h i h1]; exact e
    · cases e
  | .eqt g x y, d, e => by
    simp only [Ex.eval] at e ⊢
    split at e
    · rename_i a b h1 h2; rw [Ex.eval_pre h x h1, Ex.eval_pre h y h2]; exact e
    · cases e
  | .idx x i j, d, e => by
    simp only [Ex.eval] at e ⊢
    split at e
    · rename_i a b h1 h2; rw [Ex.eval_pre h x h1, Ex.eval_pre h i h2]; exact e
    · cases e
  | .one xs, d, e => by
    simp only [Ex.eval] at e ⊢
    split at e
    · rename_i ds h1; rw [Ex.evals_pre h xs h1]; exact e
    · cases e
  | .cat x y, d, e => by
    simp only [Ex.eval] at e ⊢
    split at e
    · rename_i a b h1 h2; rw [Ex.eval_pre h x h1, Ex.eval_pre h y h2]; exact e
    · cases e
  | .sub x lo hi, d, e => by
    simp only [Ex.eval] at e ⊢
    split at e
    · rename_i a b c h1 h2 h3; rw [Ex.eval_pre h x h1, Ex.eval_pre h lo h2, Ex.eval_pre h hi h3]; exact e
    · cases e
  | .bnd lo hi top, d, e => by
    simp only [Ex.eval] at e ⊢
    split at e
    · rename_i k a k' b k'' c h1 h2 h3; rw [Ex.eval_pre h lo h1, Ex.eval_pre h hi h2, Ex.eval_pre h top h3]; exact e
    · cases e
  | .put x i j vs, d, e => by
    simp only [Ex.eval] at e ⊢
    split at e
    · rename_i a b c h1 h2 h3; rw [Ex.eval_pre h x h1, Ex.eval_pre h i h2, Ex.evals_pre h vs h3]; exact e
    · cases e
  | .mk n zs, d, e => by
    simp only [Ex.eval] at e ⊢
    split at e
    · rename_i k m ds h1 h2; rw [Ex.eval_pre h n h1, Ex.evals_pre h zs h2]; exact e
    · cases e
  | .room x b, d, e => by
    simp only [Ex.eval] at e ⊢
    split at e
    · rename_i k m h1; rw [Ex.eval_pre h x h1]; exact e
    · cases e
  | .app n x y, d, e => by
    simp only [Ex.eval] at e ⊢
    split at e
    · rename_i a b h1 h2; rw [Ex.eval_pre h x h1, Ex.eval_pre h y h2]; exact e
    · cases e
theorem Ex.evals_pre {ρ ρ' : List D} (h : ρ <+: ρ') : ∀ (ts : List Ex) {ds : List D}, Ex.evals ρ ts = some ds → Ex.evals ρ' ts = some ds
  | [], ds, e => by simpa only [Ex.evals] using e
  | x :: xs, ds, e => by
    simp only [Ex.evals] at e ⊢
    split at e
    · rename_i a b h1 h2; rw [Ex.eval_pre h x h1, Ex.evals_pre h xs h2]; exact e
    · cases e
end

/-- How the machine goes on: what is immutable stays, and grows; blocks stay where they are. -/
structure Evo (I : Imm) (μ : Mu) (w : World) (I' : Imm) (μ' : Mu) (w' : World) : Prop where
  imm : ∀ x, I x → I' x
  same : ∀ x, I x → w'.heap[x]? = w.heap[x]?
  mu : ∀ b x, μ b = some x → μ' b = some x
  hv : ∀ k v, μ.v k = some v → μ'.v k = some v

theorem Evo.refl (I : Imm) (μ : Mu) (w : World) : Evo I μ w I μ w := ⟨fun _ h => h, fun _ _ => rfl, fun _ _ h => h, fun _ _ h => h⟩
theorem Evo.trans {I I' I'' : Imm} {μ μ' μ'' : Mu} {w w' w'' : World} (h : Evo I μ w I' μ' w') (h' : Evo I' μ' w' I'' μ'' w'') : Evo I μ w I'' μ'' w'' :=
  ⟨fun x hx => h'.imm x (h.imm x hx), fun x hx => (h'.same x (h.imm x hx)).trans (h.same x hx), fun b x hb => h'.mu b x (h.mu b x hb), fun k v hk => h'.hv k v (h.hv k v hk)⟩

section
variable {I I' : Imm} {μ μ' : Mu} {w w' : World} {ρ ρ' : List D}

theorem BRef.mono (he : Evo I μ w I' μ' w') {r : BR} {x : Nat} (h : BRef μ r = some x) : BRef μ' r = some x := by
  cases r with
  | loc n => exact he.mu n x h
  | glo g => exact h

theorem LR.mono (he : Evo I μ w I' μ' w') (hp : ρ <+: ρ') {l : SL} {v : Value} (h : LR I μ w ρ l v) : LR I' μ' w' ρ' l v := by
  cases l with
  | x => exact h
  | e t => obtain ⟨d, h1, h2⟩ := h; exact ⟨d, Ex.eval_pre hp t h1, h2.mono he.imm he.same⟩
  | p r off => obtain ⟨x, h1, h2⟩ := h; exact ⟨x, BRef.mono he h1, h2⟩
  | dyn r base sz n i j => obtain ⟨x, k, m, h1, h2, h3⟩ := h; exact ⟨x, k, m, BRef.mono he h1, Ex.eval_pre hp i h2, h3⟩
  | elt t i n j =>
    obtain ⟨xs, k, m, r, blk, off, h1, h2, h3, h4, h5, h6, h7, h8⟩ := h
    refine ⟨xs, k, m, r, blk, off, Ex.eval_pre hp t h1, Ex.eval_pre hp i h2, h3, h4, h5, h6, he.imm _ h7, fun q d hq => ?_⟩
    obtain ⟨u, hu, hd⟩ := h8 q d hq
    exact ⟨u, by rw [cell_same (he.same _ h7)]; exact hu, hd.mono he.imm he.same⟩
  | sc r base sz n => obtain ⟨x, cap, h1, h2⟩ := h; exact ⟨x, cap, BRef.mono he h1, h2⟩
  | g k => obtain ⟨b, n, c, h1, h2⟩ := h; exact ⟨b, n, c, h1, he.hv k v h2⟩
  | ge k i sz j => obtain ⟨x, n, cap, kk, m, h1, h2, h3⟩ := h; exact ⟨x, n, cap, kk, m, he.hv k _ h1, Ex.eval_pre hp i h2, h3⟩
  | gs k sz lo => obtain ⟨b, n, cap, kk, m, p, c, h1, h2, h3⟩ := h; exact ⟨b, n, cap, kk, m, p, c, he.hv k _ h1, Ex.eval_pre hp lo h2, h3⟩
  | clo f caps =>
    obtain ⟨vs, h1, h2⟩ := h
    exact ⟨vs, h1, h2.imp fun _ _ ⟨x, hx, hu⟩ => ⟨x, BRef.mono he hx, hu⟩⟩

theorem VR.mono (he : Evo I μ w I' μ' w') (hp : ρ <+: ρ') {g : Bool} {ls : List SL} {v : Value} (h : VR I μ w ρ g ls v) : VR I' μ' w' ρ' g ls v := by
  unfold VR at *
  cases g
  · obtain ⟨l, h1, h2⟩ := h; exact ⟨l, h1, h2.mono he hp⟩
  · obtain ⟨vs, h1, h2⟩ := h; exact ⟨vs, h1, h2.imp fun _ _ => LR.mono he hp⟩

theorem SR.mono (he : Evo I μ w I' μ' w') (hp : ρ <+: ρ') {s : S} {v : Value} (h : SR I μ w ρ s v) : SR I' μ' w' ρ' s v := by
  cases s with
  | x => trivial
  | u => exact h
  | val g ls => exact VR.mono he hp h
  | tup xs => obtain ⟨vs, h1, h2⟩ := h; exact ⟨vs, h1, h2.imp fun _ _ => VR.mono he hp⟩
end

/-- The globals stand as they were laid. -/
def GR (G : Glo) (I : Imm) (w : World) : Prop :=
  ∀ g ds, Glo.at G g = some ds → I g ∧ ∃ (vs : List Value) (ty : TypeId) (fz : Nat × Nat), w.heap[g]? = some (.cells vs.toArray ty fz) ∧ All2 (DR I w) ds vs

theorem GR.mono {G : Glo} {I I' : Imm} {w w' : World} (h : GR G I w) (hI : ∀ x, I x → I' x) (hw : ∀ x, I x → w'.heap[x]? = w.heap[x]?) : GR G I' w' := fun g ds hg => by
  obtain ⟨h1, vs, ty, fz, h2, h3⟩ := h g ds hg
  exact ⟨hI _ h1, vs, ty, fz, (hw _ h1).trans h2, h3.imp fun _ _ hd => hd.mono hI hw⟩

/-- A block of the call's own. -/
def BlkR (B : Nat) (I : Imm) (μ : Mu) (w : World) (ρ : List D) (blk : SB) (x : Nat) : Prop :=
  ∃ (vs : List Value) (ty : TypeId), w.heap[x]? = some (.cells vs.toArray ty (0, 0)) ∧ LsR I μ w ρ blk.ls vs ∧ if blk.ro then I x else ¬ I x ∧ B ≤ x

/-- The world, as the executor sees it. B: how many blocks there were when the call began; I₀: what was immutable then; w₀: the world then. -/
structure WR (G : Glo) (B : Nat) (I₀ : Imm) (w₀ : World) (I : Imm) (μ : Mu) (w : World) (ρ : List D) (h : Heap) : Prop where
  blk : ∀ b x, μ b = some x → ∃ blk, h[b]? = some blk ∧ BlkR B I μ w ρ blk x
  inj : ∀ b b' x, μ b = some x → μ b' = some x → b = b' ∨ I x
  glo : GR G I w
  old : ∀ x, x < B → w.heap[x]? = w₀.heap[x]?
  size : B ≤ w.heap.size
  imm : ∀ x, I x → x < w.heap.size
  imm0 : ∀ x, I x → I₀ x ∨ B ≤ x
  wd : w.os = w₀.os ∧ w.output = w₀.output

/-- A function's frame. -/
structure FR (I : Imm) (μ : Mu) (w : World) (ρ : List D) (fr : List S) (a : Act) : Prop where
  len : fr.length = a.tmps.size
  at_ : ∀ t, SR I μ w ρ (fr.getD t .x) (a.tmps.getD t undef)
  defers : a.defers = []

theorem FR.mono {I I' : Imm} {μ μ' : Mu} {w w' : World} {ρ ρ' : List D} {fr : List S} {a : Act} (h : FR I μ w ρ fr a) (he : Evo I μ w I' μ' w') (hp : ρ <+: ρ') : FR I' μ' w' ρ' fr a :=
  ⟨h.len, fun t => (h.at_ t).mono he hp, h.defers⟩

/-- A temporary is written. -/
theorem FR.put {I : Imm} {μ : Mu} {w : World} {ρ : List D} {fr : List S} {a : Act} (h : FR I μ w ρ fr a) {s : S} {v : Value} (hs : SR I μ w ρ s v) (d : Option Tmp) : FR I μ w ρ (putS fr d s) (a.put d v) := by
  cases d with
  | none => exact h
  | some t =>
    refine ⟨by simp [putS, Act.put, h.len], fun t' => ?_, h.defers⟩
    simp only [putS, Act.put]
    by_cases ht : t = t'
    · subst ht
      by_cases hl : t < fr.length
      · have hl' : t < a.tmps.size := h.len ▸ hl
        simpa [List.getD, hl, hl'] using hs
      · have hl' : ¬ t < a.tmps.size := h.len ▸ hl
        simp [List.getD, hl, SR]
    · have := h.at_ t'
      simpa [List.getD, List.getElem?_set_ne ht, Array.getElem?_setIfInBounds_ne ht] using this

end Go.Proofs.Ytffahdloddkcfaa.Sx
