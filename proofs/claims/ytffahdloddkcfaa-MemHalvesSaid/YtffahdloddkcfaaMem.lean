/-
  The executor's loads, stores and new blocks are the machine's.
-/
import Derived.Test.YtffahdloddkcfaaRep
namespace Go.Proofs.Ytffahdloddkcfaa.Sx
open Go
set_option linter.unnecessarySimpa false
set_option linter.unusedSimpArgs false
set_option linter.unusedVariables false

theorem DR.b_inv {I : Imm} {w : World} {x : Bool} {v : Value} (h : DR I w (.b x) v) : v = .bool x := by cases h; rfl
theorem DR.i_inv {I : Imm} {w : World} {k : IntKind} {n : Int} {v : Value} (h : DR I w (.i k n) v) : v = .int k n := by cases h; rfl
theorem DR.s_inv {I : Imm} {w : World} {x : ByteArray} {v : Value} (h : DR I w (.s x) v) : v = .string x := by cases h; rfl
theorem DR.f_inv {I : Imm} {w : World} {x : FuncId} {v : Value} (h : DR I w (.f x) v) : v = .func (.func x) #[] #[] := by cases h; rfl
theorem DR.sl_inv {I : Imm} {w : World} {sz : Nat} {xs : List (List D)} {v : Value} (h : DR I w (.sl sz xs) v) : ∃ base cap, v = .slice base xs.length cap := by
  cases h
  · exact ⟨_, _, rfl⟩
  · exact ⟨_, _, rfl⟩

section ex
variable {ρ : List D}
theorem mkBin_eval (op : BinOp) (x y : Ex) : (mkBin op x y).eval ρ = (Ex.bin op x y).eval ρ := by
  unfold mkBin
  split
  · split
    · rename_i h; simp [Ex.eval, h]
    · rfl
  · rfl
theorem mkUn_eval (op : UnOp) (x : Ex) : (mkUn op x).eval ρ = (Ex.un op x).eval ρ := by
  unfold mkUn
  split
  · split
    · rename_i h; simp [Ex.eval, h]
    · rfl
  · rfl
theorem mkCv_eval (k : IntKind) (x : Ex) : (mkCv k x).eval ρ = (Ex.cv k x).eval ρ := by
  unfold mkCv
  split <;> simp [Ex.eval]
theorem mkIte_eval (q x y : Ex) : (mkIte q x y).eval ρ = (Ex.ite q x y).eval ρ := by
  unfold mkIte
  split
  · split <;> simp_all [Ex.eval]
  · rfl
theorem mkIs_eval (i : Ex) (k : Nat) : (mkIs i k).eval ρ = (Ex.isk i k).eval ρ := by
  unfold mkIs
  split <;> simp [Ex.eval]
theorem mkEqt_eval (g : Bool) (x y : Ex) : (mkEqt g x y).eval ρ = (Ex.eqt g x y).eval ρ := by
  unfold mkEqt
  split
  · split
    · rename_i h; simp [Ex.eval, h]
    · rfl
  · rfl
theorem bool?_eval {t : Ex} {b : Bool} (h : t.bool? = some b) : t.eval ρ = some (.b b) := by
  unfold Ex.bool? at h
  split at h
  · cases h; simp [Ex.eval]
  · cases h
theorem int?_eval {t : Ex} {n : Int} (h : t.int? = some n) : ∃ k, t.eval ρ = some (.i k n) := by
  unfold Ex.int? at h
  split at h
  · cases h; simp [Ex.eval]
  · cases h

theorem selE_eval {i : Ex} {kk : IntKind} {m : Nat} (hi : i.eval ρ = some (.i kk m)) : ∀ (es : List Ex) (k : Nat) (e : Ex), k ≤ m → es[m - k]? = some e → (selE i k es).eval ρ = e.eval ρ
  | [], k, e, _, h => by simp at h
  | [x], k, e, hk, h => by
    have : m - k = 0 := by
      rcases Nat.eq_zero_or_pos (m - k) with h' | h'
      · exact h'
      · rw [List.getElem?_eq_none (by simp; omega)] at h; cases h
    rw [this] at h
    simp at h
    subst h
    rfl
  | x :: y :: r, k, e, hk, h => by
    simp only [selE]
    rw [mkIte_eval]
    simp only [Ex.eval, mkIs_eval, hi]
    by_cases he : m = k
    · subst he
      simp at h
      subst h
      simp
    · have hne : ((m : Int) == (k : Int)) = false := by simp; omega
      rw [hne]
      have h' : (y :: r)[m - (k + 1)]? = some e := by
        have : m - k = (m - (k + 1)) + 1 := by omega
        rw [this] at h
        simpa using h
      simpa using selE_eval hi (y :: r) (k + 1) e (by omega) h'
end ex

section
variable {I : Imm} {μ : Mu} {w : World} {ρ : List D}

theorem exLs_get : ∀ {ls : List SL} {es : List Ex}, exLs ls = some es → ls = es.map SL.e
  | [], es, h => by simp [exLs] at h; subst h; rfl
  | .e t :: r, es, h => by
    simp only [exLs] at h
    split at h
    · rename_i ts hts
      cases h
      simp [exLs_get hts]
    · cases h
  | .x :: _, _, h => by simp [exLs] at h
  | .p .. :: _, _, h => by simp [exLs] at h
  | .dyn .. :: _, _, h => by simp [exLs] at h
  | .elt .. :: _, _, h => by simp [exLs] at h
  | .sc .. :: _, _, h => by simp [exLs] at h
  | .g .. :: _, _, h => by simp [exLs] at h
  | .ge .. :: _, _, h => by simp [exLs] at h
  | .gs .. :: _, _, h => by simp [exLs] at h
  | .clo .. :: _, _, h => by simp [exLs] at h

theorem dynSel_sound {ls : List SL} {base sz n : Nat} {i : Ex} {j : Nat} {l : SL} {kk : IntKind} {m : Nat} {v : Value} (h : dynSel ls base sz n i j = some l)
    (hi : i.eval ρ = some (.i kk m)) (hm : m < n) (hv : LR I μ w ρ (ls.getD (base + m * sz + j) .x) v) : LR I μ w ρ l v := by
  unfold dynSel at h
  split at h
  · rename_i es hes
    cases h
    have he := exLs_get hes
    have hlen : es.length = n := by have := congrArg List.length he; simpa using this.symm
    have h1 : es[m]? = some (es[m]'(by omega)) := List.getElem?_eq_getElem (by omega)
    have h2 := congrArg (fun l => l[m]?) he
    simp [hm, h1, List.getElem?_range] at h2
    rw [List.getD_eq_getElem?_getD, h2] at hv
    obtain ⟨d, hd, hr⟩ := hv
    exact ⟨d, by rw [selE_eval hi es 0 _ (by omega) (by rw [Nat.sub_zero]; exact h1)]; exact hd, hr⟩
  · cases h

theorem optAll_get {α : Type} : ∀ {l : List (Option α)} {r : List α}, optAll l = some r → l = r.map some
  | [], r, h => by simp [optAll] at h; subst h; rfl
  | some a :: l, r, h => by
    simp only [optAll] at h
    split at h
    · rename_i r' hr'; cases h; simp [optAll_get hr']
    · cases h
  | none :: _, _, h => by simp [optAll] at h

/-- so many cells, from an address on -/
def CellsAt (w : World) (blk off : Nat) (vs : List Value) : Prop := ∀ j u, vs[j]? = some u → w.cell? ⟨blk, off + j, none⟩ = some u

theorem cellsAt_of_heap {x off : Nat} {vs : List Value} {ty : TypeId} {fz : Nat × Nat} (h : w.heap[x]? = some (.cells vs.toArray ty fz)) (m : Nat) : CellsAt w x off ((vs.drop off).take m) := by
  intro j u hu
  simp only [World.cell?, h]
  rw [List.getElem?_take] at hu
  split at hu
  · simpa using hu
  · cases hu

variable {G : Glo} {B : Nat} {I₀ : Imm} {w₀ : World} {h : Heap}

theorem leavesAt_sound (hW : WR G B I₀ w₀ I μ w ρ h) {r : BR} {ls : List SL} {x : Nat} (hl : leavesAt G h r = some ls) (hx : BRef μ r = some x) :
    ∃ (vs : List Value) (ty : TypeId) (fz : Nat × Nat), w.heap[x]? = some (.cells vs.toArray ty fz) ∧ LsR I μ w ρ ls vs := by
  cases r with
  | loc n =>
    obtain ⟨blk, hb, vs, ty, h1, h2, _⟩ := hW.blk n x hx
    simp only [leavesAt, hb] at hl
    cases hl
    exact ⟨vs, ty, _, h1, h2⟩
  | glo g =>
    simp only [leavesAt] at hl
    split at hl
    · rename_i ds hds
      cases hl
      obtain ⟨_, vs, ty, fz, h1, h2⟩ := hW.glo g ds hds
      simp only [BRef] at hx
      cases hx
      exact ⟨vs, ty, fz, h1, All2.map_left (h2.imp fun d v hd => ⟨d, by simp [Ex.eval], hd⟩)⟩
    · cases hl

theorem loadLs_sound (hW : WR G B I₀ w₀ I μ w ρ h) {l : SL} {m : Nat} {ls : List SL} {v : Value} (hl : loadLs G h m l = some ls) (hv : LR I μ w ρ l v) :
    ∃ (blk off : Nat) (vs : List Value), v = .pointer (some ⟨blk, off, none⟩) ∧ vs.length = m ∧ CellsAt w blk off vs ∧ LsR I μ w ρ ls vs := by
  cases l with
  | p r off =>
    obtain ⟨x, hx, rfl⟩ := hv
    simp only [loadLs] at hl
    split at hl
    · rename_i ls' hls'
      split at hl
      · rename_i hle
        cases hl
        obtain ⟨vs, ty, fz, h1, h2⟩ := leavesAt_sound hW hls' hx
        refine ⟨x, off, (vs.drop off).take m, rfl, ?_, cellsAt_of_heap h1 m, (h2.drop off).take m⟩
        have := h2.length
        simp; omega
      · cases hl
    · cases hl
  | dyn r base sz n i j =>
    obtain ⟨x, k, mi, hx, hi, h0, hlt, rfl⟩ := hv
    obtain ⟨mi, rfl⟩ := Int.eq_ofNat_of_zero_le h0
    simp only [loadLs] at hl
    split at hl
    · rename_i ls' hls'
      split at hl
      · rename_i hc
        obtain ⟨hj, hb, hn⟩ := hc
        obtain ⟨vs, ty, fz, h1, h2⟩ := leavesAt_sound hW hls' hx
        have hlen := h2.length
        have hin : base + (mi * sz + j) + m ≤ vs.length := by
          have : mi < n := by omega
          have : mi * sz + sz ≤ n * sz := by
            rw [← Nat.succ_mul]; exact Nat.mul_le_mul_right _ (by omega)
          omega
        refine ⟨x, base + (mi * sz + j), (vs.drop (base + (mi * sz + j))).take m, by simp, by simp; omega, cellsAt_of_heap h1 m, ?_⟩
        have hg := optAll_get hl
        have hlm : ls.length = m := by have := congrArg List.length hg; simpa using this.symm
        refine All2.of_get (by simp; omega) fun q a b ha hb' => ?_
        have hq : q < m := by have := (List.getElem?_eq_some_iff.1 ha).1; omega
        have hg' := congrArg (fun l => l[q]?) hg
        simp [hq, List.getElem?_range, ha] at hg'
        rw [List.getElem?_take, if_pos hq, List.getElem?_drop] at hb'
        obtain ⟨a', ha', hr⟩ := h2.get' hb'
        refine dynSel_sound hg' hi (by omega) ?_
        rw [List.getD_eq_getElem?_getD, show base + mi * sz + (j + q) = base + (mi * sz + j) + q from by omega, ha']
        exact hr
      · cases hl
    · cases hl
  | elt t i n j =>
    obtain ⟨xs, k, mi, r, blk, off, h1, h2, h3, h4, h5, rfl, h7, h8⟩ := hv
    simp only [loadLs] at hl
    split at hl
    · rename_i hc
      cases hl
      have hu : ∀ q, q < m → ∃ u, w.cell? ⟨blk, off + (j + q), none⟩ = some u ∧ ∃ d, r[j + q]? = some d ∧ DR I w d u := fun q hq => by
        have : j + q < r.length := by omega
        obtain ⟨u, hu, hd⟩ := h8 (j + q) _ (List.getElem?_eq_getElem this)
        exact ⟨u, hu, _, List.getElem?_eq_getElem this, hd⟩
      refine ⟨blk, off + j, (List.range m).map fun q => (w.cell? ⟨blk, off + (j + q), none⟩).getD undef, rfl, by simp, ?_, ?_⟩
      · intro q u hq
        have hqm : q < m := by have := (List.getElem?_eq_some_iff.1 hq).1; simpa using this
        obtain ⟨u', hu', _⟩ := hu q hqm
        simp [hqm, List.getElem?_range, hu'] at hq
        subst hq
        rw [Nat.add_assoc]
        exact hu'
      · refine All2.of_get (by simp) fun q a b ha hb => ?_
        have hqm : q < m := by have := (List.getElem?_eq_some_iff.1 ha).1; simpa using this
        obtain ⟨u', hu', d, hd, hdr⟩ := hu q hqm
        simp [hqm, List.getElem?_range] at ha hb
        subst ha
        subst hb
        rw [hu']
        obtain ⟨mi, rfl⟩ := Int.eq_ofNat_of_zero_le h3
        refine ⟨d, ?_, hdr⟩
        simp only [Int.toNat_natCast] at h4
        simp [Ex.eval, h1, h2, idxD, h4, hd]
    · cases hl
  | x => simp [loadLs] at hl
  | e t => simp [loadLs] at hl
  | sc r b s n => simp [loadLs] at hl
  | g k => simp [loadLs] at hl
  | ge k i sz j => simp [loadLs] at hl
  | gs k sz lo => simp [loadLs] at hl
  | clo f c => simp [loadLs] at hl

/-! ### the world changes -/

/-- One of the call's own blocks is written. -/
theorem WR.write (hW : WR G B I₀ w₀ I μ w ρ h) {w' : World} {b x : Nat} {blk : SB} {ls : List SL} {vs : List Value} {ty : TypeId} (hb : μ b = some x) (hh : h[b]? = some blk) (hro : blk.ro = false)
    (hx : w'.heap[x]? = some (.cells vs.toArray ty (0, 0))) (ho : ∀ y, y ≠ x → w'.heap[y]? = w.heap[y]?) (hs : w'.heap.size = w.heap.size) (hn : w'.os = w.os ∧ w'.output = w.output) (hl : LsR I μ w ρ ls vs) :
    WR G B I₀ w₀ I μ w' ρ (h.set b { blk with ls := ls }) ∧ Evo I μ w I μ w' := by
  obtain ⟨blk', hb', vs0, ty0, h1, h2, h3⟩ := hW.blk b x hb
  rw [hh] at hb'
  cases hb'
  simp only [hro] at h3
  obtain ⟨hnI, hB⟩ : ¬ I x ∧ B ≤ x := h3
  have hsame : ∀ y, I y → w'.heap[y]? = w.heap[y]? := fun y hy => ho y (fun e => hnI (e ▸ hy))
  have he : Evo I μ w I μ w' := ⟨fun _ h => h, hsame, fun _ _ h => h, fun _ _ h => h⟩
  refine ⟨⟨fun b' x' hb' => ?_, hW.inj, hW.glo.mono (fun _ h => h) hsame, fun y hy => ?_, hs ▸ hW.size, fun y hy => hs ▸ hW.imm y hy, hW.imm0, ⟨hn.1.trans hW.wd.1, hn.2.trans hW.wd.2⟩⟩, he⟩
  · by_cases hbb : b' = b
    · subst hbb
      rw [hb] at hb'
      cases hb'
      refine ⟨{ blk with ls := ls }, ?_, vs, ty, hx, hl.imp fun _ _ hr => hr.mono he (List.prefix_refl _), ?_⟩
      · have := (List.getElem?_eq_some_iff.1 hh).1
        simp [this]
      · simp only [hro]; exact ⟨hnI, hB⟩
    · obtain ⟨blk', h1', vs', ty', h2', h3', h4'⟩ := hW.blk b' x' hb'
      have hne : x' ≠ x := fun e => by
        subst e
        rcases hW.inj b' b x' hb' hb with h | h
        · exact hbb h
        · exact hnI h
      refine ⟨blk', ?_, vs', ty', (ho x' hne).trans h2', h3'.imp fun _ _ hr => hr.mono he (List.prefix_refl _), h4'⟩
      rw [List.getElem?_set_ne (Ne.symm hbb)]
      exact h1'
  · rw [ho y (by omega)]
    exact hW.old y hy

/-- A new block. -/
theorem WR.alloc (hW : WR G B I₀ w₀ I μ w ρ h) {ls : List SL} {vs : List Value} (ty : TypeId) (hl : LsR I μ w ρ ls vs) :
    WR G B I₀ w₀ I { μ with m := fun b => if b = h.length then some w.heap.size else μ b } (w.alloc (.cells vs.toArray ty)) ρ (h ++ [{ ro := false, ls := ls }]) ∧
    Evo I μ w I { μ with m := fun b => if b = h.length then some w.heap.size else μ b } (w.alloc (.cells vs.toArray ty)) := by
  have hmu : ∀ b x, μ b = some x → b < h.length := fun b x hb => by
    obtain ⟨blk, hb', _⟩ := hW.blk b x hb
    exact (List.getElem?_eq_some_iff.1 hb').1
  have hxs : ∀ b x, μ b = some x → x < w.heap.size := fun b x hb => by
    obtain ⟨blk, hb', vs', ty', h1, _⟩ := hW.blk b x hb
    exact (Array.getElem?_eq_some_iff.1 h1).1
  have hold : ∀ y, y < w.heap.size → (w.alloc (.cells vs.toArray ty)).heap[y]? = w.heap[y]? := fun y hy => by
    show (w.heap.push _)[y]? = _
    rw [Array.getElem?_push, if_neg (by omega)]
  have he : Evo I μ w I { μ with m := fun b => if b = h.length then some w.heap.size else μ b } (w.alloc (.cells vs.toArray ty)) :=
    ⟨fun _ h => h, fun y hy => hold y (hW.imm y hy), fun b x hb => by simp [Nat.ne_of_lt (hmu b x hb), hb], fun _ _ h => h⟩
  refine ⟨⟨fun b x hb => ?_, fun b b' x hb hb' => ?_, hW.glo.mono (fun _ h => h) (fun y hy => hold y (hW.imm y hy)), fun y hy => ?_, ?_, fun y hy => ?_, hW.imm0, hW.wd⟩, he⟩
  · by_cases hbn : b = h.length
    · simp only [hbn, if_true] at hb
      cases hb
      refine ⟨{ ro := false, ls := ls }, by subst hbn; simp, vs, ty, by show (w.heap.push _)[w.heap.size]? = _; simp, hl.imp fun _ _ hr => hr.mono he (List.prefix_refl _), ?_⟩
      exact ⟨fun hI => absurd (hW.imm _ hI) (by omega), hW.size⟩
    · simp only [hbn, if_false] at hb
      obtain ⟨blk, h1, vs', ty', h2, h3, h4⟩ := hW.blk b x hb
      refine ⟨blk, by rw [List.getElem?_append_left (hmu b x hb)]; exact h1, vs', ty', (hold x (hxs b x hb)).trans h2, h3.imp fun _ _ hr => hr.mono he (List.prefix_refl _), h4⟩
  · by_cases hbn : b = h.length <;> by_cases hbn' : b' = h.length
    · exact .inl (hbn.trans hbn'.symm)
    · simp only [hbn, if_true, hbn', if_false] at hb hb'
      cases hb
      exact absurd (hxs b' _ hb') (by omega)
    · simp only [hbn, if_false, hbn', if_true] at hb hb'
      cases hb'
      exact absurd (hxs b _ hb) (by omega)
    · simp only [hbn, if_false, hbn'] at hb hb'
      exact hW.inj b b' x hb hb'
  · rw [hold y (by have := hW.size; omega)]
    exact hW.old y hy
  · have := hW.size; rw [World.size_alloc]; omega
  · have := hW.imm y hy; rw [World.size_alloc]; omega

/-- A new block, in the place that is kept for it. -/
theorem WR.allocAt (hW : WR G B I₀ w₀ I μ w ρ h) {b : Nat} {ls : List SL} {vs : List Value} (ty : TypeId) (hb : h[b]? = some { ro := false, ls := ls }) (hn : μ b = none) (hl : LsR I μ w ρ ls vs) :
    WR G B I₀ w₀ I { μ with m := fun b' => if b' = b then some w.heap.size else μ b' } (w.alloc (.cells vs.toArray ty)) ρ h ∧
    Evo I μ w I { μ with m := fun b' => if b' = b then some w.heap.size else μ b' } (w.alloc (.cells vs.toArray ty)) := by
  have hne : ∀ b' x, μ b' = some x → b' ≠ b := fun b' x hb' e => by subst e; rw [hn] at hb'; cases hb'
  have hxs : ∀ b x, μ b = some x → x < w.heap.size := fun b x hb => by
    obtain ⟨blk, hb', vs', ty', h1, _⟩ := hW.blk b x hb
    exact (Array.getElem?_eq_some_iff.1 h1).1
  have hold : ∀ y, y < w.heap.size → (w.alloc (.cells vs.toArray ty)).heap[y]? = w.heap[y]? := fun y hy => by
    show (w.heap.push _)[y]? = _
    rw [Array.getElem?_push, if_neg (by omega)]
  have he : Evo I μ w I { μ with m := fun b' => if b' = b then some w.heap.size else μ b' } (w.alloc (.cells vs.toArray ty)) :=
    ⟨fun _ h => h, fun y hy => hold y (hW.imm y hy), fun b' x hb' => by simp [hne b' x hb', hb'], fun _ _ h => h⟩
  refine ⟨⟨fun b' x hb' => ?_, fun b1 b2 x h1 h2 => ?_, hW.glo.mono (fun _ h => h) (fun y hy => hold y (hW.imm y hy)), fun y hy => ?_, ?_, fun y hy => ?_, hW.imm0, hW.wd⟩, he⟩
  · by_cases hbn : b' = b
    · subst hbn
      simp only [if_true] at hb'
      cases hb'
      refine ⟨{ ro := false, ls := ls }, hb, vs, ty, by show (w.heap.push _)[w.heap.size]? = _; simp, hl.imp fun _ _ hr => hr.mono he (List.prefix_refl _), ?_⟩
      exact ⟨fun hI => absurd (hW.imm _ hI) (by omega), hW.size⟩
    · simp only [hbn, if_false] at hb'
      obtain ⟨blk, h1, vs', ty', h2, h3, h4⟩ := hW.blk b' x hb'
      exact ⟨blk, h1, vs', ty', (hold x (hxs b' x hb')).trans h2, h3.imp fun _ _ hr => hr.mono he (List.prefix_refl _), h4⟩
  · by_cases hbn : b1 = b <;> by_cases hbn' : b2 = b
    · exact .inl (hbn.trans hbn'.symm)
    · simp only [hbn, if_true, hbn', if_false] at h1 h2
      cases h1
      exact absurd (hxs b2 _ h2) (by omega)
    · simp only [hbn, if_false, hbn', if_true] at h1 h2
      cases h2
      exact absurd (hxs b1 _ h1) (by omega)
    · simp only [hbn, if_false, hbn'] at h1 h2
      exact hW.inj b1 b2 x h1 h2
  · rw [hold y (by have := hW.size; omega)]
    exact hW.old y hy
  · have := hW.size; rw [World.size_alloc]; omega
  · have := hW.imm y hy; rw [World.size_alloc]; omega

/-- The heap is as it was; the world, too. -/
theorem WR.same (hW : WR G B I₀ w₀ I μ w ρ h) {w' : World} (hh : w'.heap = w.heap) (hn : w'.os = w.os ∧ w'.output = w.output) : WR G B I₀ w₀ I μ w' ρ h ∧ Evo I μ w I μ w' := by
  have he : Evo I μ w I μ w' := ⟨fun _ h => h, fun _ _ => by rw [hh], fun _ _ h => h, fun _ _ h => h⟩
  refine ⟨⟨fun b x hb => ?_, hW.inj, hW.glo.mono (fun _ h => h) (fun _ _ => by rw [hh]), fun y hy => by rw [hh]; exact hW.old y hy, hh ▸ hW.size, fun y hy => hh ▸ hW.imm y hy, hW.imm0, ⟨hn.1.trans hW.wd.1, hn.2.trans hW.wd.2⟩⟩, he⟩
  obtain ⟨blk, h1, vs, ty, h2, h3, h4⟩ := hW.blk b x hb
  exact ⟨blk, h1, vs, ty, by rw [hh]; exact h2, h3.imp fun _ _ hr => hr.mono he (List.prefix_refl _), h4⟩

/-- More variables. -/
theorem WR.vars (hW : WR G B I₀ w₀ I μ w ρ h) {ρ' : List D} (hp : ρ <+: ρ') : WR G B I₀ w₀ I μ w ρ' h :=
  ⟨fun b x hb => by
    obtain ⟨blk, h1, vs, ty, h2, h3, h4⟩ := hW.blk b x hb
    exact ⟨blk, h1, vs, ty, h2, h3.imp fun _ _ hr => hr.mono (Evo.refl _ _ _) hp, h4⟩, hW.inj, hW.glo, hW.old, hW.size, hW.imm, hW.imm0, hW.wd⟩

end
end Go.Proofs.Ytffahdloddkcfaa.Sx
