/-
  The simple operations: what the executor reckons, the machine does.
-/
import Derived.Test.YtffahdloddkcfaaOps
namespace Go.Proofs.Ytffahdloddkcfaa.Sx
open Go
set_option linter.unnecessarySimpa false
set_option linter.unusedSimpArgs false
set_option linter.unusedVariables false

/-- what is new in μ' stands in new blocks -/
structure Fresh (μ : Mu) (w : World) (μ' : Mu) : Prop where
  v : μ'.v = μ.v
  m : ∀ b x, μ' b = some x → μ b = some x ∨ w.heap.size ≤ x
theorem Fresh.refl (μ : Mu) (w : World) : Fresh μ w μ := ⟨rfl, fun _ _ h => .inl h⟩

/-- An operation that has been done. -/
def Goes (G : Glo) (B : Nat) (I₀ : Imm) (w₀ : World) (I : Imm) (μ : Mu) (w : World) (ρ : List D) (r : Result Next) (s : S) (h' : Heap) : Prop :=
  ∃ nx v w' μ', r = .ok nx w' ∧ (nx = .value v ∨ (nx = .skip ∧ v = undef)) ∧ SR I μ' w' ρ s v ∧ WR G B I₀ w₀ I μ' w' ρ h' ∧ Evo I μ w I μ' w' ∧ Fresh μ w μ'

/-- A quiet operation that has been done: the world is as it was. -/
def GoesQ (G : Glo) (B : Nat) (I₀ : Imm) (w₀ : World) (I : Imm) (μ : Mu) (w : World) (ρ : List D) (r : Result Next) (s : S) (h' : Heap) : Prop :=
  ∃ nx v, r = .ok nx w ∧ (nx = .value v ∨ (nx = .skip ∧ v = undef)) ∧ SR I μ w ρ s v ∧ WR G B I₀ w₀ I μ w ρ h'

section
variable {I : Imm} {μ : Mu} {w : World} {ρ : List D} {G : Glo} {B : Nat} {I₀ : Imm} {w₀ : World} {h : Heap} {P : Program}

theorem Goes.val (hW : WR G B I₀ w₀ I μ w ρ h) {r : Result Next} {s : S} {v : Value} (hr : r = .ok (.value v) w) (hs : SR I μ w ρ s v) : GoesQ G B I₀ w₀ I μ w ρ r s h :=
  ⟨_, v, hr, .inl rfl, hs, hW⟩

theorem GoesQ.goes {r : Result Next} {s : S} {h' : Heap} (hg : GoesQ G B I₀ w₀ I μ w ρ r s h') : Goes G B I₀ w₀ I μ w ρ r s h' := by
  obtain ⟨nx, v, h1, h2, h3, h4⟩ := hg
  exact ⟨nx, v, w, μ, h1, h2, h3, h4, Evo.refl _ _ _, Fresh.refl _ _⟩

theorem Goes.one (hW : WR G B I₀ w₀ I μ w ρ h) {r : Result Next} {l : SL} {v : Value} (hr : r = .ok (.value v) w) (hs : LR I μ w ρ l v) : GoesQ G B I₀ w₀ I μ w ρ r (.val false [l]) h :=
  Goes.val hW hr ⟨l, rfl, hs⟩

theorem fresh_new (μ : Mu) (w : World) (n : Nat) : Fresh μ w { μ with m := fun b => if b = n then some w.heap.size else μ b } :=
  ⟨rfl, fun b x h => by
    simp only at h
    split at h
    · cases h; exact .inr (Nat.le_refl _)
    · exact .inl h⟩

theorem Goes.new (hW : WR G B I₀ w₀ I μ w ρ h) {r : Result Next} {ls : List SL} {vs : List Value} {ty : TypeId} (hl : LsR I μ w ρ ls vs)
    (hr : r = .ok (.value (.pointer (some ⟨w.heap.size, 0, none⟩))) (w.alloc (.cells vs.toArray ty))) :
    Goes G B I₀ w₀ I μ w ρ r (.val false [.p (.loc h.length) 0]) (h ++ [{ ro := false, ls := ls }]) := by
  obtain ⟨h1, h2⟩ := hW.alloc ty hl
  exact ⟨_, _, _, _, hr, .inl rfl, ⟨_, rfl, w.heap.size, by simp [BRef], rfl⟩, h1, h2, fresh_new _ _ _⟩

/-- An operation that has made a block. -/
def Made (I : Imm) (μ : Mu) (w : World) (ρ : List D) (r : Result Next) (s : S) (h h' : Heap) : Prop :=
  ∃ ls vs ty v, h' = h ++ [{ ro := false, ls := ls }] ∧ LsR I μ w ρ ls vs ∧ r = .ok (.value v) (w.alloc (.cells vs.toArray ty)) ∧ ∀ (I' : Imm) (μ' : Mu) (w' : World), μ' h.length = some w.heap.size → SR I' μ' w' ρ s v

theorem Made.goes {r : Result Next} {s : S} {h' : Heap} (hm : Made I μ w ρ r s h h') (hW : WR G B I₀ w₀ I μ w ρ h) : Goes G B I₀ w₀ I μ w ρ r s h' := by
  obtain ⟨ls, vs, ty, v, rfl, hl, hr, hs⟩ := hm
  obtain ⟨h1, h2⟩ := hW.alloc ty hl
  exact ⟨_, v, _, _, hr, .inl rfl, hs _ _ _ (by simp), h1, h2, fresh_new _ _ _⟩

theorem Made.new {r : Result Next} {ls : List SL} {vs : List Value} {ty : TypeId} (hl : LsR I μ w ρ ls vs) (hr : r = .ok (.value (.pointer (some ⟨w.heap.size, 0, none⟩))) (w.alloc (.cells vs.toArray ty))) :
    Made I μ w ρ r (.val false [.p (.loc h.length) 0]) h (h ++ [{ ro := false, ls := ls }]) :=
  ⟨ls, vs, ty, _, rfl, hl, hr, fun _ _ _ hm => ⟨_, rfl, w.heap.size, hm, rfl⟩⟩

theorem zeroT_run {t : TypeId} {ls : List SL} (hz : zeroT P t = some ls) : ∃ z : Value, (∀ w : World, (zeroValue t).run P w = .ok z w) ∧ constLs z.cells.toList = some ls := by
  unfold zeroT at hz
  split at hz
  · rename_i i hi
    split at hz
    · rename_i z hv
      exact ⟨z, fun w => by simp [zeroValue, typeInfo, hi, hv], hz⟩
    · cases hz
  · cases hz

theorem toArray_cells (v : Value) : v.cells.toList.toArray = v.cells := by simp

theorem simple_alloc {fr : List S} {a : Act} {o : Oper} {t : TypeId} {cs : List Ex} {s : S} {h' : Heap} (ho : o.op = .alloc t)
    (hs : simple P G fr h (.alloc t) = some (cs, s, h')) : Made I μ w ρ ((execOp a.eval o).run P w) s h h' := by
  simp only [simple] at hs
  split at hs
  · rename_i ls hls
    simp only [Option.some.injEq, Prod.mk.injEq] at hs
    obtain ⟨rfl, rfl, rfl⟩ := hs
    obtain ⟨z, hz, hc⟩ := zeroT_run hls
    refine Made.new (ty := t) (constLs_sound hc) ?_
    simp [execOp, ho, Instr.alloc, hz, newVar, newRow, World.alloc_eq]
  · cases hs

theorem simple_box {fr : List S} {a : Act} {o : Oper} {t : TypeId} {x : Operand} {cs : List Ex} {s : S} {h' : Heap} (hop : ∀ x, SR I μ w ρ (opd fr x) (a.eval x))
    (ho : o.op = .box t x) (hs : simple P G fr h (.box t x) = some (cs, s, h')) : Made I μ w ρ ((execOp a.eval o).run P w) s h h' := by
  simp only [simple] at hs
  split at hs
  · rename_i g ls hls
    simp only [Option.some.injEq, Prod.mk.injEq] at hs
    obtain ⟨rfl, rfl, rfl⟩ := hs
    have hx := hop x
    rw [hls] at hx
    obtain ⟨vs, hc, hv⟩ := VR.cells (g := g) hx
    refine Made.new (ty := t) hv ?_
    simp [execOp, ho, Instr.box, newVar, newRow, hc, World.alloc_eq]
  · cases hs

theorem addr_add (x off n : Nat) : (⟨x, off, none⟩ : Addr).add n = ⟨x, off + n, none⟩ := by
  unfold Addr.add
  split
  · rename_i h; subst h; rfl
  · rfl

theorem run_loadCells_at {x off : Nat} {vs : List Value} (hc : CellsAt w x off vs) : (loadCells ⟨x, off, none⟩ vs.length).run P w = .ok vs.toArray w :=
  run_loadCells_list (P := P) w ⟨x, off, none⟩ vs (fun j v hv => by rw [addr_add]; exact hc j v hv)

theorem simple_load (hW : WR G B I₀ w₀ I μ w ρ h) {fr : List S} {a : Act} {o : Oper} {t : TypeId} {x : Operand} {cs : List Ex} {s : S} {h' : Heap} (hop : ∀ x, SR I μ w ρ (opd fr x) (a.eval x))
    (ho : o.op = .load t x) (hs : simple P G fr h (.load t x) = some (cs, s, h')) : GoesQ G B I₀ w₀ I μ w ρ ((execOp a.eval o).run P w) s h' := by
  simp only [simple] at hs
  split at hs
  · rename_i l n hl hg hn
    split at hs
    · rename_i ls hls
      simp only [Option.some.injEq, Prod.mk.injEq] at hs
      obtain ⟨rfl, rfl, rfl⟩ := hs
      obtain ⟨blk, off, vs, hv, hlen, hc, hr⟩ := loadLs_sound hW hls (l?_sound hl (hop x))
      subst hlen
      refine Goes.val hW (v := .agg vs.toArray) ?_ ⟨vs, rfl, hr⟩
      simp [execOp, ho, Instr.loadAt, Instr.sureAddr, hv, loadVar, run_isAgg hg, run_sizeT hn, run_loadCells_at hc]
    · cases hs
  · rename_i l n hl hg hn
    split at hs
    · rename_i ls hls
      simp only [Option.some.injEq, Prod.mk.injEq] at hs
      obtain ⟨rfl, rfl, rfl⟩ := hs
      obtain ⟨blk, off, vs, hv, hlen, hc, hr⟩ := loadLs_sound hW hls (l?_sound hl (hop x))
      match vs, hlen with
      | [v], _ =>
        have h0 := hc 0 v (by simp)
        cases hr with | cons h1 h2 =>
        cases h2
        refine Goes.one hW (v := v) ?_ h1
        simp only [Nat.add_zero] at h0
        simp [execOp, ho, Instr.loadAt, Instr.sureAddr, hv, loadVar, run_isAgg hg, h0]
    · cases hs
  · cases hs

/-! ### stores -/

theorem dynStore_sound {base sz j : Nat} {i : Ex} {new : List SL} {vs : List Value} {kk : IntKind} {m : Nat} (hi : i.eval ρ = some (.i kk m)) (hnew : LsR I μ w ρ new vs) (hj : j + new.length ≤ sz) :
    ∀ (n : Nat) {ls ls' : List SL} {cur : List Value}, LsR I μ w ρ ls cur → base + n * sz ≤ ls.length → dynStore base sz i j new n ls = some ls' →
      LsR I μ w ρ ls' (if m < n then over cur (base + (m * sz + j)) vs else cur)
  | 0, ls, ls', cur, hl, _, hd => by
    simp only [dynStore] at hd
    cases hd
    simpa using hl
  | n + 1, ls, ls', cur, hl, hb, hd => by
    have hb' : base + n * sz + sz ≤ ls.length := by rw [Nat.succ_mul] at hb; omega
    simp only [dynStore] at hd
    split at hd
    · rename_i l1 hl1
      split at hd
      · rename_i r hr
        cases hd
        have ih := dynStore_sound hi hnew hj n hl (by omega) hl1
        have hlen := hl.length
        have hvl := hnew.length
        have hmn : ∀ m n : Nat, m < n → m * sz + sz ≤ n * sz := fun m n hm => by rw [← Nat.succ_mul]; exact Nat.mul_le_mul_right _ (by omega)
        have hl1len : l1.length = ls.length := by
          have hil := ih.length
          split at hil
          · rename_i hlt
            have hmm := hmn m n hlt
            rw [over_length (by omega)] at hil
            omega
          · omega
        unfold dynPut at hr
        split at hr
        · rename_i as bs has hbs
          cases hr
          have hna := exLs_get has
          have hnb := exLs_get hbs
          have hal : as.length = new.length := by rw [hna]; simp
          have hbl : bs.length = new.length := by have := congrArg List.length hnb; simp at this; omega
          -- the slice of the old row
          by_cases hm : m = n
          · subst hm
            rw [if_neg (Nat.lt_irrefl _)] at ih
            rw [if_pos (Nat.lt_succ_self _)]
            have e : base + m * sz + j = base + (m * sz + j) := by omega
            rw [e]
            refine ih.over ?_ _
            refine All2.of_get (by simp; omega) fun q a b ha hb => ?_
            have hq : q < new.length := by have := (List.getElem?_eq_some_iff.1 hb).1; omega
            obtain ⟨a', ha', hr'⟩ := hnew.get' hb
            rw [hna] at ha'
            simp at ha'
            obtain ⟨ea, hea, rfl⟩ := ha'
            simp [List.getElem?_zip_eq_some] at ha
            obtain ⟨ea', eb', ⟨h1, h2⟩, rfl⟩ := ha
            rw [hea] at h1
            cases h1
            obtain ⟨d, hd, hdr⟩ := hr'
            refine ⟨d, ?_, hdr⟩
            rw [mkIte_eval]
            simp [Ex.eval, mkIs_eval, hi, hd]
          · have e2 : over (if m < n then over cur (base + (m * sz + j)) vs else cur) (base + n * sz + j) (((if m < n then over cur (base + (m * sz + j)) vs else cur).drop (base + n * sz + j)).take new.length) =
                (if m < n then over cur (base + (m * sz + j)) vs else cur) := by
              refine over_self _ _ _ ?_
              have := ih.length
              omega
            have e3 : (if m < n + 1 then over cur (base + (m * sz + j)) vs else cur) = (if m < n then over cur (base + (m * sz + j)) vs else cur) := by
              by_cases h1 : m < n
              · rw [if_pos h1, if_pos (by omega)]
              · rw [if_neg h1, if_neg (by omega)]
            rw [e3, ← e2]
            refine ih.over ?_ _
            have hsl := (ih.drop (base + n * sz + j)).take new.length
            rw [hnb] at hsl
            refine All2.of_get (by simp; have := hsl.length; simp at this; omega) fun q a b ha hb => ?_
            obtain ⟨a', ha', hr'⟩ := hsl.get' hb
            simp at ha'
            obtain ⟨eb, heb, rfl⟩ := ha'
            simp [List.getElem?_zip_eq_some] at ha
            obtain ⟨ea', eb', ⟨h1, h2⟩, rfl⟩ := ha
            rw [heb] at h2
            cases h2
            obtain ⟨d, hd, hdr⟩ := hr'
            refine ⟨d, ?_, hdr⟩
            rw [mkIte_eval]
            have hne : ((m : Int) == (n : Int)) = false := by simp; omega
            simp [Ex.eval, mkIs_eval, hi, hd, hne]
        · cases hr
      · cases hd
    · cases hd

theorem storeLs_sound (hW : WR G B I₀ w₀ I μ w ρ h) {l : SL} {new : List SL} {v : Value} {vs : List Value} {h' : Heap} (hl : storeLs h new l = some h') (hv : LR I μ w ρ l v) (hn : LsR I μ w ρ new vs) :
    ∃ (x off : Nat), v = .pointer (some ⟨x, off, none⟩) ∧ ∃ w', (storeCells ⟨x, off, none⟩ vs).run P w = .ok () w' ∧ WR G B I₀ w₀ I μ w' ρ h' ∧ Evo I μ w I μ w' := by
  have go : ∀ (b x off : Nat) (blk : SB) (ls' : List SL), μ b = some x → h[b]? = some blk → blk.ro = false → off + vs.length ≤ blk.ls.length →
      (∀ cur, LsR I μ w ρ blk.ls cur → LsR I μ w ρ ls' (over cur off vs)) →
      ∃ w', (storeCells ⟨x, off, none⟩ vs).run P w = .ok () w' ∧ WR G B I₀ w₀ I μ w' ρ (h.set b { blk with ls := ls' }) ∧ Evo I μ w I μ w' := by
    intro b x off blk ls' hb hh hro hle hls
    obtain ⟨blk', hb', cur, ty, h1, h2, h3⟩ := hW.blk b x hb
    rw [hh] at hb'
    cases hb'
    have hcl := h2.length
    have hrun := run_storeCells_at (P := P) x off ty vs 0 cur.toArray w h1 (by simp; omega) (fun u hu => by
      obtain ⟨i, hi⟩ := List.getElem?_of_mem hu
      obtain ⟨l, _, hr⟩ := hn.get' hi
      exact hr.one)
    simp only [Nat.add_zero, List.toList_toArray] at hrun
    refine ⟨_, hrun, ?_⟩
    refine hW.write hb hh hro (vs := over cur off vs) (ty := ty) ?_ (fun y hy => setRow_other w x y _ (fun e => hy e)) (by simp [World.setRow]) ⟨rfl, rfl⟩ (hls cur h2)
    exact setRow_heap w x cur.toArray _ ty (0, 0) h1
  cases l with
  | p r off =>
    obtain ⟨x, hx, rfl⟩ := hv
    cases r with
    | glo g => simp [storeLs] at hl
    | loc b =>
      refine ⟨x, off, rfl, ?_⟩
      simp only [storeLs] at hl
      split at hl
      · rename_i blk hblk
        split at hl
        · rename_i hc
          simp only [Bool.and_eq_true, Bool.not_eq_true', decide_eq_true_eq] at hc
          cases hl
          exact go b x off blk _ hx hblk hc.1 (by rw [← hn.length]; exact hc.2) (fun cur hcur => hcur.over hn off)
        · cases hl
      · cases hl
  | dyn r base sz n i j =>
    obtain ⟨x, k, m, hx, hi, h0, hlt, rfl⟩ := hv
    obtain ⟨m, rfl⟩ := Int.eq_ofNat_of_zero_le h0
    cases r with
    | glo g => simp [storeLs] at hl
    | loc b =>
      refine ⟨x, base + (m * sz + j), by simp, ?_⟩
      simp only [storeLs] at hl
      split at hl
      · rename_i blk hblk
        split at hl
        · rename_i hc
          simp only [Bool.and_eq_true, Bool.not_eq_true', decide_eq_true_eq] at hc
          obtain ⟨⟨hro, hj⟩, hb⟩ := hc
          split at hl
          · rename_i ls' hls'
            cases hl
            have hmn : m < n := by omega
            have hms : m * sz + sz ≤ n * sz := by rw [← Nat.succ_mul]; exact Nat.mul_le_mul_right _ (by omega)
            exact go b x _ blk ls' hx hblk hro (by have := hn.length; omega) (fun cur hcur => by
              have := dynStore_sound hi hn hj n hcur hb hls'
              rwa [if_pos hmn] at this)
          · cases hl
        · cases hl
      · cases hl
  | x => simp [storeLs] at hl
  | e t => simp [storeLs] at hl
  | elt t i n j => simp [storeLs] at hl
  | sc r b s n => simp [storeLs] at hl
  | g k => simp [storeLs] at hl
  | ge k i sz j => simp [storeLs] at hl
  | gs k sz lo => simp [storeLs] at hl
  | clo f c => simp [storeLs] at hl

theorem simple_store (hW : WR G B I₀ w₀ I μ w ρ h) {fr : List S} {a : Act} {o : Oper} {t : TypeId} {x y : Operand} {cs : List Ex} {s : S} {h' : Heap} (hop : ∀ x, SR I μ w ρ (opd fr x) (a.eval x))
    (ho : o.op = .store t x y) (hs : simple P G fr h (.store t x y) = some (cs, s, h')) : Goes G B I₀ w₀ I μ w ρ ((execOp a.eval o).run P w) s h' := by
  simp only [simple] at hs
  split at hs
  · rename_i l g ls n hl hls hn
    split at hs
    · rename_i hlen
      split at hs
      · rename_i h1 hst
        simp only [Option.some.injEq, Prod.mk.injEq] at hs
        obtain ⟨rfl, rfl, rfl⟩ := hs
        have hy := hop y
        rw [hls] at hy
        obtain ⟨vs, hc, hv⟩ := VR.cells (g := g) hy
        obtain ⟨x', off, hp, w', hrun, hW', he⟩ := storeLs_sound (P := P) hW hst (l?_sound hl (hop x)) hv
        refine ⟨.skip, undef, w', μ, ?_, .inr ⟨rfl, rfl⟩, trivial, hW', he, Fresh.refl _ _⟩
        have hvl := hv.length
        simp [execOp, ho, Instr.storeAt, Instr.sureAddr, hp, storeVar, hc, run_sizeT hn, hrun, ← hvl, hlen]
      · cases hs
    · cases hs
  · cases hs

end
end Go.Proofs.Ytffahdloddkcfaa.Sx
