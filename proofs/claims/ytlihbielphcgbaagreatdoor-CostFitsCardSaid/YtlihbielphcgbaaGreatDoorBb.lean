/-
  Each simple operation of the executor is the machine's.
  The simple operations: what the executor reckons, the machine does.
  The other simple operations, and all of them in one.
  What a loop's head forgets and makes general.
  The heap at a loop's head; worlds behind calls.
-/
import Derived.Test.YtlihbielphcgbaaGreatDoorBa
namespace Go.Proofs.YtlihbielphcgbaaGreatDoor.Sx
open Go
set_option linter.unnecessarySimpa false
set_option linter.unusedSimpArgs false
set_option linter.unusedVariables false

theorem All2.over {α β : Type} {R : α → β → Prop} {as as' : List α} {bs bs' : List β} (h : All2 R as bs) (h' : All2 R as' bs') (j : Nat) : All2 R (over as j as') (over bs j bs') := by
  unfold Sx.over
  rw [h'.length]
  exact ((h.take j).append h').append (h.drop _)

theorem over_length {α : Type} {l n : List α} {j : Nat} (h : j + n.length ≤ l.length) : (over l j n).length = l.length := by simp [over]; omega

theorem over_self {α : Type} (l : List α) (j k : Nat) (h : j + k ≤ l.length) : over l j ((l.drop j).take k) = l := by
  unfold over
  have h1 : ((l.drop j).take k).length = k := by simp; omega
  rw [h1, ← List.drop_drop, List.append_assoc, List.take_append_drop, List.take_append_drop]

section
variable {I : Imm} {μ : Mu} {w : World} {ρ : List D} {G : Glo} {B : Nat} {I₀ : Imm} {w₀ : World} {h : Heap} {P : Program}

/-! ### constants and operands -/

theorem constL_sound {v : Value} {l : SL} (hl : constL v = some l) : LR I μ w ρ l v := by
  unfold constL at hl
  split at hl
  · cases hl; exact ⟨_, by simp [Ex.eval], .b _⟩
  · cases hl; exact ⟨_, by simp [Ex.eval], .i _ _⟩
  · cases hl; exact ⟨_, by simp [Ex.eval], .s _⟩
  · cases hl; exact ⟨_, by simp [Ex.eval], .nil 0 none 0 fun _ => ⟨rfl, rfl⟩⟩
  · split at hl
    · rename_i f first captured hc
      cases hl
      simp only [Bool.and_eq_true, Array.isEmpty_iff] at hc
      obtain ⟨rfl, rfl⟩ := hc
      exact ⟨_, by simp [Ex.eval], .f _⟩
    · cases hl
  · cases hl

theorem constLs_sound : ∀ {vs : List Value} {ls : List SL}, constLs vs = some ls → LsR I μ w ρ ls vs
  | [], ls, h => by simp [constLs] at h; subst h; exact .nil
  | v :: vs, ls, h => by
    simp only [constLs] at h
    split at h
    · rename_i l ls' h1 h2
      cases h
      exact .cons (constL_sound h1) (constLs_sound h2)
    · cases h

theorem constS_sound (v : Value) : SR I μ w ρ (constS v) v := by
  unfold constS
  split
  · rename_i cs
    split
    · rename_i ls hls; exact ⟨cs.toList, by simp, constLs_sound hls⟩
    · trivial
  · split
    · rename_i l hl; exact ⟨l, rfl, constL_sound hl⟩
    · trivial

theorem opd_sound {fr : List S} {a : Act} (hf : FR I μ w ρ fr a) (x : Operand) : SR I μ w ρ (opd fr x) (a.eval x) := by
  cases x with
  | tmp t => exact hf.at_ t
  | const v => exact constS_sound v
  | global g => exact ⟨_, rfl, g, rfl, rfl⟩
  | func f => exact ⟨_, rfl, _, by simp [Ex.eval], .f f⟩

theorem e?_sound {s : S} {t : Ex} {v : Value} (he : s.e? = some t) (hs : SR I μ w ρ s v) : ∃ d, t.eval ρ = some d ∧ DR I w d v := by
  unfold S.e? at he
  split at he
  · cases he
    obtain ⟨l, hl, hr⟩ := hs
    cases hl
    exact hr
  · cases he

theorem l?_sound {s : S} {l : SL} {v : Value} (he : s.l? = some l) (hs : SR I μ w ρ s v) : LR I μ w ρ l v := by
  unfold S.l? at he
  split at he
  · cases he
    obtain ⟨l, hl, hr⟩ := hs
    cases hl
    exact hr
  · cases he

theorem VR.cells {g : Bool} {ls : List SL} {v : Value} (hv : VR I μ w ρ g ls v) : ∃ vs : List Value, v.cells = vs.toArray ∧ LsR I μ w ρ ls vs := by
  cases g
  · obtain ⟨l, rfl, hr⟩ := hv
    refine ⟨[v], ?_, .cons hr .nil⟩
    have := hr.one
    cases v <;> first | rfl | (simp [Value.oneCell'] at this)
  · obtain ⟨vs, rfl, hr⟩ := hv
    exact ⟨vs, rfl, hr⟩

theorem VR.ex {ls : List SL} {es : List Ex} {vs : List Value} (h : exLs ls = some es) (hr : LsR I μ w ρ ls vs) : LsR I μ w ρ (es.map .e) vs := by
  rw [← exLs_get h]; exact hr

theorem int?_sound {s : S} {t : Ex} {m : Int} {v : Value} (he : s.e? = some t) (hm : t.int? = some m) (hs : SR I μ w ρ s v) : ∃ k, v = .int k m := by
  obtain ⟨d, hd, hr⟩ := e?_sound he hs
  obtain ⟨k, hk⟩ := int?_eval (ρ := ρ) hm
  rw [hk] at hd
  cases hd
  cases hr
  exact ⟨_, rfl⟩

/-! ### operations that reckon -/

theorem run_binOp_int {op : BinOp} {t : TypeId} {k k' : IntKind} {a b : Int} {d : D} (hd : binD op (.i k a) (.i k' b) = some d) :
    ∃ v, (binOp op t (.int k a) (.int k' b)).run P w = .ok v w ∧ DR I w d v := by
  unfold binD at hd
  cases op
  case shl =>
    simp only at hd
    split at hd
    · cases hd
    · rename_i hb
      cases hd
      exact ⟨_, by simp [binOp, Op.shift, hb], .i _ _⟩
  case shr =>
    simp only at hd
    split at hd
    · cases hd
    · rename_i hb
      cases hd
      exact ⟨_, by simp [binOp, Op.shift, hb], .i _ _⟩
  all_goals
    simp only at hd
    split at hd
    case isFalse => cases hd
    case isTrue hk =>
      subst hk
      first
        | (cases hd; exact ⟨_, by simp [binOp, Op.intArith, Op.intBits, Op.intCmp], DR.i _ _⟩)
        | (cases hd; exact ⟨_, by simp [binOp, Op.intArith, Op.intBits, Op.intCmp], DR.b _⟩)
        | (split at hd
           · cases hd
           · rename_i hb
             cases hd
             exact ⟨_, by simp [binOp, Op.intDiv, hb], .i _ _⟩)

theorem run_unary {op : UnOp} {d d' : D} {v : Value} (hd : unD op d = some d') (hv : DR I w d v) : ∃ u, (Op.unary op v).run P w = .ok u w ∧ DR I w d' u := by
  cases hv <;> simp only [unD] at hd <;> try cases hd
  · cases op <;> simp at hd
    subst hd
    exact ⟨_, by simp [Op.unary], .b _⟩
  · cases op <;> simp at hd <;> subst hd
    · exact ⟨_, by simp [Op.unary, Op.intArith], .i _ _⟩
    · exact ⟨_, by simp [Op.unary, Op.intBits], .i _ _⟩

theorem binD_gtr {da db d : D} {x y : Option D} (h : (match binD .gtr db da with | some (.b t) => if t = true then x else y | _ => none) = some d) : ∃ k m n, da = .i k m ∧ db = .i k n := by
  cases da <;> cases db <;> simp [binD] at h
  rename_i k m k' n
  by_cases hk : k' = k
  · subst hk; exact ⟨_, _, _, rfl, rfl⟩
  · simp [hk] at h
theorem binD_lss {da db d : D} {x y : Option D} (h : (match binD .lss db da with | some (.b t) => if t = true then x else y | _ => none) = some d) : ∃ k m n, da = .i k m ∧ db = .i k n := by
  cases da <;> cases db <;> simp [binD] at h
  rename_i k m k' n
  by_cases hk : k' = k
  · subst hk; exact ⟨_, _, _, rfl, rfl⟩
  · simp [hk] at h

theorem run_eqGuard_one (op : BinOp) (t : TypeId) (x y : Operand) {a b : Value} {d d' : D} (ha : DR I w d a) (hb : DR I w d' b) : (eqGuard op t x y a b).run P w = .ok () w := by
  unfold eqGuard
  cases ha <;> cases hb <;> cases op <;> simp

theorem arith_sound {fr : List S} {a : Act} {o : Oper} {t : Ex} {d : D} (hop : ∀ x, SR I μ w ρ (opd fr x) (a.eval x)) (ht : arith P fr o.op = some t) (hd : t.eval ρ = some d) :
    ∃ v, (execOp a.eval o).run P w = .ok (.value v) w ∧ DR I w d v := by
  unfold arith at ht
  split at ht
  · -- binOp
    rename_i ob tb xa xb xt hob
    have hA := hop xa
    have hB := hop xb
    split at ht
    · -- one cell each
      rename_i ex ey hex hey
      obtain ⟨da, hda, hra⟩ := e?_sound (t := ex) (by rw [hex]; rfl) hA
      obtain ⟨db, hdb, hrb⟩ := e?_sound (t := ey) (by rw [hey]; rfl) hB
      have hg := run_eqGuard_one (P := P) ob tb xa xb hra hrb
      split at ht
      · -- bools, ==
        rename_i hu
        cases ht
        rw [mkEqt_eval] at hd
        simp only [Ex.eval, hda, hdb] at hd
        cases da <;> cases db <;> simp only [eqtD, if_true] at hd <;> try cases hd
        rename_i p q
        refine ⟨.bool (p == q), ?_, .b _⟩
        simp only [execOp, hob, Sem.run_bind, hg, Result.andThen_ok]
        rw [hra.b_inv, hrb.b_inv]
        simp [binOp, Op.equal, Op.maxDepth, run_equalIn_bool' w 9999 tb p q hu]
      · rename_i hu
        cases ht
        rw [mkUn_eval] at hd
        simp only [Ex.eval, mkEqt_eval, hda, hdb] at hd
        cases da <;> cases db <;> simp only [eqtD, if_true, unD] at hd <;> try cases hd
        rename_i p q
        refine ⟨.bool (!(p == q)), ?_, .b _⟩
        simp only [execOp, hob, Sem.run_bind, hg, Result.andThen_ok]
        rw [hra.b_inv, hrb.b_inv]
        simp [binOp, Op.equal, Op.maxDepth, run_equalIn_bool' w 9999 tb p q hu]
      · cases ht
      · cases ht
      · cases ht
        rw [mkBin_eval] at hd
        simp only [Ex.eval, hda, hdb] at hd
        have hi : ∃ k x k' y, da = .i k x ∧ db = .i k' y := by
          unfold binD at hd
          split at hd
          · exact ⟨_, _, _, _, rfl, rfl⟩
          · cases hd
        obtain ⟨k, x, k', y, rfl, rfl⟩ := hi
        obtain ⟨v, hv, hr⟩ := run_binOp_int (P := P) (t := tb) (w := w) (I := I) hd
        refine ⟨v, ?_, hr⟩
        simp only [execOp, hob, Sem.run_bind, hg, Result.andThen_ok]
        rw [hra.i_inv, hrb.i_inv, hv]
        simp
    · -- structs
      rename_i ls ms hls hms
      split at ht
      · cases ht
      · rename_i hgt
        rw [hls] at hA
        rw [hms] at hB
        obtain ⟨vs, hva, hvs⟩ := hA
        obtain ⟨us, hub, hus⟩ := hB
        simp only [Bool.or_eq_true, not_or, Bool.not_eq_true, bne_eq_false_iff_eq] at hgt
        obtain ⟨hgd, hgt⟩ := hgt
        split at ht
        · rename_i gs xs ys hgs hxs hys
          have key : ∀ r q, eqLs gs xs ys = some r → r.eval ρ = some q → ∃ z, q = .b z ∧ (Op.equalIn 10000 tb (.agg vs.toArray) (.agg us.toArray)).run P w = .ok z w := by
            intro r q hr hq
            rw [eqLs_eval hr] at hq
            cases hz : eqDs ρ gs xs ys with
            | none => rw [hz] at hq; cases hq
            | some z =>
              rw [hz] at hq
              simp at hq
              subst hq
              have hl : ∀ {gs : List Bool} {xs ys : List Ex} {r : Ex}, eqLs gs xs ys = some r → xs.length = gs.length ∧ ys.length = gs.length := by
                intro gs
                induction gs with
                | nil => intro xs ys r h; cases xs <;> cases ys <;> simp [eqLs] at h ⊢
                | cons g gs ih =>
                  intro xs ys r h
                  cases xs <;> cases ys <;> simp only [eqLs] at h <;> try cases h
                  split at h
                  · rename_i h'; have := ih h'; simpa using this
                  · cases h
              obtain ⟨l1, l2⟩ := hl hr
              exact ⟨z, rfl, eq_sound 12 hgs 10000 (by omega) l1 l2 (VR.ex hxs hvs) (VR.ex hys hus) (.inl ⟨hgt, rfl⟩) (.inl ⟨hgt, rfl⟩) hz⟩
          split at ht
          · rename_i r hr
            cases ht
            obtain ⟨z, rfl, hz⟩ := key _ d hr hd
            refine ⟨.bool z, ?_, .b _⟩
            simp only [execOp, hob, Sem.run_bind, hva, hub, run_eqGuard_agg w _ tb xa xb vs.toArray us.toArray hgd, Result.andThen_ok]
            rw [run_eql_struct]
            simp [hz]
          · rename_i r hr
            cases ht
            rw [mkUn_eval] at hd
            simp only [Ex.eval] at hd
            split at hd
            · rename_i q hq
              obtain ⟨z, rfl, hz⟩ := key _ q hr hq
              simp [unD] at hd
              subst hd
              refine ⟨.bool (!z), ?_, .b _⟩
              simp only [execOp, hob, Sem.run_bind, hva, hub, run_eqGuard_agg w _ tb xa xb vs.toArray us.toArray hgd, Result.andThen_ok]
              rw [run_neq_struct]
              simp [hz]
            · cases hd
          · cases ht
        · cases ht
    · cases ht
  · -- unOp
    rename_i ou tu xa hou
    split at ht
    · rename_i x hx
      cases ht
      obtain ⟨da, hda, hra⟩ := e?_sound hx (hop xa)
      rw [mkUn_eval] at hd
      simp only [Ex.eval, hda] at hd
      obtain ⟨v, hv, hr⟩ := run_unary (P := P) hd hra
      exact ⟨v, by simp [execOp, hou, hv], hr⟩
    · cases ht
  · -- convert
    rename_i src dst xa hoc
    split at ht
    · rename_i k0 k x hs hdst hx
      cases ht
      obtain ⟨da, hda, hra⟩ := e?_sound hx (hop xa)
      rw [mkCv_eval] at hd
      simp only [Ex.eval, hda] at hd
      split at hd
      · rename_i k1 n h1
        cases h1
        cases hd
        exact ⟨_, by simp [execOp, hoc, hra.i_inv, convert, run_underlying hs, run_underlying hdst, Conv.intToInt], .i _ _⟩
      · cases hd
    · cases ht
  · -- len
    rename_i args argTypes hol
    split at ht
    · rename_i xa tt hargs htt
      split at ht
      · rename_i el x hu hx
        cases ht
        obtain ⟨da, hda, hra⟩ := e?_sound hx (hop xa)
        have hd' : (Ex.len x).eval ρ = some d := by
          rw [← hd]
          unfold mkLen
          split
          · simp [Ex.eval, litN]
          · rfl
        simp only [Ex.eval, hda] at hd'
        have ha : args = #[xa] := by rw [← Array.toList_inj, hargs]
        subst ha
        split at hd'
        · rename_i sz xs h1
          cases h1
          cases hd'
          have hrun : ∀ (base : Option Addr) (n c : Nat), (Builtin.len_ argTypes o.type #[.slice base n c]).run P w = .ok (goInt n) w := fun base n c => by
            simp [Builtin.len_, htt, run_underlying hu]
          obtain ⟨base, cap, hp⟩ := hra.sl_inv
          exact ⟨goInt xs.length, by simp [execOp, hol, resolve, invoke, builtin, hp, hrun], .i _ _⟩
        · cases hd'
      · cases ht
    · cases ht
  · -- max
    rename_i args argTypes hol
    split at ht
    · rename_i xa xb hargs
      split at ht
      · rename_i ex ey hx hy
        cases ht
        obtain ⟨da, hda, hra⟩ := e?_sound hx (hop xa)
        obtain ⟨db, hdb, hrb⟩ := e?_sound hy (hop xb)
        have ha : args = #[xa, xb] := by rw [← Array.toList_inj, hargs]
        subst ha
        rw [mkIte_eval] at hd
        simp only [Ex.eval, mkBin_eval, hda, hdb] at hd
        obtain ⟨k, m, n, rfl, rfl⟩ := binD_gtr hd
        simp only [binD, if_true] at hd
        refine ⟨.int k (if n > m then n else m), ?_, ?_⟩
        · simp [execOp, hol, resolve, invoke, builtin, Builtin.max_, Builtin.max2, hra.i_inv, hrb.i_inv]
        · by_cases h : n > m
          · simp only [decide_eq_true h, if_true, Option.some.injEq] at hd
            subst hd
            simp only [h, if_true]
            exact .i _ _
          · simp only [decide_eq_false h, Bool.false_eq_true, if_false, Option.some.injEq] at hd
            subst hd
            simp only [h, if_false]
            exact .i _ _
      · cases ht
    · cases ht
  · -- min
    rename_i args argTypes hol
    split at ht
    · rename_i xa xb hargs
      split at ht
      · rename_i ex ey hx hy
        cases ht
        obtain ⟨da, hda, hra⟩ := e?_sound hx (hop xa)
        obtain ⟨db, hdb, hrb⟩ := e?_sound hy (hop xb)
        have ha : args = #[xa, xb] := by rw [← Array.toList_inj, hargs]
        subst ha
        rw [mkIte_eval] at hd
        simp only [Ex.eval, mkBin_eval, hda, hdb] at hd
        obtain ⟨k, m, n, rfl, rfl⟩ := binD_lss hd
        simp only [binD, if_true] at hd
        refine ⟨.int k (if n < m then n else m), ?_, ?_⟩
        · simp [execOp, hol, resolve, invoke, builtin, Builtin.min_, Builtin.min2, hra.i_inv, hrb.i_inv]
        · by_cases h : n < m
          · simp only [decide_eq_true h, if_true, Option.some.injEq] at hd
            subst hd
            simp only [h, if_true]
            exact .i _ _
          · simp only [decide_eq_false h, Bool.false_eq_true, if_false, Option.some.injEq] at hd
            subst hd
            simp only [h, if_false]
            exact .i _ _
      · cases ht
    · cases ht
  · cases ht

end
end Go.Proofs.YtlihbielphcgbaaGreatDoor.Sx

namespace Go.Proofs.YtlihbielphcgbaaGreatDoor.Sx
open Go
set_option linter.unnecessarySimpa false
set_option linter.unusedSimpArgs false
set_option linter.unusedVariables false

/-- what is new in μ' stands in new blocks -/
structure Fresh (μ : Mu) (w : World) (μ' : Mu) : Prop where
  v : μ'.v = μ.v
  m : ∀ b x, μ' b = some x → μ b = some x ∨ w.heap.size ≤ x
theorem Fresh.refl (μ : Mu) (w : World) : Fresh μ w μ := ⟨rfl, fun _ _ h => .inl h⟩

/-- An operation that has been done. -/
def Goes (G : Glo) (B : Nat) (I₀ : Imm) (w₀ : World) (I : Imm) (μ : Mu) (w : World) (ρ : List D) (r : Result Next) (s : S) (h' : Heap) : Prop :=
  ∃ nx v w' μ', r = .ok nx w' ∧ (nx = .value v ∨ (nx = .skip ∧ v = undef)) ∧ SR I μ' w' ρ s v ∧ WR G B I₀ w₀ I μ' w' ρ h' ∧ Evo I μ w I μ' w' ∧ Fresh μ w μ'

/-- A quiet operation that has been done: the world is as it was. -/
def GoesQ (G : Glo) (B : Nat) (I₀ : Imm) (w₀ : World) (I : Imm) (μ : Mu) (w : World) (ρ : List D) (r : Result Next) (s : S) (h' : Heap) : Prop :=
  ∃ nx v, r = .ok nx w ∧ (nx = .value v ∨ (nx = .skip ∧ v = undef)) ∧ SR I μ w ρ s v ∧ WR G B I₀ w₀ I μ w ρ h'

section
variable {I : Imm} {μ : Mu} {w : World} {ρ : List D} {G : Glo} {B : Nat} {I₀ : Imm} {w₀ : World} {h : Heap} {P : Program}

theorem Goes.val (hW : WR G B I₀ w₀ I μ w ρ h) {r : Result Next} {s : S} {v : Value} (hr : r = .ok (.value v) w) (hs : SR I μ w ρ s v) : GoesQ G B I₀ w₀ I μ w ρ r s h :=
  ⟨_, v, hr, .inl rfl, hs, hW⟩

theorem GoesQ.goes {r : Result Next} {s : S} {h' : Heap} (hg : GoesQ G B I₀ w₀ I μ w ρ r s h') : Goes G B I₀ w₀ I μ w ρ r s h' := by
  obtain ⟨nx, v, h1, h2, h3, h4⟩ := hg
  exact ⟨nx, v, w, μ, h1, h2, h3, h4, Evo.refl _ _ _, Fresh.refl _ _⟩

theorem Goes.one (hW : WR G B I₀ w₀ I μ w ρ h) {r : Result Next} {l : SL} {v : Value} (hr : r = .ok (.value v) w) (hs : LR I μ w ρ l v) : GoesQ G B I₀ w₀ I μ w ρ r (.val false [l]) h :=
  Goes.val hW hr ⟨l, rfl, hs⟩

theorem fresh_new (μ : Mu) (w : World) (n : Nat) : Fresh μ w { μ with m := fun b => if b = n then some w.heap.size else μ b } :=
  ⟨rfl, fun b x h => by
    simp only at h
    split at h
    · cases h; exact .inr (Nat.le_refl _)
    · exact .inl h⟩

theorem Goes.new (hW : WR G B I₀ w₀ I μ w ρ h) {r : Result Next} {ls : List SL} {vs : List Value} {ty : TypeId} (hl : LsR I μ w ρ ls vs)
    (hr : r = .ok (.value (.pointer (some ⟨w.heap.size, 0, none⟩))) (w.alloc (.cells vs.toArray ty))) :
    Goes G B I₀ w₀ I μ w ρ r (.val false [.p (.loc h.length) 0]) (h ++ [{ ro := false, ls := ls }]) := by
  obtain ⟨h1, h2⟩ := hW.alloc ty hl
  exact ⟨_, _, _, _, hr, .inl rfl, ⟨_, rfl, w.heap.size, by simp [BRef], rfl⟩, h1, h2, fresh_new _ _ _⟩

/-- An operation that has made a block. -/
def Made (I : Imm) (μ : Mu) (w : World) (ρ : List D) (r : Result Next) (s : S) (h h' : Heap) : Prop :=
  ∃ ls vs ty v, h' = h ++ [{ ro := false, ls := ls }] ∧ LsR I μ w ρ ls vs ∧ r = .ok (.value v) (w.alloc (.cells vs.toArray ty)) ∧ ∀ (I' : Imm) (μ' : Mu) (w' : World), μ' h.length = some w.heap.size → SR I' μ' w' ρ s v

theorem Made.goes {r : Result Next} {s : S} {h' : Heap} (hm : Made I μ w ρ r s h h') (hW : WR G B I₀ w₀ I μ w ρ h) : Goes G B I₀ w₀ I μ w ρ r s h' := by
  obtain ⟨ls, vs, ty, v, rfl, hl, hr, hs⟩ := hm
  obtain ⟨h1, h2⟩ := hW.alloc ty hl
  exact ⟨_, v, _, _, hr, .inl rfl, hs _ _ _ (by simp), h1, h2, fresh_new _ _ _⟩

theorem Made.new {r : Result Next} {ls : List SL} {vs : List Value} {ty : TypeId} (hl : LsR I μ w ρ ls vs) (hr : r = .ok (.value (.pointer (some ⟨w.heap.size, 0, none⟩))) (w.alloc (.cells vs.toArray ty))) :
    Made I μ w ρ r (.val false [.p (.loc h.length) 0]) h (h ++ [{ ro := false, ls := ls }]) :=
  ⟨ls, vs, ty, _, rfl, hl, hr, fun _ _ _ hm => ⟨_, rfl, w.heap.size, hm, rfl⟩⟩

theorem zeroT_run {t : TypeId} {ls : List SL} (hz : zeroT P t = some ls) : ∃ z : Value, (∀ w : World, (zeroValue t).run P w = .ok z w) ∧ constLs z.cells.toList = some ls := by
  unfold zeroT at hz
  split at hz
  · rename_i i hi
    split at hz
    · rename_i z hv
      exact ⟨z, fun w => by simp [zeroValue, typeInfo, hi, hv], hz⟩
    · cases hz
  · cases hz

theorem toArray_cells (v : Value) : v.cells.toList.toArray = v.cells := by simp

theorem simple_alloc {fr : List S} {a : Act} {o : Oper} {t : TypeId} {cs : List Ex} {s : S} {h' : Heap} (ho : o.op = .alloc t)
    (hs : simple P G fr h (.alloc t) = some (cs, s, h')) : Made I μ w ρ ((execOp a.eval o).run P w) s h h' := by
  simp only [simple] at hs
  split at hs
  · rename_i ls hls
    simp only [Option.some.injEq, Prod.mk.injEq] at hs
    obtain ⟨rfl, rfl, rfl⟩ := hs
    obtain ⟨z, hz, hc⟩ := zeroT_run hls
    refine Made.new (ty := t) (constLs_sound hc) ?_
    simp [execOp, ho, Instr.alloc, hz, newVar, newRow, World.alloc_eq]
  · cases hs

theorem simple_box {fr : List S} {a : Act} {o : Oper} {t : TypeId} {x : Operand} {cs : List Ex} {s : S} {h' : Heap} (hop : ∀ x, SR I μ w ρ (opd fr x) (a.eval x))
    (ho : o.op = .box t x) (hs : simple P G fr h (.box t x) = some (cs, s, h')) : Made I μ w ρ ((execOp a.eval o).run P w) s h h' := by
  simp only [simple] at hs
  split at hs
  · rename_i g ls hls
    simp only [Option.some.injEq, Prod.mk.injEq] at hs
    obtain ⟨rfl, rfl, rfl⟩ := hs
    have hx := hop x
    rw [hls] at hx
    obtain ⟨vs, hc, hv⟩ := VR.cells (g := g) hx
    refine Made.new (ty := t) hv ?_
    simp [execOp, ho, Instr.box, newVar, newRow, hc, World.alloc_eq]
  · cases hs

theorem addr_add (x off n : Nat) : (⟨x, off, none⟩ : Addr).add n = ⟨x, off + n, none⟩ := by
  unfold Addr.add
  split
  · rename_i h; subst h; rfl
  · rfl

theorem run_loadCells_at {x off : Nat} {vs : List Value} (hc : CellsAt w x off vs) : (loadCells ⟨x, off, none⟩ vs.length).run P w = .ok vs.toArray w :=
  run_loadCells_list (P := P) w ⟨x, off, none⟩ vs (fun j v hv => by rw [addr_add]; exact hc j v hv)

theorem simple_load (hW : WR G B I₀ w₀ I μ w ρ h) {fr : List S} {a : Act} {o : Oper} {t : TypeId} {x : Operand} {cs : List Ex} {s : S} {h' : Heap} (hop : ∀ x, SR I μ w ρ (opd fr x) (a.eval x))
    (ho : o.op = .load t x) (hs : simple P G fr h (.load t x) = some (cs, s, h')) : GoesQ G B I₀ w₀ I μ w ρ ((execOp a.eval o).run P w) s h' := by
  simp only [simple] at hs
  split at hs
  · rename_i l n hl hg hn
    split at hs
    · rename_i ls hls
      simp only [Option.some.injEq, Prod.mk.injEq] at hs
      obtain ⟨rfl, rfl, rfl⟩ := hs
      obtain ⟨blk, off, vs, hv, hlen, hc, hr⟩ := loadLs_sound hW hls (l?_sound hl (hop x))
      subst hlen
      refine Goes.val hW (v := .agg vs.toArray) ?_ ⟨vs, rfl, hr⟩
      simp [execOp, ho, Instr.loadAt, Instr.sureAddr, hv, loadVar, run_isAgg hg, run_sizeT hn, run_loadCells_at hc]
    · cases hs
  · rename_i l n hl hg hn
    split at hs
    · rename_i ls hls
      simp only [Option.some.injEq, Prod.mk.injEq] at hs
      obtain ⟨rfl, rfl, rfl⟩ := hs
      obtain ⟨blk, off, vs, hv, hlen, hc, hr⟩ := loadLs_sound hW hls (l?_sound hl (hop x))
      match vs, hlen with
      | [v], _ =>
        have h0 := hc 0 v (by simp)
        cases hr with | cons h1 h2 =>
        cases h2
        refine Goes.one hW (v := v) ?_ h1
        simp only [Nat.add_zero] at h0
        simp [execOp, ho, Instr.loadAt, Instr.sureAddr, hv, loadVar, run_isAgg hg, h0]
    · cases hs
  · cases hs

/-! ### stores -/

theorem dynStore_sound {base sz j : Nat} {i : Ex} {new : List SL} {vs : List Value} {kk : IntKind} {m : Nat} (hi : i.eval ρ = some (.i kk m)) (hnew : LsR I μ w ρ new vs) (hj : j + new.length ≤ sz) :
    ∀ (n : Nat) {ls ls' : List SL} {cur : List Value}, LsR I μ w ρ ls cur → base + n * sz ≤ ls.length → dynStore base sz i j new n ls = some ls' →
      LsR I μ w ρ ls' (if m < n then over cur (base + (m * sz + j)) vs else cur)
  | 0, ls, ls', cur, hl, _, hd => by
    simp only [dynStore] at hd
    cases hd
    simpa using hl
  | n + 1, ls, ls', cur, hl, hb, hd => by
    have hb' : base + n * sz + sz ≤ ls.length := by rw [Nat.succ_mul] at hb; omega
    simp only [dynStore] at hd
    split at hd
    · rename_i l1 hl1
      split at hd
      · rename_i r hr
        cases hd
        have ih := dynStore_sound hi hnew hj n hl (by omega) hl1
        have hlen := hl.length
        have hvl := hnew.length
        have hmn : ∀ m n : Nat, m < n → m * sz + sz ≤ n * sz := fun m n hm => by rw [← Nat.succ_mul]; exact Nat.mul_le_mul_right _ (by omega)
        have hl1len : l1.length = ls.length := by
          have hil := ih.length
          split at hil
          · rename_i hlt
            have hmm := hmn m n hlt
            rw [over_length (by omega)] at hil
            omega
          · omega
        unfold dynPut at hr
        split at hr
        · rename_i as bs has hbs
          cases hr
          have hna := exLs_get has
          have hnb := exLs_get hbs
          have hal : as.length = new.length := by rw [hna]; simp
          have hbl : bs.length = new.length := by have := congrArg List.length hnb; simp at this; omega
          -- the slice of the old row
          by_cases hm : m = n
          · subst hm
            rw [if_neg (Nat.lt_irrefl _)] at ih
            rw [if_pos (Nat.lt_succ_self _)]
            have e : base + m * sz + j = base + (m * sz + j) := by omega
            rw [e]
            refine ih.over ?_ _
            refine All2.of_get (by simp; omega) fun q a b ha hb => ?_
            have hq : q < new.length := by have := (List.getElem?_eq_some_iff.1 hb).1; omega
            obtain ⟨a', ha', hr'⟩ := hnew.get' hb
            rw [hna] at ha'
            simp at ha'
            obtain ⟨ea, hea, rfl⟩ := ha'
            simp [List.getElem?_zip_eq_some] at ha
            obtain ⟨ea', eb', ⟨h1, h2⟩, rfl⟩ := ha
            rw [hea] at h1
            cases h1
            obtain ⟨d, hd, hdr⟩ := hr'
            refine ⟨d, ?_, hdr⟩
            rw [mkIte_eval]
            simp [Ex.eval, mkIs_eval, hi, hd]
          · have e2 : over (if m < n then over cur (base + (m * sz + j)) vs else cur) (base + n * sz + j) (((if m < n then over cur (base + (m * sz + j)) vs else cur).drop (base + n * sz + j)).take new.length) =
                (if m < n then over cur (base + (m * sz + j)) vs else cur) := by
              refine over_self _ _ _ ?_
              have := ih.length
              omega
            have e3 : (if m < n + 1 then over cur (base + (m * sz + j)) vs else cur) = (if m < n then over cur (base + (m * sz + j)) vs else cur) := by
              by_cases h1 : m < n
              · rw [if_pos h1, if_pos (by omega)]
              · rw [if_neg h1, if_neg (by omega)]
            rw [e3, ← e2]
            refine ih.over ?_ _
            have hsl := (ih.drop (base + n * sz + j)).take new.length
            rw [hnb] at hsl
            refine All2.of_get (by simp; have := hsl.length; simp at this; omega) fun q a b ha hb => ?_
            obtain ⟨a', ha', hr'⟩ := hsl.get' hb
            simp at ha'
            obtain ⟨eb, heb, rfl⟩ := ha'
            simp [List.getElem?_zip_eq_some] at ha
            obtain ⟨ea', eb', ⟨h1, h2⟩, rfl⟩ := ha
            rw [heb] at h2
            cases h2
            obtain ⟨d, hd, hdr⟩ := hr'
            refine ⟨d, ?_, hdr⟩
            rw [mkIte_eval]
            have hne : ((m : Int) == (n : Int)) = false := by simp; omega
            simp [Ex.eval, mkIs_eval, hi, hd, hne]
        · cases hr
      · cases hd
    · cases hd

theorem storeLs_sound (hW : WR G B I₀ w₀ I μ w ρ h) {l : SL} {new : List SL} {v : Value} {vs : List Value} {h' : Heap} (hl : storeLs h new l = some h') (hv : LR I μ w ρ l v) (hn : LsR I μ w ρ new vs) :
    ∃ (x off : Nat), v = .pointer (some ⟨x, off, none⟩) ∧ ∃ w', (storeCells ⟨x, off, none⟩ vs).run P w = .ok () w' ∧ WR G B I₀ w₀ I μ w' ρ h' ∧ Evo I μ w I μ w' := by
  have go : ∀ (b x off : Nat) (blk : SB) (ls' : List SL), μ b = some x → h[b]? = some blk → blk.ro = false → off + vs.length ≤ blk.ls.length →
      (∀ cur, LsR I μ w ρ blk.ls cur → LsR I μ w ρ ls' (over cur off vs)) →
      ∃ w', (storeCells ⟨x, off, none⟩ vs).run P w = .ok () w' ∧ WR G B I₀ w₀ I μ w' ρ (h.set b { blk with ls := ls' }) ∧ Evo I μ w I μ w' := by
    intro b x off blk ls' hb hh hro hle hls
    obtain ⟨blk', hb', cur, ty, h1, h2, h3⟩ := hW.blk b x hb
    rw [hh] at hb'
    cases hb'
    have hcl := h2.length
    have hrun := run_storeCells_at (P := P) x off ty vs 0 cur.toArray w h1 (by simp; omega) (fun u hu => by
      obtain ⟨i, hi⟩ := List.getElem?_of_mem hu
      obtain ⟨l, _, hr⟩ := hn.get' hi
      exact hr.one)
    simp only [Nat.add_zero, List.toList_toArray] at hrun
    refine ⟨_, hrun, ?_⟩
    refine hW.write hb hh hro (vs := over cur off vs) (ty := ty) ?_ (fun y hy => setRow_other w x y _ (fun e => hy e)) (by simp [World.setRow]) ⟨rfl, rfl⟩ (hls cur h2)
    exact setRow_heap w x cur.toArray _ ty (0, 0) h1
  cases l with
  | p r off =>
    obtain ⟨x, hx, rfl⟩ := hv
    cases r with
    | glo g => simp [storeLs] at hl
    | loc b =>
      refine ⟨x, off, rfl, ?_⟩
      simp only [storeLs] at hl
      split at hl
      · rename_i blk hblk
        split at hl
        · rename_i hc
          simp only [Bool.and_eq_true, Bool.not_eq_true', decide_eq_true_eq] at hc
          cases hl
          exact go b x off blk _ hx hblk hc.1 (by rw [← hn.length]; exact hc.2) (fun cur hcur => hcur.over hn off)
        · cases hl
      · cases hl
  | dyn r base sz n i j =>
    obtain ⟨x, k, m, hx, hi, h0, hlt, rfl⟩ := hv
    obtain ⟨m, rfl⟩ := Int.eq_ofNat_of_zero_le h0
    cases r with
    | glo g => simp [storeLs] at hl
    | loc b =>
      refine ⟨x, base + (m * sz + j), by simp, ?_⟩
      simp only [storeLs] at hl
      split at hl
      · rename_i blk hblk
        split at hl
        · rename_i hc
          simp only [Bool.and_eq_true, Bool.not_eq_true', decide_eq_true_eq] at hc
          obtain ⟨⟨hro, hj⟩, hb⟩ := hc
          split at hl
          · rename_i ls' hls'
            cases hl
            have hmn : m < n := by omega
            have hms : m * sz + sz ≤ n * sz := by rw [← Nat.succ_mul]; exact Nat.mul_le_mul_right _ (by omega)
            exact go b x _ blk ls' hx hblk hro (by have := hn.length; omega) (fun cur hcur => by
              have := dynStore_sound hi hn hj n hcur hb hls'
              rwa [if_pos hmn] at this)
          · cases hl
        · cases hl
      · cases hl
  | x => simp [storeLs] at hl
  | e t => simp [storeLs] at hl
  | elt t i n j => simp [storeLs] at hl
  | sc r b s n => simp [storeLs] at hl
  | g k => simp [storeLs] at hl
  | ge k i sz j => simp [storeLs] at hl
  | gs k sz lo => simp [storeLs] at hl
  | clo f c => simp [storeLs] at hl

theorem simple_store (hW : WR G B I₀ w₀ I μ w ρ h) {fr : List S} {a : Act} {o : Oper} {t : TypeId} {x y : Operand} {cs : List Ex} {s : S} {h' : Heap} (hop : ∀ x, SR I μ w ρ (opd fr x) (a.eval x))
    (ho : o.op = .store t x y) (hs : simple P G fr h (.store t x y) = some (cs, s, h')) : Goes G B I₀ w₀ I μ w ρ ((execOp a.eval o).run P w) s h' := by
  simp only [simple] at hs
  split at hs
  · rename_i l g ls n hl hls hn
    split at hs
    · rename_i hlen
      split at hs
      · rename_i h1 hst
        simp only [Option.some.injEq, Prod.mk.injEq] at hs
        obtain ⟨rfl, rfl, rfl⟩ := hs
        have hy := hop y
        rw [hls] at hy
        obtain ⟨vs, hc, hv⟩ := VR.cells (g := g) hy
        obtain ⟨x', off, hp, w', hrun, hW', he⟩ := storeLs_sound (P := P) hW hst (l?_sound hl (hop x)) hv
        refine ⟨.skip, undef, w', μ, ?_, .inr ⟨rfl, rfl⟩, trivial, hW', he, Fresh.refl _ _⟩
        have hvl := hv.length
        simp [execOp, ho, Instr.storeAt, Instr.sureAddr, hp, storeVar, hc, run_sizeT hn, hrun, ← hvl, hlen]
      · cases hs
    · cases hs
  · cases hs

end
end Go.Proofs.YtlihbielphcgbaaGreatDoor.Sx

namespace Go.Proofs.YtlihbielphcgbaaGreatDoor.Sx
open Go
set_option linter.unnecessarySimpa false
set_option linter.unusedSimpArgs false
set_option linter.unusedVariables false

section
variable {I : Imm} {μ : Mu} {w : World} {ρ : List D} {G : Glo} {B : Nat} {I₀ : Imm} {w₀ : World} {h : Heap} {P : Program} {fr : List S} {a : Act} {o : Oper} {cs : List Ex} {s : S} {h' : Heap}

theorem simple_move (hW : WR G B I₀ w₀ I μ w ρ h) {x : Operand} (hop : ∀ x, SR I μ w ρ (opd fr x) (a.eval x)) (ho : o.op = .move x ∨ o.op = .assign x) :
    GoesQ G B I₀ w₀ I μ w ρ ((execOp a.eval o).run P w) (opd fr x) h := by
  refine Goes.val hW (v := a.eval x) ?_ (hop x)
  rcases ho with ho | ho <;> simp [execOp, ho]

theorem simple_pick (hW : WR G B I₀ w₀ I μ w ρ h) {q x y : Operand} (hop : ∀ x, SR I μ w ρ (opd fr x) (a.eval x)) (ho : o.op = .pick q x y)
    (hs : simple P G fr h (.pick q x y) = some (cs, s, h')) : GoesQ G B I₀ w₀ I μ w ρ ((execOp a.eval o).run P w) s h' := by
  simp only [simple] at hs
  split at hs
  · rename_i t ht
    obtain ⟨d, hd, hr⟩ := e?_sound ht (hop q)
    split at hs
    · rename_i hb
      have := bool?_eval (ρ := ρ) hb
      rw [hd] at this
      cases this
      simp only [Option.some.injEq, Prod.mk.injEq] at hs
      obtain ⟨rfl, rfl, rfl⟩ := hs
      exact Goes.val hW (v := a.eval x) (by simp [execOp, ho, hr.b_inv, asBool]) (hop x)
    · rename_i hb
      have := bool?_eval (ρ := ρ) hb
      rw [hd] at this
      cases this
      simp only [Option.some.injEq, Prod.mk.injEq] at hs
      obtain ⟨rfl, rfl, rfl⟩ := hs
      exact Goes.val hW (v := a.eval y) (by simp [execOp, ho, hr.b_inv, asBool]) (hop y)
    · cases hs
  · cases hs

theorem simple_nilCheck (hW : WR G B I₀ w₀ I μ w ρ h) {x : Operand} (hop : ∀ x, SR I μ w ρ (opd fr x) (a.eval x)) (ho : o.op = .nilCheck x)
    (hs : simple P G fr h (.nilCheck x) = some (cs, s, h')) : GoesQ G B I₀ w₀ I μ w ρ ((execOp a.eval o).run P w) s h' := by
  simp only [simple] at hs
  split at hs
  · rename_i r off hl
    simp only [Option.some.injEq, Prod.mk.injEq] at hs
    obtain ⟨rfl, rfl, rfl⟩ := hs
    have hv := l?_sound hl (hop x)
    refine Goes.one hW (v := a.eval x) ?_ hv
    obtain ⟨y, _, hp⟩ := hv
    simp [execOp, ho, hp]
  · rename_i r b sz n i j hl
    simp only [Option.some.injEq, Prod.mk.injEq] at hs
    obtain ⟨rfl, rfl, rfl⟩ := hs
    have hv := l?_sound hl (hop x)
    refine Goes.one hW (v := a.eval x) ?_ hv
    obtain ⟨y, k, m, _, _, _, _, hp⟩ := hv
    simp [execOp, ho, hp]
  · rename_i t i n j hl
    simp only [Option.some.injEq, Prod.mk.injEq] at hs
    obtain ⟨rfl, rfl, rfl⟩ := hs
    have hv := l?_sound hl (hop x)
    refine Goes.one hW (v := a.eval x) ?_ hv
    obtain ⟨xs, k, m, r, blk, off, _, _, _, _, _, hp, _⟩ := hv
    simp [execOp, ho, hp]
  · rename_i q i n j hl
    simp only [Option.some.injEq, Prod.mk.injEq] at hs
    obtain ⟨rfl, rfl, rfl⟩ := hs
    have hv := l?_sound hl (hop x)
    refine Goes.one hW (v := a.eval x) ?_ hv
    obtain ⟨y, len, cap, kk, m, _, _, _, _, hp⟩ := hv
    simp [execOp, ho, hp]
  · rename_i f c hl
    simp only [Option.some.injEq, Prod.mk.injEq] at hs
    obtain ⟨rfl, rfl, rfl⟩ := hs
    have hv := l?_sound hl (hop x)
    refine Goes.one hW (v := a.eval x) ?_ hv
    obtain ⟨vs, hp, _⟩ := hv
    simp [execOp, ho, hp]
  · rename_i f hl
    simp only [Option.some.injEq, Prod.mk.injEq] at hs
    obtain ⟨rfl, rfl, rfl⟩ := hs
    have hv := l?_sound hl (hop x)
    refine Goes.one hW (v := a.eval x) ?_ hv
    obtain ⟨d, hd, hr⟩ := hv
    simp only [Ex.eval] at hd
    cases hd
    simp [execOp, ho, hr.f_inv]
  · cases hs

/-! ### building -/

theorem foldl_over (off : Nat) : ∀ (vs : List Value) (k : Nat) (cells : Array Value), off + k + vs.length ≤ cells.size →
    ((vs.zipIdx k).foldl (fun (cs : Array Value) (p : Value × Nat) => cs.setIfInBounds (off + p.2) p.1) cells) = (over cells.toList (off + k) vs).toArray
  | [], k, cells, _ => by simp [over]
  | v :: vs, k, cells, hl => by
    simp only [List.length_cons] at hl
    rw [List.zipIdx_cons, List.foldl_cons, foldl_over off vs (k + 1) _ (by simp; omega)]
    congr 1
    have hlt : off + k < cells.toList.length := by simp; omega
    simp only [over, Array.toList_setIfInBounds]
    rw [show off + (k + 1) = off + k + 1 from by omega]
    rw [List.take_set, List.take_succ_eq_append_getElem hlt]
    rw [List.set_append_right _ _ (by simp; omega)]
    have : (off + k - (List.take (off + k) cells.toList).length) = 0 := by simp; omega
    rw [this]
    simp only [List.set_cons_zero, List.length_cons]
    rw [List.drop_set_of_lt (by omega), show off + k + 1 + vs.length = off + k + (vs.length + 1) from by omega]
    simp

theorem fillS_sound {place : Nat → Option (Nat × Nat)} : ∀ (parts : List (Nat × Operand)) {ls ls' : List SL} {cur : List Value}, (∀ x, SR I μ w ρ (opd fr x) (a.eval x)) → LsR I μ w ρ ls cur →
    fillS place ls (parts.map fun q => (q.1, opd fr q.2)) = some ls' →
    ∃ cur', Instr.fill place cur.toArray (parts.map fun q => (q.1, a.eval q.2)) = some cur'.toArray ∧ LsR I μ w ρ ls' cur'
  | [], ls, ls', cur, hop, hl, hf => by
    simp only [List.map_nil, fillS] at hf
    cases hf
    exact ⟨cur, by simp [Instr.fill], hl⟩
  | (i, x) :: parts, ls, ls', cur, hop, hl, hf => by
    simp only [List.map_cons, fillS] at hf
    split at hf
    · rename_i off size g ls1 hp hx
      split at hf
      · rename_i hc
        have hv := hop x
        rw [hx] at hv
        obtain ⟨vs, hcells, hvs⟩ := VR.cells (g := g) hv
        have hvl := hvs.length
        have hll := hl.length
        obtain ⟨cur', h1, h2⟩ := fillS_sound parts hop (hl.over hvs off) hf
        refine ⟨cur', ?_, h2⟩
        simp only [List.map_cons, Instr.fill, hp, hcells]
        have hsz : ¬ (vs.toArray.size ≠ size || off + vs.toArray.size > cur.toArray.size) = true := by
          simp; omega
        rw [if_neg hsz]
        have := foldl_over off vs 0 cur.toArray (by simp; omega)
        simp only [Nat.add_zero, List.toList_toArray] at this
        rw [← Array.foldl_toList]
        rw [show vs.toArray.zipIdx.toList = vs.zipIdx 0 from by simp]
        rw [this]
        exact h1
      · cases hf
    · cases hf

theorem placesF_run : ∀ (fs : List Field) {pl : List (Nat × Nat)}, placesF P fs = some pl → ∀ w : World, (fs.mapM (m := Sem) fun f => do pure (f.offset, ← sizeOf f.type)).run P w = .ok pl w
  | [], pl, hp, w => by simp [placesF] at hp; subst hp; simp
  | f :: fs, pl, hp, w => by
    simp only [placesF] at hp
    split at hp
    · rename_i n l hn hl
      cases hp
      have ih := placesF_run fs hl w
      simp only [List.mapM_cons, Sem.run_bind, run_sizeT hn, Result.andThen_ok, Sem.run_pure, ih]
    · cases hp

theorem simple_build (hW : WR G B I₀ w₀ I μ w ρ h) {t : TypeId} {parts : Array (Nat × Operand)} (hop : ∀ x, SR I μ w ρ (opd fr x) (a.eval x)) (ho : o.op = .build t parts)
    (hs : simple P G fr h (.build t parts) = some (cs, s, h')) : GoesQ G B I₀ w₀ I μ w ρ ((execOp a.eval o).run P w) s h' := by
  simp only [simple] at hs
  split at hs
  · rename_i z fs hz hu
    split at hs
    · rename_i pl hpl
      split at hs
      · rename_i ls hls
        simp only [Option.some.injEq, Prod.mk.injEq] at hs
        obtain ⟨rfl, rfl, rfl⟩ := hs
        obtain ⟨zv, hzr, hzc⟩ := zeroT_run hz
        obtain ⟨cur, h1, h2⟩ := fillS_sound parts.toList hop (constLs_sound hzc) hls
        refine Goes.val hW (v := .agg cur.toArray) ?_ ⟨cur, rfl, h2⟩
        have hm := placesF_run fs.toList hpl w
        have hpm : (fs.mapM (m := Sem) fun f => do pure (f.offset, ← sizeOf f.type)).run P w = .ok pl.toArray w := by
          rw [Array.mapM_eq_mapM_toList, Sem.run_map, hm]
          rfl
        simp only [execOp, ho, Instr.build, Sem.run_bind, hzr, Result.andThen_ok, run_underlying hu, hpm]
        have hpar : (parts.map fun q => (q.1, a.eval q.2)).toList = parts.toList.map fun q => (q.1, a.eval q.2) := by simp
        have hplc : (fun i : Nat => pl.toArray[i]?) = (fun i : Nat => pl[i]?) := by funext i; simp
        simp only [hpar, hplc]
        simp only [Array.toArray_toList] at h1
        rw [h1]
        simp
      · cases hs
    · cases hs
  · rename_i z n e hz hu
    split at hs
    · rename_i sz hsz
      split at hs
      · rename_i ls hls
        simp only [Option.some.injEq, Prod.mk.injEq] at hs
        obtain ⟨rfl, rfl, rfl⟩ := hs
        obtain ⟨zv, hzr, hzc⟩ := zeroT_run hz
        obtain ⟨cur, h1, h2⟩ := fillS_sound parts.toList hop (constLs_sound hzc) hls
        refine Goes.val hW (v := .agg cur.toArray) ?_ ⟨cur, rfl, h2⟩
        have hpar : (parts.map fun q => (q.1, a.eval q.2)).toList = parts.toList.map fun q => (q.1, a.eval q.2) := by simp
        simp only [execOp, ho, Instr.build, Sem.run_bind, hzr, Result.andThen_ok, run_underlying hu, run_sizeT hsz, hpar]
        simp only [Array.toArray_toList] at h1
        rw [h1]
        simp
      · cases hs
    · cases hs
  · cases hs

theorem simple_makeFunc (hW : WR G B I₀ w₀ I μ w ρ h) {fn : Fn} {first caps : Array Operand} (hop : ∀ x, SR I μ w ρ (opd fr x) (a.eval x)) (ho : o.op = .makeFunc fn first caps)
    (hs : simple P G fr h (.makeFunc fn first caps) = some (cs, s, h')) : GoesQ G B I₀ w₀ I μ w ρ ((execOp a.eval o).run P w) s h' := by
  cases fn <;> simp only [simple] at hs <;> try cases hs
  rename_i f
  split at hs
  · rename_i hf
    have hf0 : first = #[] := by simpa using hf
    subst hf0
    have hcaps : ∀ (l : List Operand) (r : List (BR × Nat)), optAll (l.map fun c => match (opd fr c).l? with | some (.p r o) => some (r, o) | _ => none) = some r →
        All2 (fun (c : BR × Nat) u => ∃ x, BRef μ c.1 = some x ∧ u = .pointer (some ⟨x, c.2, none⟩)) r (l.map a.eval) := by
      intro l
      induction l with
      | nil => intro r hr; simp [optAll] at hr; subst hr; exact .nil
      | cons c l ih =>
        intro r hr
        simp only [List.map_cons] at hr
        split at hr
        · rename_i r0 o0 hl
          simp only [optAll] at hr
          split at hr
          · rename_i r' hr'
            cases hr
            obtain ⟨x, hx, hv⟩ := l?_sound hl (hop c)
            exact .cons ⟨x, hx, hv⟩ (ih _ hr')
          · cases hr
        · simp [optAll] at hr
    split at hs
    · rename_i hc
      simp only [Option.some.injEq, Prod.mk.injEq] at hs
      obtain ⟨rfl, rfl, rfl⟩ := hs
      have := hcaps _ _ hc
      have hlen := this.length
      have hc0 : caps = #[] := by
        have : caps.toList = [] := by simpa using hlen.symm
        exact Array.toList_eq_nil_iff.1 this
      subst hc0
      refine Goes.one hW (v := .func (.func f) #[] #[]) (by simp [execOp, ho, Instr.makeFunc]) ⟨_, by simp [Ex.eval], .f f⟩
    · rename_i cs' hne hc
      simp only [Option.some.injEq, Prod.mk.injEq] at hs
      obtain ⟨rfl, rfl, rfl⟩ := hs
      refine Goes.one hW (v := .func (.func f) #[] (caps.map a.eval)) (by simp [execOp, ho, Instr.makeFunc]) ⟨caps.toList.map a.eval, congrArg (Value.func (.func f) #[]) (by apply Array.toList_inj.1; simp), ?_⟩
      exact hcaps _ _ hc
    · cases hs
  · cases hs

/-! ### fields and elements -/

theorem simple_fieldAddr (hW : WR G B I₀ w₀ I μ w ρ h) {t : TypeId} {x : Operand} {k : Nat} (hop : ∀ x, SR I μ w ρ (opd fr x) (a.eval x)) (ho : o.op = .fieldAddr t x k)
    (hs : simple P G fr h (.fieldAddr t x k) = some (cs, s, h')) : GoesQ G B I₀ w₀ I μ w ρ ((execOp a.eval o).run P w) s h' := by
  simp only [simple] at hs
  split at hs
  · rename_i fs l hu hl
    split at hs
    · rename_i f hf
      split at hs
      · rename_i n hn
        split at hs
        · rename_i l' hl'
          simp only [Option.some.injEq, Prod.mk.injEq] at hs
          obtain ⟨rfl, rfl, rfl⟩ := hs
          have hv := l?_sound hl (hop x)
          have key : ∀ y off, a.eval x = .pointer (some ⟨y, off, none⟩) → (execOp a.eval o).run P w = .ok (.value (.pointer (some ⟨y, off + f.offset, none⟩))) w := fun y off hp => by
            simp [execOp, ho, Instr.fieldAt, run_underlying hu, hf, Instr.sureAddr, hp, fieldPlace, run_sizeT hn, addr_add]
          cases l with
          | p r off =>
            simp only [SL.plus, Option.some.injEq] at hl'
            subst hl'
            obtain ⟨y, hy, hp⟩ := hv
            exact Goes.one hW (key _ _ hp) ⟨y, hy, rfl⟩
          | dyn r b sz n i j =>
            simp only [SL.plus, Option.some.injEq] at hl'
            subst hl'
            obtain ⟨y, kk, m, hy, hi, h0, h1, hp⟩ := hv
            exact Goes.one hW (key _ _ hp) ⟨y, kk, m, hy, hi, h0, h1, by simp [Nat.add_assoc]⟩
          | elt tt i n j =>
            simp only [SL.plus, Option.some.injEq] at hl'
            subst hl'
            obtain ⟨xs, kk, m, r, blk, off, h1, h2, h3, h4, h5, hp, h7⟩ := hv
            exact Goes.one hW (key _ _ hp) ⟨xs, kk, m, r, blk, off, h1, h2, h3, h4, h5, by simp [Nat.add_assoc], h7⟩
          | x => simp [SL.plus] at hl'
          | e t => simp [SL.plus] at hl'
          | sc r b s n => simp [SL.plus] at hl'
          | g q => simp [SL.plus] at hl'
          | ge q i sz j =>
            simp only [SL.plus, Option.some.injEq] at hl'
            subst hl'
            obtain ⟨y, len, cap, kk, m, h1, h2, h3, h4, hp⟩ := hv
            exact Goes.one hW (key _ _ hp) ⟨y, len, cap, kk, m, h1, h2, h3, h4, by simp [Nat.add_assoc]⟩
          | gs q sz j => simp [SL.plus] at hl'
          | clo f c => simp [SL.plus] at hl'
        · cases hs
      · cases hs
    · cases hs
  · cases hs

theorem partS_sound {t : TypeId} {ls : List SL} {vs : List Value} {off : Nat} {s : S} (hp : partS P t ls off = some s) (hr : LsR I μ w ρ ls vs) :
    ∃ v, (part t vs.toArray off).run P w = .ok v w ∧ SR I μ w ρ s v := by
  unfold partS at hp
  have hl := hr.length
  split at hp
  · rename_i n hg hn
    split at hp
    · rename_i hle
      cases hp
      obtain ⟨v, h1, h2⟩ := run_part hn hg (off := off) (vs := vs) (by omega) (fun h => by cases h) w
      rcases h2 with ⟨_, rfl⟩ | ⟨hg', _⟩
      · exact ⟨_, h1, _, rfl, (hr.drop off).take n⟩
      · rw [hg] at hg'; cases hg'
    · cases hp
  · rename_i n hg hn
    split at hp
    · rename_i l hl'
      cases hp
      obtain ⟨v, hv, hlr⟩ := hr.get hl'
      refine ⟨v, ?_, l, rfl, hlr⟩
      unfold part
      simp [run_isAgg hg, hv]
    · cases hp
  · cases hp

theorem simple_field (hW : WR G B I₀ w₀ I μ w ρ h) {t : TypeId} {x : Operand} {k : Nat} (hop : ∀ x, SR I μ w ρ (opd fr x) (a.eval x)) (ho : o.op = .field t x k)
    (hs : simple P G fr h (.field t x k) = some (cs, s, h')) : GoesQ G B I₀ w₀ I μ w ρ ((execOp a.eval o).run P w) s h' := by
  simp only [simple] at hs
  split at hs
  · rename_i fs ls hu hx
    split at hs
    · rename_i f hf
      split at hs
      · rename_i s' hs'
        simp only [Option.some.injEq, Prod.mk.injEq] at hs
        obtain ⟨rfl, rfl, rfl⟩ := hs
        have hv := hop x
        rw [hx] at hv
        obtain ⟨vs, hp, hvs⟩ := hv
        obtain ⟨v, h1, h2⟩ := partS_sound (P := P) hs' hvs
        exact Goes.val hW (v := v) (by simp [execOp, ho, Instr.field, run_underlying hu, hf, hp, asAgg, h1]) h2
      · cases hs
    · cases hs
  · cases hs

theorem rng_sound {i : Ex} {n : Nat} (hr : (Ex.rng i n).eval ρ = some (.b true)) : ∃ k m, i.eval ρ = some (.i k m) ∧ 0 ≤ m ∧ m < n := by
  simp only [Ex.eval] at hr
  split at hr
  · rename_i k m hi
    simp at hr
    exact ⟨k, m, hi, hr.1, hr.2⟩
  · cases hr

theorem simple_indexAddr (hW : WR G B I₀ w₀ I μ w ρ h) {t : TypeId} {x y : Operand} (hop : ∀ x, SR I μ w ρ (opd fr x) (a.eval x)) (ho : o.op = .indexAddr t x y)
    (hs : simple P G fr h (.indexAddr t x y) = some (cs, s, h')) (hc : ∀ c ∈ cs, c.eval ρ = some (.b true)) : GoesQ G B I₀ w₀ I μ w ρ ((execOp a.eval o).run P w) s h' := by
  simp only [simple] at hs
  split at hs
  · -- an array's address
    rename_i n el r off ix hu hl hy
    obtain ⟨z, hz, hp⟩ := l?_sound hl (hop x)
    split at hs
    · rename_i sz hsz
      have key : ∀ k m, a.eval y = .int k m → 0 ≤ m → m < n → (execOp a.eval o).run P w = .ok (.value (.pointer (some ⟨z, off + m.toNat * (sz + 1), none⟩))) w := fun k m hi h0 h1 => by
        simp [execOp, ho, Instr.indexAt, run_underlying hu, hp, hi, asIntOf, Instr.sureAddr, h0, h1, run_sizeT hsz, addr_add]
      split at hs
      · rename_i m hm
        split at hs
        · rename_i hb
          simp only [Option.some.injEq, Prod.mk.injEq] at hs
          obtain ⟨rfl, rfl, rfl⟩ := hs
          obtain ⟨k, hk⟩ := int?_sound hy hm (hop y)
          exact Goes.one hW (key k m hk hb.1 hb.2) ⟨z, hz, rfl⟩
        · cases hs
      · split at hs
        · simp only [Option.some.injEq, Prod.mk.injEq] at hs
          obtain ⟨rfl, rfl, rfl⟩ := hs
          obtain ⟨d, hd, hdr⟩ := e?_sound hy (hop y)
          obtain ⟨k, m, hi, h0, h1⟩ := rng_sound (hc _ (List.mem_singleton.2 rfl))
          rw [hi] at hd
          cases hd
          exact Goes.one hW (key k m hdr.i_inv h0 h1) ⟨z, k, m, hz, hi, h0, h1, by simp⟩
        · cases hs
    · cases hs
  · -- a slice over cells
    rename_i el r base sz n ix hu hl hy
    obtain ⟨z, cap, hz, hp, _⟩ := l?_sound hl (hop x)
    split at hs
    · rename_i m' hsz
      split at hs
      · rename_i hm'
        obtain ⟨rfl, hpos⟩ := hm'
        have key : ∀ k m, a.eval y = .int k m → 0 ≤ m → m < n → (execOp a.eval o).run P w = .ok (.value (.pointer (some ⟨z, base + m.toNat * m', none⟩))) w := fun k m hi h0 h1 => by
          simp [execOp, ho, Instr.indexAt, run_underlying hu, hp, hi, asIntOf, h0, h1, run_sizeT hsz, addr_add]
        split at hs
        · rename_i m hm
          split at hs
          · rename_i hb
            simp only [Option.some.injEq, Prod.mk.injEq] at hs
            obtain ⟨rfl, rfl, rfl⟩ := hs
            obtain ⟨k, hk⟩ := int?_sound hy hm (hop y)
            exact Goes.one hW (key k m hk hb.1 hb.2) ⟨z, hz, rfl⟩
          · cases hs
        · simp only [Option.some.injEq, Prod.mk.injEq] at hs
          obtain ⟨rfl, rfl, rfl⟩ := hs
          obtain ⟨d, hd, hdr⟩ := e?_sound hy (hop y)
          obtain ⟨k, m, hi, h0, h1⟩ := rng_sound (hc _ (List.mem_singleton.2 rfl))
          rw [hi] at hd
          cases hd
          exact Goes.one hW (key k m hdr.i_inv h0 h1) ⟨z, k, m, hz, hi, h0, h1, by simp⟩
      · cases hs
    · cases hs
  · -- data
    rename_i el t' ix hu hl hy
    split at hs
    · rename_i sz hsz
      simp only [Option.some.injEq, Prod.mk.injEq] at hs
      obtain ⟨rfl, rfl, rfl⟩ := hs
      obtain ⟨dx, hdx, hrx⟩ := l?_sound hl (hop x)
      obtain ⟨di, hdi, hri⟩ := e?_sound hy (hop y)
      have hb := hc _ (List.mem_singleton.2 rfl)
      simp only [Ex.eval, hdx, hdi] at hb
      unfold inbD at hb
      split at hb
      · rename_i sz' xs k m
        simp at hb
        obtain ⟨⟨hsz', h0⟩, h1⟩ := hb
        subst hsz'
        obtain ⟨m, rfl⟩ := Int.eq_ofNat_of_zero_le h0
        have hm : m < xs.length := by omega
        generalize hax : a.eval x = vx at hrx
        cases hrx with
        | nil => simp at hm
        | sl _ _ blk off cap vs _ hw hcap hI hcl hdl _ =>
          have hr := List.getElem?_eq_getElem hm
          have hrl : (xs[m]).length = sz + 1 := hw _ (List.getElem_mem hm)
          refine Goes.one hW (v := .pointer (some ⟨blk, off + m * (sz + 1), none⟩)) ?_ ?_
          · have hi := hri.i_inv
            simp [execOp, ho, Instr.indexAt, run_underlying hu, hax, hi, asIntOf, hm, run_sizeT hsz, addr_add]
          · refine ⟨xs, k, m, xs[m], blk, off + m * (sz + 1), hdx, hdi, by omega, by simpa using hr, ⟨hrl, by omega⟩, by simp, hI, fun q d hq => ?_⟩
            refine ⟨vs m q, ?_, hdl m _ q d hr hq⟩
            rw [Nat.add_assoc]
            exact hcl m _ q d hr hq
      · cases hb
    · cases hs
  · -- within an element
    rename_i n el t' i' n' j ix hu hl hy
    split at hs
    · rename_i sz m hsz hm
      split at hs
      · rename_i hb
        simp only [Option.some.injEq, Prod.mk.injEq] at hs
        obtain ⟨rfl, rfl, rfl⟩ := hs
        obtain ⟨k, hk⟩ := int?_sound hy hm (hop y)
        obtain ⟨xs, kk, mm, r, blk, off, h1, h2, h3, h4, h5, hp, h6, h7⟩ := l?_sound hl (hop x)
        refine Goes.one hW (v := .pointer (some ⟨blk, off + (j + m.toNat * (sz + 1)), none⟩)) ?_ ⟨xs, kk, mm, r, blk, off, h1, h2, h3, h4, h5, rfl, h6, h7⟩
        simp [execOp, ho, Instr.indexAt, run_underlying hu, hp, hk, asIntOf, Instr.sureAddr, hb.1, hb.2, run_sizeT hsz, addr_add, Nat.add_assoc]
      · cases hs
    · cases hs
  · cases hs

theorem simple_index (hW : WR G B I₀ w₀ I μ w ρ h) {t : TypeId} {x y : Operand} (hop : ∀ x, SR I μ w ρ (opd fr x) (a.eval x)) (ho : o.op = .index t x y)
    (hs : simple P G fr h (.index t x y) = some (cs, s, h')) (hc : ∀ c ∈ cs, c.eval ρ = some (.b true)) : GoesQ G B I₀ w₀ I μ w ρ ((execOp a.eval o).run P w) s h' := by
  simp only [simple] at hs
  split at hs
  · rename_i n el ls ix hu hx hy
    have hv := hop x
    rw [hx] at hv
    obtain ⟨vs, hp, hvs⟩ := hv
    split at hs
    · rename_i m sz hm hsz
      split at hs
      · rename_i hb
        split at hs
        · rename_i s' hs'
          simp only [Option.some.injEq, Prod.mk.injEq] at hs
          obtain ⟨rfl, rfl, rfl⟩ := hs
          obtain ⟨k, hk⟩ := int?_sound hy hm (hop y)
          obtain ⟨v, h1, h2⟩ := partS_sound (P := P) hs' hvs
          exact Goes.val hW (v := v) (by simp [execOp, ho, Instr.index, run_underlying hu, hp, hk, asIntOf, hb, run_sizeT hsz, h1]) h2
        · cases hs
      · cases hs
    · rename_i sz hm hsz
      split at hs
      · rename_i hb
        obtain ⟨hlen, hn0⟩ := hb
        split at hs
        · rename_i g r hg hr
          split at hs
          · rename_i hgs
            simp only [Option.some.injEq, Prod.mk.injEq] at hs
            obtain ⟨rfl, rfl, rfl⟩ := hs
            obtain ⟨d, hd, hdr⟩ := e?_sound hy (hop y)
            obtain ⟨k, m, hi, h0, h1⟩ := rng_sound (hc _ (List.mem_singleton.2 rfl))
            rw [hi] at hd
            cases hd
            obtain ⟨m, rfl⟩ := Int.eq_ofNat_of_zero_le h0
            have hmn : m < n := by omega
            have hms : m * sz + sz ≤ n * sz := by rw [← Nat.succ_mul]; exact Nat.mul_le_mul_right _ (by omega)
            have hvl := hvs.length
            obtain ⟨v, hv1, hv2⟩ := run_part hsz hg (off := m * sz) (vs := vs) (by omega) (by
              intro hgf
              rcases hgs with h' | h'
              · rw [hgf] at h'; cases h'
              · exact h') w
            have hrl : r.length = sz := by have := congrArg List.length (optAll_get hr); simpa using this.symm
            have hlr : LsR I μ w ρ r ((vs.drop (m * sz)).take sz) := by
              refine All2.of_get (by simp; omega) fun q l u hl' hu' => ?_
              have hq : q < sz := by have := (List.getElem?_eq_some_iff.1 hl').1; omega
              have hg' := congrArg (fun l => l[q]?) (optAll_get hr)
              simp [hq, hl'] at hg'
              rw [List.getElem?_take, if_pos hq, List.getElem?_drop] at hu'
              obtain ⟨l', hl'', hr'⟩ := hvs.get' hu'
              refine dynSel_sound hg' hi hmn ?_
              rw [List.getD_eq_getElem?_getD, Nat.zero_add, hl'']
              exact hr'
            refine Goes.val hW (v := v) (by simp [execOp, ho, Instr.index, run_underlying hu, hp, hdr.i_inv, asIntOf, hmn, run_sizeT hsz, hv1]) ?_
            rcases hv2 with ⟨hg', rfl⟩ | ⟨hg', hv2⟩
            · rw [hg] at hg'
              cases hg'
              exact ⟨_, rfl, hlr⟩
            · rw [hg] at hg'
              cases hg'
              rw [hv2] at hlr
              cases hlr with | cons h1 h2 =>
              cases h2
              exact ⟨_, rfl, h1⟩
          · cases hs
        · cases hs
      · cases hs
    · cases hs
  · cases hs

theorem simple_extract (hW : WR G B I₀ w₀ I μ w ρ h) {x : Operand} {k : Nat} (hop : ∀ x, SR I μ w ρ (opd fr x) (a.eval x)) (ho : o.op = .extract x k)
    (hs : simple P G fr h (.extract x k) = some (cs, s, h')) : GoesQ G B I₀ w₀ I μ w ρ ((execOp a.eval o).run P w) s h' := by
  simp only [simple] at hs
  split at hs
  · rename_i vs hx
    split at hs
    · rename_i g ls hk
      simp only [Option.some.injEq, Prod.mk.injEq] at hs
      obtain ⟨rfl, rfl, rfl⟩ := hs
      have hv := hop x
      rw [hx] at hv
      obtain ⟨us, hp, hus⟩ := hv
      obtain ⟨u, hu, hr⟩ := hus.get hk
      exact Goes.val hW (v := u) (by simp [execOp, ho, Instr.extract, hp, hu]) hr
    · cases hs
  · cases hs

theorem run_sliceBounds_none (isSlice : Bool) (len cap : Nat) : (Instr.sliceBounds isSlice len cap none none none).run P w = .ok (0, len, cap) w := by
  simp [Instr.sliceBounds]

theorem simple_slice (hW : WR G B I₀ w₀ I μ w ρ h) {t : TypeId} {x : Operand} (hop : ∀ x, SR I μ w ρ (opd fr x) (a.eval x)) (ho : o.op = .slice t x none none none)
    (hs : simple P G fr h (.slice t x none none none) = some (cs, s, h')) (hc : ∀ c ∈ cs, c.eval ρ = some (.b true)) : GoesQ G B I₀ w₀ I μ w ρ ((execOp a.eval o).run P w) s h' := by
  simp only [simple] at hs
  split at hs
  · rename_i n el r off hu hl
    split at hs
    · rename_i sz hsz
      split at hs
      · rename_i hpos
        simp only [Option.some.injEq, Prod.mk.injEq] at hs
        obtain ⟨rfl, rfl, rfl⟩ := hs
        obtain ⟨z, hz, hp⟩ := l?_sound hl (hop x)
        refine Goes.one hW (v := .slice (some ⟨z, off, none⟩) n n) ?_ ⟨z, n, hz, rfl, rfl⟩
        have hn : ¬ n = 0 := by omega
        simp [execOp, ho, Instr.sliceAt, run_underlying hu, hp, Instr.sureAddr, run_sliceBounds_none, run_sizeT hsz, addr_add, hn]
      · cases hs
    · cases hs
  · rename_i el l hu hl
    have key : ∀ (base : Option Addr) (len cap n : Nat), sizeT P el = some n → a.eval x = .slice base len cap →
        (execOp a.eval o).run P w = .ok (.value (.slice base len cap)) w := fun base len cap n hn hp => by
      have hb : (if cap = 0 then base else base.map (·.add (0 * n))) = base := by
        split
        · rfl
        · cases base with
          | none => rfl
          | some ad => simp [Addr.add]
      simp [execOp, ho, Instr.sliceAt, Instr.slice, run_underlying hu, hp, run_sliceBounds_none, run_sizeT hn]
      simpa using hb
    split at hs
    · rename_i n t' hn
      simp only [Option.some.injEq, Prod.mk.injEq] at hs
      obtain ⟨rfl, rfl, rfl⟩ := hs
      obtain ⟨d, hd, hr⟩ := l?_sound hl (hop x)
      have hsl : ∃ sz xs, d = .sl sz xs := by
        unfold mkIsSl at hc
        split at hc
        · simp only [Ex.eval] at hd; cases hd; exact ⟨_, _, rfl⟩
        · have := hc _ (List.mem_singleton.2 rfl)
          simp only [Ex.eval, hd] at this
          cases d <;> first | exact ⟨_, _, rfl⟩ | (simp at this)
      obtain ⟨sz, xs, rfl⟩ := hsl
      generalize hv : a.eval x = vx at hr
      cases hr with
      | nil _ p cap hz => exact Goes.one hW (key p 0 cap n hn hv) ⟨_, hd, .nil _ _ _ hz⟩
      | sl _ _ blk off cap vs h0 h1 h2 h3 h4 h5 h6 => exact Goes.one hW (key _ _ _ n hn hv) ⟨_, hd, .sl _ _ blk off cap vs h0 h1 h2 h3 h4 h5 h6⟩
    · rename_i n r b sz m hn
      simp only [Option.some.injEq, Prod.mk.injEq] at hs
      obtain ⟨rfl, rfl, rfl⟩ := hs
      obtain ⟨z, cap, hz, hp, hcn⟩ := l?_sound hl (hop x)
      exact Goes.one hW (key _ _ _ n hn hp) ⟨z, cap, hz, rfl, hcn⟩
    · cases hs
  · cases hs

theorem isW_sound {n : Nat} {x : Ex} (h : (isW n x).eval ρ = some (.b true)) : ∃ s xs, x.eval ρ = some (.sl s xs) ∧ (s = n ∨ xs = []) := by
  unfold isW at h
  simp only [Ex.eval] at h
  cases hx : x.eval ρ with
  | none => rw [hx] at h; simp at h
  | some d =>
    rw [hx] at h
    cases d with
    | sl s xs =>
      refine ⟨s, xs, rfl, ?_⟩
      simp only [appD] at h
      by_cases hc : (0 = n ∨ (True ∧ ([] : List (List D)).isEmpty = true)) ∧ (s = n ∨ xs.isEmpty = true)
      · rcases hc.2 with h' | h'
        · exact .inl h'
        · exact .inr (List.isEmpty_iff.1 h')
      · rw [if_neg hc] at h; simp at h
    | b _ => simp [appD] at h
    | i _ _ => simp [appD] at h
    | s _ => simp [appD] at h
    | f _ => simp [appD] at h

theorem bnd_sound {l m e : Ex} (h : (Ex.bnd l m e).eval ρ = some (.b true)) : ∃ k a k' b k'' c, l.eval ρ = some (.i k a) ∧ m.eval ρ = some (.i k' b) ∧ e.eval ρ = some (.i k'' c) ∧ 0 ≤ a ∧ a ≤ b ∧ b ≤ c := by
  simp only [Ex.eval] at h
  split at h
  · rename_i k a k' b k'' c h1 h2 h3
    simp only [Option.some.injEq, D.b.injEq, Bool.and_eq_true, decide_eq_true_eq] at h
    exact ⟨k, a, k', b, k'', c, h1, h2, h3, h.1.1, h.1.2, h.2⟩
  · cases h

/-- a part of a slice reads as the part of its data -/
theorem DR.part {sz : Nat} {xs : List (List D)} {base : Option Addr} {len cap n l m : Nat} (hr : DR I w (.sl sz xs) (.slice base len cap)) (hn : sz = n + 1 ∨ xs = []) (hl : l ≤ m) (hm : m ≤ xs.length) :
    DR I w (.sl sz ((xs.take m).drop l)) (.slice (if cap = l then base else base.map (·.add (l * (n + 1)))) (m - l) (cap - l)) := by
  cases hr with
  | nil _ p _ hz =>
    have h0 : m = 0 := by simpa using hm
    subst h0
    have h0 : l = 0 := by omega
    subst h0
    have hb : (if cap = 0 then base else base.map (·.add (0 * (n + 1)))) = base := by
      split
      · rfl
      · cases base with
        | none => rfl
        | some ad => simp [Addr.add]
    rw [hb]
    exact .nil sz base cap hz
  | sl _ _ blk off _ vs h0 h1 h2 h3 h4 h5 h6 =>
    by_cases hlm : l = m
    · subst hlm
      have he : (xs.take l).drop l = [] := List.drop_eq_nil_of_le (by simp; omega)
      rw [he, Nat.sub_self]
      exact .nil sz _ _ fun hz => by omega
    · have hne : ¬ cap = l := by omega
      have hx : xs ≠ [] := fun e => by subst e; simp at hm; omega
      have hs : sz = n + 1 := hn.resolve_right hx
      subst hs
      rw [if_neg hne]
      have hle : ((xs.take m).drop l).length = m - l := by simp; omega
      have := DR.sl (I := I) (w := w) (n + 1) ((xs.take m).drop l) blk (off + l * (n + 1)) (cap - l) (fun i j => vs (l + i) j) h0 (fun r hr => h1 r (List.mem_of_mem_take (List.mem_of_mem_drop hr))) (by omega) h3 ?_ ?_ h6
      · rw [hle] at this
        have ha : (some (⟨blk, off, none⟩ : Addr)).map (·.add (l * (n + 1))) = some ⟨blk, off + l * (n + 1), none⟩ := by simp [addr_add]
        rw [ha]
        exact this
      · intro i r j d hi hj
        rw [List.getElem?_drop, List.getElem?_take] at hi
        split at hi
        · have := h4 (l + i) r j d hi hj
          rw [← this]
          congr 2
          rw [Nat.add_mul]; omega
        · cases hi
      · intro i r j d hi hj
        rw [List.getElem?_drop, List.getElem?_take] at hi
        split at hi
        · exact h5 (l + i) r j d hi hj
        · cases hi

theorem run_slicePart {t el : TypeId} {x : Operand} {lo hi : Option Operand} {base : Option Addr} {len cap l m n : Nat} (hu : P.underlying t = some (.slice el)) (hn : sizeT P el = some n) (ho : o.op = .slice t x lo hi none)
    (hp : a.eval x = .slice base len cap) (hlo : (lo = none ∧ l = 0) ∨ ∃ y k, lo = some y ∧ a.eval y = .int k (l : Int)) (hhi : (hi = none ∧ m = len) ∨ ∃ y k, hi = some y ∧ a.eval y = .int k (m : Int)) (hl : l ≤ m) (hm : m ≤ cap) :
    (execOp a.eval o).run P w = .ok (.value (.slice (if cap = l then base else base.map (·.add (l * n))) (m - l) (cap - l))) w := by
  have hb : (Instr.sliceBounds true len cap (lo.map a.eval) (hi.map a.eval) none).run P w = .ok (l, m, cap) w := by
    rcases hlo with ⟨rfl, rfl⟩ | ⟨y, k, rfl, hy⟩ <;> rcases hhi with ⟨rfl, rfl⟩ | ⟨z, k', rfl, hz⟩
    · simp [Instr.sliceBounds]
    · simp [Instr.sliceBounds, Instr.sliceBound, hz, asIntOf, hm]
    · simp [Instr.sliceBounds, Instr.sliceBound, hy, asIntOf, hl]
    · simp [Instr.sliceBounds, Instr.sliceBound, hy, hz, asIntOf, hl, hm]
  simp only [execOp, ho, Instr.sliceAt, Instr.slice, hp, Sem.run_bind, run_underlying hu, Result.andThen_ok]
  have hb' := hb
  simp only [Option.map_none] at hb' ⊢
  rw [hb']
  simp [run_sizeT hn]

theorem simple_slicePart (hW : WR G B I₀ w₀ I μ w ρ h) {t el : TypeId} {x : Operand} {lo hi : Option Operand} {ex el' em : Ex} {n : Nat} (hop : ∀ x, SR I μ w ρ (opd fr x) (a.eval x)) (ho : o.op = .slice t x lo hi none)
    (hu : P.underlying t = some (.slice el)) (hn : sizeT P el = some (n + 1)) (hx : (opd fr x).e? = some ex)
    (hlo : (lo = none ∧ el' = litN 0) ∨ ∃ y, lo = some y ∧ (opd fr y).e? = some el') (hhi : (hi = none ∧ em = .len ex) ∨ ∃ y, hi = some y ∧ (opd fr y).e? = some em)
    (hb : (Ex.bnd el' em (.len ex)).eval ρ = some (.b true)) (hw : (isW (n + 1) ex).eval ρ = some (.b true)) : GoesQ G B I₀ w₀ I μ w ρ ((execOp a.eval o).run P w) (.val false [.e (.sub ex el' em)]) h := by
  obtain ⟨s, xs, hxs, hs⟩ := isW_sound hw
  obtain ⟨k, la, k', ma, k'', c, h1, h2, h3, h4, h5, h6⟩ := bnd_sound hb
  simp only [Ex.eval, hxs] at h3
  cases h3
  obtain ⟨d, hd, hr⟩ := e?_sound hx (hop x)
  rw [hxs] at hd
  cases hd
  obtain ⟨base, cap, hp⟩ := hr.sl_inv
  obtain ⟨l, rfl⟩ := Int.eq_ofNat_of_zero_le h4
  obtain ⟨m, rfl⟩ := Int.eq_ofNat_of_zero_le (Int.le_trans h4 h5)
  have hlm : l ≤ m := by omega
  have hml : m ≤ xs.length := by omega
  have hcap : xs.length ≤ cap := by
    rw [hp] at hr
    cases hr with
    | nil => simp
    | sl _ _ _ _ _ _ _ _ h => exact h
  have hrun := run_slicePart (w := w) (P := P) (a := a) (o := o) (l := l) (m := m) hu hn ho hp (by
      rcases hlo with ⟨rfl, rfl⟩ | ⟨y, rfl, hy⟩
      · simp only [litN, Ex.eval, Option.some.injEq, D.i.injEq] at h1
        exact .inl ⟨rfl, by omega⟩
      · obtain ⟨d, hd, hr⟩ := e?_sound hy (hop y)
        rw [h1] at hd
        cases hd
        exact .inr ⟨y, k, rfl, hr.i_inv⟩) (by
      rcases hhi with ⟨rfl, rfl⟩ | ⟨y, rfl, hy⟩
      · simp only [Ex.eval, hxs, Option.some.injEq, D.i.injEq] at h2
        exact .inl ⟨rfl, by omega⟩
      · obtain ⟨d, hd, hr⟩ := e?_sound hy (hop y)
        rw [h2] at hd
        cases hd
        exact .inr ⟨y, k', rfl, hr.i_inv⟩) hlm (by omega)
  refine Goes.one hW hrun ⟨.sl s ((xs.take m).drop l), ?_, ?_⟩
  · simp only [Ex.eval, hxs, h1, h2, subD]
    rw [if_pos ⟨h4, h5, h6⟩]
    simp
  · rw [hp] at hr
    exact hr.part hs hlm hml

/-! ### slices that are made -/

theorem flat_rep {α : Type} (z : List α) : ∀ (n i : Nat), (List.replicate n z).flatten[i]? = if i < n * z.length then z[i % z.length]? else none
  | 0, i => by simp
  | n + 1, i => by
    rw [List.replicate_succ, List.flatten_cons, List.getElem?_append, flat_rep z n, Nat.succ_mul]
    by_cases hi : i < z.length
    · rw [if_pos hi, if_pos (by omega), Nat.mod_eq_of_lt hi]
    · rw [if_neg hi]
      by_cases h2 : i - z.length < n * z.length
      · rw [if_pos h2, if_pos (by omega), ← Nat.mod_eq_sub_mod (by omega : i ≥ z.length)]
      · rw [if_neg h2, if_neg (by omega)]

theorem zeros_list (zero : Array Value) (n : Nat) : ((Array.range (n * zero.size)).map (zero[· % zero.size]!)).toList = (List.replicate n zero.toList).flatten := by
  apply List.ext_getElem?
  intro i
  rw [flat_rep]
  simp only [Array.toList_map, Array.toList_range, List.getElem?_map, Array.length_toList]
  by_cases hi : i < n * zero.size
  · rw [if_pos hi, List.getElem?_range hi]
    have hz : 0 < zero.size := by
      rcases Nat.eq_zero_or_pos zero.size with h | h
      · rw [h] at hi; simp at hi
      · exact h
    have := Nat.mod_lt i hz
    simp [this]
  · rw [if_neg hi, List.getElem?_eq_none (by simp; omega)]
    rfl

theorem lsR_flat {z : List SL} {zs : List Value} (hz : LsR I μ w ρ z zs) : ∀ n, LsR I μ w ρ (List.replicate n z).flatten (List.replicate n zs).flatten
  | 0 => by simp; exact .nil
  | n + 1 => by simp only [List.replicate_succ, List.flatten_cons]; exact hz.append (lsR_flat hz n)

theorem Made.newSlice {r : Result Next} {ls : List SL} {vs : List Value} {ty : TypeId} {sz n : Nat} (hl : LsR I μ w ρ ls vs)
    (hr : r = .ok (.value (.slice (some ⟨w.heap.size, 0, none⟩) n n)) (w.alloc (.cells vs.toArray ty))) :
    Made I μ w ρ r (.val false [.sc (.loc h.length) 0 sz n]) h (h ++ [{ ro := false, ls := ls }]) :=
  ⟨ls, vs, ty, _, rfl, hl, hr, fun _ _ _ hm => ⟨_, rfl, w.heap.size, n, hm, rfl, rfl⟩⟩

theorem fillS_len {place : Nat → Option (Nat × Nat)} : ∀ {parts : List (Nat × S)} {cells ls : List SL}, fillS place cells parts = some ls → ls.length = cells.length
  | [], cells, ls, h => by simp [fillS] at h; rw [h]
  | (i, s) :: rest, cells, ls, h => by
    simp only [fillS] at h
    split at h
    · split at h
      · rename_i hc
        rw [fillS_len h, over_length (by omega)]
      · cases h
    · cases h

theorem simple_buildSlice {t : TypeId} {len : Nat} {parts : Array (Nat × Operand)} (hop : ∀ x, SR I μ w ρ (opd fr x) (a.eval x)) (ho : o.op = .buildSlice t len parts)
    (hs : simple P G fr h (.buildSlice t len parts) = some (cs, s, h')) : Made I μ w ρ ((execOp a.eval o).run P w) s h h' := by
  simp only [simple] at hs
  split at hs
  · rename_i el hu
    split at hs
    · rename_i sz z hsz hz
      split at hs
      · rename_i hc
        obtain ⟨h1, h3, h4⟩ := hc
        split at hs
        · rename_i ls hls
          simp only [Option.some.injEq, Prod.mk.injEq] at hs
          obtain ⟨rfl, rfl, rfl⟩ := hs
          obtain ⟨zv, hzr, hzc⟩ := zeroT_run hz
          have hzs := constLs_sound (I := I) (μ := μ) (w := w) (ρ := ρ) hzc
          have hzl : zv.cells.size = sz := by have := hzs.length; simp at this; omega
          obtain ⟨cur, hf, hcur⟩ := fillS_sound parts.toList hop (lsR_flat hzs len) hls
          have hpar : (parts.map fun q => (q.1, a.eval q.2)).toList = parts.toList.map fun q => (q.1, a.eval q.2) := by simp
          have hzz := zeros_list zv.cells len
          have hzz' : (Array.range (len * sz)).map (zv.cells[· % zv.cells.size]!) = (List.replicate len zv.cells.toList).flatten.toArray := by
            rw [← hzl, ← hzz]
          refine Made.newSlice (ty := el) hcur ?_
          have hbig : ¬ len * sz > 2 ^ 24 := by omega
          by_cases hpos : len * sz = 0
          · have hl0 : len = 0 := by rcases Nat.mul_eq_zero.1 hpos with h | h; exact h; omega
            subst hl0
            have hls0 : ls.length = 0 := by
              have := fillS_len hls
              rw [this]
              simp
            have hc0 : cur = [] := List.length_eq_zero_iff.1 (by rw [← hcur.length]; exact hls0)
            subst hc0
            simp only [execOp, ho, Instr.buildSlice, Sem.run_bind, run_underlying hu, Result.andThen_ok, run_sizeT hsz, if_neg hbig, if_pos hpos, Sem.run_pure, hpar]
            have hz0 : (Array.range (0 * sz)).map ((#[] : Array Value)[· % (#[] : Array Value).size]!) = (List.replicate 0 zv.cells.toList).flatten.toArray := by simp
            rw [hz0, hf]
            simp [newRow, World.alloc_eq]
          · simp only [execOp, ho, Instr.buildSlice, Sem.run_bind, run_underlying hu, Result.andThen_ok, run_sizeT hsz, if_neg hbig, if_neg hpos, hzr, Sem.run_pure, hpar]
            rw [hzz', hf]
            simp [newRow, World.alloc_eq, hzr, hpos, hbig]
        · cases hs
      · cases hs
    · cases hs
  · cases hs

theorem simple_makeSlice {t : TypeId} {x y : Operand} (hop : ∀ x, SR I μ w ρ (opd fr x) (a.eval x)) (ho : o.op = .makeSlice t x y)
    (hs : simple P G fr h (.makeSlice t x y) = some (cs, s, h')) : Made I μ w ρ ((execOp a.eval o).run P w) s h h' := by
  simp only [simple] at hs
  split at hs
  · rename_i el ex ey hu hx hy
    split at hs
    · rename_i m m' sz z hm hm' hsz hz
      split at hs
      · rename_i hc
        obtain ⟨rfl, h1, h2, h3, h4, h6⟩ := hc
        simp only [Option.some.injEq, Prod.mk.injEq] at hs
        obtain ⟨rfl, rfl, rfl⟩ := hs
        obtain ⟨zv, hzr, hzc⟩ := zeroT_run hz
        have hzs := constLs_sound (I := I) (μ := μ) (w := w) (ρ := ρ) hzc
        have hzl : zv.cells.size = sz := by have := hzs.length; simp at this; omega
        obtain ⟨k, hk⟩ := int?_sound hx hm (hop x)
        obtain ⟨k', hk'⟩ := int?_sound hy hm' (hop y)
        obtain ⟨mn, rfl⟩ := Int.eq_ofNat_of_zero_le (Int.le_of_lt h1)
        have hmn : mn ≤ 1024 := by omega
        have hw : IntKind.i64.wrap (mn : Int) = mn := IntWalk.i64_in _ (by omega)
        refine Made.newSlice (ty := el) (n := mn) (vs := (List.replicate mn zv.cells.toList).flatten) (lsR_flat hzs mn) ?_
        have hzz' : (Array.range (mn * sz)).map (zv.cells[· % zv.cells.size]!) = (List.replicate mn zv.cells.toList).flatten.toArray := by
          rw [← hzl, ← zeros_list zv.cells mn]
        have hpos : ¬ mn * sz = 0 := Nat.ne_of_gt (Nat.mul_pos (by omega) h3)
        unfold sizeT at hsz
        split at hsz
        · rename_i i hi
          cases hsz
          have hby : i.bytes ≤ 4096 := by simpa [Program.bytesOf, hi] using h6
          have hnt : (decide ((mn : Int) < 0) || decide ((i.bytes : Int) * mn > 2 ^ 48)) = false := by
            have : i.bytes * mn ≤ 4096 * 1024 := Nat.mul_le_mul hby hmn
            have h48 : ((i.bytes * mn : Nat) : Int) ≤ 4194304 := by omega
            rw [Int.natCast_mul] at h48
            rw [decide_eq_false (by omega), decide_eq_false (by omega)]
            rfl
          have hti : (typeInfo el).run P w = .ok i w := by simp [typeInfo, hi]
          have hso : (sizeOf el).run P w = .ok i.size w := by simp [sizeOf, typeInfo, hi]
          simp only [execOp, ho, Instr.makeSlice, Sem.run_bind, run_underlying hu, Result.andThen_ok, hk, hk', asInt, asIntOf, Sem.run_pure, hti, hw, hnt]
          have hlt : (decide ((mn : Int) < 0)) = false := by simp
          simp only [hlt, Bool.false_or, decide_false, Int.lt_irrefl, gt_iff_lt, Bool.or_self, Bool.false_eq_true, if_false, run_askRoom, Result.andThen_ok, Sem.run_bind, hso, Int.toNat_natCast, hpos, hzr, Sem.run_pure]
          rw [hzz']
          simp [newRow, World.alloc_eq]
        · cases hsz
      · cases hs
    · cases hs
  · cases hs

theorem simple_len (hW : WR G B I₀ w₀ I μ w ρ h) {args : Array Operand} {argTypes : Array TypeId} (hop : ∀ x, SR I μ w ρ (opd fr x) (a.eval x))
    (ho : o.op = .call { callee := .builtin .len, args := args, argTypes := argTypes })
    (hs : simple P G fr h (.call { callee := .builtin .len, args := args, argTypes := argTypes }) = some (cs, s, h')) : GoesQ G B I₀ w₀ I μ w ρ ((execOp a.eval o).run P w) s h' := by
  simp only [simple] at hs
  split at hs
  · rename_i x t hargs ht
    split at hs
    · rename_i el r b sz n hu hl
      simp only [Option.some.injEq, Prod.mk.injEq] at hs
      obtain ⟨rfl, rfl, rfl⟩ := hs
      obtain ⟨z, cap, hz, hp⟩ := l?_sound hl (hop x)
      have ha : args = #[x] := by rw [← Array.toList_inj, hargs]
      subst ha
      refine Goes.one hW (v := goInt n) ?_ ⟨_, by simp [litN, Ex.eval], .i _ _⟩
      simp [execOp, ho, resolve, invoke, builtin, hp, Builtin.len_, ht, run_underlying hu]
    · cases hs
  · cases hs

/-- The quiet ones. -/
theorem simple_quiet (hq : match o.op with | .alloc .. => False | .box .. => False | .buildSlice .. => False | .makeSlice .. => False | .store .. => False | _ => True) (hW : WR G B I₀ w₀ I μ w ρ h) (hop : ∀ x, SR I μ w ρ (opd fr x) (a.eval x)) (hs : simple P G fr h o.op = some (cs, s, h')) (hc : ∀ c ∈ cs, c.eval ρ = some (.b true)) :
    GoesQ G B I₀ w₀ I μ w ρ ((execOp a.eval o).run P w) s h' := by
  cases ho : o.op with
  | move x => rw [ho] at hs; simp only [simple, Option.some.injEq, Prod.mk.injEq] at hs; obtain ⟨_, rfl, rfl⟩ := hs; exact simple_move hW hop (.inl ho)
  | assign x => rw [ho] at hs; simp only [simple, Option.some.injEq, Prod.mk.injEq] at hs; obtain ⟨_, rfl, rfl⟩ := hs; exact simple_move hW hop (.inr ho)
  | pick q x y => exact simple_pick hW hop ho (ho ▸ hs)
  | alloc t => rw [ho] at hq; exact hq.elim
  | box t x => rw [ho] at hq; exact hq.elim
  | build t parts => exact simple_build hW hop ho (ho ▸ hs)
  | buildSlice t n parts => rw [ho] at hq; exact hq.elim
  | load t x => exact simple_load hW hop ho (ho ▸ hs)
  | store t x y => rw [ho] at hq; exact hq.elim
  | nilCheck x => exact simple_nilCheck hW hop ho (ho ▸ hs)
  | makeFunc f x y => exact simple_makeFunc hW hop ho (ho ▸ hs)
  | makeSlice t x y => rw [ho] at hq; exact hq.elim
  | fieldAddr t x k => exact simple_fieldAddr hW hop ho (ho ▸ hs)
  | field t x k => exact simple_field hW hop ho (ho ▸ hs)
  | indexAddr t x y => exact simple_indexAddr hW hop ho (ho ▸ hs) hc
  | index t x y => exact simple_index hW hop ho (ho ▸ hs) hc
  | extract x k => exact simple_extract hW hop ho (ho ▸ hs)
  | slice t x lo hi mx =>
    rw [ho] at hs
    cases mx with
    | some _ => cases lo <;> cases hi <;> simp [simple] at hs
    | none =>
      cases lo with
      | none =>
        cases hi with
        | none => exact simple_slice hW hop ho hs hc
        | some m =>
          simp only [simple] at hs
          split at hs
          · rename_i el ex em hu hx hm
            split at hs
            · rename_i n hn
              simp only [Option.some.injEq, Prod.mk.injEq] at hs
              obtain ⟨rfl, rfl, rfl⟩ := hs
              exact simple_slicePart hW hop ho hu hn hx (.inl ⟨rfl, rfl⟩) (.inr ⟨m, rfl, hm⟩) (hc _ (by simp)) (hc _ (by simp))
            · cases hs
          · cases hs
      | some l =>
        cases hi with
        | none =>
          simp only [simple] at hs
          split at hs
          · rename_i el ex em hu hx hm
            split at hs
            · rename_i n hn
              simp only [Option.some.injEq, Prod.mk.injEq] at hs
              obtain ⟨rfl, rfl, rfl⟩ := hs
              exact simple_slicePart hW hop ho hu hn hx (.inr ⟨l, rfl, hm⟩) (.inl ⟨rfl, rfl⟩) (hc _ (by simp)) (hc _ (by simp))
            · cases hs
          · cases hs
        | some m =>
          simp only [simple] at hs
          split at hs
          · rename_i el ex el' em hu hx hl hm
            split at hs
            · rename_i n hn
              simp only [Option.some.injEq, Prod.mk.injEq] at hs
              obtain ⟨rfl, rfl, rfl⟩ := hs
              exact simple_slicePart hW hop ho hu hn hx (.inr ⟨l, rfl, hl⟩) (.inr ⟨m, rfl, hm⟩) (hc _ (by simp)) (hc _ (by simp))
            · cases hs
          · cases hs
  | call c =>
    obtain ⟨callee, args, argTypes⟩ := c
    rw [ho] at hs
    cases callee with
    | builtin b => cases b <;> first | exact simple_len hW hop ho hs | (simp [simple] at hs)
    | value f => simp [simple] at hs
    | invoke r m => simp [simple] at hs
  | _ => rw [ho] at hs; simp [simple] at hs


/-- Those that make a block. -/
theorem simple_made (hq : match o.op with | .alloc .. => True | .box .. => True | .buildSlice .. => True | .makeSlice .. => True | _ => False) (hop : ∀ x, SR I μ w ρ (opd fr x) (a.eval x)) (hs : simple P G fr h o.op = some (cs, s, h')) : Made I μ w ρ ((execOp a.eval o).run P w) s h h' := by
  cases ho : o.op with
  | alloc t => exact simple_alloc ho (ho ▸ hs)
  | box t x => exact simple_box hop ho (ho ▸ hs)
  | buildSlice t n parts => exact simple_buildSlice hop ho (ho ▸ hs)
  | makeSlice t x y => exact simple_makeSlice hop ho (ho ▸ hs)
  | _ => rw [ho] at hq; exact hq.elim

/-- ALL of them. -/
theorem simple_sound (hW : WR G B I₀ w₀ I μ w ρ h) (hop : ∀ x, SR I μ w ρ (opd fr x) (a.eval x)) (hs : simple P G fr h o.op = some (cs, s, h')) (hc : ∀ c ∈ cs, c.eval ρ = some (.b true)) :
    Goes G B I₀ w₀ I μ w ρ ((execOp a.eval o).run P w) s h' := by
  cases ho : o.op with
  | move x => rw [ho] at hs; simp only [simple, Option.some.injEq, Prod.mk.injEq] at hs; obtain ⟨_, rfl, rfl⟩ := hs; exact (simple_move hW hop (.inl ho)).goes
  | assign x => rw [ho] at hs; simp only [simple, Option.some.injEq, Prod.mk.injEq] at hs; obtain ⟨_, rfl, rfl⟩ := hs; exact (simple_move hW hop (.inr ho)).goes
  | pick q x y => exact (simple_pick hW hop ho (ho ▸ hs)).goes
  | alloc t => exact (simple_alloc ho (ho ▸ hs)).goes hW
  | box t x => exact (simple_box hop ho (ho ▸ hs)).goes hW
  | build t parts => exact (simple_build hW hop ho (ho ▸ hs)).goes
  | buildSlice t n parts => exact (simple_buildSlice hop ho (ho ▸ hs)).goes hW
  | load t x => exact (simple_load hW hop ho (ho ▸ hs)).goes
  | store t x y => exact simple_store hW hop ho (ho ▸ hs)
  | nilCheck x => exact (simple_nilCheck hW hop ho (ho ▸ hs)).goes
  | makeFunc f x y => exact (simple_makeFunc hW hop ho (ho ▸ hs)).goes
  | makeSlice t x y => exact (simple_makeSlice hop ho (ho ▸ hs)).goes hW
  | fieldAddr t x k => exact (simple_fieldAddr hW hop ho (ho ▸ hs)).goes
  | field t x k => exact (simple_field hW hop ho (ho ▸ hs)).goes
  | indexAddr t x y => exact (simple_indexAddr hW hop ho (ho ▸ hs) hc).goes
  | index t x y => exact (simple_index hW hop ho (ho ▸ hs) hc).goes
  | extract x k => exact (simple_extract hW hop ho (ho ▸ hs)).goes
  | slice t x lo hi mx =>
    rw [ho] at hs
    exact (simple_quiet (by rw [ho]; trivial) hW hop (ho ▸ hs) hc).goes
  | call c =>
    obtain ⟨callee, args, argTypes⟩ := c
    rw [ho] at hs
    cases callee with
    | builtin b => cases b <;> first | exact (simple_len hW hop ho hs).goes | (simp [simple] at hs)
    | value f => simp [simple] at hs
    | invoke r m => simp [simple] at hs
  | _ => rw [ho] at hs; simp [simple] at hs

end
end Go.Proofs.YtlihbielphcgbaaGreatDoor.Sx

namespace Go.Proofs.YtlihbielphcgbaaGreatDoor.Sx
open Go
set_option linter.unnecessarySimpa false
set_option linter.unusedSimpArgs false
set_option linter.unusedVariables false

/-! ### a function's code, or a round's of a range over a function -/

/-- the fence: all functions, all depths; r: which loop's round it is, if any -/
def Rd (r : Option Nat) : Fence := { Fence.wide with round := r }
theorem room_Rd (r : Option Nat) (n : Nat) : (Rd r).room n := fun d hd => by cases hd
theorem callsIn_Rd {r : Option Nat} {n : Nat} {P : Program} {f : FuncId} {args : Array Value} {w : World} {R : Ending → World → Prop} (h : Calls P f args w R) : CallsIn (Rd r) n P f args w R :=
  callsIn_wide (n := n).2 h
theorem rowsIn_Rd {r : Option Nat} {n : Nat} {P : Program} {row : String} {args : Array Value} {w : World} {R : Value → World → Prop} (h : Rows P row args w R) : RowsIn (Rd r) n P row args w R := by
  intro c cs _
  obtain ⟨v, w', hR, hs⟩ := h c cs
  exact ⟨v, w', hR, stepsIn_wide.2 hs⟩
theorem wpIn_n {r : Option Nat} {n m : Nat} {P : Program} {c : Code} {Q : Exit → Act → World → Prop} {a : Act} {w : World} (h : c.wpIn (Rd r) n P Q a w) : c.wpIn (Rd r) m P Q a w :=
  fun b k cs hro hb _ => h b k cs hro hb (room_Rd _ _)
theorem semAt_nd {r : Option Nat} {ρ : Operand → Value} {o : Oper} (h : noDefer o = true) : Oper.semAt r ρ o = execOp ρ o := by
  cases r with
  | none => exact Oper.semAt_none ..
  | some l =>
    refine Oper.semAt_some l ρ o fun c hc => ?_
    unfold noDefer at h
    rw [hc] at h
    cases h
/-- the operations of a region in the text's order, the kit's word without a way out -/
def wpL (P : Program) (ops : Array Oper) (Q : Exit → Act → World → Prop) : List Oper → Act → World → Prop
  | [], a, w => Q .normal a w
  | o :: rest, a, w => if Region.wanted o (yielded ops a.tmps) then o.wp P a w (wpL P ops Q rest) Q else wpL P ops Q rest (a.put o.dst undef) w
def wpO (P : Program) (ops : Array Oper) (Q : Exit → Act → World → Prop) (i : Nat) (K : Act → World → Prop) (a : Act) (w : World) : Prop :=
  match ops[i]? with
  | none => K a w
  | some o => if Region.wanted o (yielded ops a.tmps) then o.wp P a w K Q else K (a.put o.dst undef) w
def wpA (P : Program) (md : Region.Mode) (ops : Array Oper) (Q : Exit → Act → World → Prop) : Nat → Array Bool → Act → World → Prop
  | 0, listed, a, w => Region.ready md ops listed = [] ∧ Q .normal a w
  | fuel + 1, listed, a, w =>
    (Region.ready md ops listed = [] → Q .normal a w) ∧
    ∀ i ∈ Region.ready md ops listed, wpO P ops Q i (wpA P md ops Q fuel (listed.setIfInBounds i true)) a w
theorem op_in {r : Option Nat} {P : Program} {o : Oper} {a : Act} {w : World} {K K' : Act → World → Prop} {Q : Exit → Act → World → Prop} (hnd : noDefer o = true) (hK : ∀ a w, K a w → K' a w) (h : o.wp P a w K Q) : o.wpIn (Rd r) 0 P a w K' Q := by
  refine ⟨fun _ _ => trivial, ?_⟩
  rw [semAt_nd hnd]
  unfold Oper.wp at h
  generalize (execOp a.eval o).run P w = x at h ⊢
  cases x with
  | ok nx w' =>
    cases nx <;> simp only [Oper.upon, Oper.uponIn] at h ⊢ <;> first
      | exact hK _ _ h
      | exact ⟨fun hd => (by cases hd), callsIn_Rd (h.mono fun e w'' he => by cases e <;> first | exact hK _ _ he | exact he)⟩
      | exact ⟨fun hd => (by cases hd), rowsIn_Rd (h.mono fun _ _ he => hK _ _ he)⟩
  | halt x w' => cases x <;> simp only [Oper.upon, Oper.uponIn] at h ⊢ <;> exact h
theorem list_in {r : Option Nat} {P : Program} {ops : Array Oper} {Q : Exit → Act → World → Prop} : ∀ {l : List Oper} {a : Act} {w : World}, (∀ o ∈ l, noDefer o = true) → wpL P ops Q l a w → wpListIn (Rd r) 0 P ops Q l a w
  | [], _, _, _, h => h
  | o :: l, a, w, hnd, h => by
    simp only [wpL] at h
    simp only [wpListIn]
    split
    · rename_i hw
      rw [if_pos hw] at h
      exact op_in (hnd o (List.mem_cons_self ..)) (fun a w h => list_in (fun p hp => hnd p (List.mem_cons_of_mem _ hp)) h) h
    · rename_i hw
      rw [if_neg hw] at h
      exact ⟨fun _ _ => trivial, list_in (fun p hp => hnd p (List.mem_cons_of_mem _ hp)) h⟩
theorem any_in {r : Option Nat} {P : Program} {md : Region.Mode} {ops : Array Oper} {Q : Exit → Act → World → Prop} (hnd : ∀ o ∈ ops.toList, noDefer o = true) : ∀ {n : Nat} {listed : Array Bool} {a : Act} {w : World}, wpA P md ops Q n listed a w → wpAnyIn (Rd r) 0 P md ops Q n listed a w
  | 0, _, _, _, h => h
  | n + 1, listed, a, w, h => by
    refine ⟨h.1, fun i hi => ?_⟩
    have h2 := h.2 i hi
    unfold wpO at h2
    unfold wpOpIn
    cases ho : ops[i]? with
    | none =>
      rw [ho] at h2
      exact any_in hnd h2
    | some o =>
      rw [ho] at h2
      have hm : noDefer o = true := hnd o (Array.mem_toList_iff.2 (Array.mem_of_getElem? ho))
      simp only at h2 ⊢
      split
      · rename_i hw
        rw [if_pos hw] at h2
        exact op_in hm (fun a w h => any_in hnd h) h2
      · rename_i hw
        rw [if_neg hw] at h2
        exact ⟨fun _ _ => trivial, any_in hnd h2⟩

/-! ### the loop rule -/

/-- The body, again and again, comes to an end. -/
inductive LW (r : Option Nat) (P : Program) (c : Code) (Q : Exit → Act → World → Prop) : Act → World → Prop
  | mk (next : Act → World → Prop) (a : Act) (w : World) (h : c.wpIn (Rd r) 0 P (Exit.then next Q) a w) (hn : ∀ a' w', next a' w' → LW r P c Q a' w') : LW r P c Q a w

theorem wp_loop_LW {r : Option Nat} {P : Program} {c : Code} {Q : Exit → Act → World → Prop} {a : Act} {w : World} (h : LW r P c Q a w) : (Code.loop c).wpIn (Rd r) 0 P Q a w := by
  intro b k cs hro hb hr
  have key : ∃ e a' w', Q e a' w' ∧ ArrivesIn (Machine.fenced P (Rd r)) P (lone (b.atR a (.code c :: .inLoop c :: k)) cs w) b k cs e a' w' := by
    induction h with
    | mk next a w h hn ih =>
      obtain ⟨e, a₁, w₁, hq, harr⟩ := h b (.inLoop c :: k) cs hro hb hr
      cases e with
      | normal =>
        obtain ⟨e₂, a₂, w₂, hq₂, harr₂⟩ := ih a₁ w₁ hq
        exact ⟨e₂, a₂, w₂, hq₂, .of_steps (StepsIn.trans harr (.one (fenced_calm hb hr rfl) stepR_inLoop)) harr₂⟩
      | exit id => exact ⟨_, a₁, w₁, hq, .pass (x := .inLoop c) rfl (fun _ _ => .inl (by simp)) harr⟩
      | goto l => exact ⟨_, a₁, w₁, hq, .pass (x := .inLoop c) rfl (fun _ _ => .inl (by simp)) harr⟩
      | ret => exact ⟨_, a₁, w₁, hq, .pass (x := .inLoop c) rfl (fun _ _ => .inl (by simp)) harr⟩
      | panic ch => exact ⟨_, a₁, w₁, hq, .pass (x := .inLoop c) rfl (fun _ _ => .inl (by simp)) harr⟩
      | outgrown => exact ⟨_, a₁, w₁, hq, .pass (x := .inLoop c) rfl (fun _ _ => .inl (by simp)) harr⟩
  obtain ⟨e, a', w', hq, harr⟩ := key
  exact ⟨e, a', w', hq, .of_steps (.one (fenced_calm hb hr rfl) stepR_loop) harr⟩

/-! ### scopes: jumps back to a label -/

section
variable {P : Program} {b : Frame} {a : Act} {c : Code} {k : List Item} {cs : List Frame} {w : World}
theorem stepR_scope : step P (lone (b.atR a (.code (.scope c) :: k)) cs w) = .next (lone (b.atR a (.code c :: .inScope c :: k)) cs w) := step_lone_go (by simp [stepG, stepG.exec, Frame.atR])
theorem stepR_inScope : step P (lone (b.atR a (.inScope c :: k)) cs w) = .next (lone (b.atR a k) cs w) := step_lone_go (by simp [stepG, stepG.exec, Frame.atR])
end

/-- What stands behind a label, again and again by jumps to it, comes to an end. -/
inductive GW (r : Option Nat) (P : Program) (l : Nat) (c : Code) (Q : Exit → Act → World → Prop) : Act → World → Prop
  | mk (next : Act → World → Prop) (a : Act) (w : World) (h : c.wpIn (Rd r) 0 P (Exit.jump l next Q) a w) (hn : ∀ a' w', next a' w' → GW r P l c Q a' w') : GW r P l c Q a w

theorem jump_mono {l : Nat} {J J' : Act → World → Prop} {Q : Exit → Act → World → Prop} (h : ∀ a w, J a w → J' a w) : ∀ e a w, Exit.jump l J Q e a w → Exit.jump l J' Q e a w := by
  intro e a w he
  cases e with
  | goto l' => exact ⟨he.1, h _ _ he.2⟩
  | _ => exact he
theorem GW.out {r : Option Nat} {P : Program} {l : Nat} {c : Code} {Q : Exit → Act → World → Prop} {a : Act} {w : World} (h : GW r P l c Q a w) : c.wpIn (Rd r) 0 P (Exit.jump l (GW r P l c Q) Q) a w := by
  cases h with
  | mk next _ _ h hn => exact wpIn_mono h (jump_mono hn)
theorem wp_scope_GW {r : Option Nat} {P : Program} {c rest : Code} {l : Nat} {Q : Exit → Act → World → Prop} {a : Act} {w : World} (hf : findLabel c l = some (.seq .skip rest)) (first : c.wpIn (Rd r) 0 P (Exit.jump l (GW r P l rest Q) Q) a w) : (Code.scope c).wpIn (Rd r) 0 P Q a w := by
  intro b k cs hro hb hr
  have hg : gotoIn l (.inScope c :: k) = some (.code (.seq .skip rest) :: .inScope c :: k) := by simp [gotoIn, hf]
  have key : ∀ a w, GW r P l rest Q a w → ∃ e a' w', Q e a' w' ∧ ArrivesIn (Machine.fenced P (Rd r)) P (lone (b.atR a (.code (.seq .skip rest) :: .inScope c :: k)) cs w) b k cs e a' w' := by
    intro a w hG
    induction hG with
    | mk next a w h hn ih =>
      have h' : (Code.seq .skip rest).wpIn (Rd r) 0 P (Exit.jump l next Q) a w := wpIn_seq (wpIn_skip h)
      obtain ⟨e, a₁, w₁, hq, harr⟩ := h' b (.inScope c :: k) cs hro hb hr
      cases e with
      | normal => exact ⟨.normal, a₁, w₁, hq, StepsIn.trans harr (.one (fenced_calm hb hr rfl) stepR_inScope)⟩
      | exit id => exact ⟨.exit id, a₁, w₁, hq, fun k' hk => harr.1 k' (by simp [exitTo, hk]), fun hs hk => harr.2 hs (by simp [exitTo, hk])⟩
      | goto l' =>
        obtain ⟨rfl, hJ'⟩ := hq
        obtain ⟨e₂, a₂, w₂, hq₂, harr₂⟩ := ih a₁ w₁ hJ'
        exact ⟨e₂, a₂, w₂, hq₂, .of_steps (harr.1 _ hg) harr₂⟩
      | ret => exact ⟨_, a₁, w₁, hq, harr⟩
      | panic ch => exact ⟨_, a₁, w₁, hq, harr⟩
      | outgrown => exact ⟨_, a₁, w₁, hq, harr⟩
  have h0 : (lone (b.atR a (.code (.scope c) :: k)) cs w).fenced P (Rd r) := fenced_calm hb hr rfl
  obtain ⟨e, a₁, w₁, hq, harr⟩ := first b (.inScope c :: k) cs hro hb hr
  cases e with
  | normal => exact ⟨.normal, a₁, w₁, hq, .head h0 stepR_scope (StepsIn.trans harr (.one (fenced_calm hb hr rfl) stepR_inScope))⟩
  | exit id => exact ⟨.exit id, a₁, w₁, hq, fun k' hk => .head h0 stepR_scope (harr.1 k' (by simp [exitTo, hk])), fun hs hk => let ⟨k₁, h1, h2⟩ := harr.2 hs (by simp [exitTo, hk]); ⟨k₁, h1, .head h0 stepR_scope h2⟩⟩
  | goto l' =>
    obtain ⟨rfl, hJ'⟩ := hq
    obtain ⟨e₂, a₂, w₂, hq₂, harr₂⟩ := key a₁ w₁ hJ'
    exact ⟨e₂, a₂, w₂, hq₂, .of_steps (.head h0 stepR_scope (harr.1 _ hg)) harr₂⟩
  | ret => exact ⟨_, a₁, w₁, hq, .of_steps (.one h0 stepR_scope) harr⟩
  | panic ch => exact ⟨_, a₁, w₁, hq, .of_steps (.one h0 stepR_scope) harr⟩
  | outgrown => exact ⟨_, a₁, w₁, hq, .of_steps (.one h0 stepR_scope) harr⟩
theorem wp_scope_straightR {r : Option Nat} {P : Program} {c : Code} {Q : Exit → Act → World → Prop} {a : Act} {w : World} (h : c.wpIn (Rd r) 0 P (Exit.noGoto Q) a w) : (Code.scope c).wpIn (Rd r) 0 P Q a w := by
  intro b k cs hro hb hr
  have h0 : (lone (b.atR a (.code (.scope c) :: k)) cs w).fenced P (Rd r) := fenced_calm hb hr rfl
  obtain ⟨e, a₁, w₁, hq, harr⟩ := h b (.inScope c :: k) cs hro hb hr
  cases e with
  | normal => exact ⟨.normal, a₁, w₁, hq, .head h0 stepR_scope (StepsIn.trans harr (.one (fenced_calm hb hr rfl) stepR_inScope))⟩
  | exit id => exact ⟨.exit id, a₁, w₁, hq, fun k' hk => .head h0 stepR_scope (harr.1 k' (by simp [exitTo, hk])), fun hs hk => let ⟨k₁, h1, h2⟩ := harr.2 hs (by simp [exitTo, hk]); ⟨k₁, h1, .head h0 stepR_scope h2⟩⟩
  | goto l => exact hq.elim
  | ret => exact ⟨_, a₁, w₁, hq, .of_steps (.one h0 stepR_scope) harr⟩
  | panic ch => exact ⟨_, a₁, w₁, hq, .of_steps (.one h0 stepR_scope) harr⟩
  | outgrown => exact ⟨_, a₁, w₁, hq, .of_steps (.one h0 stepR_scope) harr⟩
theorem wp_scope_split {r : Option Nat} {P : Program} {b p c : Code} {l : Nat} {Q : Exit → Act → World → Prop} {a : Act} {w : World} (hs : splitL b = some (p, l, c)) (first : p.wpIn (Rd r) 0 P (Exit.then (GW r P l c Q) (Exit.noGoto Q)) a w) : (Code.scope b).wpIn (Rd r) 0 P Q a w := by
  have hin : ∀ a w, GW r P l c Q a w → (Code.seq (.label l) c).wpIn (Rd r) 0 P (Exit.jump l (GW r P l c Q) Q) a w := fun a w h => wpIn_seq (wpIn_label h.out)
  unfold splitL at hs
  split at hs
  · rename_i a' l' c'
    split at hs
    · rename_i hc
      cases hs
      simp only [Bool.and_eq_true, Option.isNone_iff_eq_none] at hc
      refine wp_scope_GW (rest := c) (l := l) (by simp [findLabel, hc.1]) ?_
      refine wpIn_seq (wpIn_mono first fun e a w he => ?_)
      cases e with
      | normal => exact hin a w he
      | goto l' => exact he.elim
      | _ => exact he
    · cases hs
  · cases hs
/-- rounds: of a loop, or of jumps to a label -/
def RW (r : Option Nat) (P : Program) : Option Nat → Code → (Exit → Act → World → Prop) → Act → World → Prop
  | none, c, Q => LW r P c Q
  | some l, c, Q => GW r P l c Q
def rnd : Option Nat → (Act → World → Prop) → (Exit → Act → World → Prop) → Exit → Act → World → Prop
  | none, J, Q => Exit.then J Q
  | some l, J, Q => Exit.jump l J Q
theorem RW.mk {r : Option Nat} {P : Program} {c : Code} {Q : Exit → Act → World → Prop} : ∀ {lb : Option Nat} {a : Act} {w : World}, c.wpIn (Rd r) 0 P (rnd lb (RW r P lb c Q) Q) a w → RW r P lb c Q a w
  | none, a, w, h => LW.mk _ a w h fun _ _ h => h
  | some l, a, w, h => GW.mk _ a w h fun _ _ h => h

/-! ### what is the same -/

theorem D.same_eq {a b : D} (h : D.same a b = true) : a = b := by
  unfold D.same at h
  split at h
  · simp at h; rw [h]
  · simp at h; rw [h.1, h.2]
  · simp at h; rw [h]
  · simp at h; rw [h]
  · cases h

mutual
theorem Ex.same_eq : ∀ {a b : Ex}, Ex.same a b = true → a = b := by
  intro a b h
  unfold Ex.same at h
  split at h
  all_goals first
    | (simp only [Bool.and_eq_true, beq_iff_eq] at h)
    | skip
  · rw [h]
  · rw [D.same_eq h]
  · obtain ⟨⟨h1, h2⟩, h3⟩ := h; rw [h1, Ex.same_eq h2, Ex.same_eq h3]
  · obtain ⟨h1, h2⟩ := h; rw [h1, Ex.same_eq h2]
  · obtain ⟨h1, h2⟩ := h; rw [h1, Ex.same_eq h2]
  · obtain ⟨⟨h1, h2⟩, h3⟩ := h; rw [Ex.same_eq h1, Ex.same_eq h2, Ex.same_eq h3]
  · rw [Ex.same_eq h]
  · obtain ⟨h1, h2⟩ := h; rw [Ex.same_eq h1, h2]
  · obtain ⟨⟨h1, h2⟩, h3⟩ := h; rw [Ex.same_eq h1, Ex.same_eq h2, h3]
  · rw [Ex.sames_eq h]
  · obtain ⟨h1, h2⟩ := h; rw [Ex.same_eq h1, Ex.same_eq h2]
  · obtain ⟨⟨h1, h2⟩, h3⟩ := h; rw [h1, Ex.same_eq h2, Ex.same_eq h3]
  · obtain ⟨h1, h2⟩ := h; rw [Ex.same_eq h1, Ex.sames_eq h2]
  · obtain ⟨⟨⟨h1, h2⟩, h3⟩, h4⟩ := h; rw [Ex.same_eq h1, Ex.same_eq h2, h3, Ex.sames_eq h4]
  · obtain ⟨⟨h1, h2⟩, h3⟩ := h; rw [Ex.same_eq h1, Ex.same_eq h2, Ex.same_eq h3]
  · cases h
theorem Ex.sames_eq : ∀ {a b : List Ex}, Ex.sames a b = true → a = b := by
  intro a b h
  unfold Ex.sames at h
  split at h
  · rfl
  · simp only [Bool.and_eq_true] at h
    rw [Ex.same_eq h.1, Ex.sames_eq h.2]
  · cases h
end

section
variable {I : Imm} {μ : Mu} {w : World} {ρ : List D}

theorem SL.same_sound {g l : SL} {v : Value} (h : SL.same g l = true) (hr : LR I μ w ρ l v) : LR I μ w ρ g v := by
  unfold SL.same at h
  split at h
  · exact hr.one
  · rw [Ex.same_eq h]; exact hr
  · simp at h; rw [h.1, h.2]; exact hr
  · simp at h; obtain ⟨⟨⟨h1, h2⟩, h3⟩, h4⟩ := h; rw [h1, h2, h3, h4]; exact hr
  · simp at h; obtain ⟨⟨⟨⟨⟨h1, h2⟩, h3⟩, h4⟩, h5⟩, h6⟩ := h; rw [h1, h2, h3, h4, Ex.same_eq h5, h6]; exact hr
  · simp at h; obtain ⟨⟨⟨h1, h2⟩, h3⟩, h4⟩ := h; rw [Ex.same_eq h1, Ex.same_eq h2, h3, h4]; exact hr
  · simp at h; rw [h]; exact hr
  · simp at h; obtain ⟨⟨⟨h1, h2⟩, h3⟩, h4⟩ := h; rw [h1, Ex.same_eq h2, h3, h4]; exact hr
  · simp at h; obtain ⟨⟨h1, h2⟩, h3⟩ := h; rw [h1, h2, Ex.same_eq h3]; exact hr
  · simp at h; rw [h.1, h.2]; exact hr
  · cases h

theorem SL.sames_sound : ∀ {as l : List SL} {vs : List Value}, SL.sames as l = true → LsR I μ w ρ l vs → LsR I μ w ρ as vs
  | [], [], _, _, h => h
  | a :: as, b :: l, _, h, .cons h1 h2 => by
    simp only [SL.sames, Bool.and_eq_true] at h
    exact .cons (SL.same_sound h.1 h1) (SL.sames_sound h.2 h2)
  | [], _ :: _, _, h, _ => by simp [SL.sames] at h
  | _ :: _, [], _, h, _ => by simp [SL.sames] at h

theorem VR.same_sound {g : Bool} {l1 l2 : List SL} {v : Value} (h : SL.sames l1 l2 = true) (hr : VR I μ w ρ g l2 v) : VR I μ w ρ g l1 v := by
  cases g
  · obtain ⟨l, rfl, hr⟩ := hr
    match l1, h with
    | [g], h =>
      simp only [SL.sames, Bool.and_true] at h
      exact ⟨g, rfl, SL.same_sound h hr⟩
    | [], h => simp [SL.sames] at h
    | _ :: _ :: _, h => simp [SL.sames] at h
  · obtain ⟨vs, hv, hr⟩ := hr
    exact ⟨vs, hv, SL.sames_sound h hr⟩

theorem SL.samesT_sound : ∀ {a b : List (Bool × List SL)} {vs : List Value}, SL.samesT a b = true → All2 (fun (p : Bool × List SL) u => VR I μ w ρ p.1 p.2 u) b vs → All2 (fun (p : Bool × List SL) u => VR I μ w ρ p.1 p.2 u) a vs
  | [], [], _, _, h => h
  | (ga, la) :: a, (gb, lb) :: b, _, h, .cons h1 h2 => by
    simp only [SL.samesT, Bool.and_eq_true, beq_iff_eq] at h
    obtain ⟨⟨rfl, h3⟩, h4⟩ := h
    exact .cons (VR.same_sound h3 h1) (SL.samesT_sound h4 h2)
  | [], _ :: _, _, h, _ => by simp [SL.samesT] at h
  | _ :: _, [], _, h, _ => by simp [SL.samesT] at h

theorem S.same_sound {g s : S} {v : Value} (h : S.same g s = true) (hr : SR I μ w ρ s v) : SR I μ w ρ g v := by
  unfold S.same at h
  split at h
  · trivial
  · exact hr
  · rename_i g1 l1 g2 l2
    simp only [Bool.and_eq_true, beq_iff_eq] at h
    obtain ⟨rfl, h⟩ := h
    cases g1
    · obtain ⟨l, rfl, hr⟩ := hr
      match l1, h with
      | [g], h =>
        simp only [SL.sames, Bool.and_true] at h
        exact ⟨g, rfl, SL.same_sound h hr⟩
      | [], h => simp [SL.sames] at h
      | _ :: _ :: _, h => simp [SL.sames] at h
    · obtain ⟨vs, hv, hr⟩ := hr
      exact ⟨vs, hv, SL.sames_sound h hr⟩
  · obtain ⟨vs, hv, hr⟩ := hr
    exact ⟨vs, hv, SL.samesT_sound h hr⟩
  · cases h

/-! ### other variables -/

/-- what is defined by the first variables keeps its value, whatever stands behind them -/
theorem Ex.rebase {ρ₀ ρ' ρ'' : List D} {t : Ex} {d d' : D} (h0 : t.eval ρ₀ = some d') (h1 : ρ₀ <+: ρ') (h2 : ρ₀ <+: ρ'') (h : t.eval ρ' = some d) : t.eval ρ'' = some d := by
  have := Ex.eval_pre h1 t h0
  rw [this] at h
  cases h
  exact Ex.eval_pre h2 t h0

theorem LR.rebase {I₀ : Imm} {μ₀ : Mu} {w₀ : World} {ρ₀ ρ' ρ'' : List D} {l : SL} {v v₀ : Value} (h0 : LR I₀ μ₀ w₀ ρ₀ l v₀) (h1 : ρ₀ <+: ρ') (h2 : ρ₀ <+: ρ'') (h : LR I μ w ρ' l v) : LR I μ w ρ'' l v := by
  cases l with
  | x => exact h
  | e t => obtain ⟨d0, e0, _⟩ := h0; obtain ⟨d, e, hr⟩ := h; exact ⟨d, Ex.rebase e0 h1 h2 e, hr⟩
  | p r off => exact h
  | dyn r b s n i j =>
    obtain ⟨_, _, _, _, e0, _⟩ := h0
    obtain ⟨x, k, m, hx, hi, h3⟩ := h
    exact ⟨x, k, m, hx, Ex.rebase e0 h1 h2 hi, h3⟩
  | elt t i n j =>
    obtain ⟨_, _, _, _, _, _, e0, e1, _⟩ := h0
    obtain ⟨xs, k, m, r, blk, off, e2, e3, h3⟩ := h
    exact ⟨xs, k, m, r, blk, off, Ex.rebase e0 h1 h2 e2, Ex.rebase e1 h1 h2 e3, h3⟩
  | sc r b s n => exact h
  | g k => exact h
  | ge k i sz j =>
    obtain ⟨_, _, _, _, _, _, e0, _⟩ := h0
    obtain ⟨x, n, cap, kk, m, hx, hi, h3⟩ := h
    exact ⟨x, n, cap, kk, m, hx, Ex.rebase e0 h1 h2 hi, h3⟩
  | gs k sz lo =>
    obtain ⟨_, _, _, _, _, _, _, _, e0, _⟩ := h0
    obtain ⟨b, n, cap, kk, m, p, c, hx, hi, h3⟩ := h
    exact ⟨b, n, cap, kk, m, p, c, hx, Ex.rebase e0 h1 h2 hi, h3⟩
  | clo f c => exact h

theorem LsR.rebase {I₀ : Imm} {μ₀ : Mu} {w₀ : World} {ρ₀ ρ' ρ'' : List D} (h1 : ρ₀ <+: ρ') (h2 : ρ₀ <+: ρ'') : ∀ {ls : List SL} {vs vs₀ : List Value}, LsR I₀ μ₀ w₀ ρ₀ ls vs₀ → LsR I μ w ρ' ls vs → LsR I μ w ρ'' ls vs
  | [], _, _, .nil, .nil => .nil
  | _ :: _, _, _, .cons a0 b0, .cons a b => .cons (LR.rebase a0 h1 h2 a) (LsR.rebase h1 h2 b0 b)

theorem VR.rebase {I₀ : Imm} {μ₀ : Mu} {w₀ : World} {ρ₀ ρ' ρ'' : List D} {g : Bool} {ls : List SL} {v v₀ : Value} (h0 : VR I₀ μ₀ w₀ ρ₀ g ls v₀) (h1 : ρ₀ <+: ρ') (h2 : ρ₀ <+: ρ'') (h : VR I μ w ρ' g ls v) : VR I μ w ρ'' g ls v := by
  cases g
  · obtain ⟨l, rfl, h⟩ := h
    obtain ⟨l', e, h0⟩ := h0
    cases e
    exact ⟨l, rfl, LR.rebase h0 h1 h2 h⟩
  · obtain ⟨vs, hv, h⟩ := h
    obtain ⟨vs0, _, h0⟩ := h0
    exact ⟨vs, hv, LsR.rebase h1 h2 h0 h⟩

theorem SR.rebase {I₀ : Imm} {μ₀ : Mu} {w₀ : World} {ρ₀ ρ' ρ'' : List D} {s : S} {v v₀ : Value} (h0 : SR I₀ μ₀ w₀ ρ₀ s v₀) (h1 : ρ₀ <+: ρ') (h2 : ρ₀ <+: ρ'') (h : SR I μ w ρ' s v) : SR I μ w ρ'' s v := by
  cases s with
  | x => trivial
  | u => exact h
  | val g ls => exact VR.rebase h0 h1 h2 h
  | tup xs =>
    obtain ⟨vs, hv, h⟩ := h
    obtain ⟨vs0, hv0, h0⟩ := h0
    refine ⟨vs, hv, ?_⟩
    clear hv hv0
    induction h generalizing vs0 with
    | nil => exact .nil
    | cons a b ih =>
      cases h0 with
      | cons a0 b0 => exact .cons (VR.rebase a0 h1 h2 a) (ih _ b0)

/-! ### expressions of leaves, evaluated -/

theorem evals_length {ρ : List D} : ∀ {es : List Ex} {ds : List D}, Ex.evals ρ es = some ds → es.length = ds.length
  | [], ds, h => by simp [Ex.evals] at h; subst h; rfl
  | e :: es, ds, h => by
    simp only [Ex.evals] at h
    split at h
    · rename_i d ds' h1 h2; cases h; simp [evals_length h2]
    · cases h

theorem evals_get {ρ : List D} : ∀ {es : List Ex} {ds : List D}, Ex.evals ρ es = some ds → ∀ {i : Nat} {e : Ex}, es[i]? = some e → ∃ d, ds[i]? = some d ∧ e.eval ρ = some d
  | [], ds, h, i, e, he => by simp at he
  | e0 :: es, ds, h, i, e, he => by
    simp only [Ex.evals] at h
    split at h
    · rename_i d ds' h1 h2
      cases h
      cases i with
      | zero => simp at he; subst he; exact ⟨d, by simp, h1⟩
      | succ i => simpa using evals_get h2 (by simpa using he)
    · cases h

theorem evals_append {ρ : List D} : ∀ {es fs : List Ex} {ds : List D}, Ex.evals ρ (es ++ fs) = some ds → ∃ d1 d2, ds = d1 ++ d2 ∧ Ex.evals ρ es = some d1 ∧ Ex.evals ρ fs = some d2
  | [], fs, ds, h => ⟨[], ds, rfl, rfl, h⟩
  | e :: es, fs, ds, h => by
    simp only [List.cons_append, Ex.evals] at h
    split at h
    · rename_i d ds' h1 h2
      cases h
      obtain ⟨d1, d2, rfl, h3, h4⟩ := evals_append h2
      exact ⟨d :: d1, d2, rfl, by simp [Ex.evals, h1, h3], h4⟩
    · cases h

/-- the variables from k on hold these data -/
def VarsAt (env : List D) (k : Nat) (ds : List D) : Prop := ∀ i d, ds[i]? = some d → env[k + i]? = some d

theorem VarsAt.left {env : List D} {k : Nat} {d1 d2 : List D} (h : VarsAt env k (d1 ++ d2)) : VarsAt env k d1 := fun i d hd => h i d (by rw [List.getElem?_append_left (List.getElem?_eq_some_iff.1 hd).1]; exact hd)
theorem VarsAt.right {env : List D} {k : Nat} {d1 d2 : List D} (h : VarsAt env k (d1 ++ d2)) : VarsAt env (k + d1.length) d2 := fun i d hd => by
  have := h (d1.length + i) d (by rw [List.getElem?_append_right (by omega)]; simpa using hd)
  rwa [Nat.add_assoc]
theorem VarsAt.head {env : List D} {k : Nat} {d : D} {ds : List D} (h : VarsAt env k (d :: ds)) : env[k]? = some d := h 0 d (by simp)
theorem VarsAt.tail {env : List D} {k : Nat} {d : D} {ds : List D} (h : VarsAt env k (d :: ds)) : VarsAt env (k + 1) ds := fun i d' hd => by
  have := h (i + 1) d' (by simpa using hd)
  rwa [Nat.add_assoc, Nat.add_comm 1 i]
theorem VarsAt.self (ρ ds : List D) : VarsAt (ρ ++ ds) ρ.length ds := fun i d hd => by rw [List.getElem?_append_right (by omega)]; simpa using hd

/-- leaves that are expressions, and the variables that stand for them -/
theorem genLs_sound {env : List D} : ∀ {ls : List SL} {k : Nat} {es : List Ex} {ls' : List SL} {ds : List D} {vs : List Value}, genLs k ls = some (es, ls') → Ex.evals ρ es = some ds → VarsAt env k ds →
    LsR I μ w ρ ls vs → LsR I μ w env ls' vs
  | [], k, es, ls', ds, vs, h, _, _, hr => by simp [genLs] at h; obtain ⟨_, rfl⟩ := h; cases hr; exact .nil
  | .e t :: ls, k, es, ls', ds, vs, h, he, hv, hr => by
    simp only [genLs] at h
    split at h
    · rename_i es1 ls1 h1
      cases h
      simp only [Ex.evals] at he
      split at he
      · rename_i d ds' h2 h3
        cases he
        cases hr with
        | cons a b =>
          obtain ⟨d', e', hd⟩ := a
          rw [h2] at e'
          cases e'
          exact .cons ⟨d, by simp only [Ex.eval]; exact hv.head, hd⟩ (genLs_sound h1 h3 hv.tail b)
      · cases he
    · cases h
  | .x :: _, _, _, _, _, _, h, _, _, _ => by simp [genLs] at h
  | .p .. :: _, _, _, _, _, _, h, _, _, _ => by simp [genLs] at h
  | .dyn .. :: _, _, _, _, _, _, h, _, _, _ => by simp [genLs] at h
  | .elt .. :: _, _, _, _, _, _, h, _, _, _ => by simp [genLs] at h
  | .sc .. :: _, _, _, _, _, _, h, _, _, _ => by simp [genLs] at h
  | .g .. :: _, _, _, _, _, _, h, _, _, _ => by simp [genLs] at h
  | .ge .. :: _, _, _, _, _, _, h, _, _, _ => by simp [genLs] at h
  | .clo .. :: _, _, _, _, _, _, h, _, _, _ => by simp [genLs] at h

theorem genLs_shape : ∀ {ls : List SL} {k : Nat} {es : List Ex} {ls' : List SL}, genLs k ls = some (es, ls') → ls' = varsFrom k ls.length ∧ es.length = ls.length
  | [], k, es, ls', h => by simp [genLs] at h; obtain ⟨rfl, rfl⟩ := h; simp [varsFrom]
  | .e t :: ls, k, es, ls', h => by
    simp only [genLs] at h
    split at h
    · rename_i es1 ls1 h1
      cases h
      obtain ⟨h2, h3⟩ := genLs_shape h1
      refine ⟨?_, by simp [h3]⟩
      rw [h2]
      simp only [varsFrom, List.length_cons, List.range_succ_eq_map, List.map_cons, List.map_map, Nat.add_zero]
      congr 1
      apply List.map_congr_left
      intro j _
      simp only [Function.comp_apply]
      congr 2
      omega
    · cases h
  | .x :: _, _, _, _, h => by simp [genLs] at h
  | .p .. :: _, _, _, _, h => by simp [genLs] at h
  | .dyn .. :: _, _, _, _, h => by simp [genLs] at h
  | .elt .. :: _, _, _, _, h => by simp [genLs] at h
  | .sc .. :: _, _, _, _, h => by simp [genLs] at h
  | .g .. :: _, _, _, _, h => by simp [genLs] at h
  | .ge .. :: _, _, _, _, h => by simp [genLs] at h
  | .clo .. :: _, _, _, _, h => by simp [genLs] at h

/-- variables that hold data, as leaves -/
theorem varsFrom_sound {env : List D} : ∀ {ls : List SL} {es : List Ex} {ds : List D} {k : Nat} {vs : List Value}, exLs ls = some es → Ex.evals ρ es = some ds → VarsAt env k ds → LsR I μ w ρ ls vs → LsR I μ w env (varsFrom k ls.length) vs := by
  intro ls es ds k vs h he hv hr
  have h1 := exLs_get h
  subst h1
  have hr' := All2.of_map_left hr
  have hl := evals_length he
  refine All2.of_get (by simp [varsFrom]; have := hr'.length; simpa using this) fun i l v hi hvi => ?_
  obtain ⟨e, hei, d, hed, hd⟩ := hr'.get' hvi
  have hil : i < es.length := (List.getElem?_eq_some_iff.1 hei).1
  simp [varsFrom, hil] at hi
  subst hi
  refine ⟨d, ?_, hd⟩
  simp only [Ex.eval]
  obtain ⟨d', hd', he'⟩ := evals_get he hei
  rw [hed] at he'
  cases he'
  exact hv i d hd'

theorem getD_cons_succ {α : Type} (a d : α) (l : List α) (j : Nat) : (a :: l).getD (j + 1) d = l.getD j d := by simp [List.getD]

/-- the frame at the loop's head -/
theorem genFr_sound {env : List D} (hp : ρ <+: env) (ds : List Nat) : ∀ (fr : List S) (t k : Nat) {dd : List D}, Ex.evals ρ (genFr ds t k fr).1 = some dd → VarsAt env k dd →
    (genFr ds t k fr).2.length = fr.length ∧ ∀ j v, SR I μ w ρ (fr.getD j .x) v → SR I μ w env ((genFr ds t k fr).2.getD j .x) v
  | [], t, k, dd, _, _ => ⟨rfl, fun j v _ => by simp [genFr, SR]⟩
  | s :: r, t, k, dd, he, hv => by
    have hno : ∀ (s' : S), (genFr ds t k (s :: r)) = ((genFr ds (t + 1) k r).1, s' :: (genFr ds (t + 1) k r).2) → (∀ v, SR I μ w ρ s v → SR I μ w env s' v) →
        (genFr ds t k (s :: r)).2.length = (s :: r).length ∧ ∀ j v, SR I μ w ρ ((s :: r).getD j .x) v → SR I μ w env ((genFr ds t k (s :: r)).2.getD j .x) v := by
      intro s' heq hs'
      rw [heq] at he ⊢
      obtain ⟨h1, h2⟩ := genFr_sound hp ds r (t + 1) k he hv
      refine ⟨by simp [h1], fun j v hj => ?_⟩
      cases j with
      | zero => exact hs' v hj
      | succ j => rw [getD_cons_succ] at hj ⊢; exact h2 j v hj
    by_cases hds : ds.contains t = true
    · cases s with
      | val g ls =>
        cases hg : genLs k ls with
        | none => exact hno .x (by simp only [genFr]; rw [if_pos hds, hg]) (fun _ _ => trivial)
        | some q =>
          obtain ⟨es, ls'⟩ := q
          have heq : genFr ds t k (.val g ls :: r) = (es ++ (genFr ds (t + 1) (k + es.length) r).1, .val g ls' :: (genFr ds (t + 1) (k + es.length) r).2) := by
            simp only [genFr]; rw [if_pos hds, hg]
          rw [heq] at he ⊢
          obtain ⟨d1, d2, rfl, h1, h2⟩ := evals_append he
          have hl := evals_length h1
          obtain ⟨h3, h4⟩ := genFr_sound hp ds r (t + 1) (k + es.length) h2 (hl ▸ hv.right)
          refine ⟨by simp [h3], fun j v hj => ?_⟩
          cases j with
          | zero =>
            show VR I μ w env g ls' v
            have hj : VR I μ w ρ g ls v := hj
            cases g
            · obtain ⟨l, rfl, hr⟩ := hj
              have := genLs_sound hg h1 hv.left (All2.cons hr .nil)
              cases this with
              | cons a b => cases b; exact ⟨_, rfl, a⟩
            · obtain ⟨vs, hvv, hr⟩ := hj
              exact ⟨vs, hvv, genLs_sound hg h1 hv.left hr⟩
          | succ j => rw [getD_cons_succ] at hj ⊢; exact h4 j v hj
      | x => exact hno .x (by simp only [genFr]; rw [if_pos hds]) (fun _ _ => trivial)
      | u => exact hno .x (by simp only [genFr]; rw [if_pos hds]) (fun _ _ => trivial)
      | tup vs => exact hno .x (by simp only [genFr]; rw [if_pos hds]) (fun _ _ => trivial)
    · exact hno s (by simp only [genFr]; rw [if_neg hds]) (fun v h => h.mono (Evo.refl _ _ _) hp)

/-- the frame at the loop's end is the head's again -/
theorem backFr_sound {env ρ' : List D} {I₀ : Imm} {μ₀ : Mu} {w₀ : World} (hp : ρ <+: ρ') (hpe : ρ <+: env) (ds : List Nat) : ∀ (fr ss : List S) (t k : Nat) {es : List Ex} {dd : List D},
    (∀ j, ∃ v₀, SR I₀ μ₀ w₀ ρ (fr.getD j .x) v₀) → backFr ds t (genFr ds t k fr).2 ss = some es → Ex.evals ρ' es = some dd → VarsAt env k dd →
    ∀ j v, SR I μ w ρ' (ss.getD j .x) v → SR I μ w env ((genFr ds t k fr).2.getD j .x) v
  | [], ss, t, k, es, dd, _, _, _, _ => fun j v _ => by simp [genFr, SR]
  | s :: r, ss, t, k, es, dd, h0, hb, he, hv => by
    have h0r : ∀ j, ∃ v₀, SR I₀ μ₀ w₀ ρ (r.getD j .x) v₀ := fun j => by have := h0 (j + 1); rwa [getD_cons_succ] at this
    by_cases hds : ds.contains t = true
    · have hx : ∀ (heq : genFr ds t k (s :: r) = ((genFr ds (t + 1) k r).1, .x :: (genFr ds (t + 1) k r).2)), ∀ j v, SR I μ w ρ' (ss.getD j .x) v → SR I μ w env ((genFr ds t k (s :: r)).2.getD j .x) v := by
        intro heq j v hj
        rw [heq] at hb ⊢
        cases ss with
        | nil => simp [backFr] at hb
        | cons s' ss =>
          simp only [backFr] at hb
          rw [if_pos hds] at hb
          cases j with
          | zero => trivial
          | succ j => rw [getD_cons_succ] at hj ⊢; exact backFr_sound hp hpe ds r ss (t + 1) k h0r hb he hv j v hj
      cases s with
      | val g ls =>
        cases hg : genLs k ls with
        | none => exact hx (by simp only [genFr]; rw [if_pos hds, hg])
        | some q =>
          obtain ⟨es0, ls'⟩ := q
          have heq : genFr ds t k (.val g ls :: r) = (es0 ++ (genFr ds (t + 1) (k + es0.length) r).1, .val g ls' :: (genFr ds (t + 1) (k + es0.length) r).2) := by
            simp only [genFr]; rw [if_pos hds, hg]
          obtain ⟨hsh, hlen⟩ := genLs_shape hg
          rw [heq] at hb ⊢
          cases ss with
          | nil => simp [backFr] at hb
          | cons s' ss =>
            simp only [backFr] at hb
            rw [if_pos hds] at hb
            cases s' with
            | val g' ls1 =>
              simp only at hb
              split at hb
              · rename_i hgl
                simp only [Bool.and_eq_true, beq_iff_eq] at hgl
                obtain ⟨rfl, hl⟩ := hgl
                split at hb
                · rename_i es1 r1 h1 h2
                  cases hb
                  obtain ⟨d1, d2, rfl, h3, h4⟩ := evals_append he
                  have hl1 := evals_length h3
                  have he1 : es1.length = ls1.length := by have := congrArg List.length (exLs_get h1); simpa using this.symm
                  have hkk : k + es0.length = k + d1.length := by
                    rw [hsh] at hl
                    simp [varsFrom] at hl
                    omega
                  intro j v hj
                  cases j with
                  | zero =>
                    show VR I μ w env g ls' v
                    have hj : VR I μ w ρ' g ls1 v := hj
                    have hll : ls.length = ls1.length := by rw [hsh] at hl; simpa [varsFrom] using hl
                    rw [hsh, hll]
                    cases g
                    · obtain ⟨l, rfl, hr⟩ := hj
                      have := varsFrom_sound h1 h3 hv.left (All2.cons hr .nil)
                      cases this with
                      | cons a b => exact ⟨_, rfl, a⟩
                    · obtain ⟨vs, hvv, hr⟩ := hj
                      exact ⟨vs, hvv, varsFrom_sound h1 h3 hv.left hr⟩
                  | succ j =>
                    rw [getD_cons_succ] at hj ⊢
                    exact backFr_sound hp hpe ds r ss (t + 1) (k + es0.length) h0r h2 h4 (hkk ▸ hv.right) j v hj
                · cases hb
              · cases hb
            | x => simp at hb
            | u => simp at hb
            | tup vs => simp at hb
      | x => exact hx (by simp only [genFr]; rw [if_pos hds])
      | u => exact hx (by simp only [genFr]; rw [if_pos hds])
      | tup vs => exact hx (by simp only [genFr]; rw [if_pos hds])
    · have heq : genFr ds t k (s :: r) = ((genFr ds (t + 1) k r).1, s :: (genFr ds (t + 1) k r).2) := by simp only [genFr]; rw [if_neg hds]
      rw [heq] at hb ⊢
      cases ss with
      | nil => simp [backFr] at hb
      | cons s' ss =>
        simp only [backFr] at hb
        rw [if_neg hds] at hb
        split at hb
        · rename_i hsame
          intro j v hj
          cases j with
          | zero =>
            obtain ⟨v0, hv0⟩ := h0 0
            exact SR.rebase hv0 hp hpe (S.same_sound hsame hj)
          | succ j => rw [getD_cons_succ] at hj ⊢; exact backFr_sound hp hpe ds r ss (t + 1) k h0r hb he hv j v hj
        · cases hb

end
end Go.Proofs.YtlihbielphcgbaaGreatDoor.Sx

namespace Go.Proofs.YtlihbielphcgbaaGreatDoor.Sx
open Go
set_option linter.unnecessarySimpa false
set_option linter.unusedSimpArgs false
set_option linter.unusedVariables false

theorem idxAt_some {x : Nat × Nat} : ∀ {ms : List (Nat × Nat)} {k i : Nat}, idxAt x ms k = some i → ∃ j, i = k + j ∧ ms[j]? = some x
  | [], k, i, h => by simp [idxAt] at h
  | y :: r, k, i, h => by
    simp only [idxAt] at h
    split at h
    · rename_i e; cases h; exact ⟨0, rfl, by simp [e]⟩
    · obtain ⟨j, h1, h2⟩ := idxAt_some h
      exact ⟨j + 1, by omega, by simpa using h2⟩

theorem idxAt_none {x : Nat × Nat} : ∀ {ms : List (Nat × Nat)} {k : Nat}, idxAt x ms k = none → x ∉ ms
  | [], k, _ => by simp
  | y :: r, k, h => by
    simp only [idxAt] at h
    split at h
    · cases h
    · rename_i e
      have := idxAt_none h
      simp only [List.mem_cons, not_or]
      exact ⟨fun h' => e h'.symm, this⟩

theorem backHp_get {h : Heap} : ∀ {ms : List (Nat × Nat)} {es : List Ex}, backHp h ms = some es → ∀ {j b o : Nat}, ms[j]? = some (b, o) → ∃ blk t, h[b]? = some blk ∧ blk.ls[o]? = some (.e t) ∧ es[j]? = some t
  | [], es, hb, j, b, o, hj => by simp at hj
  | (b0, o0) :: r, es, hb, j, b, o, hj => by
    simp only [backHp] at hb
    split at hb
    · rename_i blk hblk
      split at hb
      · rename_i t ht
        split at hb
        · rename_i es' hes
          cases hb
          cases j with
          | zero => simp at hj; obtain ⟨rfl, rfl⟩ := hj; exact ⟨blk, t, hblk, ht, by simp⟩
          | succ j => simpa using backHp_get hes (by simpa using hj)
        · cases hb
      · cases hb
    · cases hb

section
variable {I : Imm} {μ : Mu} {w : World} {ρ : List D} {G : Glo} {B : Nat} {I₀ : Imm} {w₀ : World} {h : Heap}

/-- some of the blocks, and of the slices that grow -/
def Mu.res (μ : Mu) (p q : Nat → Bool) : Mu := { m := fun b => if p b = true then μ b else none, v := fun k => if q k = true then μ.v k else none }

/-- The heap at the loop's head. -/
theorem genHeap_sound {env : List D} {hg : Heap} {ms : List (Nat × Nat)} {k : Nat} {ys : List Ex} {dd : List D} {p q : Nat → Bool} (hW : WR G B I₀ w₀ I μ w ρ h) (hpl : ∀ b, p b = true → b < hg.length)
    (H : ∀ b blk, p b = true → hg[b]? = some blk → ∃ blk', h[b]? = some blk' ∧ blk'.ro = blk.ro ∧ blk'.ls.length = blk.ls.length ∧
      ∀ o l l', blk.ls[o]? = some l → blk'.ls[o]? = some l' → (b, o) ∉ ms → ∀ v, LR I μ w ρ l' v → LR I (μ.res p q) w env l v)
    (hb : backHp h ms = some ys) (he : Ex.evals ρ ys = some dd) (hv : VarsAt env k dd) :
    WR G B I₀ w₀ I (μ.res p q) w env (genHeap ms k hg) := by
  have hmu : ∀ b x, (μ.res p q) b = some x → p b = true ∧ μ b = some x := fun b x hx => by
    unfold Mu.res at hx
    simp only at hx
    split at hx
    · rename_i hlt; exact ⟨hlt, hx⟩
    · cases hx
  refine ⟨fun b x hx => ?_, fun b b' x hx hx' => hW.inj b b' x (hmu b x hx).2 (hmu b' x hx').2, hW.glo, hW.old, hW.size, hW.imm, hW.imm0, hW.wd⟩
  obtain ⟨hpb, hx⟩ := hmu b x hx
  have hlt := hpl b hpb
  obtain ⟨blk', h1, vs, ty, h2, h3, h4⟩ := hW.blk b x hx
  have hgb : hg[b]? = some hg[b] := List.getElem?_eq_getElem hlt
  obtain ⟨blk'', h1', hro, hlen, hls⟩ := H b _ hpb hgb
  rw [h1] at h1'
  cases h1'
  refine ⟨_, by simp [genHeap, List.getElem?_mapIdx, hgb]; rfl, vs, ty, h2, ?_, ?_⟩
  · have hvl := h3.length
    refine All2.of_get (by simp; omega) fun o l v hl hvo => ?_
    simp only [List.getElem?_mapIdx] at hl
    have hol : o < (hg[b]).ls.length := by have := (List.getElem?_eq_some_iff.1 hvo).1; omega
    rw [List.getElem?_eq_getElem hol] at hl
    simp only [Option.map_some, Option.some.injEq] at hl
    obtain ⟨l', hl', hr'⟩ := h3.get' hvo
    split at hl
    · rename_i i hi
      subst hl
      obtain ⟨j, rfl, hj⟩ := idxAt_some hi
      obtain ⟨blk1, t, hb1, ht, hy⟩ := backHp_get hb hj
      rw [h1] at hb1
      cases hb1
      rw [hl'] at ht
      cases ht
      obtain ⟨d, hd, hdr⟩ := hr'
      obtain ⟨d', hd', he'⟩ := evals_get he hy
      rw [hd] at he'
      cases he'
      exact ⟨d, by simp only [Ex.eval]; exact hv j d hd', hdr⟩
    · rename_i hi
      subst hl
      exact hls o _ _ (List.getElem?_eq_getElem hol) hl' (idxAt_none hi) v hr'
  · simp only [← hro]
    exact h4

theorem LR.under {n : Nat} {l : SL} {v : Value} (hu : l.under n = true) (hr : LR I μ w ρ l v) : LR I (μ.res (fun b => decide (b < n)) fun _ => true) w ρ l v := by
  have hb : ∀ r x, (match r with | BR.loc b => decide (b < n) | BR.glo _ => true) = true → BRef μ r = some x → BRef (μ.res (fun b => decide (b < n)) fun _ => true) r = some x := fun r x h1 h2 => by
    cases r with
    | loc b => simp only [BRef, Mu.res, if_pos h1]; exact h2
    | glo g => exact h2
  cases l with
  | x => exact hr
  | e t => exact hr
  | p r off => obtain ⟨x, hx, h⟩ := hr; exact ⟨x, hb r x (by cases r <;> first | simpa [SL.under] using hu | rfl) hx, h⟩
  | dyn r b s m i j => obtain ⟨x, k, q, hx, h⟩ := hr; exact ⟨x, k, q, hb r x (by cases r <;> first | simpa [SL.under] using hu | rfl) hx, h⟩
  | elt t i m j => exact hr
  | sc r b s m => obtain ⟨x, c, hx, h⟩ := hr; exact ⟨x, c, hb r x (by cases r <;> first | simpa [SL.under] using hu | rfl) hx, h⟩
  | g k => obtain ⟨b, n, c, h1, h2⟩ := hr; exact ⟨b, n, c, h1, by simpa [Mu.res] using h2⟩
  | ge k i sz j => obtain ⟨x, n, c, kk, m, h1, h2⟩ := hr; exact ⟨x, n, c, kk, m, by simpa [Mu.res] using h1, h2⟩
  | gs k sz lo => obtain ⟨b, n, c, kk, m, p, c', h1, h2⟩ := hr; exact ⟨b, n, c, kk, m, p, c', by simpa [Mu.res] using h1, h2⟩
  | clo f caps =>
    obtain ⟨vs, hv, h⟩ := hr
    refine ⟨vs, hv, ?_⟩
    simp only [SL.under, List.all_eq_true] at hu
    clear hv
    induction h with
    | nil => exact .nil
    | cons a b ih =>
      obtain ⟨x, hx, h⟩ := a
      exact .cons ⟨x, hb _ x (hu _ (by simp)) hx, h⟩ (ih fun c hc => hu c (by simp [hc]))

/-- a leaf that could be told when there were only so many blocks speaks of no other -/
theorem LR.upto {I₀ : Imm} {μ₀ : Mu} {w₀ : World} {ρ₀ : List D} {p q : Nat → Bool} {l : SL} {v v₀ : Value} (h0 : LR I₀ μ₀ w₀ ρ₀ l v₀) (hm : ∀ b x, μ₀ b = some x → p b = true) (hq : ∀ k v, μ₀.v k = some v → q k = true) (hr : LR I μ w ρ l v) : LR I (μ.res p q) w ρ l v := by
  have hb : ∀ r x x0, BRef μ₀ r = some x0 → BRef μ r = some x → BRef (μ.res p q) r = some x := fun r x x0 h1 h2 => by
    cases r with
    | loc b => simp only [BRef, Mu.res, if_pos (hm b x0 h1)]; exact h2
    | glo g => exact h2
  cases l with
  | x => exact hr
  | e t => exact hr
  | p r off => obtain ⟨x0, hx0, _⟩ := h0; obtain ⟨x, hx, h⟩ := hr; exact ⟨x, hb r x x0 hx0 hx, h⟩
  | dyn r b s m i j => obtain ⟨x0, _, _, hx0, _⟩ := h0; obtain ⟨x, k, q, hx, h⟩ := hr; exact ⟨x, k, q, hb r x x0 hx0 hx, h⟩
  | elt t i m j => exact hr
  | sc r b s m => obtain ⟨x0, _, hx0, _⟩ := h0; obtain ⟨x, c, hx, h⟩ := hr; exact ⟨x, c, hb r x x0 hx0 hx, h⟩
  | g k => obtain ⟨_, _, _, _, h0⟩ := h0; obtain ⟨b, n, c, h1, h2⟩ := hr; exact ⟨b, n, c, h1, by simpa [Mu.res, hq k _ h0] using h2⟩
  | ge k i sz j => obtain ⟨_, _, _, _, _, h0, _⟩ := h0; obtain ⟨x, n, c, kk, m, h1, h2⟩ := hr; exact ⟨x, n, c, kk, m, by simpa [Mu.res, hq k _ h0] using h1, h2⟩
  | gs k sz lo => obtain ⟨_, _, _, _, _, _, _, h0, _⟩ := h0; obtain ⟨b, n, c, kk, m, p, c', h1, h2⟩ := hr; exact ⟨b, n, c, kk, m, p, c', by simpa [Mu.res, hq k _ h0] using h1, h2⟩
  | clo f caps =>
    obtain ⟨vs, hv, h⟩ := hr
    obtain ⟨vs0, hv0, h0⟩ := h0
    refine ⟨vs, hv, ?_⟩
    clear hv hv0
    induction h generalizing vs0 with
    | nil => exact .nil
    | cons a b ih =>
      cases h0 with
      | cons a0 b0 =>
        obtain ⟨x, hx, h⟩ := a
        obtain ⟨x0, hx0, _⟩ := a0
        exact .cons ⟨x, hb _ x x0 hx0 hx, h⟩ (ih _ b0)

theorem LsR.upto {I₀ : Imm} {μ₀ : Mu} {w₀ : World} {ρ₀ : List D} {p q : Nat → Bool} (hm : ∀ b x, μ₀ b = some x → p b = true) (hq : ∀ k v, μ₀.v k = some v → q k = true) : ∀ {ls : List SL} {vs vs₀ : List Value}, LsR I₀ μ₀ w₀ ρ₀ ls vs₀ → LsR I μ w ρ ls vs → LsR I (μ.res p q) w ρ ls vs
  | [], _, _, .nil, .nil => .nil
  | _ :: _, _, _, .cons a0 b0, .cons a b => .cons (LR.upto a0 hm hq a) (LsR.upto hm hq b0 b)

theorem VR.upto {I₀ : Imm} {μ₀ : Mu} {w₀ : World} {ρ₀ : List D} {p q : Nat → Bool} {g : Bool} {ls : List SL} {v v₀ : Value} (hm : ∀ b x, μ₀ b = some x → p b = true) (hq : ∀ k v, μ₀.v k = some v → q k = true) (h0 : VR I₀ μ₀ w₀ ρ₀ g ls v₀) (h : VR I μ w ρ g ls v) : VR I (μ.res p q) w ρ g ls v := by
  cases g
  · obtain ⟨l, rfl, h⟩ := h
    obtain ⟨l', e, h0⟩ := h0
    cases e
    exact ⟨l, rfl, LR.upto h0 hm hq h⟩
  · obtain ⟨vs, hv, h⟩ := h
    obtain ⟨vs0, _, h0⟩ := h0
    exact ⟨vs, hv, LsR.upto hm hq h0 h⟩

theorem SR.upto {I₀ : Imm} {μ₀ : Mu} {w₀ : World} {ρ₀ : List D} {p q : Nat → Bool} {s : S} {v v₀ : Value} (hm : ∀ b x, μ₀ b = some x → p b = true) (hq : ∀ k v, μ₀.v k = some v → q k = true) (h0 : SR I₀ μ₀ w₀ ρ₀ s v₀) (h : SR I μ w ρ s v) : SR I (μ.res p q) w ρ s v := by
  cases s with
  | x => trivial
  | u => exact h
  | val g ls => exact VR.upto hm hq h0 h
  | tup xs =>
    obtain ⟨vs, hv, h⟩ := h
    obtain ⟨vs0, hv0, h0⟩ := h0
    refine ⟨vs, hv, ?_⟩
    clear hv hv0
    induction h generalizing vs0 with
    | nil => exact .nil
    | cons a b ih =>
      cases h0 with
      | cons a0 b0 => exact .cons (VR.upto hm hq a0 a) (ih _ b0)

theorem WR.dom (hW : WR G B I₀ w₀ I μ w ρ h) {b x : Nat} (hb : μ b = some x) : b < h.length := by
  obtain ⟨blk, h1, _⟩ := hW.blk b x hb
  exact (List.getElem?_eq_some_iff.1 h1).1

/-- The heap is cut behind a call. -/
theorem WR.cut (hW : WR G B I₀ w₀ I μ w ρ h) {n : Nat} (hu : ((h.take n).all fun b => b.ls.all (SL.under n)) = true) : WR G B I₀ w₀ I (μ.res (fun b => decide (b < n)) fun _ => true) w ρ (h.take n) := by
  have hmu : ∀ b x, (μ.res (fun b => decide (b < n)) fun _ => true) b = some x → b < n ∧ μ b = some x := fun b x hx => by
    unfold Mu.res at hx
    simp only at hx
    split at hx
    · rename_i hlt; exact ⟨of_decide_eq_true hlt, hx⟩
    · cases hx
  refine ⟨fun b x hx => ?_, fun b b' x hx hx' => hW.inj b b' x (hmu b x hx).2 (hmu b' x hx').2, hW.glo, hW.old, hW.size, hW.imm, hW.imm0, hW.wd⟩
  obtain ⟨hlt, hx⟩ := hmu b x hx
  obtain ⟨blk, h1, vs, ty, h2, h3, h4⟩ := hW.blk b x hx
  have h1' : (h.take n)[b]? = some blk := by rw [List.getElem?_take, if_pos hlt]; exact h1
  refine ⟨blk, h1', vs, ty, h2, ?_, h4⟩
  have hall := List.all_eq_true.1 (List.all_eq_true.1 hu blk (List.mem_of_getElem? h1'))
  refine All2.of_get h3.length fun o l v hl hv => ?_
  obtain ⟨l', hl', hr⟩ := h3.get' hv
  rw [hl] at hl'
  cases hl'
  exact LR.under (hall l (List.mem_of_getElem? hl)) hr

theorem Evo.upto {I' : Imm} {μ' : Mu} {w' : World} {p q : Nat → Bool} (he : Evo I μ w I' μ' w') (hm : ∀ b x, μ b = some x → p b = true) (hq : ∀ k v, μ.v k = some v → q k = true) : Evo I μ w I' (μ'.res p q) w' :=
  ⟨he.imm, he.same, fun b x hb => by unfold Mu.res; simp only; rw [if_pos (hm b x hb)]; exact he.mu b x hb, fun k v hk => by unfold Mu.res; simp only; rw [if_pos (hq k v hk)]; exact he.hv k v hk⟩

/-- Behind a call that changes nothing that was. -/
theorem WR.call (hW : WR G B I₀ w₀ I μ w ρ h) {I' : Imm} {w' : World} (h1 : ∀ x, I x → I' x) (h2 : ∀ x, I' x → I x ∨ w.heap.size ≤ x) (h3 : ∀ x, I' x → x < w'.heap.size)
    (h4 : ∀ x, x < w.heap.size → w'.heap[x]? = w.heap[x]?) (h5 : w.heap.size ≤ w'.heap.size) (h6 : w'.os = w.os ∧ w'.output = w.output) : WR G B I₀ w₀ I' μ w' ρ h ∧ Evo I μ w I' μ w' := by
  have he : Evo I μ w I' μ w' := ⟨h1, fun x hx => h4 x (hW.imm x hx), fun _ _ h => h, fun _ _ h => h⟩
  refine ⟨⟨fun b x hb => ?_, fun b b' x hb hb' => (hW.inj b b' x hb hb').imp id (h1 x), hW.glo.mono h1 he.same, fun y hy => ?_, by have := hW.size; omega, h3, fun x hx => ?_, ⟨h6.1.trans hW.wd.1, h6.2.trans hW.wd.2⟩⟩, he⟩
  · obtain ⟨blk, hb1, vs, ty, hb2, hb3, hb4⟩ := hW.blk b x hb
    have hx : x < w.heap.size := (Array.getElem?_eq_some_iff.1 hb2).1
    refine ⟨blk, hb1, vs, ty, (h4 x hx).trans hb2, hb3.imp fun _ _ hr => hr.mono he (List.prefix_refl _), ?_⟩
    split
    · rename_i hro
      rw [if_pos hro] at hb4
      exact h1 x hb4
    · rename_i hro
      rw [if_neg hro] at hb4
      exact ⟨fun hI => by rcases h2 x hI with h | h; exact hb4.1 h; omega, hb4.2⟩
  · rw [h4 y (by have := hW.size; omega)]
    exact hW.old y hy
  · rcases h2 x hx with h | h
    · exact hW.imm0 x h
    · exact .inr (by have := hW.size; omega)

end
end Go.Proofs.YtlihbielphcgbaaGreatDoor.Sx
