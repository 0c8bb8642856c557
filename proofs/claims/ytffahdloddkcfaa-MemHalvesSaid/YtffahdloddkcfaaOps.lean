/-
  Each simple operation of the executor is the machine's.
-/
import Derived.Test.YtffahdloddkcfaaEq
namespace Go.Proofs.Ytffahdloddkcfaa.Sx
open Go
set_option linter.unnecessarySimpa false
set_option linter.unusedSimpArgs false
set_option linter.unusedVariables false

theorem All2.over {α β : Type} {R : α → β → Prop} {as as' : List α} {bs bs' : List β} (h : All2 R as bs) (h' : All2 R as' bs') (j : Nat) : All2 R (over as j as') (over bs j bs') := by
  unfold Sx.over
  rw [h'.length]
  exact ((h.take j).append h').append (h.drop _)

theorem over_length {α : Type} {l n : List α} {j : Nat} (h : j + n.length ≤ l.length) : (over l j n).length = l.length := by simp [over]; omega

theorem over_self {α : Type} (l : List α) (j k : Nat) (h : j + k ≤ l.length) : over l j ((l.drop j).take k) = l := by
  unfold over
  have h1 : ((l.drop j).take k).length = k := by simp; omega
  rw [h1, ← List.drop_drop, List.append_assoc, List.take_append_drop, List.take_append_drop]

section
variable {I : Imm} {μ : Mu} {w : World} {ρ : List D} {G : Glo} {B : Nat} {I₀ : Imm} {w₀ : World} {h : Heap} {P : Program}

/-! ### constants and operands -/

theorem constL_sound {v : Value} {l : SL} (hl : constL v = some l) : LR I μ w ρ l v := by
  unfold constL at hl
  split at hl
  · cases hl; exact ⟨_, by simp [Ex.eval], .b _⟩
  · cases hl; exact ⟨_, by simp [Ex.eval], .i _ _⟩
  · cases hl; exact ⟨_, by simp [Ex.eval], .s _⟩
  · cases hl; exact ⟨_, by simp [Ex.eval], .nil 0 none 0 fun _ => ⟨rfl, rfl⟩⟩
  · split at hl
    · rename_i f first captured hc
      cases hl
      simp only [Bool.and_eq_true, Array.isEmpty_iff] at hc
      obtain ⟨rfl, rfl⟩ := hc
      exact ⟨_, by simp [Ex.eval], .f _⟩
    · cases hl
  · cases hl

theorem constLs_sound : ∀ {vs : List Value} {ls : List SL}, constLs vs = some ls → LsR I μ w ρ ls vs
  | [], ls, h => by simp [constLs] at h; subst h; exact .nil
  | v :: vs, ls, h => by
    simp only [constLs] at h
    split at h
    · rename_i l ls' h1 h2
      cases h
      exact .cons (constL_sound h1) (constLs_sound h2)
    · cases h

theorem constS_sound (v : Value) : SR I μ w ρ (constS v) v := by
  unfold constS
  split
  · rename_i cs
    split
    · rename_i ls hls; exact ⟨cs.toList, by simp, constLs_sound hls⟩
    · trivial
  · split
    · rename_i l hl; exact ⟨l, rfl, constL_sound hl⟩
    · trivial

theorem opd_sound {fr : List S} {a : Act} (hf : FR I μ w ρ fr a) (x : Operand) : SR I μ w ρ (opd fr x) (a.eval x) := by
  cases x with
  | tmp t => exact hf.at_ t
  | const v => exact constS_sound v
  | global g => exact ⟨_, rfl, g, rfl, rfl⟩
  | func f => exact ⟨_, rfl, _, by simp [Ex.eval], .f f⟩

theorem e?_sound {s : S} {t : Ex} {v : Value} (he : s.e? = some t) (hs : SR I μ w ρ s v) : ∃ d, t.eval ρ = some d ∧ DR I w d v := by
  unfold S.e? at he
  split at he
  · cases he
    obtain ⟨l, hl, hr⟩ := hs
    cases hl
    exact hr
  · cases he

theorem l?_sound {s : S} {l : SL} {v : Value} (he : s.l? = some l) (hs : SR I μ w ρ s v) : LR I μ w ρ l v := by
  unfold S.l? at he
  split at he
  · cases he
    obtain ⟨l, hl, hr⟩ := hs
    cases hl
    exact hr
  · cases he

theorem VR.cells {g : Bool} {ls : List SL} {v : Value} (hv : VR I μ w ρ g ls v) : ∃ vs : List Value, v.cells = vs.toArray ∧ LsR I μ w ρ ls vs := by
  cases g
  · obtain ⟨l, rfl, hr⟩ := hv
    refine ⟨[v], ?_, .cons hr .nil⟩
    have := hr.one
    cases v <;> first | rfl | (simp [Value.oneCell'] at this)
  · obtain ⟨vs, rfl, hr⟩ := hv
    exact ⟨vs, rfl, hr⟩

theorem VR.ex {ls : List SL} {es : List Ex} {vs : List Value} (h : exLs ls = some es) (hr : LsR I μ w ρ ls vs) : LsR I μ w ρ (es.map .e) vs := by
  rw [← exLs_get h]; exact hr

theorem int?_sound {s : S} {t : Ex} {m : Int} {v : Value} (he : s.e? = some t) (hm : t.int? = some m) (hs : SR I μ w ρ s v) : ∃ k, v = .int k m := by
  obtain ⟨d, hd, hr⟩ := e?_sound he hs
  obtain ⟨k, hk⟩ := int?_eval (ρ := ρ) hm
  rw [hk] at hd
  cases hd
  cases hr
  exact ⟨_, rfl⟩

/-! ### operations that reckon -/

theorem run_binOp_int {op : BinOp} {t : TypeId} {k k' : IntKind} {a b : Int} {d : D} (hd : binD op (.i k a) (.i k' b) = some d) :
    ∃ v, (binOp op t (.int k a) (.int k' b)).run P w = .ok v w ∧ DR I w d v := by
  unfold binD at hd
  cases op
  case shl =>
    simp only at hd
    split at hd
    · cases hd
    · rename_i hb
      cases hd
      exact ⟨_, by simp [binOp, Op.shift, hb], .i _ _⟩
  case shr =>
    simp only at hd
    split at hd
    · cases hd
    · rename_i hb
      cases hd
      exact ⟨_, by simp [binOp, Op.shift, hb], .i _ _⟩
  all_goals
    simp only at hd
    split at hd
    case isFalse => cases hd
    case isTrue hk =>
      subst hk
      first
        | (cases hd; exact ⟨_, by simp [binOp, Op.intArith, Op.intBits, Op.intCmp], DR.i _ _⟩)
        | (cases hd; exact ⟨_, by simp [binOp, Op.intArith, Op.intBits, Op.intCmp], DR.b _⟩)
        | (split at hd
           · cases hd
           · rename_i hb
             cases hd
             exact ⟨_, by simp [binOp, Op.intDiv, hb], .i _ _⟩)

theorem run_unary {op : UnOp} {d d' : D} {v : Value} (hd : unD op d = some d') (hv : DR I w d v) : ∃ u, (Op.unary op v).run P w = .ok u w ∧ DR I w d' u := by
  cases hv <;> simp only [unD] at hd <;> try cases hd
  · cases op <;> simp at hd
    subst hd
    exact ⟨_, by simp [Op.unary], .b _⟩
  · cases op <;> simp at hd <;> subst hd
    · exact ⟨_, by simp [Op.unary, Op.intArith], .i _ _⟩
    · exact ⟨_, by simp [Op.unary, Op.intBits], .i _ _⟩

theorem binD_gtr {da db d : D} {x y : Option D} (h : (match binD .gtr db da with | some (.b t) => if t = true then x else y | _ => none) = some d) : ∃ k m n, da = .i k m ∧ db = .i k n := by
  cases da <;> cases db <;> simp [binD] at h
  rename_i k m k' n
  by_cases hk : k' = k
  · subst hk; exact ⟨_, _, _, rfl, rfl⟩
  · simp [hk] at h
theorem binD_lss {da db d : D} {x y : Option D} (h : (match binD .lss db da with | some (.b t) => if t = true then x else y | _ => none) = some d) : ∃ k m n, da = .i k m ∧ db = .i k n := by
  cases da <;> cases db <;> simp [binD] at h
  rename_i k m k' n
  by_cases hk : k' = k
  · subst hk; exact ⟨_, _, _, rfl, rfl⟩
  · simp [hk] at h

theorem run_eqGuard_one (op : BinOp) (t : TypeId) (x y : Operand) {a b : Value} {d d' : D} (ha : DR I w d a) (hb : DR I w d' b) : (eqGuard op t x y a b).run P w = .ok () w := by
  unfold eqGuard
  cases ha <;> cases hb <;> cases op <;> simp

theorem arith_sound {fr : List S} {a : Act} {o : Oper} {t : Ex} {d : D} (hop : ∀ x, SR I μ w ρ (opd fr x) (a.eval x)) (ht : arith P fr o.op = some t) (hd : t.eval ρ = some d) :
    ∃ v, (execOp a.eval o).run P w = .ok (.value v) w ∧ DR I w d v := by
  unfold arith at ht
  split at ht
  · -- binOp
    rename_i ob tb xa xb xt hob
    have hA := hop xa
    have hB := hop xb
    split at ht
    · -- one cell each
      rename_i ex ey hex hey
      obtain ⟨da, hda, hra⟩ := e?_sound (t := ex) (by rw [hex]; rfl) hA
      obtain ⟨db, hdb, hrb⟩ := e?_sound (t := ey) (by rw [hey]; rfl) hB
      have hg := run_eqGuard_one (P := P) ob tb xa xb hra hrb
      split at ht
      · -- bools, ==
        rename_i hu
        cases ht
        rw [mkEqt_eval] at hd
        simp only [Ex.eval, hda, hdb] at hd
        cases da <;> cases db <;> simp only [eqtD, if_true] at hd <;> try cases hd
        rename_i p q
        refine ⟨.bool (p == q), ?_, .b _⟩
        simp only [execOp, hob, Sem.run_bind, hg, Result.andThen_ok]
        rw [hra.b_inv, hrb.b_inv]
        simp [binOp, Op.equal, Op.maxDepth, run_equalIn_bool' w 9999 tb p q hu]
      · rename_i hu
        cases ht
        rw [mkUn_eval] at hd
        simp only [Ex.eval, mkEqt_eval, hda, hdb] at hd
        cases da <;> cases db <;> simp only [eqtD, if_true, unD] at hd <;> try cases hd
        rename_i p q
        refine ⟨.bool (!(p == q)), ?_, .b _⟩
        simp only [execOp, hob, Sem.run_bind, hg, Result.andThen_ok]
        rw [hra.b_inv, hrb.b_inv]
        simp [binOp, Op.equal, Op.maxDepth, run_equalIn_bool' w 9999 tb p q hu]
      · cases ht
      · cases ht
      · cases ht
        rw [mkBin_eval] at hd
        simp only [Ex.eval, hda, hdb] at hd
        have hi : ∃ k x k' y, da = .i k x ∧ db = .i k' y := by
          unfold binD at hd
          split at hd
          · exact ⟨_, _, _, _, rfl, rfl⟩
          · cases hd
        obtain ⟨k, x, k', y, rfl, rfl⟩ := hi
        obtain ⟨v, hv, hr⟩ := run_binOp_int (P := P) (t := tb) (w := w) (I := I) hd
        refine ⟨v, ?_, hr⟩
        simp only [execOp, hob, Sem.run_bind, hg, Result.andThen_ok]
        rw [hra.i_inv, hrb.i_inv, hv]
        simp
    · -- structs
      rename_i ls ms hls hms
      split at ht
      · cases ht
      · rename_i hgt
        rw [hls] at hA
        rw [hms] at hB
        obtain ⟨vs, hva, hvs⟩ := hA
        obtain ⟨us, hub, hus⟩ := hB
        simp only [Bool.or_eq_true, not_or, Bool.not_eq_true, bne_eq_false_iff_eq] at hgt
        obtain ⟨hgd, hgt⟩ := hgt
        split at ht
        · rename_i gs xs ys hgs hxs hys
          have key : ∀ r q, eqLs gs xs ys = some r → r.eval ρ = some q → ∃ z, q = .b z ∧ (Op.equalIn 10000 tb (.agg vs.toArray) (.agg us.toArray)).run P w = .ok z w := by
            intro r q hr hq
            rw [eqLs_eval hr] at hq
            cases hz : eqDs ρ gs xs ys with
            | none => rw [hz] at hq; cases hq
            | some z =>
              rw [hz] at hq
              simp at hq
              subst hq
              have hl : ∀ {gs : List Bool} {xs ys : List Ex} {r : Ex}, eqLs gs xs ys = some r → xs.length = gs.length ∧ ys.length = gs.length := by
                intro gs
                induction gs with
                | nil => intro xs ys r h; cases xs <;> cases ys <;> simp [eqLs] at h ⊢
                | cons g gs ih =>
                  intro xs ys r h
                  cases xs <;> cases ys <;> simp only [eqLs] at h <;> try cases h
                  split at h
                  · rename_i h'; have := ih h'; simpa using this
                  · cases h
              obtain ⟨l1, l2⟩ := hl hr
              exact ⟨z, rfl, eq_sound 12 hgs 10000 (by omega) l1 l2 (VR.ex hxs hvs) (VR.ex hys hus) (.inl ⟨hgt, rfl⟩) (.inl ⟨hgt, rfl⟩) hz⟩
          split at ht
          · rename_i r hr
            cases ht
            obtain ⟨z, rfl, hz⟩ := key _ d hr hd
            refine ⟨.bool z, ?_, .b _⟩
            simp only [execOp, hob, Sem.run_bind, hva, hub, run_eqGuard_agg w _ tb xa xb vs.toArray us.toArray hgd, Result.andThen_ok]
            rw [run_eql_struct]
            simp [hz]
          · rename_i r hr
            cases ht
            rw [mkUn_eval] at hd
            simp only [Ex.eval] at hd
            split at hd
            · rename_i q hq
              obtain ⟨z, rfl, hz⟩ := key _ q hr hq
              simp [unD] at hd
              subst hd
              refine ⟨.bool (!z), ?_, .b _⟩
              simp only [execOp, hob, Sem.run_bind, hva, hub, run_eqGuard_agg w _ tb xa xb vs.toArray us.toArray hgd, Result.andThen_ok]
              rw [run_neq_struct]
              simp [hz]
            · cases hd
          · cases ht
        · cases ht
    · cases ht
  · -- unOp
    rename_i ou tu xa hou
    split at ht
    · rename_i x hx
      cases ht
      obtain ⟨da, hda, hra⟩ := e?_sound hx (hop xa)
      rw [mkUn_eval] at hd
      simp only [Ex.eval, hda] at hd
      obtain ⟨v, hv, hr⟩ := run_unary (P := P) hd hra
      exact ⟨v, by simp [execOp, hou, hv], hr⟩
    · cases ht
  · -- convert
    rename_i src dst xa hoc
    split at ht
    · rename_i k0 k x hs hdst hx
      cases ht
      obtain ⟨da, hda, hra⟩ := e?_sound hx (hop xa)
      rw [mkCv_eval] at hd
      simp only [Ex.eval, hda] at hd
      split at hd
      · rename_i k1 n h1
        cases h1
        cases hd
        exact ⟨_, by simp [execOp, hoc, hra.i_inv, convert, run_underlying hs, run_underlying hdst, Conv.intToInt], .i _ _⟩
      · cases hd
    · cases ht
  · -- len
    rename_i args argTypes hol
    split at ht
    · rename_i xa tt hargs htt
      split at ht
      · rename_i el x hu hx
        cases ht
        obtain ⟨da, hda, hra⟩ := e?_sound hx (hop xa)
        have hd' : (Ex.len x).eval ρ = some d := by
          rw [← hd]
          unfold mkLen
          split
          · simp [Ex.eval, litN]
          · rfl
        simp only [Ex.eval, hda] at hd'
        have ha : args = #[xa] := by rw [← Array.toList_inj, hargs]
        subst ha
        split at hd'
        · rename_i sz xs h1
          cases h1
          cases hd'
          have hrun : ∀ (base : Option Addr) (n c : Nat), (Builtin.len_ argTypes o.type #[.slice base n c]).run P w = .ok (goInt n) w := fun base n c => by
            simp [Builtin.len_, htt, run_underlying hu]
          obtain ⟨base, cap, hp⟩ := hra.sl_inv
          exact ⟨goInt xs.length, by simp [execOp, hol, resolve, invoke, builtin, hp, hrun], .i _ _⟩
        · cases hd'
      · cases ht
    · cases ht
  · -- max
    rename_i args argTypes hol
    split at ht
    · rename_i xa xb hargs
      split at ht
      · rename_i ex ey hx hy
        cases ht
        obtain ⟨da, hda, hra⟩ := e?_sound hx (hop xa)
        obtain ⟨db, hdb, hrb⟩ := e?_sound hy (hop xb)
        have ha : args = #[xa, xb] := by rw [← Array.toList_inj, hargs]
        subst ha
        rw [mkIte_eval] at hd
        simp only [Ex.eval, mkBin_eval, hda, hdb] at hd
        obtain ⟨k, m, n, rfl, rfl⟩ := binD_gtr hd
        simp only [binD, if_true] at hd
        refine ⟨.int k (if n > m then n else m), ?_, ?_⟩
        · simp [execOp, hol, resolve, invoke, builtin, Builtin.max_, Builtin.max2, hra.i_inv, hrb.i_inv]
        · by_cases h : n > m
          · simp only [decide_eq_true h, if_true, Option.some.injEq] at hd
            subst hd
            simp only [h, if_true]
            exact .i _ _
          · simp only [decide_eq_false h, Bool.false_eq_true, if_false, Option.some.injEq] at hd
            subst hd
            simp only [h, if_false]
            exact .i _ _
      · cases ht
    · cases ht
  · -- min
    rename_i args argTypes hol
    split at ht
    · rename_i xa xb hargs
      split at ht
      · rename_i ex ey hx hy
        cases ht
        obtain ⟨da, hda, hra⟩ := e?_sound hx (hop xa)
        obtain ⟨db, hdb, hrb⟩ := e?_sound hy (hop xb)
        have ha : args = #[xa, xb] := by rw [← Array.toList_inj, hargs]
        subst ha
        rw [mkIte_eval] at hd
        simp only [Ex.eval, mkBin_eval, hda, hdb] at hd
        obtain ⟨k, m, n, rfl, rfl⟩ := binD_lss hd
        simp only [binD, if_true] at hd
        refine ⟨.int k (if n < m then n else m), ?_, ?_⟩
        · simp [execOp, hol, resolve, invoke, builtin, Builtin.min_, Builtin.min2, hra.i_inv, hrb.i_inv]
        · by_cases h : n < m
          · simp only [decide_eq_true h, if_true, Option.some.injEq] at hd
            subst hd
            simp only [h, if_true]
            exact .i _ _
          · simp only [decide_eq_false h, Bool.false_eq_true, if_false, Option.some.injEq] at hd
            subst hd
            simp only [h, if_false]
            exact .i _ _
      · cases ht
    · cases ht
  · cases ht

end
end Go.Proofs.Ytffahdloddkcfaa.Sx
