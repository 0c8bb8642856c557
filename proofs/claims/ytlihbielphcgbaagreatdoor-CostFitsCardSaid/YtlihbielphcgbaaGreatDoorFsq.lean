/-
  flat.Step: which deed: a map of functions, made and asked in the call.
-/
import Derived.Test.YtlihbielphcgbaaGreatDoorFsn
namespace Go.Proofs.YtlihbielphcgbaaGreatDoor.Sx
open Go Go.Shelf Go.RowKit Go.Lib Go.Maps
set_option linter.unusedVariables false
set_option linter.unusedSimpArgs false
set_option maxRecDepth 1000000

def cfst : Code → Code
  | .seq a _ => a
  | c => c
def csnd : Code → Code
  | .seq _ b => b
  | c => c
def cops : Code → Array Oper
  | .region _ ops _ => ops
  | _ => #[]
noncomputable def stC : Code := (Tryz.f17.body).getD .skip
noncomputable def stO0 : Array Oper := cops (cfst stC)
noncomputable def stO1 : Array Oper := cops (cfst (csnd stC))
noncomputable def stO2 : Array Oper := cops (cfst (csnd (csnd stC)))
noncomputable def stR : Code := csnd (csnd (csnd stC))
theorem stC_eq : stC = .seq (.region 0 stO0 false) (.seq (.region 1 stO1 false) (.seq (.region 2 stO2 false) stR)) := by kernel_rfl
noncomputable def st1 (k : Nat) : Oper := stO1.toList.getD k default
noncomputable def st2 (k : Nat) : Oper := stO2.toList.getD k default
theorem stO1_eq : stO1.toList = [st1 0, st1 1, st1 2, st1 3, st1 4, st1 5, st1 6, st1 7, st1 8, st1 9, st1 10] := by kernel_rfl
theorem stO2_eq : stO2.toList = [st2 0, st2 1, st2 2, st2 3, st2 4, st2 5, st2 6, st2 7, st2 8] := by kernel_rfl

/-! ### the operations -/
section
variable {P : Program} {ρe : Operand → Value} {o : Oper} {w w' : World}
theorem run_insert {t : TypeId} {m x v : Operand} (ho : o.op = .insert t m x v) (h : (Instr.mapUpdate t (ρe m) (ρe x) (ρe v)).run P w = .ok () w') : (execOp ρe o).run P w = .ok .skip w' := by
  simp [execOp, ho, h, Result.andThen]
theorem run_mkMap {t : TypeId} (ho : o.op = .makeMap t none) : (execOp ρe o).run P w = .ok (.value (.map (some w.heap.size))) (w.alloc (.map #[] 0)) := by
  have := @run_makeMap P t w
  simp [execOp, ho, this, Result.andThen]
theorem run_mv {x : Operand} (ho : o.op = .move x) : (execOp ρe o).run P w = .ok (.value (ρe x)) w := by simp [execOp, ho]
theorem run_asg {x : Operand} (ho : o.op = .assign x) : (execOp ρe o).run P w = .ok (.value (ρe x)) w := by simp [execOp, ho]
theorem run_ext {x : Operand} {k : Nat} {vs : Array Value} {v : Value} (ho : o.op = .extract x k) (hx : ρe x = .tuple vs) (hk : vs[k]? = some v) : (execOp ρe o).run P w = .ok (.value v) w := by
  simp [execOp, ho, hx, Instr.extract, hk, Result.andThen]
theorem run_look {t : TypeId} {m x : Operand} {v : Value} (ho : o.op = .lookup t m x true) (h : (Instr.lookup t (ρe m) (ρe x) true).run P w = .ok v w) : (execOp ρe o).run P w = .ok (.value v) w := by
  simp [execOp, ho, h, Result.andThen]
theorem run_ld {t : TypeId} {x : Operand} {y off : Nat} {v : Value} (ho : o.op = .load t x) (hg : aggT P t = some false) (hx : ρe x = .pointer (some ⟨y, off, none⟩)) (hc : w.cell? ⟨y, off, none⟩ = some v) : (execOp ρe o).run P w = .ok (.value v) w := by
  simp [execOp, ho, Instr.loadAt, Instr.sureAddr, hx, loadVar, run_isAgg hg, hc]
theorem wpL_val {ops : Array Oper} {Q : Exit → Act → World → Prop} {rest : List Oper} {a : Act} {nx : Next} {v : Value} (hg : o.guard = none) (hr : (execOp a.eval o).run P w = .ok nx w') (hn : nx = .value v ∨ (nx = .skip ∧ v = undef)) (h : wpL P ops Q rest (a.put o.dst v) w') : wpL P ops Q (o :: rest) a w :=
  wpL_go (by unfold Region.wanted; rw [hg]) (wp_value hr hn h)
end

/-- how the map's elements are told -/
def fnR (v : Value) : Option (DataW Unit × List MemPlace) := match v with
  | .func (.func g) a b => if a.size = 0 ∧ b.size = 0 then some (.lit (.int .i64 g), []) else none
  | .nilFunc => some (.lit (.bool false), [])
  | _ => none
theorem fnR_func (g : FuncId) : fnR (.func (.func g) #[] #[]) = some (.lit (.int .i64 g), []) := rfl
theorem fnR_inv {v : Value} {g : FuncId} {ps : List MemPlace} (h : fnR v = some (.lit (.int .i64 (g : Int)), ps)) : v = .func (.func g) #[] #[] := by
  unfold fnR at h
  split at h
  · rename_i g' a b
    split at h
    · rename_i hc
      simp only [Option.some.injEq, Prod.mk.injEq, DataW.lit.injEq, Lit.int.injEq, true_and] at h
      have h1 : g' = g := by first | exact h.1 | exact Int.ofNat.inj h.1
      rw [h1, Array.size_eq_zero_iff.1 hc.1, Array.size_eq_zero_iff.1 hc.2]
    · cases h
  · cases h
  · cases h
theorem kInt : Keyed Tryz.prog 3 := int_keyed Tryz.underlying3
theorem keyInt {k : Int} (h : wfI k) : keyOf Tryz.prog 3 (.int .i64 k) = some (.int .i64 k) := by
  have e1 : IntKind.i64.min = -9223372036854775808 := rfl
  have e2 : IntKind.i64.max = 9223372036854775807 := rfl
  have hw : (Lit.int .i64 k).wf = true := by
    unfold wfI at h
    simp only [Lit.wf, e1, e2, Bool.and_eq_true, decide_eq_true_eq]
    omega
  have h2 : Tryz.prog.underlying 3 = some (.int .i64) := Tryz.underlying3
  unfold keyOf
  rw [h2]
  simp [mapKey, h2, hw]
theorem zFn (w : World) : (zeroValue 58).run Tryz.prog w = .ok .nilFunc w := by kernel_rfl
/-- the deeds, by kind -/
def deedOf (k : Int) : Option FuncId := match k with
  | 0 => some 31
  | 1 => some 32
  | 2 => some 33
  | 3 => some 34
  | 4 => some 35
  | 5 => some 36
  | 6 => some 37
  | 7 => some 38
  | _ => none
abbrev litF (g : FuncId) : DataW Unit := .lit (.int .i64 (g : Int))
def putF (D : DataW Unit) (k : Int) (g : FuncId) : DataW Unit := D.put (.int .i64 k) (litF g)
def mapF : DataW Unit := putF (putF (putF (putF (putF (putF (putF (putF (.map []) 0 31) 1 32) 2 33) 3 34) 4 35) 5 36) 6 37) 7 38
theorem ins_step {w : World} {m n : Nat} {D : DataW Unit} (h : w.ownsMap Tryz.prog 3 fnR m n D) (hn : n < 100) (k : Int) (hk : wfI k) (g : FuncId) :
    ∃ w', (Instr.mapUpdate 73 (.map (some m)) (.int .i64 k) (.func (.func g) #[] #[])).run Tryz.prog w = .ok () w' ∧ w'.ownsMap Tryz.prog 3 fnR m (n + 1) (putF D k g) ∧ w.grownBy w' (some m) :=
  h.update kInt Tryz.underlying73 (by unfold maxLen; omega) (keyInt hk) (fnR_func g)
theorem grows_gb {w0 w w' : World} (h : Grows w0 w) (hg : w.grownBy w' (some w0.heap.size)) : Grows w0 w' :=
  ⟨fun x hx => (hg.block x (Nat.lt_of_lt_of_le hx h.size) (by intro e; cases e; omega)).trans (h.old x hx), Nat.le_trans h.size hg.size, ⟨hg.os.trans h.wd.1, hg.output.trans h.wd.2⟩⟩
theorem ins_go {w0 w : World} {i n : Nat} {rest : List Oper} {a : Act} {D : DataW Unit} {k : Int} {g : FuncId} {Q : Exit → Act → World → Prop} (hop : (st1 i).op = .insert 73 (.tmp 9) (.const (.int .i64 k)) (.func g)) (hd : (st1 i).dst = none) (hgd : (st1 i).guard = none)
    (h9 : a.tmps.getD 9 undef = .map (some w0.heap.size)) (hown : w.ownsMap Tryz.prog 3 fnR w0.heap.size n D) (hG : Grows w0 w) (hn : n < 100) (hk : wfI k)
    (K : ∀ w', w'.ownsMap Tryz.prog 3 fnR w0.heap.size (n + 1) (putF D k g) → Grows w0 w' → wpL Tryz.prog stO1 Q rest a w') : wpL Tryz.prog stO1 Q (st1 i :: rest) a w := by
  obtain ⟨w', hr, ho, hg⟩ := ins_step hown hn k hk g
  refine wpL_val hgd (run_insert hop ?_) (.inr ⟨rfl, rfl⟩) ?_ (w' := w')
  · rw [show a.eval (.tmp 9) = .map (some w0.heap.size) from h9]
    exact hr
  · rw [hd]
    exact K w' ho (grows_gb hG hg)
theorem fld_kind {a : Act} {w : World} {x1 : Nat} (h : a.tmps.getD 3 undef = .pointer (some ⟨x1, 0, none⟩)) : (execOp a.eval (st2 1)).run Tryz.prog w = .ok (.value (.pointer (some ⟨x1, 0, none⟩))) w := by
  have ho : (st2 1).op = .fieldAddr 29 (.tmp 3) 0 := by kernel_rfl
  obtain ⟨fs, f, h1, h2, h3, hn⟩ : ∃ fs f, Tryz.prog.underlying 29 = some (.struct fs) ∧ fs[0]? = some f ∧ f.offset = 0 ∧ sizeT Tryz.prog f.type = some 1 := ⟨_, _, Tryz.underlying29, rfl, rfl, by kernel_rfl⟩
  have e3 : a.eval (.tmp 3) = .pointer (some ⟨x1, 0, none⟩) := h
  simp [execOp, ho, Instr.fieldAt, run_underlying h1, h2, Instr.sureAddr, e3, fieldPlace, run_sizeT hn, addr_add, h3]
set_option maxHeartbeats 16000000 in
/-- THE TWO REGIONS that make the map and ask it. -/
theorem deeds_run {k : Int} (hk : wfI k) {a : Act} {w : World} {x1 : Nat} (h3 : a.tmps.getD 3 undef = .pointer (some ⟨x1, 0, none⟩)) (hx : x1 < w.heap.size) (hc : w.cell? ⟨x1, 0, none⟩ = some (.int .i64 k)) (hsz : a.tmps.size = 28) {Q : Exit → Act → World → Prop}
    (hQ : ∀ a' w' v, a'.tmps.size = 28 → a'.defers = a.defers → (∀ t, t ∉ [9, 10, 6, 12, 13, 14, 15, 11, 16, 17, 7, 8] → a'.tmps.getD t undef = a.tmps.getD t undef) → a'.tmps.getD 7 undef = v → a'.tmps.getD 8 undef = .bool (Maps.has mapF (.int .i64 k)) → (∃ ps, fnR v = some (mapF.atKey (.int .i64 k) (.lit (.bool false)), ps)) → Gr w w' none → Q .normal a' w') :
    wpL Tryz.prog stO1 (fun e a w => match e with | .normal => wpL Tryz.prog stO2 Q stO2.toList a w | _ => False) stO1.toList a w := by
  rw [stO1_eq]
  have hm := World.ownsMap_made w Tryz.prog 3 fnR
  refine wpL_val (by kernel_rfl) (run_mkMap (t := 73) (by kernel_rfl)) (.inl rfl) ?_
  have hd0 : (st1 0).dst = some 9 := by kernel_rfl
  rw [hd0]
  obtain ⟨a1, ha1⟩ : ∃ a1, a1 = a.put (some 9) (.map (some w.heap.size)) := ⟨_, rfl⟩
  rw [← ha1]
  have h9 : a1.tmps.getD 9 undef = .map (some w.heap.size) := by rw [ha1]; exact put_at (by rw [hsz]; decide)
  have hsz1 : a1.tmps.size = 28 := by rw [ha1, put_size, hsz]
  have hdf1 : a1.defers = a.defers := by rw [ha1, put_defers]
  have hk1 : ∀ t, t ≠ 9 → a1.tmps.getD t undef = a.tmps.getD t undef := fun t ht => by rw [ha1]; exact put_keep (fun e => ht (Option.some.inj e).symm)
  clear ha1
  have hG0 : Grows w (w.alloc (.map #[] 0)) := grows_alloc w _
  refine ins_go (g := 31) (k := 0) (by kernel_rfl) (by kernel_rfl) (by kernel_rfl) h9 hm hG0 (by decide) (by unfold wfI; decide) fun w1 ho1 hG1 => ?_
  refine ins_go (g := 32) (k := 1) (by kernel_rfl) (by kernel_rfl) (by kernel_rfl) h9 ho1 hG1 (by decide) (by unfold wfI; decide) fun w2 ho2 hG2 => ?_
  refine ins_go (g := 33) (k := 2) (by kernel_rfl) (by kernel_rfl) (by kernel_rfl) h9 ho2 hG2 (by decide) (by unfold wfI; decide) fun w3 ho3 hG3 => ?_
  refine ins_go (g := 34) (k := 3) (by kernel_rfl) (by kernel_rfl) (by kernel_rfl) h9 ho3 hG3 (by decide) (by unfold wfI; decide) fun w4 ho4 hG4 => ?_
  refine ins_go (g := 35) (k := 4) (by kernel_rfl) (by kernel_rfl) (by kernel_rfl) h9 ho4 hG4 (by decide) (by unfold wfI; decide) fun w5 ho5 hG5 => ?_
  refine ins_go (g := 36) (k := 5) (by kernel_rfl) (by kernel_rfl) (by kernel_rfl) h9 ho5 hG5 (by decide) (by unfold wfI; decide) fun w6 ho6 hG6 => ?_
  refine ins_go (g := 37) (k := 6) (by kernel_rfl) (by kernel_rfl) (by kernel_rfl) h9 ho6 hG6 (by decide) (by unfold wfI; decide) fun w7 ho7 hG7 => ?_
  refine ins_go (g := 38) (k := 7) (by kernel_rfl) (by kernel_rfl) (by kernel_rfl) h9 ho7 hG7 (by decide) (by unfold wfI; decide) fun w8 ho8 hG8 => ?_
  have hd9 : (st1 9).dst = some 10 := by kernel_rfl
  have hd10 : (st1 10).dst = some 6 := by kernel_rfl
  refine wpL_val (by kernel_rfl) (run_mv (x := .tmp 9) (by kernel_rfl)) (.inl rfl) ?_
  rw [hd9]
  refine wpL_val (by kernel_rfl) (run_asg (x := .tmp 10) (by kernel_rfl)) (.inl rfl) ?_
  rw [hd10]
  have e9 : a1.eval (.tmp 9) = .map (some w.heap.size) := h9
  rw [e9]
  have e10 : (a1.put (some 10) (.map (some w.heap.size))).eval (.tmp 10) = .map (some w.heap.size) := put_at (by rw [hsz1]; decide)
  rw [e10]
  show wpL Tryz.prog stO2 Q stO2.toList _ w8
  obtain ⟨a2, ha2⟩ : ∃ a2, a2 = (a1.put (some 10) (.map (some w.heap.size))).put (some 6) (.map (some w.heap.size)) := ⟨_, rfl⟩
  rw [← ha2]
  have h6 : a2.tmps.getD 6 undef = .map (some w.heap.size) := by rw [ha2]; exact put_at (by rw [put_size, hsz1]; decide)
  have hsz2 : a2.tmps.size = 28 := by rw [ha2, put_size, put_size, hsz1]
  have hdf2 : a2.defers = a.defers := by rw [ha2, put_defers, put_defers, hdf1]
  have hk2 : ∀ t, t ∉ [9, 10, 6] → a2.tmps.getD t undef = a.tmps.getD t undef := fun t ht => by
    simp only [List.mem_cons, List.not_mem_nil, or_false, not_or] at ht
    rw [ha2, put_keep (fun e => ht.2.2 (Option.some.inj e).symm), put_keep (fun e => ht.2.1 (Option.some.inj e).symm), hk1 t ht.1]
  clear ha2
  have hp3 : a2.tmps.getD 3 undef = .pointer (some ⟨x1, 0, none⟩) := (hk2 3 (by decide)).trans h3
  have hc8 : w8.cell? ⟨x1, 0, none⟩ = some (.int .i64 k) := by rw [World.cell?_of_block (hG8.old x1 hx)]; exact hc
  rw [stO2_eq]
  have d0 : (st2 0).dst = some 12 := by kernel_rfl
  have d1 : (st2 1).dst = some 13 := by kernel_rfl
  have d2 : (st2 2).dst = some 14 := by kernel_rfl
  have d3 : (st2 3).dst = some 15 := by kernel_rfl
  have d4 : (st2 4).dst = some 11 := by kernel_rfl
  have d5 : (st2 5).dst = some 16 := by kernel_rfl
  have d6 : (st2 6).dst = some 17 := by kernel_rfl
  have d7 : (st2 7).dst = some 7 := by kernel_rfl
  have d8 : (st2 8).dst = some 8 := by kernel_rfl
  obtain ⟨v, ps, hlook, hv⟩ := ho8.look_ok kInt Tryz.underlying73 (zFn w8) (zd := .lit (.bool false)) (zp := []) rfl (keyInt hk)
  -- move, fieldAddr, load
  refine wpL_val (by kernel_rfl) (run_mv (x := .tmp 6) (by kernel_rfl)) (.inl rfl) ?_
  rw [d0, show a2.eval (.tmp 6) = .map (some w.heap.size) from h6]
  refine wpL_val (by kernel_rfl) (fld_kind (by rw [put_keep (by decide)]; exact hp3)) (.inl rfl) ?_
  rw [d1]
  refine wpL_val (by kernel_rfl) (run_ld (t := 3) (x := .tmp 13) (by kernel_rfl) (by kernel_rfl) (put_at (by rw [put_size, hsz2]; decide)) hc8) (.inl rfl) ?_
  rw [d2]
  -- the question
  refine wpL_val (by kernel_rfl) (run_look (t := 73) (m := .tmp 12) (x := .tmp 14) (v := .tuple #[v, .bool (Maps.has mapF (.int .i64 k))]) (by kernel_rfl) ?_) (.inl rfl) ?_
  · have e12 : ((((a2.put (some 12) (.map (some w.heap.size))).put (some 13) (.pointer (some ⟨x1, 0, none⟩))).put (some 14) (.int .i64 k)).eval (.tmp 12)) = .map (some w.heap.size) := by
      show Array.getD _ 12 undef = _
      rw [put_keep (by decide), put_keep (by decide)]
      exact put_at (by rw [hsz2]; decide)
    have e14 : ((((a2.put (some 12) (.map (some w.heap.size))).put (some 13) (.pointer (some ⟨x1, 0, none⟩))).put (some 14) (.int .i64 k)).eval (.tmp 14)) = .int .i64 k := put_at (by rw [put_size, put_size, hsz2]; decide)
    rw [e12, e14]
    exact hlook
  rw [d3]
  obtain ⟨a3, ha3⟩ : ∃ a3, a3 = (((a2.put (some 12) (.map (some w.heap.size))).put (some 13) (.pointer (some ⟨x1, 0, none⟩))).put (some 14) (.int .i64 k)).put (some 15) (.tuple #[v, .bool (Maps.has mapF (.int .i64 k))]) := ⟨_, rfl⟩
  rw [← ha3]
  have h15 : a3.tmps.getD 15 undef = .tuple #[v, .bool (Maps.has mapF (.int .i64 k))] := by rw [ha3]; exact put_at (by rw [put_size, put_size, put_size, hsz2]; decide)
  have hsz3 : a3.tmps.size = 28 := by rw [ha3, put_size, put_size, put_size, put_size, hsz2]
  have hdf3 : a3.defers = a.defers := by rw [ha3, put_defers, put_defers, put_defers, put_defers, hdf2]
  have hk3 : ∀ t, t ∉ [9, 10, 6, 12, 13, 14, 15] → a3.tmps.getD t undef = a.tmps.getD t undef := fun t ht => by
    simp only [List.mem_cons, List.not_mem_nil, or_false, not_or] at ht
    obtain ⟨t9, t10, t6, t12, t13, t14, t15⟩ := ht
    rw [ha3, put_keep (fun e => t15 (Option.some.inj e).symm), put_keep (fun e => t14 (Option.some.inj e).symm), put_keep (fun e => t13 (Option.some.inj e).symm), put_keep (fun e => t12 (Option.some.inj e).symm)]
    exact hk2 t (by simp [t9, t10, t6])
  clear ha3
  refine wpL_val (by kernel_rfl) (run_mv (x := .tmp 15) (by kernel_rfl)) (.inl rfl) ?_
  rw [d4, show a3.eval (.tmp 15) = _ from h15]
  refine wpL_val (by kernel_rfl) (run_ext (x := .tmp 11) (k := 0) (v := v) (by kernel_rfl) (put_at (by rw [hsz3]; decide)) rfl) (.inl rfl) ?_
  rw [d5]
  refine wpL_val (by kernel_rfl) (run_ext (x := .tmp 11) (k := 1) (v := .bool (Maps.has mapF (.int .i64 k))) (by kernel_rfl) (by show Array.getD _ 11 undef = _; rw [put_keep (by decide)]; exact put_at (by rw [hsz3]; decide)) rfl) (.inl rfl) ?_
  rw [d6]
  obtain ⟨a4, ha4⟩ : ∃ a4, a4 = ((a3.put (some 11) (.tuple #[v, .bool (Maps.has mapF (.int .i64 k))])).put (some 16) v).put (some 17) (.bool (Maps.has mapF (.int .i64 k))) := ⟨_, rfl⟩
  rw [← ha4]
  have h17 : a4.tmps.getD 17 undef = .bool (Maps.has mapF (.int .i64 k)) := by rw [ha4]; exact put_at (by rw [put_size, put_size, hsz3]; decide)
  have h16 : a4.tmps.getD 16 undef = v := by rw [ha4, put_keep (by decide)]; exact put_at (by rw [put_size, hsz3]; decide)
  have hsz4 : a4.tmps.size = 28 := by rw [ha4, put_size, put_size, put_size, hsz3]
  have hdf4 : a4.defers = a.defers := by rw [ha4, put_defers, put_defers, put_defers, hdf3]
  have hk4 : ∀ t, t ∉ [9, 10, 6, 12, 13, 14, 15, 11, 16, 17] → a4.tmps.getD t undef = a.tmps.getD t undef := fun t ht => by
    simp only [List.mem_cons, List.not_mem_nil, or_false, not_or] at ht
    obtain ⟨t9, t10, t6, t12, t13, t14, t15, t11, t16, t17⟩ := ht
    rw [ha4, put_keep (fun e => t17 (Option.some.inj e).symm), put_keep (fun e => t16 (Option.some.inj e).symm), put_keep (fun e => t11 (Option.some.inj e).symm)]
    exact hk3 t (by simp [t9, t10, t6, t12, t13, t14, t15])
  clear ha4
  refine wpL_val (by kernel_rfl) (run_asg (x := .tmp 16) (by kernel_rfl)) (.inl rfl) ?_
  rw [d7, show a4.eval (.tmp 16) = v from h16]
  refine wpL_val (by kernel_rfl) (run_asg (x := .tmp 17) (by kernel_rfl)) (.inl rfl) ?_
  rw [d8, show (a4.put (some 7) v).eval (.tmp 17) = .bool (Maps.has mapF (.int .i64 k)) from (put_keep (by decide)).trans h17]
  refine hQ _ w8 v (by rw [put_size, put_size, hsz4]) (by rw [put_defers, put_defers, hdf4]) (fun t ht => ?_) ?_ (put_at (by rw [put_size, hsz4]; decide)) ⟨ps, hv⟩ ⟨hG8.wd.1, hG8.wd.2, hG8.size, fun x hx _ => hG8.old x hx⟩
  · simp only [List.mem_cons, List.not_mem_nil, or_false, not_or] at ht
    obtain ⟨t9, t10, t6, t12, t13, t14, t15, t11, t16, t17, t7, t8⟩ := ht
    rw [put_keep (fun e => t8 (Option.some.inj e).symm), put_keep (fun e => t7 (Option.some.inj e).symm)]
    exact hk4 t (by simp [t9, t10, t6, t12, t13, t14, t15, t11, t16, t17])
  · rw [put_keep (by decide)]
    exact put_at (by rw [hsz4]; decide)

end Go.Proofs.YtlihbielphcgbaaGreatDoor.Sx
