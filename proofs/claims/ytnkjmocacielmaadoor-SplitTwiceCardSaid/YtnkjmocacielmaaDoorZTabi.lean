/-
 Layer 19: a table's entries, handed out: the iterator's contract.
-/
import Derived.Test.YtnkjmocacielmaaDoorZW1
import Derived.Test.YtnkjmocacielmaaDoorZIrTb
namespace Go.Proofs.YtnkjmocacielmaaDoor.Sx
open Go
set_option linter.unusedVariables false
set_option linter.unusedSimpArgs false
set_option maxRecDepth 100000
theorem place_con {t i : Nat} (ht : t * 4096 + i * 8 < 18446744073709551616) : Cn gAll 63 [u t, Sx.i i] [u (t * 4096 + i * 8)] := by
 refine con rfl rfl table_place_c table_place_p rfl ?_
 unfold table_place_ir
 simp only [lv_cons, lv_nil, app_cons, app_nil]
 refine wp_lt (u_mul (b := 4096) rfl rfl (by omega)) ?_
 simp only [lv_cons, lv_nil, app_cons, app_nil]
 refine wp_lt (cv_u rfl (by omega)) ?_
 simp only [lv_cons, lv_nil, app_cons, app_nil]
 refine wp_lt (u_mul (b := 8) rfl rfl (by omega)) ?_
 simp only [lv_cons, lv_nil, app_cons, app_nil]
 refine wp_lt (u_add rfl rfl (by omega)) ?_
 simp only [lv_cons, lv_nil, app_cons, app_nil]
 exact wp_return rfl rfl
def cfst : Code → Code
 | .seq a _ => a
 | c => c
def csnd : Code → Code
 | .seq _ b => b
 | c => c
def cin : Code → Code
 | .loop c => c
 | .block _ c => c
 | c => c
def cops : Code → Array Oper
 | .region _ ops _ => ops
 | _ => #[]
noncomputable def itC : Code := (Tryd.f108.body).getD .skip
noncomputable def itB : Code := cin (cin (csnd itC))
noncomputable def itK : Code := cin (cfst (csnd (csnd itB)))
noncomputable def itO0 : Array Oper := cops (cfst itC)
noncomputable def itO1 : Array Oper := cops (cfst itB)
noncomputable def itO2 : Array Oper := cops (cfst itK)
noncomputable def itO3 : Array Oper := cops (cfst (csnd itK))
noncomputable def itO4 : Array Oper := cops (cfst (csnd (csnd itK)))
noncomputable def itO5 : Array Oper := cops (csnd (csnd (csnd itB)))
theorem itC_eq : itC = .seq (.region 0 itO0 false) (.block 0 (.loop itB)) := by kernel_rfl
theorem itB_eq : itB = .seq (.region 1 itO1 false) (.seq (.cond (.tmp 7) .skip (.exit 0)) (.seq (.block 1 itK) (.region 5 itO5 false))) := by kernel_rfl
theorem itK_eq : itK = .seq (.region 2 itO2 false) (.seq (.region 3 itO3 true) (.seq (.region 4 itO4 false) (.cond (.tmp 23) .ret .skip))) := by kernel_rfl
noncomputable def itO (k : Nat) : Oper := itO4.toList.getD k default
theorem it_ops : itO4.toList = [itO 0, itO 1, itO 2] ++ (itO 3 :: ([itO 4, itO 5, itO 6] ++ (itO 7 :: [itO 8, itO 9]))) := by kernel_rfl
theorem it_ops2 : itO4.toList = [itO 0, itO 1, itO 2] ++ [itO 3, itO 4, itO 5, itO 6, itO 7, itO 8, itO 9] := by kernel_rfl
noncomputable def itAT : Array TypeId := match (itO 7).op with
 | .call c => c.argTypes
 | _ => #[]
noncomputable def envIt : Env := { P := Tryd.prog, G := gAll, inl := [], unr := [] }
def entN (s : Nat) (cs : List Cl) (t i : Nat) : Nat := wordN s cs (t * 4096 + i * 8)
def rowE (s : Nat) (cs : List Cl) (t i : Nat) : List D := I i :: (ptN (entN s cs t i)).ds
def idxE (s : Nat) (cs : List Cl) (t n : Nat) : List Nat := (List.range n).filter fun i => entN s cs t i != 0
def rowsE19 (s : Nat) (cs : List Cl) (t : Nat) : List (List D) := (idxE s cs t 512).map (rowE s cs t)
theorem idxE_next {s t n : Nat} {cs : List Cl} : idxE s cs t (n + 1) = if entN s cs t n != 0 then idxE s cs t n ++ [n] else idxE s cs t n := by
 unfold idxE
 rw [List.range_succ, List.filter_append]
 cases h : entN s cs t n != 0 <;> simp [h]
theorem idxE_pre {s t n : Nat} {cs : List Cl} : ∀ {m : Nat}, n ≤ m → idxE s cs t n <+: idxE s cs t m := by
 intro m h
 induction h with
 | refl => exact List.prefix_refl _
 | step h ih =>
  refine ih.trans ?_
  rw [idxE_next]
  split
  ·exact List.prefix_append _ _
  ·exact List.prefix_refl _
theorem idxE_at {s t i : Nat} {cs : List Cl} (hi : i < 512) (h : (entN s cs t i != 0) = true) : (idxE s cs t 512)[(idxE s cs t i).length]? = some i := by
 have h1 : idxE s cs t (i + 1) = idxE s cs t i ++ [i] := by rw [idxE_next, if_pos h]
 obtain ⟨r, hr⟩ := idxE_pre (s := s) (cs := cs) (t := t) (n := i + 1) (m := 512) hi
 rw [← hr, h1, List.append_assoc, List.getElem?_append_right (Nat.le_refl _)]
 simp
theorem idxE_len {s t n : Nat} {cs : List Cl} : (idxE s cs t n).length ≤ n := by
 unfold idxE
 exact Nat.le_trans (List.length_filter_le ..) (by simp)
theorem rowE_vals {s t i : Nat} {cs : List Cl} : rowVals [(false, 1), (true, 11)] (rowE s cs t i) = some [.int .i64 i, .agg ((ptN (entN s cs t i)).ds.map fun d => (plainVal d).getD undef).toArray] := by
 unfold rowE
 generalize ptN (entN s cs t i) = p
 rfl
theorem run_move {P : Program} {ρ : Operand → Value} {o : Oper} {x : Operand} {w : World} (ho : o.op = .move x) : (execOp ρ o).run P w = .ok (.value (ρ x)) w := by
 simp [execOp, ho]
theorem run_callY {P : Program} {ρ : Operand → Value} {o : Oper} {g : Operand} {args : Array Operand} {argTypes : Array TypeId} {l : Nat} {w : World}
 (ho : o.op = .call { callee := .value g, args := args, argTypes := argTypes }) (hg : ρ g = .func (.yield l) #[] #[]) : (execOp ρ o).run P w = (Instr.yield l (args.map ρ)).run P w := by
 simp [execOp, ho, resolve, hg, Deferred.ofValue, Sem.run_bind, Sem.run_pure, Result.andThen_ok, invoke]
theorem LI_go {P : Program} {ops : Array Oper} {Q : Exit → Act → World → Prop} {o : Oper} {rest : List Oper} {a : Act} {w : World} (hw : Region.wanted o (yielded ops a.tmps) = true) (h : o.wpIn (Rd none) 0 P a w (wpListIn (Rd none) 0 P ops Q rest) Q) : wpListIn (Rd none) 0 P ops Q (o :: rest) a w := by
 simp only [wpListIn, hw, if_true]
 exact h
theorem run_not {P : Program} {ρ : Operand → Value} {o : Oper} {t : TypeId} {x : Operand} {b : Bool} {w : World} (ho : o.op = .unOp .not t x) (hx : ρ x = .bool b) : (execOp ρ o).run P w = .ok (.value (.bool (!b))) w := by
 have h1 : Op.unary .not (.bool b) = pure (.bool (!b)) := rfl
 simp [execOp, ho, hx, h1, Sem.run_bind, Sem.run_pure, Result.andThen_ok]
theorem run_pick {P : Program} {ρ : Operand → Value} {o : Oper} {q x y : Operand} {w : World} (ho : o.op = .pick q x y) (hq : ρ q = .bool true) : (execOp ρ o).run P w = .ok (.value (ρ x)) w := by
 have h1 : asBool (.bool true) = pure true := rfl
 simp [execOp, ho, hq, h1, Sem.run_bind, Sem.run_pure, Result.andThen_ok]
theorem LI_val {P : Program} {ops : Array Oper} {Q : Exit → Act → World → Prop} {o : Oper} {rest : List Oper} {a : Act} {w : World} {v : Value} (hw : Region.wanted o (yielded ops a.tmps) = true) (hnd : noDefer o = true) (hr : (execOp a.eval o).run P w = .ok (.value v) w)
 (h : wpListIn (Rd none) 0 P ops Q rest (a.put o.dst v) w) : wpListIn (Rd none) 0 P ops Q (o :: rest) a w := LI_go hw (op_in hnd (fun _ _ h => h) (wp_value hr (.inl rfl) h))
theorem want2 {ops : Array Oper} {o : Oper} {a : Act} (hg : o.guard = some (2, true)) (hd : (ops.toList[2]?).bind (·.dst) = some 16) (h : a.tmps.getD 16 undef = .bool true) : Region.wanted o (yielded ops a.tmps) = true := by
 have h1 := yielded_of (all := ops.toList) (j := 2) hd true h
 rw [Array.toArray_toList] at h1
 simp [Region.wanted, hg, h1]
theorem want0 {ops : Array Oper} {o : Oper} {a : Act} (hg : o.guard = none) : Region.wanted o (yielded ops a.tmps) = true := by
 simp [Region.wanted, hg]
def mk25 (y p q : Value) : Act := { tmps := #[y, p, q, undef, undef, undef, undef, undef, undef, undef, undef, undef, undef, undef, undef, undef, undef, undef, undef, undef, undef, undef, undef, undef, undef], defers := [] }
theorem mk25_eq {l x0 x1 n : Nat} (hn : n = 25) : ({ tmps := #[.func (.yield l) #[] #[]] ++ (List.map (fun x => Value.pointer (some ⟨x, 0, none⟩)) [x0, x1]).toArray ++ Array.replicate (n - (#[Value.func (.yield l) #[] #[]] ++ (List.map (fun x => Value.pointer (some ⟨x, 0, none⟩)) [x0, x1]).toArray).size) undef, defers := [] } : Act) =
 mk25 (.func (.yield l) #[] #[]) (.pointer (some ⟨x0, 0, none⟩)) (.pointer (some ⟨x1, 0, none⟩)) := by
 subst hn
 kernel_rfl
structure ItH (l x0 x1 i : Nat) (a : Act) : Prop where
 size : a.tmps.size = 25
 df : a.defers = []
 y : a.tmps.getD 0 undef = .func (.yield l) #[] #[]
 p : a.tmps.getD 1 undef = .pointer (some ⟨x0, 0, none⟩)
 q : a.tmps.getD 2 undef = .pointer (some ⟨x1, 0, none⟩)
 i : a.tmps.getD 6 undef = .int .i64 i
structure ItX (l x0 x1 s t : Nat) (cs : List Cl) (J Jx : Nat → World → Prop) : Prop where
 cap : ∀ i W, J i W → ∃ I, GR gAll I W ∧ (∀ x, I x → x < W.heap.size) ∧ All2 (CellR I W) [md 2 s cs, ((true, [U t]) : DV)] [x0, x1]
 grow : ∀ i W W', J i W → Grows W W' → J i W'
 round : ∀ i r vs W, (rowsE19 s cs t)[i]? = some r → rowVals [(false, 1), (true, 11)] r = some vs → J i W → YieldAt (Rd none) 0 Tryd.prog l vs.toArray W fun e W' => (e = .returned (.bool true) ∧ J (i + 1) W') ∨ (e = .returned (.bool false) ∧ Jx i W')
theorem it_st {l x0 x1 s t : Nat} {cs : List Cl} {J Jx : Nat → World → Prop} (h : ItX l x0 x1 s t cs J Jx) {n : Nat} {W : World} (hJ : J n W) (r : List D) :
 ∃ (I1 : Imm) (μ : Mu), (∀ (b x : Nat), [x0, x1][b]? = some x → μ b = some x) ∧ ∀ (m nv : Nat) (l : List (Nat × S)) (a : Act), a.tmps.size = m → a.defers = [] → 3 + r.length = nv → (∀ p ∈ l, SR I1 μ W ([U s, .sl 2 (crs cs), U t] ++ r) p.2 (a.tmps.getD p.1 undef)) → StR none gAll W.heap.size I1 W (stOf m l [2, 1] nv) [] ([U s, .sl 2 (crs cs), U t] ++ r) I1 μ W a := by
 obtain ⟨I, hG, himm, hcell⟩ := h.cap _ W hJ
 have hvars : VarsAt ([U s, .sl 2 (crs cs), U t] ++ r) 0 (leavesOf [md 2 s cs, ((true, [U t]) : DV)]) := fun j d hj => by
  rw [Nat.zero_add]
  exact pre_get (List.prefix_append _ _) hj
 obtain ⟨I1, μ, h1, h2⟩ := st_of (ρ := [U s, .sl 2 (crs cs), U t] ++ r) hG himm hcell hvars
 refine ⟨I1, μ, h1, fun m nv l a h3 h4 h5 h6 => h2 m nv l a h3 h4 ?_ h6⟩
 rw [List.length_append]
 exact h5
theorem sr_num {I1 : Imm} {μ : Mu} {W : World} {ρ : List D} {x : Ex} {d : D} {v : Value} (he : x.eval ρ = some d) (hd : DR I1 W d v) : SR I1 μ W ρ (.val false [.e x]) v := ⟨_, rfl, _, he, hd⟩
theorem sr_ptr {I1 : Imm} {μ : Mu} {W : World} {ρ : List D} {b x : Nat} {v : Value} (hb : μ b = some x) (hv : v = .pointer (some ⟨x, 0, none⟩)) : SR I1 μ W ρ (.val false [.p (.loc b) 0]) v := ⟨_, rfl, _, hb, hv⟩
theorem it_exec (W : World) (I₀ : Imm) (ds : List DV) : SOps (Cn gAll) (fun rs => rs = ds) W.heap.size I₀ W envIt 3000 := (exec_sound (E := envIt) (fun _ _ _ h => h) 3000).2.2.2.1
theorem it_d0 : itO0.toList.filterMap (·.dst) = [6] := by kernel_rfl
theorem it_d1 : itO1.toList.filterMap (·.dst) = [7] := by kernel_rfl
theorem it_d2 : itO2.toList.filterMap (·.dst) = [8, 4] := by kernel_rfl
theorem it_d3 : itO3.toList.filterMap (·.dst) = [9, 10, 11, 12, 13, 5] := by kernel_rfl
theorem it_d5 : itO5.toList.filterMap (·.dst) = [24, 6] := by kernel_rfl
section
variable {l x0 x1 s t : Nat} {cs : List Cl} {J Jx : Nat → World → Prop} (h : ItX l x0 x1 s t cs J Jx)
include h
theorem it_r0 {a : Act} {W : World} {n : Nat} (hz : a.tmps.size = 25) (hd : a.defers = []) (hJ : J n W) :
 (Code.region 0 itO0 false).wpIn (Rd none) 0 Tryd.prog (Keep [6] 25 (fun t => a.tmps.getD t undef) (PieceQ W [6] [(false, [I 0])])) a W := by
 obtain ⟨I1, μ, hμ, hst⟩ := it_st h hJ []
 rw [← it_d0, ← hz]
 exact region_piece (E := envIt) (n := 3000) (me := 108) (st := stOf 25 [] [2, 1] 3) (ir := .ret [(false, [.c (.i .i64 0)])]) (fun _ _ _ h => h) (it_exec W I1 _) (by kernel_rfl) (by kernel_rfl)
  (wp_return rfl rfl) (hst 25 3 _ a hz hd rfl (fun p hp => by cases hp))
theorem it_r1 {i : Nat} {a : Act} {W : World} {n : Nat} {b : Bool} (hH : ItH l x0 x1 i a) (hJ : J n W) (hb : decide ((i : Int) < 512) = b) :
 (Code.region 1 itO1 false).wpIn (Rd none) 0 Tryd.prog (Keep [7] 25 (fun t => a.tmps.getD t undef) (PieceQ W [7] [(false, [.b b])])) a W := by
 obtain ⟨I1, μ, hμ, hst⟩ := it_st h hJ [I i]
 rw [← it_d1, ← hH.size]
 exact region_piece (E := envIt) (n := 3000) (me := 108) (st := stOf 25 [(6, .val false [.e (.v 3)])] [2, 1] 4) (ir := .lt (.bin .lss (.v 3) (.c (.i .i64 512))) (.ret [(false, [.v 4])])) (fun _ _ _ h => h) (it_exec W I1 _) (by kernel_rfl) (by kernel_rfl)
  (wp_lt (d := .b b) (cmp_e (e_lss rfl rfl) hb) (wp_return rfl rfl)) (hst 25 4 _ a hH.size hH.df rfl (fun p hp => by rw [List.mem_singleton.1 hp]; exact sr_num rfl (by rw [hH.i]; exact .i _ _)))
theorem it_r2 {i : Nat} {a : Act} {W : World} {n : Nat} (hH : ItH l x0 x1 i a) (hJ : J n W) :
 (Code.region 2 itO2 false).wpIn (Rd none) 0 Tryd.prog (Keep [8, 4] 25 (fun t => a.tmps.getD t undef) (PieceQ W [4] [(false, [I i])])) a W := by
 obtain ⟨I1, μ, hμ, hst⟩ := it_st h hJ [I i]
 rw [← it_d2, ← hH.size]
 exact region_piece (E := envIt) (n := 3000) (me := 108) (st := stOf 25 [(6, .val false [.e (.v 3)])] [2, 1] 4) (ir := .ret [(false, [.v 3])]) (fun _ _ _ h => h) (it_exec W I1 _) (by kernel_rfl) (by kernel_rfl)
  (wp_return rfl rfl) (hst 25 4 _ a hH.size hH.df rfl (fun p hp => by rw [List.mem_singleton.1 hp]; exact sr_num rfl (by rw [hH.i]; exact .i _ _)))
theorem it_r3 {i : Nat} {a : Act} {W : World} {n : Nat} (hH : ItH l x0 x1 i a) (h4 : a.tmps.getD 4 undef = .int .i64 i) (hJ : J n W) (hs : Asc cs) (hl : cs.length ≤ 1000000) (ht : t * 4096 + 4096 < 18446744073709551616) (hi : i < 512) :
 (Code.region 3 itO3 true).wpIn (Rd none) 0 Tryd.prog (Keep [9, 10, 11, 12, 13, 5] 25 (fun t => a.tmps.getD t undef) (PieceQ W [5] [(false, [U (entN s cs t i)])])) a W := by
 obtain ⟨I1, μ, hμ, hst⟩ := it_st h hJ [I i]
 rw [← it_d3, ← hH.size]
 exact region_piece (E := envIt) (n := 3000) (me := 108) (st := stOf 25 [(1, .val false [.p (.loc 0) 0]), (2, .val false [.p (.loc 1) 0]), (4, .val false [.e (.v 3)])] [2, 1] 4)
  (ir := .call 63 [(false, [.v 2]), (false, [.v 3])] [(false, 1)] (.call 76 [(true, [.v 0, .v 1]), (false, [.v 4])] [(false, 1)] (.ret [(false, [.v 5])]))) (fun _ _ _ h => h) (it_exec W I1 _) (by kernel_rfl) (by kernel_rfl)
  (wp_call rfl (place_con (t := t) (i := i) (by omega)) rfl (wp_call rfl (memWord_con (k := 2) (s := s) (a := t * 4096 + i * 8) (cs := cs) (.inl rfl) hs (by omega) (by omega)) rfl (wp_return rfl rfl)))
  (hst 25 4 _ a hH.size hH.df rfl (fun p hp => by
    simp only [List.mem_cons, List.not_mem_nil, or_false] at hp
    rcases hp with rfl | rfl | rfl
    ·exact sr_ptr (hμ 0 x0 rfl) hH.p
    ·exact sr_ptr (hμ 1 x1 rfl) hH.q
    ·exact sr_num rfl (by rw [h4]; exact .i _ _)))
theorem it_r5 {i : Nat} {a : Act} {W : World} {n : Nat} (hH : ItH l x0 x1 i a) (hJ : J n W) (hi : i < 512) :
 (Code.region 5 itO5 false).wpIn (Rd none) 0 Tryd.prog (Keep [24, 6] 25 (fun t => a.tmps.getD t undef) (PieceQ W [6] [(false, [I ((i + 1 : Nat) : Int)])])) a W := by
 obtain ⟨I1, μ, hμ, hst⟩ := it_st h hJ [I i]
 rw [← it_d5, ← hH.size]
 exact region_piece (E := envIt) (n := 3000) (me := 108) (st := stOf 25 [(6, .val false [.e (.v 3)])] [2, 1] 4) (ir := .lt (.bin .add (.v 3) (.c (.i .i64 1))) (.ret [(false, [.v 4])])) (fun _ _ _ h => h) (it_exec W I1 _) (by kernel_rfl) (by kernel_rfl)
  (wp_lt (i_add (a := (i : Int)) (b := 1) rfl rfl (by omega) (by omega)) (wp_return rfl rfl)) (hst 25 4 _ a hH.size hH.df rfl (fun p hp => by rw [List.mem_singleton.1 hp]; exact sr_num rfl (by rw [hH.i]; exact .i _ _)))
theorem it_p1 {w : Nat} {a : Act} {W : World} {n : Nat} (hz : a.tmps.size = 25) (hd : a.defers = []) (h5 : a.tmps.getD 5 undef = .int .u64 w) (hJ : J n W) :
 wpL Tryd.prog itO4 (Keep ([itO 0, itO 1, itO 2].filterMap (·.dst)) 25 (fun t => a.tmps.getD t undef) (PieceQ W [16] [(false, [.b (w != 0)])])) [itO 0, itO 1, itO 2] a W := by
 obtain ⟨I1, μ, hμ, hst⟩ := it_st h hJ [U w]
 have hp := list_piece (E := envIt) (C := Cn gAll) (n := 3000) (me := 108) (all := itO4.toList) (l := [itO 0, itO 1, itO 2]) (ds := [(false, [.b (w != 0)])]) (ts := [16]) (st := stOf 25 [(5, .val false [.e (.v 3)])] [2, 1] 4) (ir := .lt (.bin .neq (.v 3) (.c (.i .u64 0))) (.ret [(false, [.v 4])])) (it_exec W I1 _) (by kernel_rfl)
  (wp_lt (d := .b (w != 0)) (cmp_e (e_neq rfl rfl) i_bne) (wp_return rfl rfl)) (hst 25 4 _ a hz hd rfl (fun p hp => by rw [List.mem_singleton.1 hp]; exact sr_num rfl (by rw [h5]; exact .i _ _)))
 rw [Array.toArray_toList, hz] at hp
 exact hp
theorem it_p2 {w i : Nat} {a : Act} {W : World} {n : Nat} (hz : a.tmps.size = 25) (hd : a.defers = []) (h4 : a.tmps.getD 4 undef = .int .i64 i) (h5 : a.tmps.getD 5 undef = .int .u64 w) (h16 : a.tmps.getD 16 undef = .bool true) (hw : w < 18446744073709551616) (hJ : J n W) :
 wpL Tryd.prog itO4 (Keep ([itO 4, itO 5, itO 6].filterMap (·.dst)) 25 (fun t => a.tmps.getD t undef) (PieceQ W [18, 20] [(false, [I i]), (ptN w).dv])) [itO 4, itO 5, itO 6] a W := by
 obtain ⟨I1, μ, hμ, hst⟩ := it_st h hJ [I i, U w]
 have hp := list_piece (E := envIt) (C := Cn gAll) (n := 3000) (me := 108) (all := itO4.toList) (l := [itO 4, itO 5, itO 6]) (ds := [(false, [I i]), (ptN w).dv]) (ts := [18, 20]) (st := stOf 25 [(16, .val false [.e (.c (.b true))]), (4, .val false [.e (.v 3)]), (5, .val false [.e (.v 4)])] [2, 1] 5)
  (ir := .call 75 [(false, [.v 4])] [(true, 11)] (.ret [(false, [.v 3]), (true, [.v 5, .v 6, .v 7, .v 8, .v 9, .v 10, .v 11, .v 12, .v 13, .v 14, .v 15])])) (it_exec W I1 _) (by kernel_rfl)
  (wp_call rfl (pteGet_con hw) rfl (wp_return rfl rfl)) (hst 25 5 _ a hz hd rfl (fun p hp => by
    simp only [List.mem_cons, List.not_mem_nil, or_false] at hp
    rcases hp with rfl | rfl | rfl
    ·exact sr_num rfl (by rw [h16]; exact .b _)
    ·exact sr_num rfl (by rw [h4]; exact .i _ _)
    ·exact sr_num rfl (by rw [h5]; exact .i _ _)))
 rw [Array.toArray_toList, hz] at hp
 exact hp
theorem it_p3 {a : Act} {W : World} {n : Nat} (hz : a.tmps.size = 25) (hd : a.defers = []) (h16 : a.tmps.getD 16 undef = .bool false) (hJ : J n W) :
 wpL Tryd.prog itO4 (Keep ([itO 3, itO 4, itO 5, itO 6, itO 7, itO 8, itO 9].filterMap (·.dst)) 25 (fun t => a.tmps.getD t undef) (PieceQ W [23] [(false, [.b false])])) [itO 3, itO 4, itO 5, itO 6, itO 7, itO 8, itO 9] a W := by
 obtain ⟨I1, μ, hμ, hst⟩ := it_st h hJ []
 have hp := list_piece (E := envIt) (C := Cn gAll) (n := 3000) (me := 108) (all := itO4.toList) (l := [itO 3, itO 4, itO 5, itO 6, itO 7, itO 8, itO 9]) (ds := [(false, [.b false])]) (ts := [23]) (st := stOf 25 [(16, .val false [.e (.c (.b false))])] [2, 1] 3)
  (ir := .ret [(false, [.c (.b false)])]) (it_exec W I1 _) (by kernel_rfl)
  (wp_return rfl rfl) (hst 25 3 _ a hz hd rfl (fun p hp => by rw [List.mem_singleton.1 hp]; exact sr_num rfl (by rw [h16]; exact .b _)))
 rw [Array.toArray_toList, hz] at hp
 exact hp
theorem it_r4 {i : Nat} {a : Act} {W : World} {Q : Exit → Act → World → Prop} (hH : ItH l x0 x1 i a) (h4 : a.tmps.getD 4 undef = .int .i64 i) (h5 : a.tmps.getD 5 undef = .int .u64 (entN s cs t i)) (hC : COk cs) (hi : i < 512) (hJ : J (idxE s cs t i).length W)
 (hQ1 : ∀ a4 W4, ItH l x0 x1 i a4 → a4.tmps.getD 23 undef = .bool false → J (idxE s cs t (i + 1)).length W4 → Q .normal a4 W4)
 (hQ2 : ∀ a4 W4 n, a4.defers = [] → a4.tmps.getD 23 undef = .bool true → Jx n W4 → Q .normal a4 W4) :
 (Code.region 4 itO4 false).wpIn (Rd none) 0 Tryd.prog Q a W := by
 refine wpIn_region_list ?_
 have hp1 := it_p1 h hH.size hH.df h5 hJ
 have hn1 : ∀ o ∈ [itO 0, itO 1, itO 2], noDefer o = true := List.all_eq_true.1 (by kernel_rfl)
 have hn2 : ∀ o ∈ [itO 4, itO 5, itO 6], noDefer o = true := List.all_eq_true.1 (by kernel_rfl)
 have hn3 : ∀ o ∈ [itO 3, itO 4, itO 5, itO 6, itO 7, itO 8, itO 9], noDefer o = true := List.all_eq_true.1 (by kernel_rfl)
 have hd16 : (itO4.toList[2]?).bind (·.dst) = some 16 := by kernel_rfl
 have hdp1 : [itO 0, itO 1, itO 2].filterMap (·.dst) = [14, 15, 16] := by kernel_rfl
 have hdp2 : [itO 4, itO 5, itO 6].filterMap (·.dst) = [18, 19, 20] := by kernel_rfl
 have hdp3 : [itO 3, itO 4, itO 5, itO 6, itO 7, itO 8, itO 9].filterMap (·.dst) = [17, 18, 19, 20, 21, 22, 23] := by kernel_rfl
 rw [hdp1] at hp1
 by_cases hz : (entN s cs t i != 0) = true
 ·rw [it_ops]
  refine list_then (fun e _ _ he hq => PieceQ.no e _ _ he hq.1) (fun a1 W1 hq => ?_) hn1 hp1
  obtain ⟨⟨_, hg1, hd1, hv1⟩, hsz1, hk1⟩ := hq
  have h16 : a1.tmps.getD 16 undef = .bool true := by
   have := hv1 0 16 _ _ rfl rfl rfl
   rw [hz] at this
   exact this
  refine LI_val (want2 (by kernel_rfl) hd16 h16) (by kernel_rfl) (run_move (x := .tmp 0) (by kernel_rfl)) ?_
  have hd3 : (itO 3).dst = some 17 := by kernel_rfl
  rw [hd3]
  have hp2 := it_p2 h (a := a1.put (some 17) (a1.eval (.tmp 0))) (by rw [put_size, hsz1]) (by rw [put_defers, hd1]) (by rw [put_keep (by decide), hk1 4 (by decide)]; exact h4) (by rw [put_keep (by decide), hk1 5 (by decide)]; exact h5) (by rw [put_keep (by decide), h16]) (wordN_lt hC) (h.grow _ _ _ hJ hg1)
  rw [hdp2] at hp2
  refine list_then (fun e _ _ he hq => PieceQ.no e _ _ he hq.1) (fun a2 W2 hq => ?_) hn2 hp2
  obtain ⟨⟨_, hg2, hd2, hv2⟩, hsz2, hk2⟩ := hq
  have e16 : a2.tmps.getD 16 undef = .bool true := (hk2 16 (by decide)).trans ((put_keep (by decide)).trans h16)
  have e17 : a2.tmps.getD 17 undef = .func (.yield l) #[] #[] := by
   refine (hk2 17 (by decide)).trans ((put_at (by rw [hsz1]; decide)).trans ?_)
   exact (hk1 0 (by decide)).trans hH.y
  have e18 : a2.tmps.getD 18 undef = .int .i64 i := hv2 0 18 _ _ rfl rfl rfl
  have e20 : a2.tmps.getD 20 undef = .agg ((ptN (entN s cs t i)).ds.map fun d => (plainVal d).getD undef).toArray := hv2 1 20 _ _ rfl rfl rfl
  have ek : ∀ t, t < 14 ∨ 23 < t → a2.tmps.getD t undef = a.tmps.getD t undef := fun t ht => by
   refine (hk2 t ?_).trans ((put_keep ?_).trans (hk1 t ?_))
   ·intro hm; simp only [List.mem_cons, List.not_mem_nil, or_false] at hm; omega
   ·intro hm; cases hm; exact absurd ht (by decide)
   ·intro hm; simp only [List.mem_cons, List.not_mem_nil, or_false] at hm; omega
  have hJ2 := h.grow _ _ _ (h.grow _ _ _ hJ hg1) hg2
  have hd7 : (itO 7).dst = some 21 := by kernel_rfl
  have hd8 : (itO 8).dst = some 22 := by kernel_rfl
  have hd9 : (itO 9).dst = some 23 := by kernel_rfl
  have hback : ∀ (b : Bool) (W3 : World), (b = true ∧ J ((idxE s cs t i).length + 1) W3) ∨ (b = false ∧ Jx (idxE s cs t i).length W3) → wpListIn (Rd none) 0 Tryd.prog itO4 Q [itO 8, itO 9] (a2.put (some 21) (.bool b)) W3 := by
   intro b W3 hb
   have f16 : (a2.put (some 21) (.bool b)).tmps.getD 16 undef = .bool true := (put_keep (by decide)).trans e16
   have f21 : (a2.put (some 21) (.bool b)).eval (.tmp 21) = .bool b := put_at (by rw [hsz2]; decide)
   refine LI_val (want2 (by kernel_rfl) hd16 f16) (by kernel_rfl) (run_not (x := .tmp 21) (t := (itO 8).type) (by kernel_rfl) f21) ?_
   rw [hd8]
   have g16 : ((a2.put (some 21) (.bool b)).put (some 22) (.bool (!b))).eval (.tmp 16) = .bool true := (put_keep (by decide)).trans f16
   refine LI_val (want0 (by kernel_rfl)) (by kernel_rfl) (run_pick (q := .tmp 16) (x := .tmp 22) (y := (match (itO 9).op with | .pick _ _ y => y | _ => .tmp 0)) (by kernel_rfl) g16) ?_
   rw [hd9]
   have g22 : ((a2.put (some 21) (.bool b)).put (some 22) (.bool (!b))).eval (.tmp 22) = .bool (!b) := put_at (by rw [put_size, hsz2]; decide)
   rw [g22]
   have g23 : (((a2.put (some 21) (.bool b)).put (some 22) (.bool (!b))).put (some 23) (.bool (!b))).tmps.getD 23 undef = .bool (!b) := put_at (by rw [put_size, put_size, hsz2]; decide)
   rcases hb with ⟨rfl, hb⟩ | ⟨rfl, hb⟩
   ·refine hQ1 _ _ ⟨by rw [put_size, put_size, put_size, hsz2], by rw [put_defers, put_defers, put_defers, hd2], ?_, ?_, ?_, ?_⟩ g23 (by rw [idxE_next, if_pos hz, List.length_append]; exact hb)
    ·exact (put_keep (by decide)).trans ((put_keep (by decide)).trans ((put_keep (by decide)).trans ((ek 0 (.inl (by decide))).trans hH.y)))
    ·exact (put_keep (by decide)).trans ((put_keep (by decide)).trans ((put_keep (by decide)).trans ((ek 1 (.inl (by decide))).trans hH.p)))
    ·exact (put_keep (by decide)).trans ((put_keep (by decide)).trans ((put_keep (by decide)).trans ((ek 2 (.inl (by decide))).trans hH.q)))
    ·exact (put_keep (by decide)).trans ((put_keep (by decide)).trans ((put_keep (by decide)).trans ((ek 6 (.inl (by decide))).trans hH.i)))
   ·exact hQ2 _ _ _ (by rw [put_defers, put_defers, put_defers, hd2]) g23 hb
  refine LI_go (want2 (by kernel_rfl) hd16 e16) ⟨fun _ _ => trivial, ?_⟩
  rw [semAt_nd (by kernel_rfl)]
  have hrow : (rowsE19 s cs t)[(idxE s cs t i).length]? = some (rowE s cs t i) := by
   rw [rowsE19, List.getElem?_map, idxE_at hi hz]
   rfl
  obtain ⟨fn, tmps, assign, body, hy, hR⟩ := h.round _ _ _ W2 hrow rowE_vals hJ2
  have hop : (itO 7).op = .call { callee := .value (.tmp 17), args := #[.tmp 18, .tmp 20], argTypes := itAT } := by kernel_rfl
  have hrun := run_callY (P := Tryd.prog) (ρ := a2.eval) (w := W2) hop e17
  have hm : Array.map a2.eval #[.tmp 18, .tmp 20] = [.int .i64 i, .agg ((ptN (entN s cs t i)).ds.map fun d => (plainVal d).getD undef).toArray].toArray := by
   have h18 : a2.eval (.tmp 18) = .int .i64 i := e18
   have h20 := (show a2.eval (.tmp 20) = a2.tmps.getD 20 undef from rfl).trans e20
   simp [h18, h20]
  rw [hrun, hm, hy, Oper.uponIn_round]
  refine ⟨fun hd => (by cases hd), hR.mono ?_⟩
  rintro e W3 (⟨rfl, hb⟩ | ⟨rfl, hb⟩)
  ·rw [hd7]
   exact hback true W3 (.inl ⟨rfl, hb⟩)
  ·rw [hd7]
   exact hback false W3 (.inr ⟨rfl, hb⟩)
 ·rw [it_ops2]
  refine list_then (fun e _ _ he hq => PieceQ.no e _ _ he hq.1) (fun a1 W1 hq => ?_) hn1 hp1
  obtain ⟨⟨_, hg1, hd1, hv1⟩, hsz1, hk1⟩ := hq
  have h16 : a1.tmps.getD 16 undef = .bool false := by
   have := hv1 0 16 _ _ rfl rfl rfl
   rw [Bool.eq_false_iff.2 hz] at this
   exact this
  have hp3 := it_p3 h hsz1 hd1 h16 (h.grow _ _ _ hJ hg1)
  rw [hdp3] at hp3
  rw [← List.append_nil [itO 3, itO 4, itO 5, itO 6, itO 7, itO 8, itO 9]]
  refine list_then (fun e _ _ he hq => PieceQ.no e _ _ he hq.1) (fun a2 W2 hq => ?_) hn3 hp3
  obtain ⟨⟨_, hg2, hd2, hv2⟩, hsz2, hk2⟩ := hq
  have ek : ∀ t, t < 14 ∨ 23 < t → a2.tmps.getD t undef = a.tmps.getD t undef := fun t ht => by
   refine (hk2 t ?_).trans (hk1 t ?_)
   ·intro hm; simp only [List.mem_cons, List.not_mem_nil, or_false] at hm; omega
   ·intro hm; simp only [List.mem_cons, List.not_mem_nil, or_false] at hm; omega
  exact hQ1 a2 W2 ⟨hsz2, hd2, (ek 0 (.inl (by decide))).trans hH.y, (ek 1 (.inl (by decide))).trans hH.p, (ek 2 (.inl (by decide))).trans hH.q, (ek 6 (.inl (by decide))).trans hH.i⟩ (hv2 0 23 _ _ rfl rfl rfl)
   (by rw [idxE_next, if_neg hz]; exact h.grow _ _ _ (h.grow _ _ _ hJ hg1) hg2)
theorem it_loop {Qf : Exit → Act → World → Prop} (hs : Asc cs) (hC : COk cs) (hl : cs.length ≤ 1000000) (ht : t * 4096 + 4096 < 18446744073709551616)
 (hend : ∀ a W, a.defers = [] → J (rowsE19 s cs t).length W → Qf .normal a W) (hout : ∀ a W n, a.defers = [] → Jx n W → Qf .ret a W) :
 ∀ k i a W, i + k = 512 → ItH l x0 x1 i a → J (idxE s cs t i).length W → LW none Tryd.prog itB (Exit.inBlock 0 Qf) a W := by
 intro k
 induction k with
 | zero =>
  intro i a W hik hH hJ
  obtain rfl : i = 512 := by omega
  refine .mk (fun _ _ => False) a W ?_ (fun _ _ h => h.elim)
  rw [itB_eq]
  refine wpIn_seq (wpIn_mono (it_r1 h hH hJ (b := false) (by decide)) fun e a1 W1 hq => ?_)
  obtain ⟨⟨rfl, hg, hd, hv⟩, hsz, hkeep⟩ := hq
  have h7 := hv 0 7 _ _ rfl rfl rfl
  refine wpIn_seq (wpIn_cond_false h7 (wpIn_exit ?_))
  refine hend _ _ hd ?_
  rw [rowsE19, List.length_map]
  exact h.grow _ _ _ hJ hg
 | succ k ih =>
  intro i a W hik hH hJ
  have hi : i < 512 := by omega
  refine .mk (fun a' W' => LW none Tryd.prog itB (Exit.inBlock 0 Qf) a' W') a W ?_ (fun _ _ h => h)
  rw [itB_eq]
  refine wpIn_seq (wpIn_mono (it_r1 h hH hJ (b := true) (decide_eq_true (by omega))) fun e a1 W1 hq => ?_)
  obtain ⟨⟨rfl, hg1, hd1, hv1⟩, hsz1, hk1⟩ := hq
  have h7 := hv1 0 7 _ _ rfl rfl rfl
  have hH1 : ItH l x0 x1 i a1 := ⟨hsz1, hd1, (hk1 0 (by decide)).trans hH.y, (hk1 1 (by decide)).trans hH.p, (hk1 2 (by decide)).trans hH.q, (hk1 6 (by decide)).trans hH.i⟩
  have hJ1 := h.grow _ _ _ hJ hg1
  refine wpIn_seq (wpIn_cond_true h7 (wpIn_skip ?_))
  refine wpIn_seq (wpIn_block ?_)
  rw [itK_eq]
  refine wpIn_seq (wpIn_mono (it_r2 h hH1 hJ1) fun e a2 W2 hq => ?_)
  obtain ⟨⟨rfl, hg2, hd2, hv2⟩, hsz2, hk2⟩ := hq
  have h4 : a2.tmps.getD 4 undef = .int .i64 i := hv2 0 4 _ _ rfl rfl rfl
  have hH2 : ItH l x0 x1 i a2 := ⟨hsz2, hd2, (hk2 0 (by decide)).trans hH1.y, (hk2 1 (by decide)).trans hH1.p, (hk2 2 (by decide)).trans hH1.q, (hk2 6 (by decide)).trans hH1.i⟩
  have hJ2 := h.grow _ _ _ hJ1 hg2
  refine wpIn_seq (wpIn_mono (it_r3 h hH2 h4 hJ2 hs hl ht hi) fun e a3 W3 hq => ?_)
  obtain ⟨⟨rfl, hg3, hd3, hv3⟩, hsz3, hk3⟩ := hq
  have h5 : a3.tmps.getD 5 undef = .int .u64 (entN s cs t i) := hv3 0 5 _ _ rfl rfl rfl
  have hH3 : ItH l x0 x1 i a3 := ⟨hsz3, hd3, (hk3 0 (by decide)).trans hH2.y, (hk3 1 (by decide)).trans hH2.p, (hk3 2 (by decide)).trans hH2.q, (hk3 6 (by decide)).trans hH2.i⟩
  have hJ3 := h.grow _ _ _ hJ2 hg3
  refine wpIn_seq (it_r4 h hH3 ((hk3 4 (by decide)).trans h4) h5 hC hi hJ3 (fun a4 W4 hH4 h23 hJ4 => ?_) fun a4 W4 n hd4 h23 hx => ?_)
  ·refine wpIn_cond_false h23 (wpIn_skip ?_)
   refine wpIn_mono (it_r5 h hH4 hJ4 hi) fun e a5 W5 hq => ?_
   obtain ⟨⟨rfl, hg5, hd5, hv5⟩, hsz5, hk5⟩ := hq
   exact ih (i + 1) a5 W5 (by omega) ⟨hsz5, hd5, (hk5 0 (by decide)).trans hH4.y, (hk5 1 (by decide)).trans hH4.p, (hk5 2 (by decide)).trans hH4.q, hv5 0 6 _ _ rfl rfl rfl⟩ (h.grow _ _ _ hJ4 hg5)
  ·exact wpIn_cond_true h23 (wpIn_ret (hout a4 W4 n hd4 hx))
end
theorem ent_con {s t : Nat} {cs : List Cl} (hs : Asc cs) (hC : COk cs) (hl : cs.length ≤ 1000000) (ht : t * 4096 + 4096 < 18446744073709551616) :
 Cn gAll (itOff + 108) [(false, [I 2]), (false, shD [(false, 1), (true, 11)]), md 2 s cs, (true, [U t])] [(false, [.sl 12 (rowsE19 s cs t)])] := by
 refine ⟨fun h => absurd h (Nat.not_lt.2 (Nat.le_trans (by decide) (Nat.le_add_right itOff _))), fun h => absurd h.2 (Nat.not_lt.2 (Nat.le_trans (by decide) (Nat.le_add_right itOff _))), fun _ => ⟨fun h => absurd h (Nat.not_lt.2 (Nat.le_add_right itOff _)), fun _ _ => ?_, fun h => absurd h (by decide)⟩⟩
 rw [Nat.add_sub_cancel_left]
 have hbody : Tryd.f108.body = some itC := by kernel_rfl
 have hbn : Tryd.f108.body.isNone = false := by kernel_rfl
 have hname : (Tryd.f108.name == "runtime.NumGoroutine") = false := by kernel_rfl
 have hnt : Tryd.f108.ntmps = 25 := by kernel_rfl
 refine ⟨[md 2 s cs, (true, [U t])], [(false, 1), (true, 11)], 12, rowsE19 s cs t, rfl, rfl, fun r hr => ?_, ?_, ⟨Tryd.f108, Tryd.func108, hbn, hname⟩, ?_⟩
 ·obtain ⟨i, _, rfl⟩ := List.mem_map.1 hr
  rw [rowE_vals]
  rfl
 ·rw [rowsE19, List.length_map]
  have := idxE_len (s := s) (cs := cs) (t := t) (n := 512)
  omega
 intro l J Jx w xs hcap hgrow hround h0
 obtain ⟨x0, x1, rfl⟩ : ∃ x0 x1, xs = [x0, x1] := by
  obtain ⟨_, _, _, hc⟩ := hcap 0 w h0
  have hlen := hc.length
  match xs, hlen with
  | [p, q], _ => exact ⟨p, q, rfl⟩
 have hX : ItX l x0 x1 s t cs J Jx := ⟨hcap, hgrow, hround⟩
 refine callsIn_of_wp (F := Rd none) (fn := Tryd.f108) (c := itC) Tryd.func108 hbody trivial ?_
 rw [mk25_eq hnt, itC_eq]
 refine wpIn_seq (wpIn_mono (it_r0 hX (by rfl) (by rfl) h0) fun e a1 W1 hq => ?_)
 obtain ⟨⟨rfl, hg1, hd1, hv1⟩, hsz1, hk1⟩ := hq
 refine wpIn_block (wp_loop_LW (it_loop hX hs hC hl ht (fun a W hd hJ => ?_) (fun a W n hd hx => ?_) 512 0 a1 W1 rfl ⟨hsz1, hd1, hk1 0 (by decide), hk1 1 (by decide), hk1 2 (by decide), hv1 0 6 _ _ rfl rfl rfl⟩ (hgrow _ _ _ h0 hg1)))
 ·exact ⟨hd, _, results_none (by kernel_rfl) _ _ _, ⟨_, rfl⟩, .inl hJ⟩
 ·exact ⟨hd, _, results_none (by kernel_rfl) _ _ _, ⟨_, rfl⟩, .inr ⟨n, hx⟩⟩
end Go.Proofs.YtnkjmocacielmaaDoor.Sx
