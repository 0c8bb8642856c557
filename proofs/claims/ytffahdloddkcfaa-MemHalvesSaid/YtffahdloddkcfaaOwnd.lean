/-
  The operations on slices that grow: what the executor reckons, the machine does.
-/
import Derived.Test.YtffahdloddkcfaaOwnc
import Derived.IntWalk
namespace Go.Proofs.Ytffahdloddkcfaa.Sx
open Go
set_option linter.unnecessarySimpa false
set_option linter.unusedSimpArgs false
set_option linter.unusedVariables false

/-- An operation on slices that grow has been done. -/
def GoesO (G : Glo) (B : Nat) (I₀ : Imm) (w₀ : World) (I : Imm) (μ : Mu) (w : World) (ρ : List D) (h : Heap) (r : Result Next) (s : S) (o' : Own) : Prop :=
  ∃ nx v w' μ', r = .ok nx w' ∧ (nx = .value v ∨ (nx = .skip ∧ v = undef)) ∧ SR I μ' w' ρ s v ∧ WR G B I₀ w₀ I μ' w' ρ h ∧ Evo I μ w I μ' w' ∧ OwnR B I μ' w' ρ o'

section
variable {B : Nat} {I : Imm} {μ : Mu} {w : World} {ρ : List D} {o : Own} {G : Glo} {I₀ : Imm} {w₀ : World} {h : Heap} {P : Program} {fr : List S} {a : Act} {op : Oper} {cs : List Ex} {s : S} {o' : Own}

theorem room_sound {x : Ex} {b : Nat} (h : (Ex.room x b).eval ρ = some (.b true)) : ∃ k m, x.eval ρ = some (.i k m) ∧ 0 ≤ m ∧ m * b ≤ 2 ^ 40 := by
  simp only [Ex.eval] at h
  split at h
  · rename_i k m hx
    simp only [Option.some.injEq, D.b.injEq, Bool.and_eq_true, decide_eq_true_eq] at h
    exact ⟨k, m, hx, h.1, h.2⟩
  · cases h

theorem app_sound {n : Nat} {x y : Ex} {d : D} (h : (Ex.app n x y).eval ρ = some d) : ∃ s xs m ys, x.eval ρ = some (.sl s xs) ∧ y.eval ρ = some (.sl m ys) ∧ (s = n ∨ (s = 0 ∧ xs = [])) ∧ (m = n ∨ ys = []) ∧ d = if ys.isEmpty then .sl s xs else .sl n (xs ++ ys) := by
  simp only [Ex.eval] at h
  split at h
  · rename_i da db hx hy
    cases da <;> cases db <;> simp only [appD] at h <;> try cases h
    rename_i s xs m ys
    split at h
    · rename_i hc
      cases h
      exact ⟨s, xs, m, ys, hx, hy, hc.1.imp id fun h => ⟨h.1, List.isEmpty_iff.1 h.2⟩, hc.2.imp id List.isEmpty_iff.1, rfl⟩
    · cases h
  · cases h

theorem GoesO.quiet (hW : WR G B I₀ w₀ I μ w ρ h) (hO : OwnR B I μ w ρ o) {r : Result Next} {v : Value} (hr : r = .ok (.value v) w) (hs : SR I μ w ρ s v) : GoesO G B I₀ w₀ I μ w ρ h r s o :=
  ⟨_, v, w, μ, hr, .inl rfl, hs, hW, Evo.refl _ _ _, hO⟩

theorem live?_some {k : Nat} {t : Ex} (h : Own.live? o k = some t) : o[k]? = some ⟨t, .live⟩ := by
  unfold Own.live? at h
  split at h
  · rename_i t' hk; cases h; exact hk
  · cases h

theorem push_sr {n : Nat} {b : Option Addr} {l c : Nat} {w' : World} : SR I (μ.push n (.slice b l c)) w' ρ (.val false [.g n]) (.slice b l c) := ⟨_, rfl, b, l, c, rfl, by simp [Mu.push]⟩

theorem own_append (hW : WR G B I₀ w₀ I μ w ρ h) (hO : OwnR B I μ w ρ o) (hop : ∀ x, SR I μ w ρ (opd fr x) (a.eval x)) {args : Array Operand} {tys : Array TypeId} (ho : op.op = .call { callee := .builtin .append, args := args, argTypes := tys })
    (hs : ownOp P G fr h o (.call { callee := .builtin .append, args := args, argTypes := tys }) = some (cs, s, o')) (hc : ∀ c ∈ cs, c.eval ρ = some (.b true)) : GoesO G B I₀ w₀ I μ w ρ h ((execOp a.eval op).run P w) s o' := by
  simp only [ownOp] at hs
  split at hs
  · rename_i x y t t' hargs htys
    split at hs
    · rename_i htt
      subst htt
      split at hs
      · rename_i el hu
        split at hs
        · rename_i n z hn hz
          split at hs
          · rename_i hcond
            obtain ⟨hpos, hzl⟩ := hcond
            split at hs
            · rename_i t2 t1 o1 hsrc hdst
              simp only [Option.some.injEq, Prod.mk.injEq] at hs
              obtain ⟨rfl, rfl, rfl⟩ := hs
              have ha : args = #[x, y] := by rw [← Array.toList_inj, hargs]
              have ht : tys = #[t, t] := by rw [← Array.toList_inj, htys]
              subst ha
              subst ht
              obtain ⟨i, zv, hi, hzv, hzs, _⟩ := zeroT_info hz
              have hin : i.size = n := by simpa [sizeT, hi] using hn
              have hby : P.bytesOf el = i.bytes := by simp [Program.bytesOf, hi]
              obtain ⟨kr, mr, hlen, hm0, hroom⟩ := room_sound (hc _ (List.mem_singleton.2 rfl))
              have happ : ∃ d, (Ex.app n t1 t2).eval ρ = some d := by
                simp only [Ex.eval] at hlen
                split at hlen
                · rename_i sz xs hx
                  exact ⟨_, by simp only [Ex.eval]; exact hx⟩
                · cases hlen
              obtain ⟨d, hd⟩ := happ
              obtain ⟨s1, rows, s2, rows2, h1, h2, hc1, hc2, rfl⟩ := app_sound hd
              have hsrcV := appSrc_sound hW hO hpos hsrc (hop y) h2 hc2
              have hlen' : mr = ((rows.length + rows2.length : Nat) : Int) := by
                rw [Ex.eval, hd] at hlen
                split at hlen
                · rename_i sz xs hx
                  cases hlen
                  split at hx
                  · rename_i he
                    cases hx
                    have : rows2 = [] := List.isEmpty_iff.1 he
                    simp [this]
                  · cases hx
                    simp
                · cases hlen
              have hroom' : (rows.length + rows2.length) * (i.bytes + 1) ≤ 2 ^ 40 := by
                rw [hlen', hby] at hroom
                have : (((rows.length + rows2.length) * (i.bytes + 1) : Nat) : Int) ≤ 2 ^ 40 := by rw [Int.natCast_mul]; exact_mod_cast hroom
                exact_mod_cast this
              -- the slice that is appended to
              obtain ⟨hV, hv1, hol, holive, hofroz, horow⟩ : OwnV B I w s1 rows (a.eval x) ∧ (s1 = n ∨ s1 = 0) ∧ o1.length = o.length ∧
                  (∀ (k : Nat) (t : Ex), o1[k]? = some (OS.mk t .live) → o[k]? = some (OS.mk t .live) ∧ ∀ v y, μ.v k = some v → v.ownBlock = some y → (a.eval x).ownBlock ≠ some y) ∧
                  (∀ (k : Nat) (t : Ex), o1[k]? = some (OS.mk t .frozen) → o[k]? = some (OS.mk t .frozen)) ∧ (∀ y, (a.eval x).ownBlock = some y → OwnB μ o y) := by
                unfold appDst at hdst
                split at hdst
                · rename_i hsx
                  cases hdst
                  have hv := hop x
                  rw [hsx] at hv
                  obtain ⟨dd, hdd, hr⟩ := e?_sound (t := .c (.sl 0 [])) rfl hv
                  simp only [Ex.eval] at hdd h1
                  cases hdd
                  simp only [Option.some.injEq, D.sl.injEq] at h1
                  obtain ⟨rfl, rfl⟩ := h1
                  have hnil : a.eval x = .slice none 0 0 := by
                    generalize hv' : a.eval x = vx at hr
                    cases hr with
                    | nil _ p cap hz => obtain ⟨rfl, rfl⟩ := hz rfl; rfl
                    | sl _ _ _ _ _ _ h0 => omega
                  rw [hnil]
                  exact ⟨⟨(fun r hr => by cases hr), .inl ⟨rfl, rfl⟩⟩, .inr rfl, rfl, fun k t hk => ⟨hk, fun v y _ _ => by simp [Value.ownBlock]⟩, fun k t hk => hk, fun y hy => by simp [Value.ownBlock] at hy⟩
                · rename_i k hsx
                  split at hdst
                  · rename_i tk hk
                    cases hdst
                    have hk := live?_some hk
                    have hv := hop x
                    rw [hsx] at hv
                    obtain ⟨b, ll, cc, _, hv⟩ := l?_sound (l := .g k) rfl hv
                    obtain ⟨v', s', rows', hv', ht', hV⟩ := hO.live k _ hk
                    rw [hv] at hv'
                    cases hv'
                    rw [h1] at ht'
                    cases ht'
                    have hkl : k < o.length := (List.getElem?_eq_some_iff.1 hk).1
                    refine ⟨hV, hc1.imp id (·.1), by simp, fun j t hj => ?_, fun j t hj => ?_, fun y hy => ⟨k, t1, _, hk, hv, hy⟩⟩
                    · by_cases he : k = j
                      · subst he; simp [hkl] at hj
                      · rw [List.getElem?_set_ne he] at hj
                        refine ⟨hj, fun v y hvj hy hy' => ?_⟩
                        exact (hO.dis k t1 _ y hk hv hy').2 j t v (Ne.symm he) hj hvj hy
                    · by_cases he : k = j
                      · subst he; simp [hkl] at hj
                      · rwa [List.getElem?_set_ne he] at hj
                  · cases hdst
                · cases hdst
              obtain ⟨v', w', hrun, hV', hg, hb'⟩ := run_appendV (P := P) (ty := op.type) hu hi hzv hin (by omega) hpos hV hv1 hsrcV hroom' hW.size hW.imm
              obtain ⟨hW', he, hO'⟩ := hO.push hW hol holive hofroz horow (gr_of hg) hV' hb' (t' := .app n t1 t2) (by rw [hd]; split <;> simp_all)
              obtain ⟨b, c, hsl⟩ := hV'.slice
              refine ⟨.value v', v', w', _, ?_, .inl rfl, ?_, hW', he, hO'⟩
              · simp [execOp, ho, resolve, invoke, builtin, hrun]
              · rw [hsl, hol]; exact push_sr
            · cases hs
          · cases hs
        · cases hs
      · cases hs
    · cases hs
  · cases hs

/-- a new slice -/
theorem own_new {vs : List Value} {el : TypeId} {n len : Nat} {rows : List (List D)} {t' : Ex} (hW : WR G B I₀ w₀ I μ w ρ h) (hO : OwnR B I μ w ρ o) (hn : 0 < n) (hl : rows.length = len) (hvs : vs.length = len * n) (hw : ∀ r ∈ rows, r.length = n) (hr : RowsL I w n rows vs) (hm : len ≤ maxLen)
    (ht : t'.eval ρ = some (.sl n rows)) {r : Result Next} (hrun : r = .ok (.value (.slice (some ⟨w.heap.size, 0, none⟩) len len)) (w.alloc (.cells vs.toArray el))) : GoesO G B I₀ w₀ I μ w ρ h r (.val false [.g o.length]) (o ++ [⟨t', .live⟩]) := by
  subst hl
  have hV : OwnV B I (w.alloc (.cells vs.toArray el)) n rows (.slice (some ⟨w.heap.size, 0, none⟩) rows.length rows.length) := by
    refine ⟨hw, .inr ⟨w.heap.size, rows.length, vs.toArray, el, rfl, hW.size, hn, heap_alloc_new w _, Nat.le_refl _, hm, by simpa using hvs, fun i r j d hi hj => ?_, fun hx => by have := hW.imm _ hx; omega⟩⟩
    obtain ⟨u, hu, hd⟩ := hr i r j d hi hj
    exact ⟨u, by simpa using hu, hd.mono (fun _ h => h) fun y hy => heap_alloc_old w _ (hW.imm y hy)⟩
  obtain ⟨hW', he, hO'⟩ := hO.push (o1 := o) (row := none) hW rfl (fun k t hk => ⟨hk, fun v y _ _ => by simp⟩) (fun k t hk => hk) (fun x hx => by cases hx) (gr_of (World.grownBy_alloc w _ none)) hV (fun x hx => by simp [Value.ownBlock] at hx; exact .inr (Nat.le_of_eq hx)) ht
  exact ⟨_, _, _, _, hrun, .inl rfl, push_sr, hW', he, hO'⟩

theorem fillS_length {place : Nat → Option (Nat × Nat)} : ∀ {parts : List (Nat × S)} {cells ls : List SL}, fillS place cells parts = some ls → ls.length = cells.length
  | [], cells, ls, h => by simp [fillS] at h; rw [h]
  | (i, s) :: rest, cells, ls, h => by
    simp only [fillS] at h
    split at h
    · split at h
      · rename_i hc
        rw [fillS_length h, over_length (by omega)]
      · cases h
    · cases h

theorem own_buildSlice (hW : WR G B I₀ w₀ I μ w ρ h) (hO : OwnR B I μ w ρ o) (hop : ∀ x, SR I μ w ρ (opd fr x) (a.eval x)) {t : TypeId} {len : Nat} {parts : Array (Nat × Operand)} (ho : op.op = .buildSlice t len parts)
    (hs : ownOp P G fr h o (.buildSlice t len parts) = some (cs, s, o')) : GoesO G B I₀ w₀ I μ w ρ h ((execOp a.eval op).run P w) s o' := by
  simp only [ownOp] at hs
  split at hs
  · rename_i el hu
    split at hs
    · rename_i sz z hsz hz
      split at hs
      · rename_i hc
        obtain ⟨h1, h3, h4⟩ := hc
        split at hs
        · rename_i ls hls
          split at hs
          · rename_i es hes
            simp only [Option.some.injEq, Prod.mk.injEq] at hs
            obtain ⟨rfl, rfl, rfl⟩ := hs
            obtain ⟨zv, hzr, hzc⟩ := zeroT_run hz
            have hzs := constLs_sound (I := I) (μ := μ) (w := w) (ρ := ρ) hzc
            have hzl : zv.cells.size = sz := by have := hzs.length; simp at this; omega
            obtain ⟨cur, hf, hcur⟩ := fillS_sound parts.toList hop (lsR_flat hzs len) hls
            have hpar : (parts.map fun q => (q.1, a.eval q.2)).toList = parts.toList.map fun q => (q.1, a.eval q.2) := by simp
            have hzz' : (Array.range (len * sz)).map (zv.cells[· % zv.cells.size]!) = (List.replicate len zv.cells.toList).flatten.toArray := by
              rw [← hzl, ← zeros_list zv.cells len]
            have hlsl : ls.length = len * sz := by
              have := fillS_length hls
              rw [this]
              simp [h4]
            have hcl : cur.length = len * sz := by rw [← hcur.length]; exact hlsl
            rw [exLs_get hes] at hcur
            obtain ⟨ds, hds, hdr⟩ := lsR_evals hcur
            have hdl : ds.length = len * sz := by rw [hdr.length]; exact hcl
            have hel : es.length = len * sz := by rw [evals_length hds]; exact hdl
            have hbig : ¬ len * sz > 2 ^ 24 := by omega
            have hml : len ≤ maxLen := by
              have : len ≤ len * sz := Nat.le_mul_of_pos_right _ h1
              simp only [maxLen]
              omega
            refine own_new hW hO h1 (chunks_length sz len ds) hcl (chunks_width hdl) (rowsL_chunks h1 hdr hdl) hml (rowsE_eval hds hel) (el := el) ?_
            by_cases hpos : len * sz = 0
            · have hl0 : len = 0 := by rcases Nat.mul_eq_zero.1 hpos with h | h; exact h; omega
              subst hl0
              have hc0 : cur = [] := List.length_eq_zero_iff.1 (by simpa using hcl)
              subst hc0
              simp only [execOp, ho, Instr.buildSlice, Sem.run_bind, run_underlying hu, Result.andThen_ok, run_sizeT hsz, if_neg hbig, if_pos hpos, Sem.run_pure, hpar]
              have hz0 : (Array.range (0 * sz)).map ((#[] : Array Value)[· % (#[] : Array Value).size]!) = (List.replicate 0 zv.cells.toList).flatten.toArray := by simp
              rw [hz0, hf]
              simp [newRow, World.alloc_eq]
            · simp only [execOp, ho, Instr.buildSlice, Sem.run_bind, run_underlying hu, Result.andThen_ok, run_sizeT hsz, if_neg hbig, if_neg hpos, hzr, Sem.run_pure, hpar]
              rw [hzz', hf]
              simp [newRow, World.alloc_eq, hzr, hpos, hbig]
          · cases hs
        · cases hs
      · cases hs
    · cases hs
  · cases hs

theorem own_makeSlice (hW : WR G B I₀ w₀ I μ w ρ h) (hO : OwnR B I μ w ρ o) (hop : ∀ x, SR I μ w ρ (opd fr x) (a.eval x)) {t : TypeId} {x y : Operand} (ho : op.op = .makeSlice t x y)
    (hs : ownOp P G fr h o (.makeSlice t x y) = some (cs, s, o')) (hc : ∀ c ∈ cs, c.eval ρ = some (.b true)) : GoesO G B I₀ w₀ I μ w ρ h ((execOp a.eval op).run P w) s o' := by
  simp only [ownOp] at hs
  split at hs
  · rename_i el ex ey hu hx hy
    split at hs
    · rename_i n z hn hz
      split at hs
      · rename_i hcond
        obtain ⟨h1, h2, h3⟩ := hcond
        split at hs
        · rename_i es hes
          simp only [Option.some.injEq, Prod.mk.injEq] at hs
          obtain ⟨rfl, rfl, rfl⟩ := hs
          have hxy := Ex.same_eq h3
          subst hxy
          obtain ⟨i, zv, hi, hzv, hzs, hzc⟩ := zeroT_info hz
          have hin : i.size = n := by simpa [sizeT, hi] using hn
          have hby : P.bytesOf el = i.bytes := by simp [Program.bytesOf, hi]
          obtain ⟨kr, m, hm, hm0, hroom⟩ := room_sound (hc _ (List.mem_singleton.2 rfl))
          obtain ⟨m, rfl⟩ := Int.eq_ofNat_of_zero_le hm0
          obtain ⟨dx, hdx, hrx⟩ := e?_sound hx (hop x)
          obtain ⟨dy, hdy, hry⟩ := e?_sound hy (hop y)
          rw [hm] at hdx hdy
          cases hdx
          cases hdy
          have hroom' : m * (i.bytes + 1) ≤ 2 ^ 40 := by
            rw [hby] at hroom
            have : ((m * (i.bytes + 1) : Nat) : Int) ≤ 2 ^ 40 := by rw [Int.natCast_mul]; exact_mod_cast hroom
            exact_mod_cast this
          have hm40 : m ≤ 2 ^ 40 := Nat.le_trans (Nat.le_mul_of_pos_right _ (by omega)) hroom'
          have hmb : i.bytes * m ≤ 2 ^ 40 := by rw [Nat.mul_comm]; exact Nat.le_trans (Nat.mul_le_mul_left _ (Nat.le_succ _)) hroom'
          have hmb' : (i.bytes : Int) * (m : Int) ≤ 281474976710656 := by
            have : ((i.bytes * m : Nat) : Int) ≤ 2 ^ 40 := by exact_mod_cast hmb
            rw [Int.natCast_mul] at this
            omega
          have hrun := run_make (P := P) w t el i zv hu hi hzv kr kr m m (by omega) (Int.le_refl _) hmb' (by omega)
          simp only [Int.toNat_natCast, hin] at hrun
          have hzs' := constLs_sound (I := I) (μ := μ) (w := w) (ρ := ρ) hzc
          rw [exLs_get hes] at hzs'
          obtain ⟨ds, hds, hdr⟩ := lsR_evals hzs'
          have hdl : ds.length = n := by rw [hdr.length]; simp; omega
          have hmc : (madeCells zv.cells (m * n)).toList = (List.replicate m zv.cells.toList).flatten := by
            rw [← h2, ← hzs]
            exact zeros_list zv.cells m
          refine own_new (vs := (madeCells zv.cells (m * n)).toList) (rows := List.replicate m ds) (len := m) (el := el) hW hO h1 (by simp) (by simp [size_madeCells]) (fun r hr => by rw [(List.mem_replicate.1 hr).2]; exact hdl) (fun q r j d hq hj => ?_) (by simp only [maxLen]; omega) ?_ ?_
          · have hqm : q < m := by have := (List.getElem?_eq_some_iff.1 hq).1; simpa using this
            rw [List.getElem?_replicate, if_pos hqm] at hq
            cases hq
            obtain ⟨u, hu, hd⟩ := hdr.get hj
            refine ⟨u, ?_, hd⟩
            have hjl : j < n := by have := (List.getElem?_eq_some_iff.1 hj).1; omega
            have hzl : zv.cells.toList.length = n := by simp; omega
            rw [hmc, flat_rep, hzl]
            have hlt : q * n + j < m * n := by
              have : (q + 1) * n ≤ m * n := Nat.mul_le_mul_right _ hqm
              rw [Nat.succ_mul] at this
              omega
            rw [if_pos hlt]
            have : (q * n + j) % n = j := by rw [Nat.mul_comm, Nat.mul_add_mod, Nat.mod_eq_of_lt hjl]
            rw [this]
            exact hu
          · simp only [Ex.eval, hm, hds]
            rw [if_pos (by omega)]
            simp [hdl]
          · simp [execOp, ho, hrx.i_inv, hry.i_inv, hrun]
        · cases hs
      · cases hs
    · cases hs
  · cases hs

theorem own_indexAddr (hW : WR G B I₀ w₀ I μ w ρ h) (hO : OwnR B I μ w ρ o) (hop : ∀ x, SR I μ w ρ (opd fr x) (a.eval x)) {t : TypeId} {x y : Operand} (ho : op.op = .indexAddr t x y)
    (hs : ownOp P G fr h o (.indexAddr t x y) = some (cs, s, o')) (hc : ∀ c ∈ cs, c.eval ρ = some (.b true)) : GoesO G B I₀ w₀ I μ w ρ h ((execOp a.eval op).run P w) s o' := by
  simp only [ownOp] at hs
  split at hs
  · rename_i el k ix hu hx hy
    split at hs
    · rename_i sz tk hsz hk
      split at hs
      · rename_i hpos
        simp only [Option.some.injEq, Prod.mk.injEq] at hs
        obtain ⟨rfl, rfl, rfl⟩ := hs
        have hv := hop x
        rw [hx] at hv
        obtain ⟨b, ll, cc, hbe, hv⟩ := l?_sound (l := .g k) rfl hv
        obtain ⟨v', s', rows, hv', ht', hV⟩ := hO.live k _ (live?_some hk)
        rw [hv] at hv'
        cases hv'
        obtain ⟨di, hdi, hri⟩ := e?_sound hy (hop y)
        have hint : ∃ kk m, di = .i kk m := by
          cases hmk : mkInb tk ix sz with
          | nil =>
            unfold mkInb at hmk
            split at hmk
            · simp only [Ex.eval] at hdi; cases hdi; exact ⟨_, _, rfl⟩
            · simp at hmk
          | cons c r =>
            have : c = .inb tk ix sz := by
              unfold mkInb at hmk
              split at hmk
              · split at hmk <;> simp at hmk
                exact hmk.1.symm
              · simp at hmk; exact hmk.1.symm
            subst this
            have hb := hc (.inb tk ix sz) (by rw [hmk]; simp)
            simp only [Ex.eval, ht', hdi] at hb
            cases di <;> simp [inbD] at hb
            exact ⟨_, _, rfl⟩
        obtain ⟨kk, m, rfl⟩ := hint
        obtain ⟨rfl, h0, hlt⟩ := mkInb_sound ht' hdi hc
        obtain ⟨m, rfl⟩ := Int.eq_ofNat_of_zero_le h0
        have hml : m < rows.length := by omega
        rcases hV.2 with ⟨_, rfl⟩ | ⟨z, cap, cur, ty, hsl, h1, h2, h3, h4, h5, h6, h7, h8⟩
        · simp at hml
        · rw [hsl] at hv
          refine GoesO.quiet hW hO (v := .pointer (some ⟨z, m * s' + 0, none⟩)) ?_ ⟨_, rfl, z, rows.length, cap, kk, m, hv, hdi, by omega, by omega, by simp⟩
          have hi := hri.i_inv
          simp [execOp, ho, Instr.indexAt, run_underlying hu, hsl, hi, asIntOf, hml, run_sizeT hsz, addr_add]
      · cases hs
    · cases hs
  · cases hs

theorem own_load (hW : WR G B I₀ w₀ I μ w ρ h) (hO : OwnR B I μ w ρ o) (hop : ∀ x, SR I μ w ρ (opd fr x) (a.eval x)) {t : TypeId} {x : Operand} (ho : op.op = .load t x)
    (hs : ownOp P G fr h o (.load t x) = some (cs, s, o')) (hc : ∀ c ∈ cs, c.eval ρ = some (.b true)) : GoesO G B I₀ w₀ I μ w ρ h ((execOp a.eval op).run P w) s o' := by
  simp only [ownOp] at hs
  split at hs
  · rename_i k ix sz j g n hx hg hn
    split at hs
    · rename_i tk hk
      generalize hgn : (if g = true then n else 1) = gn at hs
      split at hs
      · rename_i hle
        simp only [Option.some.injEq, Prod.mk.injEq] at hs
        obtain ⟨rfl, rfl, rfl⟩ := hs
        have hv := hop x
        rw [hx] at hv
        obtain ⟨z, len, cap, kk, m, hv, hdi, h0, hlt, hp⟩ := l?_sound (l := .ge k ix sz j) rfl hv
        obtain ⟨v', s', rows, hv', ht', hV⟩ := hO.live k _ (live?_some hk)
        rw [hv] at hv'
        cases hv'
        obtain ⟨rfl, _, hml⟩ := mkInb_sound ht' hdi hc
        obtain ⟨m, rfl⟩ := Int.eq_ofNat_of_zero_le h0
        have hml : m < rows.length := by omega
        rcases hV.2 with ⟨he, _⟩ | ⟨z', cap', cur, ty, hsl, h1, h2, h3, h4, h5, h6, h7, h8⟩
        · cases he
        · simp only [Value.slice.injEq, Option.some.injEq, Addr.mk.injEq, and_true, true_and] at hsl
          obtain ⟨rfl, _, _⟩ := hsl
          have hr := List.getElem?_eq_getElem hml
          have hrl := hV.1 _ (List.getElem_mem hml)
          -- the cells that are read
          obtain ⟨vs, hvl, hcells, hvs⟩ : ∃ vs : List Value, vs.length = gn ∧ CellsAt w z (m * s' + j) vs ∧ LsR I μ w ρ ((List.range gn).map fun q => .e (mkIdx tk ix (j + q))) vs := by
            have key : ∀ q, q < gn → ∃ u d, rows[m][j + q]? = some d ∧ cur[m * s' + (j + q)]? = some u ∧ DR I w d u := fun q hq => by
              have hjq : j + q < (rows[m]).length := by omega
              obtain ⟨u, hu, hd⟩ := h7 m _ (j + q) _ hr (List.getElem?_eq_getElem hjq)
              exact ⟨u, _, List.getElem?_eq_getElem hjq, hu, hd⟩
            refine ⟨(List.range gn).map fun q => cur.getD (m * s' + (j + q)) undef, by simp, fun q u hq => ?_, All2.of_get (by simp) fun q l u hl hu => ?_⟩
            · have hqg : q < gn := by have := (List.getElem?_eq_some_iff.1 hq).1; simpa using this
              rw [List.getElem?_map, List.getElem?_range hqg] at hq
              simp only [Option.map_some, Option.some.injEq] at hq
              obtain ⟨u', d, _, hu', _⟩ := key q hqg
              rw [Array.getD_eq_getD_getElem?, hu'] at hq
              rw [cell_of_row w z _ cur ty (0, 0) h3, Nat.add_assoc, hu']
              simpa using hq
            · have hqg : q < gn := by have := (List.getElem?_eq_some_iff.1 hl).1; simpa using this
              rw [List.getElem?_map, List.getElem?_range hqg] at hl hu
              simp only [Option.map_some, Option.some.injEq] at hl hu
              obtain ⟨u', d, hd', hu', hr'⟩ := key q hqg
              rw [Array.getD_eq_getD_getElem?, hu'] at hu
              simp only [Option.getD_some] at hu
              subst hu
              subst hl
              exact ⟨d, mkIdx_eval ht' hdi hr hd', hr'⟩
          cases g
          · simp only [Bool.false_eq_true, if_false] at hgn
            subst hgn
            match vs, hvl with
            | [v], _ =>
              have h0' := hcells 0 v (by simp)
              simp only [Nat.add_zero] at h0'
              refine GoesO.quiet hW hO (v := v) ?_ ?_
              · simp [execOp, ho, Instr.loadAt, Instr.sureAddr, hp, loadVar, run_isAgg hg, h0']
              · cases hvs with | cons h1 h2 => exact ⟨_, rfl, h1⟩
          · simp only [if_true] at hgn
            subst hgn
            subst hvl
            refine GoesO.quiet hW hO (v := .agg vs.toArray) ?_ ⟨vs, rfl, hvs⟩
            simp [execOp, ho, Instr.loadAt, Instr.sureAddr, hp, loadVar, run_isAgg hg, run_sizeT hn, run_loadCells_at hcells]
      · cases hs
    · cases hs
  · cases hs

theorem over_get {α : Type} {l n : List α} {j q : Nat} (h : j + n.length ≤ l.length) : (over l j n)[q]? = if q < j then l[q]? else if q < j + n.length then n[q - j]? else l[q]? := by
  unfold over
  have hAl : (l.take j).length = j := by simp; omega
  by_cases h1 : q < j
  · rw [if_pos h1, List.append_assoc, List.getElem?_append_left (by omega), List.getElem?_take, if_pos h1]
  · rw [if_neg h1]
    by_cases h2 : q < j + n.length
    · rw [if_pos h2, List.append_assoc, List.getElem?_append_right (by omega), hAl, List.getElem?_append_left (by omega)]
    · rw [if_neg h2, List.getElem?_append_right (by rw [List.length_append, hAl]; omega), List.length_append, hAl, List.getElem?_drop]
      rw [show j + n.length + (q - (j + n.length)) = q from by omega]

theorem own_store (hW : WR G B I₀ w₀ I μ w ρ h) (hO : OwnR B I μ w ρ o) (hop : ∀ x, SR I μ w ρ (opd fr x) (a.eval x)) {t : TypeId} {x y : Operand} (ho : op.op = .store t x y)
    (hs : ownOp P G fr h o (.store t x y) = some (cs, s, o')) (hc : ∀ c ∈ cs, c.eval ρ = some (.b true)) : GoesO G B I₀ w₀ I μ w ρ h ((execOp a.eval op).run P w) s o' := by
  simp only [ownOp] at hs
  split at hs
  · rename_i k ix sz j g ls n hx hy hn
    split at hs
    · rename_i tk es hk hes
      split at hs
      · rename_i hcond
        obtain ⟨hlen, hle⟩ := hcond
        simp only [Option.some.injEq, Prod.mk.injEq] at hs
        obtain ⟨rfl, rfl, rfl⟩ := hs
        have hvx := hop x
        rw [hx] at hvx
        obtain ⟨z, len, cap, kk, m, hmu, hdi, h0, hlt, hp⟩ := l?_sound (l := .ge k ix sz j) rfl hvx
        have hk' := live?_some hk
        obtain ⟨v', s', rows, hv', ht', hV⟩ := hO.live k _ hk'
        rw [hmu] at hv'
        cases hv'
        obtain ⟨rfl, _, hml⟩ := mkInb_sound ht' hdi hc
        obtain ⟨m, rfl⟩ := Int.eq_ofNat_of_zero_le h0
        have hml : m < rows.length := by omega
        have hyv := hop y
        rw [hy] at hyv
        obtain ⟨vs, hcl, hvs⟩ := VR.cells (g := g) hyv
        rw [exLs_get hes] at hvs
        obtain ⟨ds, hds, hdr⟩ := lsR_evals hvs
        have hvl : vs.length = n := by rw [← hdr.length, ← evals_length hds]; have := congrArg List.length (exLs_get hes); simp at this; omega
        have hdl : ds.length = n := by rw [hdr.length]; exact hvl
        rcases hV.2 with ⟨he, _⟩ | ⟨z', cap', cur, ty, hsl, h1, h2, h3, h4, h5, h6, h7, h8⟩
        · cases he
        · simp only [Value.slice.injEq, Option.some.injEq, Addr.mk.injEq, and_true, true_and] at hsl
          obtain ⟨rfl, e1, e2⟩ := hsl
          subst e2
          have hr := List.getElem?_eq_getElem hml
          have hrl := hV.1 _ (List.getElem_mem hml)
          have hms : (m + 1) * s' ≤ cap * s' := Nat.mul_le_mul_right _ (by omega)
          rw [Nat.succ_mul] at hms
          have hrun := run_storeCells_at (P := P) z (m * s' + j) ty vs 0 cur w h3 (by omega) (fun u hu => by
            obtain ⟨q, hq⟩ := List.getElem?_of_mem hu
            obtain ⟨d, _, hd⟩ := hdr.get' hq
            exact hd.one)
          simp only [Nat.add_zero] at hrun
          generalize hnew : (cur.toList.take (m * s' + j) ++ vs ++ cur.toList.drop (m * s' + j + vs.length)).toArray = new at hrun
          have hnl : new.size = cur.size := by
            rw [← hnew]
            simp only [List.size_toArray, List.length_append, List.length_take, List.length_drop, Array.length_toList]
            omega
          have hg : w.grownBy (w.setRow z new) (some z) := ⟨rfl, rfl, rfl, by simp [World.setRow], fun q _ hq => setRow_other w z q _ (fun e => hq (by rw [e]))⟩
          have hnI : ∀ y, I y → (w.setRow z new).heap[y]? = w.heap[y]? := fun y hy => setRow_other w z y _ (fun e => h8 (e ▸ hy))
          have hget : ∀ q, new[q]? = if q < m * s' + j then cur[q]? else if q < m * s' + j + vs.length then vs[q - (m * s' + j)]? else cur[q]? := by
            intro q
            rw [← hnew]
            have hmin : min (m * s' + j) cur.size = m * s' + j := by omega
            have hAl : (cur.toList.take (m * s' + j)).length = m * s' + j := by simp; omega
            rw [List.getElem?_toArray]
            by_cases h1 : q < m * s' + j
            · rw [if_pos h1, List.append_assoc, List.getElem?_append_left (by omega), List.getElem?_take, if_pos h1]
              simp
            · rw [if_neg h1]
              by_cases h2 : q < m * s' + j + vs.length
              · rw [if_pos h2, List.append_assoc, List.getElem?_append_right (by omega), hAl, List.getElem?_append_left (by omega)]
              · rw [if_neg h2, List.getElem?_append_right (by rw [List.length_append, hAl]; omega), List.length_append, hAl, List.getElem?_drop]
                rw [show m * s' + j + vs.length + (q - (m * s' + j + vs.length)) = q from by omega]
                simp
          have hV' : OwnV B I (w.setRow z new) s' (rows.set m (over rows[m] j ds)) (.slice (some ⟨z, 0, none⟩) len cap) := by
            refine ⟨fun r hr' => ?_, .inr ⟨z, cap, new, ty, by simp [e1], h1, h2, setRow_heap w z cur _ ty _ h3, by simpa using h4, h5, by rw [hnl]; exact h6, fun i r q d hi hq => ?_, h8⟩⟩
            · rcases List.mem_or_eq_of_mem_set hr' with h | h
              · exact hV.1 r h
              · rw [h, over_length (by omega)]; exact hrl
            · by_cases him : m = i
              · subst him
                rw [List.getElem?_set_self hml] at hi
                cases hi
                rw [over_get (by omega)] at hq
                by_cases hq1 : q < j
                · rw [if_pos hq1] at hq
                  obtain ⟨u, hu, hd⟩ := h7 m _ q d hr hq
                  refine ⟨u, ?_, hd.mono (fun _ h => h) hnI⟩
                  rw [hget, if_pos (by omega)]
                  exact hu
                · rw [if_neg hq1] at hq
                  by_cases hq2 : q < j + ds.length
                  · rw [if_pos hq2] at hq
                    obtain ⟨u, hu, hd⟩ := hdr.get hq
                    refine ⟨u, ?_, hd.mono (fun _ h => h) hnI⟩
                    rw [hget, if_neg (by omega), if_pos (by omega)]
                    rw [show m * s' + q - (m * s' + j) = q - j from by omega]
                    exact hu
                  · rw [if_neg hq2] at hq
                    obtain ⟨u, hu, hd⟩ := h7 m _ q d hr hq
                    refine ⟨u, ?_, hd.mono (fun _ h => h) hnI⟩
                    rw [hget, if_neg (by omega), if_neg (by omega)]
                    exact hu
              · rw [List.getElem?_set_ne him] at hi
                obtain ⟨u, hu, hd⟩ := h7 i r q d hi hq
                refine ⟨u, ?_, hd.mono (fun _ h => h) hnI⟩
                have hql : q < s' := by have := (List.getElem?_eq_some_iff.1 hq).1; rw [hV.1 r (List.mem_of_getElem? hi)] at this; exact this
                rw [hget]
                rcases Nat.lt_or_ge i m with hlt | hge
                · have : (i + 1) * s' ≤ m * s' := Nat.mul_le_mul_right _ hlt
                  rw [Nat.succ_mul] at this
                  rw [if_pos (by omega)]
                  exact hu
                · have : (m + 1) * s' ≤ i * s' := Nat.mul_le_mul_right _ (by omega)
                  rw [Nat.succ_mul] at this
                  rw [if_neg (by omega), if_neg (by omega)]
                  exact hu
          obtain ⟨hW', he, hO'⟩ := hO.write hW hk' hmu rfl hg hV' (t' := .put tk ix j es) (by
            simp only [Ex.eval, ht', hdi, hds, putD]
            rw [if_pos (by omega)]
            simp only [Int.toNat_natCast, hr]
            rw [if_pos (by omega)])
          refine ⟨.skip, undef, _, μ, ?_, .inr ⟨rfl, rfl⟩, trivial, hW', he, hO'⟩
          simp [execOp, ho, Instr.storeAt, Instr.sureAddr, hp, storeVar, hcl, run_sizeT hn, hrun, hvl]
      · cases hs
    · cases hs
  · cases hs

/-- what stands behind a slice's first elements -/
theorem own_from (hW : WR G B I₀ w₀ I μ w ρ h) (hO : OwnR B I μ w ρ o) (hop : ∀ x, SR I μ w ρ (opd fr x) (a.eval x)) {t : TypeId} {x y : Operand} (ho : op.op = .slice t x (some y) none none)
    (hs : ownOp P G fr h o (.slice t x (some y) none none) = some (cs, s, o')) (hc : ∀ c ∈ cs, c.eval ρ = some (.b true)) : GoesO G B I₀ w₀ I μ w ρ h ((execOp a.eval op).run P w) s o' := by
  simp only [ownOp] at hs
  split at hs
  · rename_i el k ix hu hx hy
    split at hs
    · rename_i sz t1 hsz hk
      split at hs
      · rename_i hpos
        simp only [Option.some.injEq, Prod.mk.injEq] at hs
        obtain ⟨rfl, rfl, rfl⟩ := hs
        have hv := hop x
        rw [hx] at hv
        obtain ⟨b, ll, cc, hb, hv'⟩ := l?_sound (l := .g k) rfl hv
        obtain ⟨v', s', rows, hv2, ht', hV⟩ := hO.live k _ (live?_some hk)
        rw [hv'] at hv2
        cases hv2
        obtain ⟨b', c', hsl⟩ := hV.slice
        rw [hb] at hsl
        cases hsl
        obtain ⟨di, hdi, hri⟩ := e?_sound hy (hop y)
        obtain ⟨kk, m, k', b2, k'', c2, h1, h2, h3, h4, h5, h6⟩ := bnd_sound (hc _ (List.mem_singleton.2 rfl))
        rw [hdi] at h1
        cases h1
        rw [mkLenO_eval ht'] at h2
        cases h2
        obtain ⟨m, rfl⟩ := Int.eq_ofNat_of_zero_le h4
        have hcap : rows.length ≤ cc := by
          rcases hV.2 with ⟨e, hr⟩ | ⟨x', cap, cur, ty, e, _, _, _, hle, _⟩
          · rw [hr]; simp
          · rw [hb] at e; cases e; exact hle
        have hrun := run_slicePart (w := w) (P := P) (a := a) (o := op) (l := m) (m := rows.length) hu hsz ho hb (.inr ⟨y, kk, rfl, hri.i_inv⟩) (.inl ⟨rfl, rfl⟩) (by omega) hcap
        refine GoesO.quiet hW hO hrun ⟨_, rfl, b, rows.length, cc, kk, (m : Int), _, _, by rw [hv', hb], hdi, h4, h5, rfl, fun hlt => ?_⟩
        rcases hV.2 with ⟨_, hr⟩ | ⟨x', cap, cur, ty, e, _, _, _, hle, _⟩
        · rw [hr] at hlt; simp at hlt; omega
        · rw [hb] at e
          cases e
          refine ⟨x', rfl, ?_⟩
          rw [if_neg (by omega)]
          simp only [Option.map_some, Addr.add]
          split
          · rename_i e
            have e : m * sz = 0 := by simpa using e
            rw [Int.toNat_natCast, e]
          · simp
      · cases hs
    · cases hs
  · cases hs

/-- a slice's first elements -/
theorem own_upto (hW : WR G B I₀ w₀ I μ w ρ h) (hO : OwnR B I μ w ρ o) (hop : ∀ x, SR I μ w ρ (opd fr x) (a.eval x)) {t : TypeId} {x y : Operand} (ho : op.op = .slice t x none (some y) none)
    (hs : ownOp P G fr h o (.slice t x none (some y) none) = some (cs, s, o')) (hc : ∀ c ∈ cs, c.eval ρ = some (.b true)) : GoesO G B I₀ w₀ I μ w ρ h ((execOp a.eval op).run P w) s o' := by
  simp only [ownOp] at hs
  split at hs
  · rename_i el k ix hu hx hy
    split at hs
    · rename_i sz t1 hsz hk
      simp only [Option.some.injEq, Prod.mk.injEq] at hs
      obtain ⟨rfl, rfl, rfl⟩ := hs
      have hk' := live?_some hk
      have hv := hop x
      rw [hx] at hv
      obtain ⟨b, ll, cc, hb, hv'⟩ := l?_sound (l := .g k) rfl hv
      obtain ⟨v', s', rows, hv2, ht', hV⟩ := hO.live k _ hk'
      rw [hv'] at hv2
      cases hv2
      obtain ⟨b', c', hsl⟩ := hV.slice
      rw [hb] at hsl
      cases hsl
      obtain ⟨di, hdi, hri⟩ := e?_sound hy (hop y)
      obtain ⟨kk, m0, k', m, k'', c2, h1, h2, h3, h4, h5, h6⟩ := bnd_sound (hc _ (List.mem_singleton.2 rfl))
      rw [hdi] at h2
      cases h2
      rw [mkLenO_eval ht'] at h3
      cases h3
      simp only [litN, Ex.eval, Option.some.injEq, D.i.injEq] at h1
      obtain ⟨rfl, rfl⟩ := h1
      obtain ⟨m, rfl⟩ := Int.eq_ofNat_of_zero_le (Int.le_trans h4 h5)
      have hm : m ≤ rows.length := by omega
      have hcap : rows.length ≤ cc := by
        rcases hV.2 with ⟨e, hr⟩ | ⟨x', cap, cur, ty, e, _, _, _, hle, _⟩
        · rw [hr]; simp
        · rw [hb] at e; cases e; exact hle
      have hrun := run_slicePart (w := w) (P := P) (a := a) (o := op) (l := 0) (m := m) hu hsz ho hb (.inl ⟨rfl, rfl⟩) (.inr ⟨y, k', rfl, hri.i_inv⟩) (by omega) (by omega)
      have hz : (if cc = 0 then b else b.map (·.add (0 * sz))) = b := by
        split
        · rfl
        · cases b with
          | none => rfl
          | some ad => simp [Addr.add]
      rw [hz] at hrun
      simp only [Nat.sub_zero] at hrun
      have hV' : OwnV B I w s' (rows.take m) (.slice b m cc) := by
        refine ⟨fun r hr => hV.1 r (List.mem_of_mem_take hr), ?_⟩
        rcases hV.2 with ⟨e, hr⟩ | ⟨x', cap, cur, ty, e, g1, g2, g3, g4, g5, g6, g7, g8⟩
        · rw [hb] at e
          subst hr
          obtain rfl : m = 0 := by simpa using hm
          simp only [List.length_nil] at e
          cases e
          exact .inl ⟨rfl, rfl⟩
        · rw [hb] at e
          cases e
          refine .inr ⟨x', cc, cur, ty, ?_, g1, g2, g3, ?_, g5, g6, fun i r j d hi hj => ?_, g8⟩
          · rw [List.length_take, Nat.min_eq_left hm]
          · rw [List.length_take]; omega
          · rw [List.getElem?_take] at hi
            split at hi
            · exact g7 i r j d hi hj
            · cases hi
      have hown : (a.eval x).ownBlock = (Value.slice b m cc).ownBlock := by rw [hb]; cases b with | none => rfl | some ad => obtain ⟨_, _, _⟩ := ad; rfl
      obtain ⟨hW', he, hO'⟩ := hO.push (o1 := o.set k ⟨t1, .dead⟩) (row := (a.eval x).ownBlock) (w' := w) (v' := .slice b m cc) (t' := .sub t1 (litN 0) ix) hW (by simp) (fun k2 t2 hk2 => by
          by_cases hkk : k = k2
          · subst hkk
            rw [List.getElem?_set_self (by exact (List.getElem?_eq_some_iff.1 hk').1)] at hk2
            cases hk2
          · rw [List.getElem?_set_ne hkk] at hk2
            exact ⟨hk2, fun v z hvk hz hz' => (hO.dis k _ _ z hk' hv' hz').2 k2 t2 v (fun e => hkk e.symm) hk2 hvk hz⟩)
        (fun k2 t2 hk2 => by
          by_cases hkk : k = k2
          · subst hkk
            rw [List.getElem?_set_self (by exact (List.getElem?_eq_some_iff.1 hk').1)] at hk2
            cases hk2
          · rw [List.getElem?_set_ne hkk] at hk2
            exact hk2)
        (fun z hz => ⟨k, _, _, hk', hv', hz⟩) ⟨rfl, rfl, Nat.le_refl _, fun _ _ _ => rfl⟩ hV' (fun z hz => .inl (by rw [hown]; exact hz)) (by
          simp only [Ex.eval, ht', litN, hdi, subD]
          rw [if_pos ⟨Int.le_refl _, h5, h6⟩]
          simp)
      exact ⟨_, _, w, _, hrun, .inl rfl, push_sr, hW', he, hO'⟩
    · cases hs
  · cases hs

/-- zeros behind a slice's first elements -/
theorem own_clear (hW : WR G B I₀ w₀ I μ w ρ h) (hO : OwnR B I μ w ρ o) (hop : ∀ x, SR I μ w ρ (opd fr x) (a.eval x)) {args : Array Operand} {tys : Array TypeId} (ho : op.op = .call { callee := .builtin .clear, args := args, argTypes := tys })
    (hs : ownOp P G fr h o (.call { callee := .builtin .clear, args := args, argTypes := tys }) = some (cs, s, o')) (hc : ∀ c ∈ cs, c.eval ρ = some (.b true)) : GoesO G B I₀ w₀ I μ w ρ h ((execOp a.eval op).run P w) s o' := by
  simp only [ownOp] at hs
  split at hs
  · rename_i x t hargs htys
    split at hs
    · rename_i el k sz lo hu hx
      split at hs
      · rename_i z t1 hz hk
        split at hs
        · rename_i hzl
          split at hs
          · rename_i es hes
            simp only [Option.some.injEq, Prod.mk.injEq] at hs
            obtain ⟨rfl, rfl, rfl⟩ := hs
            have ha : args = #[x] := by rw [← Array.toList_inj, hargs]
            have ht : tys = #[t] := by rw [← Array.toList_inj, htys]
            subst ha
            subst ht
            have hk' := live?_some hk
            have hv := hop x
            rw [hx] at hv
            obtain ⟨b, n, cap, kk, m, p, c, hmu, hlo, h0, hmn, hp, hlt⟩ := l?_sound (l := .gs k sz lo) rfl hv
            obtain ⟨v', s', rows, hv2, ht', hV⟩ := hO.live k _ hk'
            rw [hmu] at hv2
            cases hv2
            obtain ⟨b', c', hsl⟩ := hV.slice
            cases hsl
            obtain ⟨m, rfl⟩ := Int.eq_ofNat_of_zero_le h0
            have hmn : m ≤ rows.length := by omega
            obtain ⟨k1, q1, k2, q2, k3, q3, g1, g2, g3, g4, g5, g6⟩ := bnd_sound (hc _ (List.mem_cons_self ..))
            have hkk : kk = .i64 := by
              simp only [Ex.eval, mkLenO_eval ht', hlo, binD] at g2
              split at g2
              · rename_i e; exact e.symm
              · cases g2
            subst hkk
            have hlen : rows.length ≤ maxLen := by
              rcases hV.2 with ⟨_, hr⟩ | ⟨x', cap', cur, ty, e, _, _, _, hle, hml, _⟩
              · rw [hr]; exact Nat.zero_le _
              · omega
            have hsub : (Ex.bin .sub (mkLenO t1) lo).eval ρ = some (.i .i64 ((rows.length - m : Nat) : Int)) := by
              simp only [Ex.eval, mkLenO_eval ht', hlo, binD, if_true]
              have e : (rows.length : Int) - (m : Int) = ((rows.length - m : Nat) : Int) := by omega
              rw [e]
              congr 2
              exact IntWalk.i64_in _ ⟨by omega, by unfold maxLen at hlen; omega⟩
            obtain ⟨zi, zv, hi, hzv, hzs, hzc⟩ := zeroT_info hz
            have hzs' := constLs_sound (I := I) (μ := μ) (w := w) (ρ := ρ) hzc
            rw [exLs_get hes] at hzs'
            obtain ⟨ds, hds, hdr⟩ := lsR_evals hzs'
            have hdl : ds.length = sz := by rw [hdr.length]; simp; omega
            have hmk : (Ex.mk (.bin .sub (mkLenO t1) lo) es).eval ρ = some (.sl ds.length (List.replicate (rows.length - m) ds)) := by
              simp only [Ex.eval] at hsub ⊢
              rw [hsub, hds]
              simp
            have hsubl : (Ex.sub t1 (litN 0) lo).eval ρ = some (.sl s' (rows.take m)) := by
              simp only [Ex.eval, ht', litN, hlo, subD]
              rw [if_pos ⟨Int.le_refl _, by omega, by omega⟩]
              simp
            obtain ⟨k4, q4, r1, r2, _⟩ := room_sound (hc _ (List.mem_cons_of_mem _ (List.mem_cons_self ..)))
            have happ : ∃ d, (Ex.app sz (.sub t1 (litN 0) lo) (.mk (.bin .sub (mkLenO t1) lo) es)).eval ρ = some d := by
              generalize (Ex.app sz (.sub t1 (litN 0) lo) (.mk (.bin .sub (mkLenO t1) lo) es)) = X at r1
              simp only [Ex.eval] at r1
              split at r1
              · rename_i hX; exact ⟨_, hX⟩
              · cases r1
            obtain ⟨d, hd⟩ := happ
            obtain ⟨s1, xs1, s2, ys1, f1, f2, f3, f4, rfl⟩ := app_sound hd
            rw [hsubl] at f1
            cases f1
            rw [hmk] at f2
            cases f2
            by_cases hml : m < rows.length
            · -- some are written
              obtain ⟨x', rfl, rfl⟩ := hlt (by omega)
              rcases hV.2 with ⟨e, _⟩ | ⟨x2, cap2, cur, ty, e, e1, e2, e3, e4, e5, e6, e7, e8⟩
              · cases e
              cases e
              have hs' : s' = sz := by
                rcases f3 with h | ⟨h, _⟩
                · exact h
                · omega
              subst hs'
              obtain ⟨q, hq⟩ : ∃ q, rows.length - m = q + 1 := ⟨rows.length - m - 1, by omega⟩
              have hne : (List.replicate (rows.length - m) ds).isEmpty = false := by rw [hq]; rfl
              rw [hne] at hd
              simp only [Bool.false_eq_true, if_false] at hd
              have hL : (Builtin.zeroCells zv.cells (rows.length - m)).toList = (List.replicate (rows.length - m) zv.cells.toList).flatten := zeros_list zv.cells _
              have hzl' : zv.cells.toList.length = s' := by simp; omega
              have hLl : (List.replicate (rows.length - m) zv.cells.toList).flatten.length = (rows.length - m) * s' := by
                simp [hzl']
              have hsz2 : m * s' + (rows.length - m) * s' = rows.length * s' := by rw [← Nat.add_mul]; congr 1; omega
              have hcs : rows.length * s' ≤ cap * s' := Nat.mul_le_mul_right _ e4
              have hst := run_storeCells_at (P := P) x' (m * s') ty ((List.replicate (rows.length - m) zv.cells.toList).flatten) 0 cur w e3 (by rw [hLl]; omega) (fun u hu => by
                obtain ⟨l, hl, hul⟩ := List.mem_flatten.1 hu
                rw [(List.mem_replicate.1 hl).2] at hul
                obtain ⟨qq, hqq⟩ := List.getElem?_of_mem hul
                obtain ⟨d, _, hd⟩ := hdr.get' hqq
                exact hd.one)
              simp only [Nat.add_zero] at hst
              generalize hnew : (cur.toList.take (m * s') ++ (List.replicate (rows.length - m) zv.cells.toList).flatten ++ cur.toList.drop (m * s' + (List.replicate (rows.length - m) zv.cells.toList).flatten.length)).toArray = new at hst
              have hnl : new.size = cur.size := by
                rw [← hnew]
                simp only [List.size_toArray, List.length_append, List.length_take, List.length_drop, Array.length_toList, hLl]
                omega
              have hget : ∀ q, new[q]? = if q < m * s' then cur[q]? else if q < m * s' + (rows.length - m) * s' then (List.replicate (rows.length - m) zv.cells.toList).flatten[q - m * s']? else cur[q]? := by
                intro q
                rw [← hnew]
                have hAl : (cur.toList.take (m * s')).length = m * s' := by simp; omega
                rw [List.getElem?_toArray]
                by_cases h1 : q < m * s'
                · rw [if_pos h1, List.append_assoc, List.getElem?_append_left (by omega), List.getElem?_take, if_pos h1]
                  simp
                · rw [if_neg h1]
                  by_cases h2 : q < m * s' + (rows.length - m) * s'
                  · rw [if_pos h2, List.append_assoc, List.getElem?_append_right (by omega), hAl, List.getElem?_append_left (by rw [hLl]; omega)]
                  · rw [if_neg h2, List.getElem?_append_right (by rw [List.length_append, hAl, hLl]; omega), List.length_append, hAl, hLl, List.getElem?_drop]
                    rw [show m * s' + (rows.length - m) * s' + (q - (m * s' + (rows.length - m) * s')) = q from by omega]
                    simp
              have hg : w.grownBy (w.setRow x' new) (some x') := ⟨rfl, rfl, rfl, by simp [World.setRow], fun q _ hq => setRow_other w x' q _ (fun e => hq (by rw [e]))⟩
              have hnI : ∀ y, I y → (w.setRow x' new).heap[y]? = w.heap[y]? := fun y hy => setRow_other w x' y _ (fun e => e8 (e ▸ hy))
              have htl : (rows.take m).length = m := by rw [List.length_take]; omega
              have hV' : OwnV B I (w.setRow x' new) s' (rows.take m ++ List.replicate (rows.length - m) ds) (.slice (some ⟨x', 0, none⟩) rows.length cap) := by
                have hll : (rows.take m ++ List.replicate (rows.length - m) ds).length = rows.length := by rw [List.length_append, htl, List.length_replicate]; omega
                refine ⟨fun r hr => ?_, .inr ⟨x', cap, new, ty, by rw [hll], e1, e2, setRow_heap w x' cur _ ty _ e3, by rw [hll]; exact e4, e5, by rw [hnl]; exact e6, fun i r j d hi hj => ?_, e8⟩⟩
                · rcases List.mem_append.1 hr with h | h
                  · exact hV.1 r (List.mem_of_mem_take h)
                  · rw [(List.mem_replicate.1 h).2]; exact hdl
                · by_cases him : i < m
                  · rw [List.getElem?_append_left (by omega), List.getElem?_take, if_pos him] at hi
                    obtain ⟨u, hu, hd⟩ := e7 i r j d hi hj
                    refine ⟨u, ?_, hd.mono (fun _ h => h) hnI⟩
                    have hjl : j < s' := by have := (List.getElem?_eq_some_iff.1 hj).1; rw [hV.1 r (List.mem_of_getElem? hi)] at this; exact this
                    have : (i + 1) * s' ≤ m * s' := Nat.mul_le_mul_right _ him
                    rw [Nat.succ_mul] at this
                    rw [hget, if_pos (by omega)]
                    exact hu
                  · rw [List.getElem?_append_right (by omega), htl, List.getElem?_replicate] at hi
                    split at hi
                    · rename_i hil
                      cases hi
                      obtain ⟨u, hu, hd⟩ := hdr.get hj
                      refine ⟨u, ?_, hd.mono (fun _ h => h) hnI⟩
                      have hjl : j < s' := by have := (List.getElem?_eq_some_iff.1 hj).1; omega
                      have h1 : m * s' ≤ i * s' := Nat.mul_le_mul_right _ (by omega)
                      have h2 : (i - m + 1) * s' ≤ (rows.length - m) * s' := Nat.mul_le_mul_right _ (by omega)
                      have h3 : i * s' = m * s' + (i - m) * s' := by rw [← Nat.add_mul]; congr 1; omega
                      rw [Nat.succ_mul] at h2
                      rw [hget, if_neg (by omega), if_pos (by omega), flat_rep, hzl']
                      rw [if_pos (by omega)]
                      rw [show i * s' + j - m * s' = (i - m) * s' + j by omega]
                      have : ((i - m) * s' + j) % s' = j := by rw [Nat.mul_comm, Nat.mul_add_mod, Nat.mod_eq_of_lt hjl]
                      rw [this]
                      exact hu
                    · cases hi
              obtain ⟨hW', he, hO'⟩ := hO.write hW hk' hmu rfl hg hV' hd
              refine ⟨.value (.tuple #[]), .tuple #[], _, μ, ?_, .inl rfl, trivial, hW', he, hO'⟩
              simp only [Int.toNat_natCast] at hp
              rw [hq] at hp hL hst
              rw [← hL] at hst
              have hzr : ∀ w : World, (zeroValue el).run P w = .ok zv w := fun w => by simp [zeroValue, typeInfo, hi, hzv]
              simp [execOp, ho, resolve, invoke, builtin, hp, Builtin.clear_, run_underlying hu, hzr, hst]
            · -- none is
              obtain rfl : m = rows.length := by omega
              have hrun : (execOp a.eval op).run P w = .ok (.value (.tuple #[])) w := by
                simp only [Int.toNat_natCast, Nat.sub_self] at hp
                cases p with
                | none => simp [execOp, ho, resolve, invoke, builtin, hp, Builtin.clear_, run_underlying hu]
                | some ad => simp [execOp, ho, resolve, invoke, builtin, hp, Builtin.clear_, run_underlying hu]
              have hd' : (Ex.app sz (.sub t1 (litN 0) lo) (.mk (.bin .sub (mkLenO t1) lo) es)).eval ρ = some (.sl s' rows) := by
                rw [hd]
                simp
              obtain ⟨hW', he, hO'⟩ : WR G B I₀ w₀ I μ w ρ h ∧ Evo I μ w I μ w ∧ OwnR B I μ w ρ (o.set k ⟨.app sz (.sub t1 (litN 0) lo) (.mk (.bin .sub (mkLenO t1) lo) es), .live⟩) := by
                refine ⟨hW, Evo.refl _ _ _, fun k2 t2 hk2 => ?_, fun k2 t2 hk2 => ?_, fun k2 t2 v x hk2 hv2 hx2 => ?_, fun k2 hk2 => hO.new k2 (by simpa using hk2)⟩
                · by_cases hkk : k = k2
                  · subst hkk
                    rw [List.getElem?_set_self (by exact (List.getElem?_eq_some_iff.1 hk').1)] at hk2
                    cases hk2
                    exact ⟨_, s', rows, hmu, hd', hV⟩
                  · rw [List.getElem?_set_ne hkk] at hk2
                    exact hO.live k2 t2 hk2
                · by_cases hkk : k = k2
                  · subst hkk
                    rw [List.getElem?_set_self (by exact (List.getElem?_eq_some_iff.1 hk').1)] at hk2
                    cases hk2
                  · rw [List.getElem?_set_ne hkk] at hk2
                    exact hO.frozen k2 t2 hk2
                · have hold : ∀ {k3 : Nat} {t3 : Ex}, (o.set k ⟨.app sz (.sub t1 (litN 0) lo) (.mk (.bin .sub (mkLenO t1) lo) es), .live⟩)[k3]? = some ⟨t3, .live⟩ → ∃ t4, o[k3]? = some ⟨t4, .live⟩ := by
                    intro k3 t3 hk3
                    by_cases hkk : k = k3
                    · subst hkk; exact ⟨_, hk'⟩
                    · rw [List.getElem?_set_ne hkk] at hk3; exact ⟨_, hk3⟩
                  obtain ⟨t4, hk4⟩ := hold hk2
                  obtain ⟨g1, g2⟩ := hO.dis k2 t4 v x hk4 hv2 hx2
                  refine ⟨g1, fun k5 t5 v5 hne hk5 hv5 => ?_⟩
                  obtain ⟨t6, hk6⟩ := hold hk5
                  exact g2 k5 t6 v5 hne hk6 hv5
              exact ⟨.value (.tuple #[]), .tuple #[], w, μ, hrun, .inl rfl, trivial, hW', he, hO'⟩
          · cases hs
        · cases hs
      · cases hs
    · cases hs
  · cases hs

/-- ALL of them. -/
theorem ownOp_sound (hW : WR G B I₀ w₀ I μ w ρ h) (hO : OwnR B I μ w ρ o) (hop : ∀ x, SR I μ w ρ (opd fr x) (a.eval x)) (hs : ownOp P G fr h o op.op = some (cs, s, o')) (hc : ∀ c ∈ cs, c.eval ρ = some (.b true)) :
    GoesO G B I₀ w₀ I μ w ρ h ((execOp a.eval op).run P w) s o' := by
  cases ho : op.op with
  | buildSlice t n parts => exact own_buildSlice hW hO hop ho (ho ▸ hs)
  | makeSlice t x y => exact own_makeSlice hW hO hop ho (ho ▸ hs) hc
  | indexAddr t x y => exact own_indexAddr hW hO hop ho (ho ▸ hs) hc
  | load t x => exact own_load hW hO hop ho (ho ▸ hs) hc
  | store t x y => exact own_store hW hO hop ho (ho ▸ hs) hc
  | slice t x lo hi mx =>
    rw [ho] at hs
    cases mx with
    | some _ => cases lo <;> cases hi <;> simp [ownOp] at hs
    | none =>
      cases lo with
      | some lo => cases hi with
        | some _ => simp [ownOp] at hs
        | none => exact own_from hW hO hop ho hs hc
      | none =>
        cases hi with
        | some hi => exact own_upto hW hO hop ho hs hc
        | none =>
          simp only [ownOp] at hs
          split at hs
          · rename_i el k hu hx
            split at hs
            · rename_i n tk hn hk
              simp only [Option.some.injEq, Prod.mk.injEq] at hs
              obtain ⟨rfl, rfl, rfl⟩ := hs
              have hv := hop x
              rw [hx] at hv
              obtain ⟨b, ll, cc, hb, hv'⟩ := l?_sound (l := .g k) rfl hv
              have hrun : (execOp a.eval op).run P w = .ok (.value (.slice b ll cc)) w := by
                have hz : (if cc = 0 then b else b.map (·.add (0 * n))) = b := by
                  split
                  · rfl
                  · cases b with
                    | none => rfl
                    | some ad => simp [Addr.add]
                simp [execOp, ho, Instr.sliceAt, Instr.slice, run_underlying hu, hb, run_sliceBounds_none, run_sizeT hn]
                simpa using hz
              exact GoesO.quiet hW hO hrun ⟨_, rfl, b, ll, cc, rfl, hb ▸ hv'⟩
            · cases hs
          · cases hs
  | call c =>
    obtain ⟨callee, args, tys⟩ := c
    rw [ho] at hs
    cases callee with
    | value f => simp [ownOp] at hs
    | invoke r m => simp [ownOp] at hs
    | builtin bb =>
      cases bb <;> first | exact own_append hW hO hop ho hs hc | exact own_clear hW hO hop ho hs hc | skip
      case len =>
        simp only [ownOp] at hs
        split at hs
        · rename_i x t hargs ht
          split at hs
          · rename_i el k hu hx
            split at hs
            · rename_i tk hk
              simp only [Option.some.injEq, Prod.mk.injEq] at hs
              obtain ⟨rfl, rfl, rfl⟩ := hs
              have hv := hop x
              rw [hx] at hv
              obtain ⟨b, ll, cc, hb, hv'⟩ := l?_sound (l := .g k) rfl hv
              obtain ⟨v', s', rows, hv2, ht', hV⟩ := hO.live k _ (live?_some hk)
              rw [hv'] at hv2
              cases hv2
              obtain ⟨b', c', hsl⟩ := hV.slice
              rw [hb] at hsl
              simp only [Value.slice.injEq] at hsl
              obtain ⟨rfl, rfl, rfl⟩ := hsl
              have ha : args = #[x] := by rw [← Array.toList_inj, hargs]
              subst ha
              refine GoesO.quiet hW hO (v := goInt rows.length) ?_ ⟨_, rfl, _, mkLenO_eval ht', .i _ _⟩
              simp [execOp, ho, resolve, invoke, builtin, hb, Builtin.len_, ht, run_underlying hu]
            · cases hs
          · cases hs
        · cases hs
      all_goals simp [ownOp] at hs
  | _ => rw [ho] at hs; simp [ownOp] at hs

end
end Go.Proofs.Ytffahdloddkcfaa.Sx
