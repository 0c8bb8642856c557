/-
  From a function's contract at all data of its parameters' types to what a law's row asks of its call.
-/
import Derived.Test.YtffahdloddkcfaaLit
import GoSem.ClaimSeven
namespace Go.Proofs.Ytffahdloddkcfaa.Sx
open Go Go.ChangeShapes Go.WideShapes Go.RowKit
set_option linter.unnecessarySimpa false
set_option linter.unusedSimpArgs false
set_option linter.unusedVariables false

/-- A parameter: is it a struct or an array, and its leaves' types. -/
abbrev ArgTy := Bool × List LT

def isAgg (P : Program) (t : TypeId) : Bool :=
  match P.underlying t with
  | some (.struct _) | some (.array _ _) => true
  | _ => false

def argTys (P : Program) (m : Nat) : List TypeId → Option (List ArgTy)
  | [] => some []
  | t :: r => match leafTys P m t, argTys P m r with
    | some ls, some l => some ((isAgg P t, ls) :: l)
    | _, _ => none

/-- A parameter's data. -/
structure IsArg (a : ArgTy) (v : DV) : Prop where
  agg : v.1 = a.1
  tys : All2 HasTy a.2 v.2

section
variable {H : Type} {enc : TypeId × Value → H} {P : Program} {W : World} {base : Nat} {spare : Nat → Bool} {held : Bool}

theorem leafTys_one {m : Nat} {t : TypeId} {ls : List LT} (h : leafTys P m t = some ls) (hn : isAgg P t = false) : ls.length = 1 := by
  cases m with
  | zero => simp [leafTys] at h
  | succ m =>
    unfold leafTys at h
    unfold isAgg at hn
    split at h <;> simp_all
    · subst h; rfl
    · subst h; rfl
    · split at h <;> simp_all
      obtain ⟨_, rfl⟩ := h
      rfl

theorem dvr_of {m : Nat} {t : TypeId} {ls : List LT} {v : Value} {d : DataW H} {p : List MemPlace} {b0 : Nat} (hl : leafTys P m t = some ls) (hv : Value.okWide P W .any b0 t v) (hd : DataW.Trod enc P W base spare held t v d p) :
    ∃ dv, DVR (fun x => x < W.heap.size) W dv v ∧ IsArg (isAgg P t, ls) dv := by
  obtain ⟨fuel, hf⟩ := hd
  obtain ⟨ds, h1, h2⟩ := reads_of (I := fun x => x < W.heap.size) (fun _ h => h) m fuel t v.cells.toList _ ls hl hf
  refine ⟨(isAgg P t, ds), ?_, rfl, h2⟩
  unfold DVR
  cases hag : isAgg P t with
  | true =>
    simp only [if_true]
    have hv' : ∃ cs, v = .agg cs := by
      unfold isAgg at hag
      unfold Value.okWide at hv
      split at hag
      · rename_i hu; rw [hu] at hv; obtain ⟨cs, h, _⟩ := hv; exact ⟨cs, h⟩
      · rename_i hu; rw [hu] at hv; obtain ⟨cs, h, _⟩ := hv; exact ⟨cs, h⟩
      · cases hag
    obtain ⟨cs, rfl⟩ := hv'
    exact ⟨cs.toList, by simp, h1⟩
  | false =>
    simp only [Bool.false_eq_true, if_false]
    have hlen := leafTys_one hl hag
    have hdl : ds.length = 1 := by rw [← h2.length, hlen]
    match ds, hdl with
    | [d0], _ =>
      have hvc : v.cells = #[v] := by
        have hne : ∀ cs, v ≠ .agg cs := by
          rintro cs rfl
          unfold isAgg at hag
          unfold Value.okWide at hv
          split at hv
          · rename_i hu; rw [hu] at hag; cases hag
          · rename_i hu; rw [hu] at hag; cases hag
          · unfold Cell.okWide at hv
            split at hv <;> first
              | (rename_i h1 h2; cases h2; done)
              | (rename_i h2; cases h2; done)
              | skip
            unfold Cell.ok at hv
            split at hv <;> first
              | (rename_i h1 h2; cases h2; done)
              | (rename_i h2; cases h2; done)
              | exact hv.elim
        cases v <;> first | rfl | exact absurd rfl (hne _)
      rw [hvc] at h1
      cases h1 with
      | cons h _ => exact ⟨d0, rfl, h⟩

theorem args_of {m b0 : Nat} : ∀ {ts : List TypeId} {vs : List Value} {ds : List (DataW H)} {p : List MemPlace} {tys : List ArgTy}, argTys P m ts = some tys → DataW.TrodAll enc P W base spare held ts vs ds p →
    (∀ (j : Nat) t v, ts[j]? = some t → vs[j]? = some v → Value.okWide P W .any b0 t v) → ∃ as, All2 (DVR (fun x => x < W.heap.size) W) as vs ∧ All2 IsArg tys as
  | [], vs, ds, p, tys, ht, h, _ => by
    obtain ⟨rfl, _, _⟩ := trodAll_nil h
    simp only [argTys, Option.some.injEq] at ht
    subst ht
    exact ⟨[], .nil, .nil⟩
  | t :: ts, vs, ds, p, tys, ht, h, hv => by
    obtain ⟨v, vs', d, ds', p0, q0, rfl, rfl, rfl, h0, hr⟩ := trodAll_cons h
    unfold argTys at ht
    split at ht
    · rename_i ls l hls hl
      cases ht
      obtain ⟨dv, h1, h2⟩ := dvr_of hls (hv 0 t v (by simp) (by simp)) h0
      obtain ⟨as, h3, h4⟩ := args_of hl hr (fun j t v ht hv' => hv (j + 1) t v (by simpa using ht) (by simpa using hv'))
      exact ⟨dv :: as, .cons h1 h3, .cons h2 h4⟩
    · cases ht

theorem sameAt_of {W' : World} (h : ∀ x, x < W.heap.size → W'.heap[x]? = W.heap[x]?) {p : MemPlace} (hp : p.block < W.heap.size) : W.sameAt W' p := by
  cases p with
  | cell b o => simp only [World.sameAt, World.cell?, h b hp]
  | map b => exact h b hp

theorem trodAll_stays {W' : World} {sp : Nat → Bool} (hl : laidOutB P = true) (hsame : ∀ x, x < W.heap.size → W'.heap[x]? = W.heap[x]?) (hsp : ∀ x, x < W.heap.size → sp x = true) :
    ∀ {ts : List TypeId} {vs : List Value} {ds : List (DataW H)} {p : List MemPlace}, (∀ t ∈ ts, P.readableRec t = true ∧ t < P.types.size) → DataW.TrodAll enc P W base (fun _ => true) true ts vs ds p → (∀ q ∈ p, q.block < W.heap.size) →
      DataW.TrodAll enc P W' base sp true ts vs ds p
  | [], vs, ds, p, _, h, _ => by
    obtain ⟨rfl, rfl, rfl⟩ := trodAll_nil h
    exact trodAll_mk0
  | t :: ts, vs, ds, p, ht, h, hp => by
    obtain ⟨v, vs', d, ds', p0, q0, rfl, rfl, rfl, h0, hr⟩ := trodAll_cons h
    obtain ⟨hr1, hr2⟩ := ht t (List.mem_cons_self ..)
    exact trodAll_cons_mk (WideElems.Trod_stays hl hr1 hr2 h0 (fun q hq => sameAt_of hsame (hp q (List.mem_append_left _ hq))) (fun q hq => hsp _ (hp q (List.mem_append_left _ hq))))
      (trodAll_stays hl hsame hsp (fun t' h' => ht t' (List.mem_cons_of_mem _ h')) hr (fun q hq => hp q (List.mem_append_right _ hq)))

theorem keptBut_of {W' : World} (h : ∀ x, x < W.heap.size → W'.heap[x]? = W.heap[x]?) (hw : W'.os = W.os ∧ W'.output = W.output) (may : MemPlace → Prop) : W.keptBut W' may := by
  refine ⟨hw.1, hw.2, fun i hi => ?_⟩
  rw [h i hi]
  split <;> simp_all

theorem trodAll_length2 : ∀ {ts : List TypeId} {vs : List Value} {ds : List (DataW H)} {ps : List MemPlace}, DataW.TrodAll enc P W base spare held ts vs ds ps → ds.length = ts.length
  | [], _, _, _, h => by obtain ⟨_, rfl, _⟩ := trodAll_nil h; rfl
  | _ :: _, _, _, _, h => by
    obtain ⟨v, vs', d, ds', p0, q0, rfl, rfl, rfl, h0, hr⟩ := trodAll_cons h
    simp [trodAll_length2 hr]

/-- THE ROW's CALL. -/
theorem calls_post {G : Glo} {f : FuncId} {fn : Func} {s : ChangeSpec} {m : Nat} {tys : List ArgTy} {tb : TypeId} {apart : Bool} {args : Array Value} {ds gs : List (DataW H)} {before : List MemPlace} {b0 : Nat}
    (hl : laidOutB P = true) (hp' : fn.params.toList.all (fun t => P.readableRec t && decide (t < P.types.size)) = true) (ht : argTys P m fn.params.toList = some tys) (hr : fn.resultTypes = #[tb]) (hb : P.underlying tb = some .bool)
    (hsv : s.vars = []) (hs : ∀ ds : List (DataW H), ds.length = fn.params.toList.length → s.fn H ds = { results := [.lit (.bool true)], args := ds })
    (hcon : ∀ as, All2 IsArg tys as → ConX P G f as [(false, [.b true])])
    (hval : ∀ (j : Nat) t v, fn.params[j]? = some t → args[j]? = some v → Value.okWide P W .any b0 t v)
    (hW : DataW.Whole enc P fn.params.toList s.vars apart W args.toList ds gs before) (hG : GR G (fun x => x < W.heap.size) W) (hf : f < eatOff := by decide) :
    Calls P f args W fun e W' => ∃ v, e = .returned v ∧ s.post enc P fn apart true false false W args v W' := by
  have hp : ∀ t ∈ fn.params.toList, P.readableRec t = true ∧ t < P.types.size := fun t h => by simpa using List.all_eq_true.1 hp' t h
  have hW' := hW
  obtain ⟨p, q, hA, hV, rfl, hfz, hnd⟩ := hW
  rw [hsv] at hV
  obtain ⟨rfl, rfl⟩ := trodVars_none hV
  obtain ⟨as, h1, h2⟩ := args_of ht hA (b0 := b0) (fun j t v h h' => hval j t v (by simpa using h) (by simpa using h'))
  have hcl := (hcon as h2).1 hf (fun x => x < W.heap.size) W args.toList hG (fun _ h => h) h1
  simp only [Array.toArray_toList] at hcl
  refine hcl.mono ?_
  rintro e W' ⟨v, I', rfl, -, -, -, hsame, hsz, hw, hR⟩
  have hv : v = .bool true := by
    simp only [RsR, DVR, Bool.false_eq_true, if_false] at hR
    obtain ⟨d, hd, hr⟩ := hR
    cases hd
    cases hr
    rfl
  subst hv
  have hlen : ds.length = fn.params.toList.length := (trodAll_length2 hA)
  refine ⟨_, rfl, ds, [], p ++ [], [], p, [], hW', ?_, ?_, ?_, keptBut_of hsame hw _, fun h => by cases h⟩
  · rw [List.append_nil, hs ds hlen, hr]
    exact trodAll_cons_mk (shut_bool hb _) trodAll_mk0
  · rw [List.append_nil, hs ds hlen]
    exact trodAll_stays hl hsame (fun x hx => by simpa using hx) hp hA (fun q hq => hA.lt q hq)
  · rw [List.append_nil, hs ds hlen, hsv]
    rfl
end

theorem cons_inv {α β : Type} {R : α → β → Prop} {a : α} {as : List α} {bs : List β} (h : All2 R (a :: as) bs) : ∃ b bs', bs = b :: bs' ∧ R a b ∧ All2 R as bs' := by
  cases h with
  | cons h1 h2 => exact ⟨_, _, rfl, h1, h2⟩
theorem nil_inv {α β : Type} {R : α → β → Prop} {bs : List β} (h : All2 R [] bs) : bs = [] := by cases h; rfl
theorem ty_i {k : IntKind} {d : D} (h : HasTy (.i k) d) : ∃ z, (Lit.int k z).wf = true ∧ d = .i k z := by
  cases h with
  | i _ z hz => exact ⟨z, hz, rfl⟩
theorem ty_b {d : D} (h : HasTy .b d) : ∃ x, d = .b x := by
  cases h with
  | b x => exact ⟨x, rfl⟩
theorem arg_i {k : IntKind} {v : DV} (h : IsArg (false, [.i k]) v) : ∃ z, (Lit.int k z).wf = true ∧ v = (false, [.i k z]) := by
  obtain ⟨g, ds⟩ := v
  obtain ⟨rfl, h⟩ := h
  obtain ⟨d, r, rfl, h0, h⟩ := cons_inv h
  obtain rfl := nil_inv h
  obtain ⟨z, hz, rfl⟩ := ty_i h0
  exact ⟨z, hz, rfl⟩
theorem arg_b {v : DV} (h : IsArg (false, [.b]) v) : ∃ x, v = (false, [.b x]) := by
  obtain ⟨g, ds⟩ := v
  obtain ⟨rfl, h⟩ := h
  obtain ⟨d, r, rfl, h0, h⟩ := cons_inv h
  obtain rfl := nil_inv h
  obtain ⟨x, rfl⟩ := ty_b h0
  exact ⟨x, rfl⟩
/-- a slice of numbers -/
theorem ty_ints {k : IntKind} {d : D} (h : HasTy (.sl [.i k]) d) : ∃ zs : List Int, zs.length ≤ maxLen ∧ (∀ z ∈ zs, (Lit.int k z).wf = true) ∧ d = .sl 1 (zs.map fun z => [.i k z]) := by
  cases h with
  | sl _ xs hm hl h =>
    suffices hs : ∃ zs : List Int, (∀ z ∈ zs, (Lit.int k z).wf = true) ∧ xs = zs.map fun z => [.i k z] by
      obtain ⟨zs, h1, rfl⟩ := hs
      exact ⟨zs, by simpa using hm, h1, rfl⟩
    clear hm
    induction xs with
    | nil => exact ⟨[], by simp, rfl⟩
    | cons r xs ih =>
      obtain ⟨zs, h1, h2⟩ := ih (fun r hr => hl r (List.mem_cons_of_mem _ hr)) (fun i j r t d hi => h (i + 1) j r t d (by simpa using hi))
      have hr := hl r (List.mem_cons_self ..)
      match r, hr with
      | [d], _ =>
        obtain ⟨z, hz, rfl⟩ := ty_i (h 0 0 [d] (.i k) d (by simp) (by simp) (by simp))
        exact ⟨z :: zs, fun x hx => by rcases List.mem_cons.1 hx with rfl | hx; exact hz; exact h1 x hx, by simp [h2]⟩
theorem arg_ints {k : IntKind} {v : DV} (h : IsArg (false, [.sl [.i k]]) v) : ∃ zs : List Int, zs.length ≤ maxLen ∧ (∀ z ∈ zs, (Lit.int k z).wf = true) ∧ v = (false, [.sl 1 (zs.map fun z => [.i k z])]) := by
  obtain ⟨g, ds⟩ := v
  obtain ⟨rfl, h⟩ := h
  obtain ⟨d, r, rfl, h0, h⟩ := cons_inv h
  obtain rfl := nil_inv h
  obtain ⟨zs, h1, h2, rfl⟩ := ty_ints h0
  exact ⟨zs, h1, h2, rfl⟩

/-- what a card asks of a program without looks -/
theorem plain_of {P : Program} {n : String} {f f' : FuncId} {fn fn' : Func} (hn : P.funcNamed n = some f) (hfn : P.funcs[f]? = some fn) (hl : false = P.looks []) (hw : fn.params.all (fun t => !P.wantsStandIn t) = true)
    (hf : P.funcNamed n = some f') (hfn' : P.funcs[f']? = some fn') : false = P.looks [] ∧ ∀ (j : Nat) t, fn'.params[j]? = some t → P.wantsStandIn t = false := by
  rw [hn] at hf
  cases hf
  rw [hfn] at hfn'
  cases hfn'
  refine ⟨hl, fun j t ht => ?_⟩
  have := Array.all_eq_true.1 hw j (Array.getElem?_eq_some_iff.1 ht).1
  rw [(Array.getElem?_eq_some_iff.1 ht).2] at this
  simpa using this

theorem gr_nil {I : Imm} {w : World} : GR [] I w := fun g ds h => by cases h
theorem gr_cons {P : Program} {I : Imm} {w : World} {x : Nat × List D} {G : Glo} (h : VarIs P I w x.1 x.2) (hG : GR G I w) : GR (x :: G) I w := fun g ds hd => by
  obtain ⟨k, ls⟩ := x
  unfold Glo.at at hd
  split at hd
  · rename_i hk
    subst hk
    cases hd
    exact h
  · exact hG g ds hd
end Go.Proofs.Ytffahdloddkcfaa.Sx
