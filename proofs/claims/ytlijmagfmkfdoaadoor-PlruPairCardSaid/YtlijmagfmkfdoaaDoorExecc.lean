/-
  The soundness of the executor: loops made general; all in one; a function's contract out of its IR.
-/
import Derived.Test.YtlijmagfmkfdoaaDoorExecb
namespace Go.Proofs.YtlijmagfmkfdoaaDoor.Sx
open Go
set_option linter.unnecessarySimpa false
set_option linter.unusedSimpArgs false
set_option linter.unusedVariables false

theorem backFr_len {ds : List Nat} : ∀ {gs ss : List S} {t : Nat} {es : List Ex}, backFr ds t gs ss = some es → gs.length = ss.length
  | [], [], _, _, _ => rfl
  | [], _ :: _, _, _, h => by simp [backFr] at h
  | _ :: _, [], _, _, h => by simp [backFr] at h
  | g :: gs, s :: ss, t, es, h => by
    simp only [backFr] at h
    split at h
    · split at h
      · simp [backFr_len h]
      · split at h
        · split at h
          · rename_i h2; simp [backFr_len h2]
          · cases h
        · cases h
      · cases h
    · split at h
      · simp [backFr_len h]
      · cases h

theorem backFr_exs {ds : List Nat} : ∀ (fr : List S) {ss : List S} {t k : Nat} {es : List Ex}, backFr ds t (genFr ds t k fr).2 ss = some es → es.length = (genFr ds t k fr).1.length
  | [], ss, t, k, es, h => by
    cases ss <;> simp [genFr, backFr] at h
    subst h
    rfl
  | s :: r, ss, t, k, es, h => by
    have hno : ∀ s', genFr ds t k (s :: r) = ((genFr ds (t + 1) k r).1, s' :: (genFr ds (t + 1) k r).2) → (∀ ss', backFr ds t (s' :: (genFr ds (t + 1) k r).2) ss' = some es → ∃ ss'', backFr ds (t + 1) (genFr ds (t + 1) k r).2 ss'' = some es) → es.length = (genFr ds t k (s :: r)).1.length := by
      intro s' heq hf
      rw [heq] at h ⊢
      obtain ⟨ss'', h'⟩ := hf ss h
      exact backFr_exs r h'
    by_cases hds : ds.contains t = true
    · have hx : genFr ds t k (s :: r) = ((genFr ds (t + 1) k r).1, .x :: (genFr ds (t + 1) k r).2) → es.length = (genFr ds t k (s :: r)).1.length := fun heq => hno .x heq fun ss' h' => by
        cases ss' with
        | nil => simp [backFr] at h'
        | cons s' ss' => simp only [backFr] at h'; rw [if_pos hds] at h'; exact ⟨_, h'⟩
      cases s with
      | val g ls =>
        cases hg : genLs k ls with
        | none => exact hx (by simp only [genFr]; rw [if_pos hds, hg])
        | some q =>
          obtain ⟨es0, ls'⟩ := q
          have heq : genFr ds t k (.val g ls :: r) = (es0 ++ (genFr ds (t + 1) (k + es0.length) r).1, .val g ls' :: (genFr ds (t + 1) (k + es0.length) r).2) := by
            simp only [genFr]; rw [if_pos hds, hg]
          obtain ⟨hsh, hlen⟩ := genLs_shape hg
          rw [heq] at h ⊢
          cases ss with
          | nil => simp [backFr] at h
          | cons s' ss =>
            simp only [backFr] at h
            rw [if_pos hds] at h
            cases s' with
            | val g' ls1 =>
              simp only at h
              split at h
              · rename_i hgl
                simp only [Bool.and_eq_true, beq_iff_eq] at hgl
                split at h
                · rename_i es1 r1 h1 h2
                  cases h
                  have := backFr_exs r h2
                  have he1 : es1.length = ls1.length := by have := congrArg List.length (exLs_get h1); simpa using this.symm
                  have hl := hgl.2
                  rw [hsh] at hl
                  simp [varsFrom] at hl
                  simp only [List.length_append]
                  omega
                · cases h
              · cases h
            | x => simp at h
            | u => simp at h
            | tup vs => simp at h
      | x => exact hx (by simp only [genFr]; rw [if_pos hds])
      | u => exact hx (by simp only [genFr]; rw [if_pos hds])
      | tup vs => exact hx (by simp only [genFr]; rw [if_pos hds])
    · refine hno s (by simp only [genFr]; rw [if_neg hds]) fun ss' h' => ?_
      cases ss' with
      | nil => simp [backFr] at h'
      | cons s' ss' =>
        simp only [backFr] at h'
        rw [if_neg hds] at h'
        split at h'
        · exact ⟨_, h'⟩
        · cases h'

theorem backHp_len {h : Heap} : ∀ {ms : List (Nat × Nat)} {es : List Ex}, backHp h ms = some es → es.length = ms.length
  | [], es, hb => by simp [backHp] at hb; subst hb; rfl
  | (b0, o0) :: r, es, hb => by
    simp only [backHp] at hb
    split at hb
    · split at hb
      · split at hb
        · rename_i h1; cases hb; simp [backHp_len h1]
        · cases hb
      · cases hb
    · cases hb

section
variable {C : Con} {R : List DV → Prop} {B : Nat} {I₀ : Imm} {w₀ : World} {E : Env}

theorem gen_step {n : Nat} (hC : SCode C R B I₀ w₀ E n) (hG : SGen C R B I₀ w₀ E n) : SGen C R B I₀ w₀ E (n + 1) := by
  intro me b ms tries st k ir L ρ I μ w a Q hx hw hs hk
  cases tries with
  | zero => simp only [exec] at hx; cases hx
  | succ tries =>
    simp only [exec] at hx
    split at hx
    case h_2 => cases hx
    case h_1 es hes =>
      split at hx
      case h_2 lv l hnd =>
        split at hx
        · exact hG me b (ms ++ l) tries st k ir L ρ I μ w a Q hx hw hs hk
        · cases hx
      case h_3 z hz1 hz2 => exact absurd hx (hz1 _)
      case h_1 ir' hexec =>
        cases hx
        obtain ⟨N, ds, hds, hP⟩ := hw
        obtain ⟨d1, d2, rfl, he1, he2⟩ := evals_append hds
        have hl1 := evals_length he1
        have hp0 : ρ <+: ρ ++ (d1 ++ d2) := pre_append _ _
        have hv0 : VarsAt (ρ ++ (d1 ++ d2)) st.nv (d1 ++ d2) := hs.nv ▸ VarsAt.self ρ _
        have hdom : ∀ b x, μ b = some x → (μ b).isSome = true := fun b x hb => by rw [hb]; rfl
        have hpl : ∀ b, (μ b).isSome = true → b < st.h.length := fun b hb => by
          obtain ⟨x, hx⟩ := Option.isSome_iff_exists.1 hb
          exact hs.wr.dom hx
        -- the head's frame, when the loop begins
        have hF0 := genFr_sound (I := I) (μ := μ) (w := w) hp0 (dstsOf b) st.fr 0 st.nv he1 hv0.left
        have hFR0 : FR I μ w (ρ ++ (d1 ++ d2)) (genFr (dstsOf b) 0 st.nv st.fr).2 a := ⟨hF0.1.trans hs.fr.len, fun t => hF0.2 t _ (hs.fr.at_ t), hs.fr.defers⟩
        have hWR0 : WR E.G B I₀ w₀ I (μ.res fun b => (μ b).isSome) w (ρ ++ (d1 ++ d2)) (genHeap ms (st.nv + (genFr (dstsOf b) 0 st.nv st.fr).1.length) st.h) := by
          refine genHeap_sound hs.wr hpl (fun bb blk hpb hblk => ⟨blk, hblk, rfl, rfl, fun o l l' h1 h2 _ v hv => ?_⟩) hes he2 (hl1 ▸ hv0.right)
          rw [h1] at h2
          cases h2
          exact LR.upto hv hdom (hv.mono (Evo.refl _ _ _) hp0)
        have hres : (μ.res fun b => (μ b).isSome) = μ := by
          funext bb
          unfold Mu.res
          cases h : μ bb <;> simp [h]
        rw [hres] at hWR0
        have hgl : (genHeap ms (st.nv + (genFr (dstsOf b) 0 st.nv st.fr).1.length) st.h).length = st.h.length := by simp [genHeap]
        -- round after round
        have key : ∀ (N : Nat) (ds : List D) (I' : Imm) (μ' : Mu) (w' : World) (a' : Act),
            (Nat.rec (motive := fun _ => Lp) (fun _ => False) (fun _ Pn es => IR.wp C R ir' (L ++ [Pn]) (ρ ++ es)) N ds : Prop) →
            ds.length = (d1 ++ d2).length → FR I' μ' w' (ρ ++ ds) (genFr (dstsOf b) 0 st.nv st.fr).2 a' →
            WR E.G B I₀ w₀ I' μ' w' (ρ ++ ds) (genHeap ms (st.nv + (genFr (dstsOf b) 0 st.nv st.fr).1.length) st.h) → Evo I μ w I' μ' w' → LW E.P b Q a' w' := by
          intro N
          induction N with
          | zero => intro ds I' μ' w' a' h; exact h.elim
          | succ N ih =>
            intro ds I' μ' w' a' hP hlen hF hW hev
            have hpd : ρ <+: ρ ++ ds := pre_append _ _
            refine .mk (fun a'' w'' => LW E.P b Q a'' w'') a' w' ?_ (fun _ _ h => h)
            have hes1 : es.length = d2.length := evals_length he2
            refine hC me b _ _ ir' (L ++ [_]) (ρ ++ ds) I' μ' w' a' _ hexec hP ⟨hF, hW, ?_, ?_⟩ ?_
            · simp only [List.length_append] at hlen ⊢
              rw [hs.nv, hlen, hl1, hes1]
              omega
            · simp [hs.lv]
            intro e s ir'' L'' ρ'' I'' μ'' w'' a'' h1 h2 h3 h4 h5 h6
            have hρ : ρ <+: ρ'' := hpd.trans h4
            have hL : L <+: L'' := (pre_append _ _).trans h3
            have hev' := hev.trans h6
            cases e with
            | exit id => exact hk (.exit id) s ir'' L'' ρ'' I'' μ'' w'' a'' h1 h2 hL hρ h5 hev'
            | ret => exact hk .ret s ir'' L'' ρ'' I'' μ'' w'' a'' h1 h2 hL hρ h5 hev'
            | normal =>
              simp only at h1
              split at h1
              · rename_i xs ys hxs hys hdf
                split at h1
                · rename_i hshp
                  cases h1
                  obtain ⟨Pn, ds', hLn, hds', hPn⟩ := h2
                  rw [← hs.lv, prefix_get h3] at hLn
                  cases hLn
                  obtain ⟨e1, e2, rfl, hx1, hx2⟩ := evals_append hds'
                  have hxl := backFr_exs st.fr hxs
                  have hxl1 := evals_length hx1
                  have hyl := backHp_len hys
                  have hyl0 := backHp_len hes
                  have hyl1 := evals_length hx2
                  have hpn : ρ <+: ρ ++ (e1 ++ e2) := pre_append _ _
                  have hvn : VarsAt (ρ ++ (e1 ++ e2)) st.nv (e1 ++ e2) := hs.nv ▸ VarsAt.self ρ _
                  have hkk : st.nv + (genFr (dstsOf b) 0 st.nv st.fr).1.length = st.nv + e1.length := by omega
                  refine ih (e1 ++ e2) I'' (μ''.res fun b => (μ b).isSome) w'' a'' hPn ?_ ⟨?_, ?_, h5.fr.defers⟩ ?_ (hev'.upto hdom)
                  · simp only [List.length_append]; omega
                  · exact (backFr_len hxs).trans h5.fr.len
                  · intro t
                    have hb := backFr_sound (I := I'') (μ := μ'') (w := w'') hρ hpn (dstsOf b) st.fr s.fr 0 st.nv (fun j => ⟨_, hs.fr.at_ j⟩) hxs hx1 hvn.left t _ (h5.fr.at_ t)
                    exact SR.upto hdom (hFR0.at_ t) hb
                  · refine genHeap_sound h5.wr hpl (fun bb blk hpb hblk => ?_) hys hx2 (hkk ▸ hvn.right)
                    obtain ⟨x, hbx⟩ := Option.isSome_iff_exists.1 hpb
                    obtain ⟨blk0, hb0, vs0, ty0, _, hl0, _⟩ := hs.wr.blk bb x hbx
                    rw [hblk] at hb0
                    cases hb0
                    have hgg : (genHeap ms (st.nv + (genFr (dstsOf b) 0 st.nv st.fr).1.length) st.h)[bb]? = some { blk with ls := blk.ls.mapIdx fun o l => match idxAt (bb, o) ms (st.nv + (genFr (dstsOf b) 0 st.nv st.fr).1.length) with
                        | some i => SL.e (.v i)
                        | none => l } := by
                      unfold genHeap
                      rw [List.getElem?_mapIdx, hblk]
                      rfl
                    obtain ⟨sb, hsb, hro, hsl⟩ := shapeHp_get hshp bb _ hgg
                    have hdl := diffHp_nil hdf bb _ sb hgg hsb
                    refine ⟨sb, hsb, hro, by simpa using hsl, fun o l l' hl hl' hnm v hv => ?_⟩
                    have hgl : (blk.ls.mapIdx fun o l => match idxAt (bb, o) ms (st.nv + (genFr (dstsOf b) 0 st.nv st.fr).1.length) with
                        | some i => SL.e (.v i)
                        | none => l)[o]? = some l := by
                      rw [List.getElem?_mapIdx, hl]
                      simp only [Option.map_some]
                      cases hi : idxAt (bb, o) ms (st.nv + (genFr (dstsOf b) 0 st.nv st.fr).1.length) with
                      | none => rfl
                      | some i => obtain ⟨j, _, hj⟩ := idxAt_some hi; exact absurd (List.mem_of_getElem? hj) hnm
                    have hsame := diffLs_nil hdl o l l' hgl hl' (by simpa using hnm)
                    obtain ⟨v0, _, hr0⟩ := hl0.get hl
                    exact LR.upto hr0 hdom (LR.rebase hr0 hρ hpn (SL.same_sound hsame hv))
                · cases h1
              · cases h1
              · cases h1
              · cases h1
        exact key N (d1 ++ d2) I μ w a hP rfl hFR0 hWR0 (Evo.refl _ _ _)

theorem exec_sound (hM : ∀ f as rs, C f as rs → ConM E.P E.G f as rs) : ∀ n, SCode C R B I₀ w₀ E n ∧ SLoop C R B I₀ w₀ E n ∧ SGen C R B I₀ w₀ E n ∧ SOps C R B I₀ w₀ E n ∧ SGo C R B I₀ w₀ E n
  | 0 => ⟨fun me c st k ir L ρ I μ w a Q hx => by simp [exec] at hx, fun me b st k ir L ρ I μ w a Q _ hx => by simp [exec] at hx, fun me b ms tries st k ir L ρ I μ w a Q hx => by simp [exec] at hx,
      fun me all todo st k ir L ρ I μ w a Q hx => by simp [exec] at hx, fun me f args o all rest st k ir L ρ I μ w a Q vs hx => by simp [exec] at hx⟩
  | n + 1 => by
    obtain ⟨h1, h2, h3, h4, h5⟩ := exec_sound hM n
    have hL := loop_step h1 h2
    exact ⟨code_step h1 hL h3 h4, hL, gen_step h1 h3, ops_step h4 h5, go_step hM h1 h4⟩

theorem shapeVars_map : ∀ (k : Nat) (sh : Shape), shapeVars k sh = (shapeVs k sh).map fun p => S.val p.1 p.2
  | k, [] => rfl
  | k, (g, n) :: r => by simp [shapeVars, shapeVs, shapeVars_map (k + n) r]

end

/-- A function's parameters: are they structs, and how many leaves have they. -/
def paramShape (P : Program) (f : FuncId) : Option Shape :=
  match P.funcs[f]? with
  | some fn => shapeT P fn.params.toList
  | none => none

/-- A CONTRACT OUT OF THE IR. -/
theorem con_of_ir {C : Con} {E : Env} {n : Nat} {f : FuncId} {ir : IR} {sh : Shape} (hM : ∀ f as rs, C f as rs → ConM E.P E.G f as rs) (hc : compile E n f = .ok ir) (hsh : paramShape E.P f = some sh)
    {as rs : List DV} (has : shapeOf as = sh) (hw : IR.wp C (fun r => r = rs) ir [] (leavesOf as)) : ConM E.P E.G f as rs := by
  intro I w vs hglo himm hargs
  unfold compile at hc
  unfold paramShape at hsh
  split at hc
  · cases hc
  · rename_i fn hfn
    rw [hfn] at hsh
    simp only at hsh
    split at hc
    · rename_i c sh' hbody hsh'
      rw [hsh'] at hsh
      cases hsh
      subst has
      refine calls_of_wp hfn hbody ?_
      have hvr := shapeVs_sound (μ := fun _ => none) (env := leavesOf as) (k := 0) (fun i d hd => by rw [Nat.zero_add]; exact hd) hargs
      have hsl : (shapeOf as).length = vs.length := by
        have := hargs.length
        rw [← this]
        clear this hargs hvr hw hc hsh'
        induction as with
        | nil => rfl
        | cons p r ih => obtain ⟨g, ds⟩ := p; simp [shapeOf, ih]
      have hfr : FR I (fun _ => none) w (leavesOf as) (shapeVars 0 (shapeOf as) ++ List.replicate (fn.ntmps - (shapeOf as).length) .x) { tmps := vs.toArray ++ Array.replicate (fn.ntmps - vs.toArray.size) undef, defers := [] } := by
        have hsv : All2 (SR I (fun _ => none) w (leavesOf as)) (shapeVars 0 (shapeOf as)) vs := by
          rw [shapeVars_map]
          exact All2.map_left hvr
        have hl := hsv.length
        refine ⟨by simp [hl, hsl], fun t => ?_, rfl⟩
        by_cases ht : t < (shapeVars 0 (shapeOf as)).length
        · obtain ⟨v, hv, hr⟩ := hsv.get (List.getElem?_eq_getElem ht)
          have ht' : t < vs.length := by omega
          rw [List.getD_eq_getElem?_getD, List.getElem?_append_left ht, List.getElem?_eq_getElem ht]
          rw [Array.getD_eq_getD_getElem?, Array.getElem?_append_left (by simpa using ht')]
          simp only [List.getElem?_toArray, hv, Option.getD_some]
          exact hr
        · have : (shapeVars 0 (shapeOf as) ++ List.replicate (fn.ntmps - (shapeOf as).length) S.x).getD t .x = .x := by
            rw [List.getD_eq_getElem?_getD, List.getElem?_append_right (by omega), List.getElem?_replicate]
            split <;> rfl
          rw [this]
          trivial
      have hwr : WR E.G w.heap.size I w I (fun _ => none) w (leavesOf as) [] :=
        ⟨(fun b x h => by cases h), (fun b b' x h => by cases h), hglo, fun _ _ => rfl, Nat.le_refl _, himm, fun x hx => .inl hx, ⟨rfl, rfl⟩⟩
      refine (exec_sound (C := C) (R := fun r => r = rs) (B := w.heap.size) (I₀ := I) (w₀ := w) hM n).1 f c _ _ ir [] (leavesOf as) I _ w _ _ hc hw ⟨hfr, hwr, (shapeLen_leaves as).symm, rfl⟩ ?_
      intro e s ir' L' ρ' I' μ' w' a' h1 h2 h3 h4 h5 h6
      have main : ∀ (hx' : (match resultsS E.P E.G fn s.fr s.h with
            | some vs => match exVs vs with
              | some xs => Res.ok (.ret xs)
              | none => Res.no "a result that is no data"
            | none => Res.no "results") = .ok ir'),
          a'.defers = [] ∧ ∃ v, (results fn a'.tmps).run E.P w' = .ok v w' ∧ ∃ v' I', Ending.returned v = .returned v' ∧ (∀ x, I x → I' x) ∧ (∀ x, I' x → I x ∨ w.heap.size ≤ x) ∧ (∀ x, I' x → x < w'.heap.size) ∧
            (∀ x, x < w.heap.size → w'.heap[x]? = w.heap[x]?) ∧ w.heap.size ≤ w'.heap.size ∧ (w'.os = w.os ∧ w'.output = w.output) ∧ RsR I' w' rs v' := by
        intro hx'
        split at hx'
        · rename_i ps hps
          split at hx'
          · rename_i xs hxs
            cases hx'
            obtain ⟨rs', hrs, rfl⟩ := h2
            obtain ⟨v, hv, hvr⟩ := results_sound (P := E.P) h5.wr h5.fr hps
            refine ⟨h5.fr.defers, v, hv, v, I', rfl, h6.imm, h5.wr.imm0, h5.wr.imm, h5.wr.old, h5.wr.size, h5.wr.wd, ?_⟩
            match ps, xs, rs', hxs, hrs, hvr with
            | [], xs, rs', hxs, hrs, hvr =>
              simp [exVs] at hxs
              subst hxs
              simp [evalVs] at hrs
              subst hrs
              obtain ⟨us, hu, hall⟩ := hvr
              cases hall
              exact ⟨[], hu, .nil⟩
            | [(g, ls)], xs, rs', hxs, hrs, hvr =>
              have := exVs_sound hxs hrs (All2.cons (b := v) (bs := []) hvr .nil)
              match rs', this with
              | [r], .cons p q => exact p
            | p :: q :: r, xs, rs', hxs, hrs, hvr =>
              obtain ⟨us, hu, hall⟩ := hvr
              have hd := exVs_sound hxs hrs hall
              match us, rs', hd with
              | u1 :: u2 :: us, r1 :: r2 :: rs', hd => exact ⟨_, hu, hd⟩
              | [], rs', hd => cases hall
              | [u], rs', hd => cases hall with | cons _ h => cases h
          · cases hx'
        · cases hx'
      cases e with
      | normal => obtain ⟨hd, v, hv, hq⟩ := main h1; exact ⟨hd, v, hv, hq⟩
      | ret => obtain ⟨hd, v, hv, hq⟩ := main h1; exact ⟨hd, v, hv, hq⟩
      | exit id => cases h1
    · cases hc

end Go.Proofs.YtlijmagfmkfdoaaDoor.Sx
