/-
  The soundness of the executor: loops made general.
-/
import Derived.Test.YtffahdloddkcfaaLoopc

namespace Go.Proofs.Ytffahdloddkcfaa.Sx
open Go
set_option linter.unnecessarySimpa false
set_option linter.unusedSimpArgs false
set_option linter.unusedVariables false

theorem backFr_len {ds : List Nat} : ∀ {gs ss : List S} {t : Nat} {es : List Ex}, backFr ds t gs ss = some es → gs.length = ss.length
  | [], [], _, _, _ => rfl
  | [], _ :: _, _, _, h => by simp [backFr] at h
  | _ :: _, [], _, _, h => by simp [backFr] at h
  | g :: gs, s :: ss, t, es, h => by
    simp only [backFr] at h
    split at h
    · split at h
      · simp [backFr_len h]
      · split at h
        · split at h
          · rename_i h2; simp [backFr_len h2]
          · cases h
        · cases h
      · cases h
    · split at h
      · simp [backFr_len h]
      · cases h

theorem backFr_exs {ds : List Nat} : ∀ (fr : List S) {ss : List S} {t k : Nat} {es : List Ex}, backFr ds t (genFr ds t k fr).2 ss = some es → es.length = (genFr ds t k fr).1.length
  | [], ss, t, k, es, h => by
    cases ss <;> simp [genFr, backFr] at h
    subst h
    rfl
  | s :: r, ss, t, k, es, h => by
    have hno : ∀ s', genFr ds t k (s :: r) = ((genFr ds (t + 1) k r).1, s' :: (genFr ds (t + 1) k r).2) → (∀ ss', backFr ds t (s' :: (genFr ds (t + 1) k r).2) ss' = some es → ∃ ss'', backFr ds (t + 1) (genFr ds (t + 1) k r).2 ss'' = some es) → es.length = (genFr ds t k (s :: r)).1.length := by
      intro s' heq hf
      rw [heq] at h ⊢
      obtain ⟨ss'', h'⟩ := hf ss h
      exact backFr_exs r h'
    by_cases hds : ds.contains t = true
    · have hx : genFr ds t k (s :: r) = ((genFr ds (t + 1) k r).1, .x :: (genFr ds (t + 1) k r).2) → es.length = (genFr ds t k (s :: r)).1.length := fun heq => hno .x heq fun ss' h' => by
        cases ss' with
        | nil => simp [backFr] at h'
        | cons s' ss' => simp only [backFr] at h'; rw [if_pos hds] at h'; exact ⟨_, h'⟩
      cases s with
      | val g ls =>
        cases hg : genLs k ls with
        | none => exact hx (by simp only [genFr]; rw [if_pos hds, hg])
        | some q =>
          obtain ⟨es0, ls'⟩ := q
          have heq : genFr ds t k (.val g ls :: r) = (es0 ++ (genFr ds (t + 1) (k + es0.length) r).1, .val g ls' :: (genFr ds (t + 1) (k + es0.length) r).2) := by
            simp only [genFr]; rw [if_pos hds, hg]
          obtain ⟨hsh, hlen⟩ := genLs_shape hg
          rw [heq] at h ⊢
          cases ss with
          | nil => simp [backFr] at h
          | cons s' ss =>
            simp only [backFr] at h
            rw [if_pos hds] at h
            cases s' with
            | val g' ls1 =>
              simp only at h
              split at h
              · rename_i hgl
                simp only [Bool.and_eq_true, beq_iff_eq] at hgl
                split at h
                · rename_i es1 r1 h1 h2
                  cases h
                  have := backFr_exs r h2
                  have he1 : es1.length = ls1.length := by have := congrArg List.length (exLs_get h1); simpa using this.symm
                  have hl := hgl.2
                  rw [hsh] at hl
                  simp [varsFrom] at hl
                  simp only [List.length_append]
                  omega
                · cases h
              · cases h
            | x => simp at h
            | u => simp at h
            | tup vs => simp at h
      | x => exact hx (by simp only [genFr]; rw [if_pos hds])
      | u => exact hx (by simp only [genFr]; rw [if_pos hds])
      | tup vs => exact hx (by simp only [genFr]; rw [if_pos hds])
    · refine hno s (by simp only [genFr]; rw [if_neg hds]) fun ss' h' => ?_
      cases ss' with
      | nil => simp [backFr] at h'
      | cons s' ss' =>
        simp only [backFr] at h'
        rw [if_neg hds] at h'
        split at h'
        · exact ⟨_, h'⟩
        · cases h'

theorem backHp_len {h : Heap} : ∀ {ms : List (Nat × Nat)} {es : List Ex}, backHp h ms = some es → es.length = ms.length
  | [], es, hb => by simp [backHp] at hb; subst hb; rfl
  | (b0, o0) :: r, es, hb => by
    simp only [backHp] at hb
    split at hb
    · split at hb
      · split at hb
        · rename_i h1; cases hb; simp [backHp_len h1]
        · cases hb
      · cases hb
    · cases hb

section
variable {C : Con} {R : List DV → Prop} {B : Nat} {I₀ : Imm} {w₀ : World} {E : Env}

theorem prep_sound {G : Glo} {st : St} {L : List Lp} {ρ : List D} {I : Imm} {μ : Mu} {w : World} {a : Act} (J : List Nat) (hs : StR G B I₀ w₀ st L ρ I μ w a) : ∃ I', StR G B I₀ w₀ (prepSt J st) L ρ I' μ w a ∧ Evo I μ w I' μ w := by
  obtain ⟨I', hW, he, hO⟩ := hs.own.frz hs.wr J
  exact ⟨I', ⟨(hs.fr.mono he (List.prefix_refl _)).fix hO, hW.fix hO, hO, hs.nv, hs.lv⟩, he⟩

theorem live_list {o : Own} : ∀ {ks : List Nat} {es : List Ex}, optAll (ks.map (Own.live? o)) = some es → ∀ (i k : Nat), ks[i]? = some k → ∃ t, es[i]? = some t ∧ o[k]? = some ⟨t, .live⟩ := by
  intro ks es h i k hi
  have h' := optAll_get h
  have : (ks.map (Own.live? o))[i]? = some (Own.live? o k) := by rw [List.getElem?_map, hi]; rfl
  rw [h', List.getElem?_map] at this
  cases he : es[i]? with
  | none => rw [he] at this; cases this
  | some t =>
    rw [he] at this
    simp only [Option.map_some, Option.some.injEq] at this
    exact ⟨t, rfl, live?_some this.symm⟩

theorem gen_step {n : Nat} (hC : SCode C R B I₀ w₀ E n) (hG : SGen C R B I₀ w₀ E n) : SGen C R B I₀ w₀ E (n + 1) := by
  intro me b gn tries st k ir L ρ I μ w a Q hx hw hs hk
  cases tries with
  | zero => simp only [exec] at hx; cases hx
  | succ tries =>
    simp only [exec] at hx
    split at hx
    · cases hx
    · rename_i hd hhd
      split at hx
      case h_2 lv l hnd =>
        split at hx
        · exact hG me b (gn.add l) tries st k ir L ρ I μ w a Q hx hw hs hk
        · cases hx
      case h_3 z hz1 hz2 => exact absurd hx (hz1 _)
      case h_1 ir' hexec =>
        cases hx
        obtain ⟨I1, hs1, he1⟩ := prep_sound gn.fz hs
        have hk1 := hk.mono (List.prefix_refl _) (List.prefix_refl _) he1
        unfold headOf at hhd
        dsimp only at hhd
        have hlv1 : (prepSt gn.fz st).lv = st.lv := rfl
        generalize hst1 : prepSt gn.fz st = st1 at hhd hs1 hlv1
        split at hhd
        · cases hhd
        · rename_i pl hpl
          split at hhd
          · cases hhd
          · rename_i eo ids hpo
            split at hhd
            · rename_i es ek hes hek
              split at hhd
              · rename_i hcond
                generalize hds : (dstsOf b).filter (fun t => !gn.to.contains t && (!nilS (st1.fr.getD t .x) || gn.td.contains t)) = ds at hhd
                cases hhd
                simp only [Bool.and_eq_true, beq_iff_eq] at hcond
                obtain ⟨⟨⟨hidn, hksn⟩, hkid⟩, hplen⟩ := hcond
                have hidn := nodupB_sound hidn
                have hkid : ∀ k ∈ gn.ks, k ∉ ids := fun k hk => by simpa using List.all_eq_true.1 hkid k hk
                obtain ⟨N, dd, hdd, hP⟩ := hw
                obtain ⟨d123, d4, rfl, he123, he4⟩ := evals_append hdd
                obtain ⟨d12, d3, rfl, he12, he3⟩ := evals_append he123
                obtain ⟨d1, d2, rfl, hee1, hee2⟩ := evals_append he12
                have hl1 := evals_length hee1
                have hl2 := evals_length hee2
                have hl3 := evals_length he3
                have hl4 := evals_length he4
                -- blocks and slices that were
                have hdom : ∀ b x, μ b = some x → (μ b).isSome = true := fun b x hb => by rw [hb]; rfl
                have hqom : ∀ k v, μ.v k = some v → decide (k < st1.o.length) = true := fun k v hv => by
                  refine decide_eq_true ?_
                  rcases Nat.lt_or_ge k st1.o.length with h | h
                  · exact h
                  · rw [hs1.own.new k h] at hv; cases hv
                have hfl : (forgetHp gn.mo st1.h).length = st1.h.length := forgetHp_length gn.mo st1.h
                have hW0 := WR.forget gn.mo hs1.wr
                have hF0 := FR.forget gn.to hs1.fr
                have hpl' : ∀ b, (μ b).isSome = true → b < (forgetHp gn.mo st1.h).length := fun b hb => by
                  obtain ⟨x, hx⟩ := Option.isSome_iff_exists.1 hb
                  exact hW0.dom hx
                have hpe : ek.length = gn.ks.length := by have := optAll_length hek; simpa using this
                have hple : eo.length = pl.length := by
                  obtain ⟨hd', H⟩ := heads_of hs1.own hpo hidn
                  exact H.lene
                -- the head's slices, whatever the round
                have hHlen : (headO st1.o ids gn.ks (st1.nv + (genFr ds 0 st1.nv (forgetFr gn.to st1.fr)).1.length + es.length) pl.length).length = st1.o.length + pl.length := headO_length
                -- ALL at the head: at the beginning, and behind each round
                have head : ∀ (dn1 dn2 dn3 dn4 : List D) (I' : Imm) (μ' : Mu) (w' : World) (a' : Act) (ρe : List D) (fr1 : List S) (h1 : Heap) (o1 : Own) (pl1 : List SL) (eo1 : List Ex) (ids1 : List Nat),
                    dn1.length = d1.length → dn2.length = d2.length → dn3.length = d3.length → dn4.length = d4.length → ρ <+: ρe →
                    FR I' (μ'.res (fun b => (μ b).isSome) fun k => decide (k < st1.o.length)) w' (ρ ++ (dn1 ++ dn2 ++ dn3 ++ dn4)) (genFr ds 0 st1.nv (forgetFr gn.to st1.fr)).2 a' →
                    WR E.G B I₀ w₀ I' (μ'.res (fun b => (μ b).isSome) fun k => decide (k < st1.o.length)) w' (ρ ++ (dn1 ++ dn2 ++ dn3 ++ dn4)) (genHeap gn.ms (st1.nv + (genFr ds 0 st1.nv (forgetFr gn.to st1.fr)).1.length) (forgetHp gn.mo st1.h)) →
                    FR I' μ' w' ρe fr1 a' → WR E.G B I₀ w₀ I' μ' w' ρe h1 → OwnR B I' μ' w' ρe o1 → Evo I1 μ w I' μ' w' →
                    placeLs gn fr1 h1 = some pl1 → placeO o1 pl1 = some (eo1, ids1) → ids1.Nodup → pl1.length = gn.to.length + gn.mo.length →
                    Ex.evals ρe eo1 = some dn3 → (∀ k ∈ ids1, k < st1.o.length → k ∈ ids) →
                    (∀ (k : Nat) (os : OS), k < st1.o.length → (headO st1.o ids gn.ks (st1.nv + (genFr ds 0 st1.nv (forgetFr gn.to st1.fr)).1.length + es.length) pl.length)[k]? = some os → os.st = .dead ∨ ∃ os' : OS, o1[k]? = some os' ∧ os'.st = os.st ∧ (os'.t = os.t ∧ k ∉ gn.ks ∨ ∃ (i : Nat) (d : D), gn.ks[i]? = some k ∧ os'.t.eval ρe = some d ∧ dn4[i]? = some d)) →
                    ∃ μ2, FR I' μ2 w' (ρ ++ (dn1 ++ dn2 ++ dn3 ++ dn4)) (bindFr gn.to st1.o.length (genFr ds 0 st1.nv (forgetFr gn.to st1.fr)).2) a' ∧
                      WR E.G B I₀ w₀ I' μ2 w' (ρ ++ (dn1 ++ dn2 ++ dn3 ++ dn4)) (bindHp gn.mo (st1.o.length + gn.to.length) (genHeap gn.ms (st1.nv + (genFr ds 0 st1.nv (forgetFr gn.to st1.fr)).1.length) (forgetHp gn.mo st1.h))) ∧
                      OwnR B I' μ2 w' (ρ ++ (dn1 ++ dn2 ++ dn3 ++ dn4)) (headO st1.o ids gn.ks (st1.nv + (genFr ds 0 st1.nv (forgetFr gn.to st1.fr)).1.length + es.length) pl.length) ∧ Evo I1 μ w I' μ2 w' := by
                  intro dn1 dn2 dn3 dn4 I' μ' w' a' ρe fr1 h1 o1 pl1 eo1 ids1 hn1 hn2 hn3 hn4 hρe hFg hWg hFe hWe hOe hev hpl1 hpo1 hnd1 hlen1 heo1 hids1 hrel
                  have hnv3 : (ρ ++ (dn1 ++ dn2)).length = st1.nv + (genFr ds 0 st1.nv (forgetFr gn.to st1.fr)).1.length + es.length := by
                    simp only [List.length_append, hs1.nv]
                    omega
                  have hplen' : pl1.length = pl.length := by omega
                  have hleo : eo1.length = dn3.length := evals_length heo1
                  have hple1 : eo1.length = pl1.length := by
                    obtain ⟨hd', H⟩ := heads_of hOe hpo1 hnd1
                    exact H.lene
                  obtain ⟨μ2, h2, h3, h4, h5⟩ := bind_all (gn := gn) (H := headO st1.o ids gn.ks (st1.nv + (genFr ds 0 st1.nv (forgetFr gn.to st1.fr)).1.length + es.length) pl.length) (nv := st1.nv + (genFr ds 0 st1.nv (forgetFr gn.to st1.fr)).1.length + es.length) hFg hWg hFe hWe hOe hpl1 hpo1 hnd1 hlen1 (by rw [headO_length, hplen'])
                    (fun k os hlt hos => by
                      by_cases hdead : os.st = .dead
                      · exact .inl hdead
                      · refine .inr ?_
                        obtain ⟨os', h1, h2, h3⟩ := (hrel k os hlt hos).resolve_left hdead
                        refine ⟨os', h1, h2, fun d hd => ?_⟩
                        obtain ⟨os0, ho0, hcase⟩ := headO_old hlt hos
                        rcases h3 with ⟨ht, hnk⟩ | ⟨i, d', hi, hd', hdn⟩
                        · rcases hcase with ⟨_, h⟩ | ⟨_, i, hi, rfl⟩ | ⟨_, _, rfl⟩
                          · exact absurd h hdead
                          · exact absurd (List.mem_of_getElem? hi) hnk
                          · rw [ht] at hd
                            have hpre : ∃ d0, os.t.eval ρ = some d0 := by
                              obtain ⟨t, st'⟩ := os
                              cases st' with
                              | live => obtain ⟨v, s, rows, _, hh, _⟩ := hs1.own.live k t ho0; exact ⟨_, hh⟩
                              | frozen => obtain ⟨v, d0, _, hh, _⟩ := hs1.own.frozen k t ho0; exact ⟨_, hh⟩
                              | dead => exact absurd rfl hdead
                            obtain ⟨d0, hd0⟩ := hpre
                            exact Ex.rebase hd0 hρe (pre_append _ _) hd
                        · rcases hcase with ⟨hki, _⟩ | ⟨_, i', hi', rfl⟩ | ⟨_, hnk, _⟩
                          · exact absurd hki (hkid k (List.mem_of_getElem? hi))
                          · rw [hd'] at hd
                            cases hd
                            have hii : i' = i := by
                              have hn := nodupB_sound hksn
                              exact (List.getElem?_inj (List.getElem?_eq_some_iff.1 hi').1 hn).1 (hi'.trans hi.symm)
                            subst hii
                            simp only [Ex.eval]
                            rw [show (ρ ++ (dn1 ++ dn2 ++ dn3 ++ dn4)) = (ρ ++ (dn1 ++ dn2)) ++ (dn3 ++ dn4) from by simp]
                            rw [List.getElem?_append_right (by omega), hnv3]
                            rw [show st1.nv + (genFr ds 0 st1.nv (forgetFr gn.to st1.fr)).1.length + es.length + pl.length + i' - (st1.nv + (genFr ds 0 st1.nv (forgetFr gn.to st1.fr)).1.length + es.length) = pl.length + i' from by omega]
                            rw [List.getElem?_append_right (by omega), show pl.length + i' - dn3.length = i' from by omega]
                            exact hdn
                          · exact absurd (List.mem_of_getElem? hi) hnk)
                    (fun k hk hlt os hos => by
                      obtain ⟨os0, _, hcase⟩ := headO_old hlt hos
                      have := hids1 k hk hlt
                      rcases hcase with ⟨_, h⟩ | ⟨h, _⟩ | ⟨h, _⟩
                      · exact h
                      · exact absurd this h
                      · exact absurd this h)
                    (fun i os hi => headO_new hi)
                    (fun i e d hi he => by
                      obtain ⟨d', hd', he'⟩ := evals_get heo1 hi
                      rw [he] at he'
                      cases he'
                      rw [show (ρ ++ (dn1 ++ dn2 ++ dn3 ++ dn4)) = (ρ ++ (dn1 ++ dn2)) ++ (dn3 ++ dn4) from by simp]
                      have hil : i < dn3.length := (List.getElem?_eq_some_iff.1 hd').1
                      rw [List.getElem?_append_right (by omega), hnv3, Nat.add_sub_cancel_left, List.getElem?_append_left hil]
                      exact hd')
                  exact ⟨μ2, h2, h3, h4, (hev.upto hdom hqom).trans h5⟩
                -- the beginning
                have hp0 : ρ <+: ρ ++ (d1 ++ d2 ++ d3 ++ d4) := pre_append _ _
                have hv0 : VarsAt (ρ ++ (d1 ++ d2 ++ d3 ++ d4)) st1.nv (d1 ++ d2 ++ d3 ++ d4) := hs1.nv ▸ VarsAt.self ρ _
                have hFg0 := genFr_sound (I := I1) (μ := μ) (w := w) hp0 ds (forgetFr gn.to st1.fr) 0 st1.nv hee1 hv0.left.left.left
                have hFR0 : FR I1 μ w (ρ ++ (d1 ++ d2 ++ d3 ++ d4)) (genFr ds 0 st1.nv (forgetFr gn.to st1.fr)).2 a := ⟨hFg0.1.trans hF0.len, fun t => hFg0.2 t _ (hF0.at_ t), hF0.defers⟩
                have hWR0 : WR E.G B I₀ w₀ I1 (μ.res (fun b => (μ b).isSome) fun k => decide (k < st1.o.length)) w (ρ ++ (d1 ++ d2 ++ d3 ++ d4)) (genHeap gn.ms (st1.nv + (genFr ds 0 st1.nv (forgetFr gn.to st1.fr)).1.length) (forgetHp gn.mo st1.h)) := by
                  refine genHeap_sound hW0 hpl' (fun bb blk hpb hblk => ⟨blk, hblk, rfl, rfl, fun o l l' h1 h2 _ v hv => ?_⟩) hes hee2 (hl1 ▸ hv0.left.left.right)
                  rw [h1] at h2
                  cases h2
                  exact LR.upto hv hdom hqom (hv.mono (Evo.refl _ _ _) hp0)
                obtain ⟨μ2, hF2, hW2, hO2, hev2⟩ := head d1 d2 d3 d4 I1 μ w a ρ st1.fr st1.h st1.o pl eo ids rfl rfl rfl rfl (List.prefix_refl _) ⟨hFR0.len, fun t => SR.upto hdom hqom (hFR0.at_ t) (hFR0.at_ t), hFR0.defers⟩ hWR0 hs1.fr hs1.wr hs1.own (Evo.refl _ _ _) hpl hpo hidn hplen he3 (fun k hk _ => hk)
                  (fun k os hlt hos => by
                    obtain ⟨os0, ho0, hcase⟩ := headO_old hlt hos
                    rcases hcase with ⟨_, h⟩ | ⟨_, i, hi, rfl⟩ | ⟨_, hnk, rfl⟩
                    · exact .inl h
                    · obtain ⟨t, ht, hkt⟩ := live_list hek i k hi
                      rw [hkt] at ho0
                      cases ho0
                      obtain ⟨d, hd, hed⟩ := evals_get he4 ht
                      exact .inr ⟨_, hkt, rfl, .inr ⟨i, d, hi, hed, hd⟩⟩
                    · exact .inr ⟨os, ho0, rfl, .inl ⟨rfl, hnk⟩⟩)
                -- round after round
                have key : ∀ (N : Nat) (dn1 dn2 dn3 dn4 : List D) (I' : Imm) (μ' : Mu) (w' : World) (a' : Act),
                    (Nat.rec (motive := fun _ => Lp) (fun _ => False) (fun _ Pn es => IR.wp C R ir' (L ++ [Pn]) (ρ ++ es)) N (dn1 ++ dn2 ++ dn3 ++ dn4) : Prop) →
                    dn1.length = d1.length → dn2.length = d2.length → dn3.length = d3.length → dn4.length = d4.length →
                    FR I' μ' w' (ρ ++ (dn1 ++ dn2 ++ dn3 ++ dn4)) (bindFr gn.to st1.o.length (genFr ds 0 st1.nv (forgetFr gn.to st1.fr)).2) a' →
                    WR E.G B I₀ w₀ I' μ' w' (ρ ++ (dn1 ++ dn2 ++ dn3 ++ dn4)) (bindHp gn.mo (st1.o.length + gn.to.length) (genHeap gn.ms (st1.nv + (genFr ds 0 st1.nv (forgetFr gn.to st1.fr)).1.length) (forgetHp gn.mo st1.h))) →
                    OwnR B I' μ' w' (ρ ++ (dn1 ++ dn2 ++ dn3 ++ dn4)) (headO st1.o ids gn.ks (st1.nv + (genFr ds 0 st1.nv (forgetFr gn.to st1.fr)).1.length + es.length) pl.length) →
                    Evo I1 μ w I' μ' w' → LW E.P b Q a' w' := by
                  intro N
                  induction N with
                  | zero => intro dn1 dn2 dn3 dn4 I' μ' w' a' h; exact h.elim
                  | succ N ih =>
                    intro dn1 dn2 dn3 dn4 I' μ' w' a' hP hn1 hn2 hn3 hn4 hF hW hO hev
                    have hpd : ρ <+: ρ ++ (dn1 ++ dn2 ++ dn3 ++ dn4) := pre_append _ _
                    refine .mk (fun a'' w'' => LW E.P b Q a'' w'') a' w' ?_ (fun _ _ h => h)
                    refine hC me b _ _ ir' (L ++ [_]) (ρ ++ (dn1 ++ dn2 ++ dn3 ++ dn4)) I' μ' w' a' _ hexec hP ⟨hF, hW, hO, ?_, ?_⟩ ?_
                    · simp only [List.length_append, hs1.nv]
                      omega
                    · simp [hs.lv]
                    intro e s ir'' L'' ρ'' I'' μ'' w'' a'' h1 h2 h3 h4 h5 h6
                    have hρ : ρ <+: ρ'' := hpd.trans h4
                    have hL : L <+: L'' := (pre_append _ _).trans h3
                    have hev' := hev.trans h6
                    cases e with
                    | exit id => exact hk1 (.exit id) s ir'' L'' ρ'' I'' μ'' w'' a'' h1 h2 hL hρ h5 hev'
                    | ret => exact hk1 .ret s ir'' L'' ρ'' I'' μ'' w'' a'' h1 h2 hL hρ h5 hev'
                    | normal =>
                      simp only at h1
                      split at h1
                      case h_2 => cases h1
                      case h_3 => cases h1
                      case h_1 vs hback =>
                        cases h1
                        obtain ⟨Pn, ds', hLn, hds', hPn⟩ := h2
                        rw [← hs.lv, prefix_get h3] at hLn
                        cases hLn
                        unfold backOf at hback
                        dsimp only at hback
                        generalize backJ gn _ s = J at hback
                        obtain ⟨I2, hs2, he2'⟩ := prep_sound J h5
                        generalize prepSt J s = s1 at hback hs2
                        have hev2' := hev'.trans he2'
                        split at hback
                        · cases hback
                        · cases hback
                        · rename_i hdo
                          split at hback
                          · cases hback
                          · split at hback
                            · cases hback
                            · rename_i pl1 hpl1
                              split at hback
                              · cases hback
                              · rename_i eo1 ids1 hpo1
                                split at hback
                                · cases hback
                                · rename_i hdf
                                  split at hback
                                  · rename_i xs ys ek1 hxs hys hek1
                                    split at hback
                                    · rename_i hc1
                                      cases hback
                                      simp only [Bool.and_eq_true, beq_iff_eq] at hc1
                                      obtain ⟨⟨⟨hshp, hid1⟩, hidb⟩, hpln1⟩ := hc1
                                      have hid1 := nodupB_sound hid1
                                      obtain ⟨e123, e4, rfl, hx123, hx4⟩ := evals_append hds'
                                      obtain ⟨e12, e3, rfl, hx12, hx3⟩ := evals_append hx123
                                      obtain ⟨e1, e2, rfl, hx1, hx2⟩ := evals_append hx12
                                      have hxl := backFr_exs (forgetFr gn.to st1.fr) hxs
                                      have hxl1 := evals_length hx1
                                      have hyl := backHp_len hys
                                      have hyl0 := backHp_len hes
                                      have hyl1 := evals_length hx2
                                      have hl31 := evals_length hx3
                                      have hl41 := evals_length hx4
                                      have hpe1 : ek1.length = gn.ks.length := by have := optAll_length hek1; simpa using this
                                      have hple1 : eo1.length = pl1.length := by
                                        obtain ⟨hd', H⟩ := heads_of hs2.own hpo1 hid1
                                        exact H.lene
                                      have hpn : ρ <+: ρ ++ (e1 ++ e2 ++ e3 ++ e4) := pre_append _ _
                                      have hvn : VarsAt (ρ ++ (e1 ++ e2 ++ e3 ++ e4)) st1.nv (e1 ++ e2 ++ e3 ++ e4) := hs1.nv ▸ VarsAt.self ρ _
                                      have hkk : st1.nv + (genFr ds 0 st1.nv (forgetFr gn.to st1.fr)).1.length = st1.nv + e1.length := by omega
                                      have hF1 := FR.forget gn.to hs2.fr
                                      have hW1 := WR.forget gn.mo hs2.wr
                                      obtain ⟨μ3, hF3, hW3, hO3, hev3⟩ := head e1 e2 e3 e4 I2 μ'' w'' a'' ρ'' s1.fr s1.h s1.o pl1 eo1 ids1 (by omega) (by omega) (by omega) (by omega) hρ
                                        ⟨(backFr_len hxs).trans hF1.len, fun t => by
                                          have hb := backFr_sound (I := I2) (μ := μ'') (w := w'') hρ hpn ds (forgetFr gn.to st1.fr) (forgetFr gn.to s1.fr) 0 st1.nv (fun j => ⟨_, hF0.at_ j⟩) hxs hx1 hvn.left.left.left t _ (hF1.at_ t)
                                          exact SR.upto hdom hqom (hFR0.at_ t) hb, hF1.defers⟩
                                        (by
                                          refine genHeap_sound hW1 hpl' (fun bb blk hpb hblk => ?_) hys hx2 (hkk ▸ hvn.left.left.right)
                                          obtain ⟨x, hbx⟩ := Option.isSome_iff_exists.1 hpb
                                          obtain ⟨blk0, hb0, vs0, ty0, _, hl0, _⟩ := hW0.blk bb x hbx
                                          rw [hblk] at hb0
                                          cases hb0
                                          have hgg : (genHeap gn.ms (st1.nv + (genFr ds 0 st1.nv (forgetFr gn.to st1.fr)).1.length) (forgetHp gn.mo st1.h))[bb]? = some { blk with ls := blk.ls.mapIdx fun o l => match idxAt (bb, o) gn.ms (st1.nv + (genFr ds 0 st1.nv (forgetFr gn.to st1.fr)).1.length) with
                                              | some i => SL.e (.v i)
                                              | none => l } := by
                                            unfold genHeap
                                            rw [List.getElem?_mapIdx, hblk]
                                            rfl
                                          obtain ⟨sb, hsb, hro, hsl⟩ := shapeHp_get hshp bb _ hgg
                                          have hdl := diffHp_nil hdf bb _ sb hgg hsb
                                          refine ⟨sb, hsb, hro, by simpa using hsl, fun o l l' hl hl' hnm v hv => ?_⟩
                                          have hgl : (blk.ls.mapIdx fun o l => match idxAt (bb, o) gn.ms (st1.nv + (genFr ds 0 st1.nv (forgetFr gn.to st1.fr)).1.length) with
                                              | some i => SL.e (.v i)
                                              | none => l)[o]? = some l := by
                                            rw [List.getElem?_mapIdx, hl]
                                            simp only [Option.map_some]
                                            cases hi : idxAt (bb, o) gn.ms (st1.nv + (genFr ds 0 st1.nv (forgetFr gn.to st1.fr)).1.length) with
                                            | none => rfl
                                            | some i => obtain ⟨j, _, hj⟩ := idxAt_some hi; exact absurd (List.mem_of_getElem? hj) hnm
                                          have hsame := diffLs_nil hdl o l l' hgl hl' (by simpa using hnm)
                                          obtain ⟨v0, _, hr0⟩ := hl0.get hl
                                          exact LR.upto hr0 hdom hqom (LR.rebase hr0 hρ hpn (SL.same_sound hsame hv)))
                                        hs2.fr hs2.wr hs2.own hev2' hpl1 hpo1 hid1 hpln1 hx3
                                        (fun k hk hlt => by have := List.all_eq_true.1 hidb k hk; simp at this; omega)
                                        (fun k os hlt hos => by
                                          have hos' : ((headO st1.o ids gn.ks (st1.nv + (genFr ds 0 st1.nv (forgetFr gn.to st1.fr)).1.length + es.length) pl.length).take st1.o.length)[k]? = some os := by
                                            rw [List.getElem?_take, if_pos hlt]; exact hos
                                          obtain ⟨os', h7, h8, h9⟩ := diffO_nil hdo k os hos'
                                          by_cases hkm : k ∈ gn.ks
                                          · obtain ⟨i, hi⟩ := List.getElem?_of_mem hkm
                                            obtain ⟨t, ht, hkt⟩ := live_list hek1 i k hi
                                            rw [hkt] at h7
                                            cases h7
                                            obtain ⟨d, hd, hed⟩ := evals_get hx4 ht
                                            exact .inr ⟨_, hkt, h8.symm, .inr ⟨i, d, hi, hed, hd⟩⟩
                                          · rcases h9 with h | h | h
                                            · exact .inl h
                                            · exact absurd (by simpa using h) hkm
                                            · exact .inr ⟨os', h7, h8.symm, .inl ⟨h.symm, hkm⟩⟩)
                                      exact ih e1 e2 e3 e4 I2 μ3 w'' a'' hPn (by omega) (by omega) (by omega) (by omega) hF3 hW3 hO3 hev3
                                    · cases hback
                                  · cases hback
                                  · cases hback
                exact key N d1 d2 d3 d4 I1 μ2 w a hP rfl rfl rfl rfl hF2 hW2 hO2 hev2
              · cases hhd
            · cases hhd

end
end Go.Proofs.Ytffahdloddkcfaa.Sx
