/-
  Ways that are joined behind a region: the state at the join.
-/
import Derived.Test.YtffahdloddkcfaaAny
namespace Go.Proofs.Ytffahdloddkcfaa.Sx
open Go
set_option linter.unnecessarySimpa false
set_option linter.unusedSimpArgs false
set_option linter.unusedVariables false

section
variable {G : Glo} {B : Nat} {I₀ : Imm} {w₀ : World}

theorem joinFr_at {ds live : List Nat} : ∀ (fr : List S) (t j : Nat), (joinFr ds live t fr).getD j .x = fr.getD j .x ∨ (joinFr ds live t fr).getD j .x = .x ∨ (joinFr ds live t fr).getD j .x = .val false [.e (.c (.b false))]
  | [], t, j => .inl rfl
  | s :: r, t, 0 => by
    simp only [joinFr, List.getD_cons_zero]
    split
    · split
      · exact .inr (.inr rfl)
      · exact .inr (.inl rfl)
    · exact .inl rfl
  | s :: r, t, j + 1 => by
    simp only [joinFr, List.getD_cons_succ]
    exact joinFr_at r (t + 1) j

theorem joinFr_some {ds live : List Nat} {fr : List S} {I : Imm} {μ : Mu} {w : World} {ρ : List D} (h : ∀ j, ∃ v, SR I μ w ρ (fr.getD j .x) v) (j : Nat) : ∃ v, SR I μ w ρ ((joinFr ds live 0 fr).getD j .x) v := by
  rcases joinFr_at (ds := ds) (live := live) fr 0 j with h1 | h1 | h1
  · rw [h1]; exact h j
  · rw [h1]; exact ⟨undef, trivial⟩
  · rw [h1]; exact ⟨.bool false, sr_e.2 ⟨.b false, rfl, .b false⟩⟩

theorem join_evals {ds live : List Nat} {ρ : List D} : ∀ (fr : List S) (t k : Nat), ∃ dd, Ex.evals ρ (genFr ds t k (joinFr ds live t fr)).1 = some dd
  | [], t, k => ⟨[], rfl⟩
  | s :: r, t, k => by
    simp only [joinFr, genFr]
    by_cases hd : ds.contains t = true
    · rw [if_pos hd, if_pos hd]
      by_cases hl : live.contains t = true
      · rw [if_pos hl]
        obtain ⟨dd, hdd⟩ := join_evals (ds := ds) (live := live) (ρ := ρ) r (t + 1) (k + 1)
        refine ⟨.b false :: dd, ?_⟩
        show Ex.evals ρ (.c (.b false) :: (genFr ds (t + 1) (k + 1) (joinFr ds live (t + 1) r)).1) = _
        simp [Ex.evals, Ex.eval, hdd]
      · rw [if_neg hl]
        exact join_evals r (t + 1) k
    · rw [if_neg hd, if_neg hd]
      exact join_evals r (t + 1) k

theorem join_lands {st s : St} {L L'' : List Lp} {ρ ρ'' : List D} {I I'' : Imm} {μ μ'' : Mu} {w w'' : World} {a a'' : Act} {ds live : List Nat} {vs : List Ex} {dd : List D} (hs : StR G B I₀ w₀ st L ρ I μ w a) (h5 : StR G B I₀ w₀ s L'' ρ'' I'' μ'' w'' a'')
    (h6 : Evo I μ w I'' μ'' w'') (hρ : ρ <+: ρ'') (hst : st.o = []) (hb : backFr ds 0 (genFr ds 0 st.nv (joinFr ds live 0 st.fr)).2 s.fr = some vs) (he : Ex.evals ρ'' vs = some dd)
    (hd : diffHp [] 0 (genHeap [] st.nv st.h) s.h = []) (hsh : shapeHp (genHeap [] st.nv st.h) s.h = true) :
    ∃ μ3, StR G B I₀ w₀ { st with fr := (genFr ds 0 st.nv (joinFr ds live 0 st.fr)).2, h := genHeap [] st.nv st.h, nv := st.nv + (genFr ds 0 st.nv (joinFr ds live 0 st.fr)).1.length } L (ρ ++ dd) I'' μ3 w'' a'' ∧ Evo I μ w I'' μ3 w'' := by
  have hdom : ∀ b x, μ b = some x → (μ b).isSome = true := fun b x hb => by rw [hb]; rfl
  have hqom : ∀ k v, μ.v k = some v → (false : Bool) = true := fun k v hv => by
    rw [hs.own.new k (by rw [hst]; exact Nat.zero_le _)] at hv
    cases hv
  have h0 := joinFr_some (ds := ds) (live := live) (fr := st.fr) (I := I) (μ := μ) (w := w) (ρ := ρ) fun j => ⟨_, hs.fr.at_ j⟩
  obtain ⟨dd0, hdd0⟩ := join_evals (ds := ds) (live := live) (ρ := ρ) st.fr 0 st.nv
  have hgen := genFr_sound (I := I) (μ := μ) (w := w) (pre_append ρ dd0) ds (joinFr ds live 0 st.fr) 0 st.nv hdd0 (hs.nv ▸ VarsAt.self ρ dd0)
  have hv : VarsAt (ρ ++ dd) st.nv dd := hs.nv ▸ VarsAt.self ρ dd
  have hlen := backFr_exs (joinFr ds live 0 st.fr) hb
  have hlen2 := evals_length he
  refine ⟨μ''.res (fun b => (μ b).isSome) fun _ => false, ⟨⟨(backFr_len hb).trans h5.fr.len, fun t => ?_, h5.fr.defers⟩, ?_, ?_, ?_, hs.lv⟩, h6.upto hdom hqom⟩
  · obtain ⟨v0, hv0⟩ := h0 t
    exact SR.upto hdom hqom (hgen.2 t v0 hv0) (backFr_sound (I := I'') (μ := μ'') (w := w'') hρ (pre_append ρ dd) ds (joinFr ds live 0 st.fr) s.fr 0 st.nv h0 hb he hv t _ (h5.fr.at_ t))
  · refine genHeap_sound (ms := []) (k := st.nv) (ys := []) (dd := []) h5.wr (fun b hb => ?_) (fun bb blk hpb hblk => ?_) rfl rfl (fun i d h => by simp at h)
    · obtain ⟨x, hx⟩ := Option.isSome_iff_exists.1 hb
      exact hs.wr.dom hx
    · obtain ⟨x, hbx⟩ := Option.isSome_iff_exists.1 hpb
      obtain ⟨blk0, hb0, vs0, ty0, _, hl0, _⟩ := hs.wr.blk bb x hbx
      rw [hblk] at hb0
      cases hb0
      have hgg : (genHeap [] st.nv st.h)[bb]? = some { blk with ls := blk.ls.mapIdx fun o l => match idxAt (bb, o) [] st.nv with
          | some i => SL.e (.v i)
          | none => l } := by
        unfold genHeap
        rw [List.getElem?_mapIdx, hblk]
        rfl
      obtain ⟨sb, hsb, hro, hsl⟩ := shapeHp_get hsh bb _ hgg
      have hdl := diffHp_nil hd bb _ sb hgg hsb
      refine ⟨sb, hsb, hro, by simpa using hsl, fun o l l' hl hl' hnm v hv => ?_⟩
      have hgl : (blk.ls.mapIdx fun o l => match idxAt (bb, o) [] st.nv with
          | some i => SL.e (.v i)
          | none => l)[o]? = some l := by
        rw [List.getElem?_mapIdx, hl]
        rfl
      have hsame := diffLs_nil hdl o l l' hgl hl' (by simp)
      obtain ⟨v0, _, hr0⟩ := hl0.get hl
      exact LR.upto hr0 hdom hqom (LR.rebase hr0 hρ (pre_append ρ dd) (SL.same_sound hsame hv))
  · show OwnR B I'' _ w'' (ρ ++ dd) st.o
    rw [hst]
    exact OwnR.nil fun k => by simp [Mu.res]
  · simp only [List.length_append, hs.nv]
    omega
end
end Go.Proofs.Ytffahdloddkcfaa.Sx
