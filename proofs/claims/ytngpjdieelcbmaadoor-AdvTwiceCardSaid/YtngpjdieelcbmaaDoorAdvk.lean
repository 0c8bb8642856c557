/-
  Layer 17: the laws: what is handed in stays; brought in twice.
-/
import Derived.Test.YtngpjdieelcbmaaDoorAdvc
import Derived.Test.YtngpjdieelcbmaaDoorIrVk
namespace Go.Proofs.YtngpjdieelcbmaaDoor.Sx
open Go
set_option linter.unusedVariables false
set_option linter.unusedSimpArgs false
set_option maxRecDepth 100000

theorem AdvKeeps_con {h : Ht} {s a q : Nat} {st wy : Int} {cs : List Cl} (hT : TOk h.ts) (hTl : h.ts.length < 9223372036854775808) (hs : s < 18446744073709551616) (hC : COk cs) (ha : a < 18446744073709551616) : Cn gAll 3 [h.dv, md 2 s cs, u a, (false, [.i .u8 (q : Int)]), i st, i wy] [bb true] := by
  refine con rfl rfl atlaslaw17_AdvKeeps_c atlaslaw17_AdvKeeps_p rfl ?_
  unfold atlaslaw17_AdvKeeps_ir
  simp only [lv_cons, lv_nil, Pt.ds, Lf.ds, En.ds, Ht.ds, app_cons, app_nil]
  refine wp_call rfl awake17_con rfl ?_
  simp only [lv_cons, lv_nil, app_cons, app_nil]
  refine wp_lt (d := (.b false)) rfl ?_
  simp only [lv_cons, lv_nil, app_cons, app_nil]
  refine wp_ite (t := false) rfl (fun h => by cases h) (fun _ => ?_)
  refine wp_call rfl (fits17_con (h := h) (k := 2) (s := s) (cs := cs) hT hTl (.inl rfl) hs) rfl ?_
  simp only [lv_cons, lv_nil, app_cons, app_nil]
  refine wp_lt rfl ?_
  simp only [lv_cons, lv_nil, app_cons, app_nil]
  refine wp_ite rfl (fun hf => ?_) (fun hf => ?_)
  · refine wp_call rfl awake17_con rfl ?_
    simp only [lv_cons, lv_nil, app_cons, app_nil]
    exact wp_return rfl rfl
  have hf : ((h.ts.length ≤ 16 ∧ rightH h = true) ∧ cs.length ≤ 300) ∧ rightM s cs = true := by simpa using hf
  obtain ⟨⟨⟨htl, hrh⟩, hl⟩, hr⟩ := hf
  have hM : RM s cs := right_rm.1 hr
  have hH : RH h := rh_of hT hrh
  refine wp_chk (room_t (app0_e rfl) (by rw [List.length_map]; omega)) ?_
  refine wp_chk (row_room (own_cells (.inl rfl) rfl) (by omega)) ?_
  refine wp_lt (own_cells (cs := cs) (k := 2) (.inl rfl) rfl) ?_
  simp only [lv_cons, lv_nil, app_cons, app_nil]
  refine wp_lt (rem8 (a := q) (m := 3) rfl (by decide)) ?_
  simp only [lv_cons, lv_nil, app_cons, app_nil]
  refine wp_lt (cv_i (n := ((q % 3 : Nat) : Int)) rfl (by omega) (by omega)) ?_
  simp only [lv_cons, lv_nil, app_cons, app_nil]
  have hb := bring_con (h := h) (a := a) (kd := ((q % 3 : Nat) : Int)) hH hM hC (by omega) ha kn_of
  refine wp_call (az := [h.dv, md 2 s cs, u a, i ((q % 3 : Nat) : Int)]) (evs_cons (es_cons (app0_e rfl) rfl) rfl) hb rfl ?_
  generalize bringH h s cs a = h' at *
  simp only [lv_cons, lv_nil, Pt.ds, Lf.ds, En.ds, Ht.ds, app_cons, app_nil]
  refine wp_call (az := [h.dv, i st, i wy]) (evs_cons (es_cons (app0_e rfl) rfl) rfl) (evict_con (h := h) (j := st) (w := wy) hH) rfl ?_
  simp only [lv_cons, lv_nil, Pt.ds, Lf.ds, En.ds, Ht.ds, app_cons, app_nil]
  refine wp_call (az := [h.dv, i wy]) (evs_cons (es_cons (app0_e rfl) rfl) rfl) (pickH_con (h := h) (w := wy)) rfl ?_
  generalize pickV h wy = h'' at *
  simp only [lv_cons, lv_nil, Pt.ds, Lf.ds, En.ds, Ht.ds, app_cons, app_nil]
  refine wp_call (az := [h.dv, h.dv]) (evs_cons (es_cons (app0_e rfl) rfl) rfl) (sameH_con (h := h) (by omega)) rfl ?_
  simp only [lv_cons, lv_nil, app_cons, app_nil]
  refine wp_chk rfl ?_
  refine wp_ite (t := true) rfl (fun _ => ?_) (fun h => by cases h)
  refine wp_call rfl (sameM_con (s := s) (.inl rfl) (.inl rfl) (by omega)) rfl ?_
  simp only [lv_cons, lv_nil, app_cons, app_nil]
  exact wp_return rfl rfl

theorem AdvTwice_con {h : Ht} {s a q q' : Nat} {cs : List Cl} (hT : TOk h.ts) (hTl : h.ts.length < 9223372036854775808) (hs : s < 18446744073709551616) (hC : COk cs) (ha : a < 18446744073709551616) : Cn gAll 4 [h.dv, md 2 s cs, u a, (false, [.i .u8 (q : Int)]), (false, [.i .u8 (q' : Int)])] [bb true] := by
  refine con rfl rfl atlaslaw17_AdvTwice_c atlaslaw17_AdvTwice_p rfl ?_
  unfold atlaslaw17_AdvTwice_ir
  simp only [lv_cons, lv_nil, Pt.ds, Lf.ds, En.ds, Ht.ds, app_cons, app_nil]
  refine wp_call rfl awake17_con rfl ?_
  simp only [lv_cons, lv_nil, app_cons, app_nil]
  refine wp_lt (d := (.b false)) rfl ?_
  simp only [lv_cons, lv_nil, app_cons, app_nil]
  refine wp_ite (t := false) rfl (fun h => by cases h) (fun _ => ?_)
  refine wp_call rfl (fits17_con (h := h) (k := 2) (s := s) (cs := cs) hT hTl (.inl rfl) hs) rfl ?_
  simp only [lv_cons, lv_nil, app_cons, app_nil]
  refine wp_lt rfl ?_
  simp only [lv_cons, lv_nil, app_cons, app_nil]
  refine wp_ite rfl (fun hf => ?_) (fun hf => ?_)
  · refine wp_call rfl awake17_con rfl ?_
    simp only [lv_cons, lv_nil, app_cons, app_nil]
    exact wp_return rfl rfl
  have hf : ((h.ts.length ≤ 16 ∧ rightH h = true) ∧ cs.length ≤ 300) ∧ rightM s cs = true := by simpa using hf
  obtain ⟨⟨⟨htl, hrh⟩, hl⟩, hr⟩ := hf
  have hM : RM s cs := right_rm.1 hr
  have hH : RH h := rh_of hT hrh
  obtain ⟨g, hg⟩ : ∃ g : Ht, g = { h with vic := -1 } := ⟨_, rfl⟩
  have hG : RH g := by rw [hg]; exact ⟨hH.tr, hH.satp, hH.priv⟩
  have hgv : g.vic = -1 := by rw [hg]
  have hgl : g.ts.length ≤ 16 := by rw [hg]; exact htl
  have hgd : g.dv = (true, [tlb h.ts, U h.mode, U h.asid, U h.ppn, I h.priv, .b h.sum, .b h.mxr, I (-1)]) := by rw [hg]; rfl
  obtain ⟨r1, r2, r3, r4⟩ := bring_right (a := a) hG hM hC
  obtain ⟨a1, a2⟩ := bring_again (a := a) hG hM hC hgv
  have hbl := bringH_len (h := g) (s := s) (a := a) (cs := cs)
  have hb1 := bring_con (h := g) (a := a) (kd := ((q % 3 : Nat) : Int)) hG hM hC (by omega) ha kn_of
  have hb2 := bring_con (h := g) (a := a) (kd := ((q' % 3 : Nat) : Int)) hG hM hC (by omega) ha kn_of
  have hb3 := bring_con (h := bringH g s cs a) (cs := bringM g s cs a) (a := a) (kd := ((q' % 3 : Nat) : Int)) r1 r2 r3 (by omega) ha kn_of
  have hbl3 := bringH_len (h := bringH g s cs a) (s := s) (a := a) (cs := bringM g s cs a)
  rw [a1] at hb3
  rw [hgd] at hb1 hb2
  generalize bringH (bringH g s cs a) s (bringM g s cs a) a = h3 at *
  generalize bringH g s cs a = h2 at *
  generalize bringM g s cs a = m2 at *
  refine wp_lt (rem8 (a := q) (m := 3) rfl (by decide)) ?_
  simp only [lv_cons, lv_nil, app_cons, app_nil]
  refine wp_lt (cv_i (n := ((q % 3 : Nat) : Int)) rfl (by omega) (by omega)) ?_
  simp only [lv_cons, lv_nil, app_cons, app_nil]
  refine wp_call rfl hb1 rfl ?_
  simp only [lv_cons, lv_nil, Pt.ds, Lf.ds, En.ds, Ht.ds, app_cons, app_nil]
  refine wp_lt (rem8 (a := q') (m := 3) rfl (by decide)) ?_
  simp only [lv_cons, lv_nil, app_cons, app_nil]
  refine wp_lt (cv_i (n := ((q' % 3 : Nat) : Int)) rfl (by omega) (by omega)) ?_
  simp only [lv_cons, lv_nil, app_cons, app_nil]
  refine wp_call rfl hb2 rfl ?_
  simp only [lv_cons, lv_nil, Pt.ds, Lf.ds, En.ds, Ht.ds, app_cons, app_nil]
  refine wp_lt (rem8 (a := q') (m := 3) rfl (by decide)) ?_
  simp only [lv_cons, lv_nil, app_cons, app_nil]
  refine wp_lt (cv_i (n := ((q' % 3 : Nat) : Int)) rfl (by omega) (by omega)) ?_
  simp only [lv_cons, lv_nil, app_cons, app_nil]
  refine wp_call rfl hb3 rfl ?_
  simp only [lv_cons, lv_nil, Pt.ds, Lf.ds, En.ds, Ht.ds, app_cons, app_nil]
  refine wp_call (az := [h2.dv, h2.dv]) rfl (sameH_con (h := h2) (by omega)) rfl ?_
  simp only [lv_cons, lv_nil, app_cons, app_nil]
  refine wp_ite (t := true) rfl (fun _ => ?_) (fun h => by cases h)
  refine wp_call rfl (sameM_con (s := s) (cs := m2) (.inl rfl) (.inl rfl) (by omega)) rfl ?_
  simp only [lv_cons, lv_nil, app_cons, app_nil]
  refine wp_ite (t := true) rfl (fun _ => ?_) (fun h => by cases h)
  refine wp_call rfl (sameM_con (s := s) (cs := m2) (.inl rfl) (.inl rfl) (by omega)) rfl ?_
  simp only [lv_cons, lv_nil, app_cons, app_nil]
  refine wp_ite (t := true) rfl (fun _ => ?_) (fun h => by cases h)
  refine wp_call rfl (refAll_con (ts := h3.ts) (by omega)) rfl ?_
  simp only [lv_cons, lv_nil, app_cons, app_nil]
  refine wp_lt (len_is rfl (List.length_map ..)) ?_
  simp only [lv_cons, lv_nil, app_cons, app_nil]
  refine wp_call rfl (refAll_con (ts := h2.ts) (by omega)) rfl ?_
  simp only [lv_cons, lv_nil, app_cons, app_nil]
  refine wp_lt (len_is rfl (List.length_map ..)) ?_
  simp only [lv_cons, lv_nil, app_cons, app_nil]
  rw [a2]
  refine wp_lt (d := .b true) (cmp_e (e_eql rfl rfl) (beq_self_eq_true _)) ?_
  simp only [lv_cons, lv_nil, app_cons, app_nil]
  exact wp_return rfl rfl
end Go.Proofs.YtngpjdieelcbmaaDoor.Sx
