/-
  Layer 17: the law: whatever is brought in, let go, or picked, whatever access comes to the same result.
-/
import Derived.Test.YtobdkhjaipoliaaGreatDoorZHartc
import Derived.Test.YtobdkhjaipoliaaGreatDoorZIrVs
namespace Go.Proofs.YtobdkhjaipoliaaGreatDoor.Sx
open Go
set_option linter.unusedVariables false
set_option linter.unusedSimpArgs false
set_option maxRecDepth 100000
theorem RH.dropS {h : Ht} (hR : RH h) {j w : Int} : RH { h with ts := (dropT h.ts j w).1 } := by
  refine ⟨?_, hR.satp, hR.priv⟩
  show TR (dropT h.ts j w).1
  unfold dropT
  split
  · rename_i hc
    split
    · rename_i s hs
      exact hR.tr.drop hs (by omega)
    · exact hR.tr
  · exact hR.tr
theorem RH.pickS {h : Ht} (hR : RH h) {w : Int} : RH (pickV h w) := by
  unfold pickV
  split
  · exact ⟨hR.tr, hR.satp, hR.priv⟩
  · exact hR
structure SI (h : Ht) (s : Nat) (cs : List Cl) (n : Nat) (x : Ht) (y : List Cl) : Prop where
  rh : RH x
  rm : RM s y
  ok : COk y
  len : y.length ≤ cs.length + n
  ag : agreesB x s y = true
  rel : relM cs y
  same : Same6 h x
theorem SI.start {h : Ht} {s : Nat} {cs : List Cl} (hH : RH h) (hM : RM s cs) (hC : COk cs) (hag : agreesB h s cs = true) : SI h s cs 0 h cs := ⟨hH, hM, hC, by omega, hag, .self, .self⟩
theorem SI.bring {h x : Ht} {s n a : Nat} {cs y : List Cl} (h1 : SI h s cs n x y) (ha : a < 18446744073709551616) : SI h s cs (n + 1) (bringH x s y a) (bringM x s y a) := by
  obtain ⟨r1, r2, r3, r4⟩ := bring_right (a := a) h1.rh h1.rm h1.ok
  refine ⟨r1, r2, r3, by have := h1.len; omega, agrees_bring h1.rh h1.rm h1.ok ha h1.ag, ?_, ?_⟩
  · cases hb : bringL x s y a with
    | none => rw [bringM_none hb]; exact h1.rel
    | some l => rw [bringM_some hb]; exact h1.rel.bring h1.rm.asc (look_leaf (bringL_of hb).2).2
  · cases hb : bringL x s y a with
    | none => rw [bringH_none hb]; exact h1.same
    | some l => rw [bringH_some hb]; exact ⟨h1.same.mode, h1.same.asid, h1.same.ppn, h1.same.priv, h1.same.sum, h1.same.mxr⟩
theorem SI.drop {h x : Ht} {s n : Nat} {cs y : List Cl} (h1 : SI h s cs n x y) {j w : Int} : SI h s cs n { x with ts := (dropT x.ts j w).1 } y :=
  ⟨h1.rh.dropS, h1.rm, h1.ok, h1.len, agrees_drop h1.ag, h1.rel, ⟨h1.same.mode, h1.same.asid, h1.same.ppn, h1.same.priv, h1.same.sum, h1.same.mxr⟩⟩
theorem SI.pick {h x : Ht} {s n : Nat} {cs y : List Cl} (h1 : SI h s cs n x y) {w : Int} : SI h s cs n (pickV x w) y := by
  refine ⟨h1.rh.pickS, h1.rm, h1.ok, h1.len, agrees_pick h1.ag, h1.rel, ?_⟩
  unfold pickV
  split
  · exact ⟨h1.same.mode, h1.same.asid, h1.same.ppn, h1.same.priv, h1.same.sum, h1.same.mxr⟩
  · exact h1.same
theorem load_lt {s pl z : Nat} {cs : List Cl} (hC : COk cs) : loadN s cs pl z < 18446744073709551616 := by
  have h1 := wordN_lt (s := s) (a := pl) hC
  unfold loadN getN
  refine Nat.lt_of_le_of_lt (Nat.mod_le _ _) (Nat.lt_of_le_of_lt (Nat.div_le_self _ _) h1)
theorem val_lt {h : Ht} {s a z v u : Nat} {k : Int} {cs : List Cl} (hR : RH h) (hM : RM s cs) (hO : COk cs) (e : (accessH h s cs k a z v).2.2 = .val u) : u < 18446744073709551616 := by
  unfold accessH at e
  split at e
  · cases e
  split at e
  · cases e
  · rename_i h' cs' pl e'
    have hc := (lead_ok hR hM hO e').2.2.1
    unfold touchH at e
    split at e
    · split at e
      · cases e; decide
      · cases e; exact load_lt hc
    · cases e
theorem ite_fs {ρ : List D} {c x y : Ex} {t : Bool} (hc : c.eval ρ = some (.b false)) (hy : y.eval ρ = some (.b t)) : (Ex.ite c x y).eval ρ = some (.b t) := by simp [Ex.eval, hc, hy]
theorem silent_rel {h x : Ht} {s n a z v : Nat} {k : Int} {cs y : List Cl} (hH : RH h) (hM : RM s cs) (hC : COk cs) (ha : a < 18446744073709551616) (hag : agreesB h s cs = true) (h1 : SI h s cs n x y) (hz : Sz z) :
    (accessH h s cs k a z v).2.1.length = (accessH x s y k a z v).2.1.length ∧ ∃ (u w : Nat) (b : Bool) (c : Int) (m : Nat), (accessH h s cs k a z v).2.2.dv k a = (true, [U u, .b b, I c, U m]) ∧ (accessH x s y k a z v).2.2.dv k a = (true, [U w, .b b, I c, U m]) ∧
      (∀ i, i % 8 ≠ 6 → w.testBit i = u.testBit i) ∧ (cs = [] → w = u) ∧ u < 18446744073709551616 ∧ w < 18446744073709551616 := by
  have f1 := access_flat (z := z) (v := v) (k := k) hH hM ha hag
  have f2 := access_flat (z := z) (v := v) (k := k) h1.rh h1.rm ha h1.ag
  have v1 := fun u => val_lt (z := z) (v := v) (k := k) (a := a) (u := u) hH hM hC
  have v2 := fun u => val_lt (z := z) (v := v) (k := k) (a := a) (u := u) h1.rh h1.rm h1.ok
  rw [f1] at v1
  rw [f2] at v2
  rw [f1, f2]
  obtain ⟨e1, e2⟩ := access_rel (a := a) (z := z) (v := v) (k := k) (h := bareH h) (x := bareH x) rfl rfl (h6 := ⟨h1.same.mode, h1.same.asid, h1.same.ppn, h1.same.priv, h1.same.sum, h1.same.mxr⟩) hz hM h1.rm h1.rel
  refine ⟨e1, ?_⟩
  rcases e2 with ⟨q, e2, e3⟩ | ⟨u, w, e2, e3, e4, e5⟩
  · rw [e2, e3]
    exact ⟨_, _, _, _, _, rfl, rfl, fun _ _ => rfl, fun _ => rfl, by decide, by decide⟩
  · have b1 := v1 u e2
    have b2 := v2 w e3
    rw [e2, e3]
    exact ⟨_, _, _, _, _, rfl, rfl, e4, e5, b1, b2⟩
theorem tables_con {s a b : Nat} {cs : List Cl} (hne : cs ≠ []) (ha : a < 18446744073709551616) (hb : b < 18446744073709551616) (hbits : ∀ i, i % 8 ≠ 6 → b.testBit i = a.testBit i) : Cn gAll 12 [md 2 s cs, u a, u b] [bb true] := by
  refine con rfl rfl atlaslaw17_tables_c atlaslaw17_tables_p rfl ?_
  unfold atlaslaw17_tables_ir
  simp only [lv_cons, lv_nil, Pt.ds, Lf.ds, En.ds, Ht.ds, app_cons, app_nil]
  refine wp_rounds (fun m ds => ∃ (b : Bool) (n : Nat), ds = [.b b, I n] ∧ n + m = 65 ∧ n ≤ 64) 65 rfl ⟨_, 0, rfl, by omega, by omega⟩ ?_
    (fun es hes => by obtain ⟨_, n, _, h1, h2⟩ := hes; omega)
  rintro m es Q ⟨b', n, rfl, hm, hle⟩ hQ
  simp only [lv_cons, lv_nil, app_cons, app_nil]
  refine wp_lt (e_lss rfl rfl) ?_
  simp only [lv_cons, lv_nil, app_cons, app_nil]
  refine wp_ite rfl (fun hc => ?_) (fun hc => ?_)
  · have hc := of_decide_eq_true hc
    refine wp_lt (cv_u rfl (by omega)) ?_
    simp only [lv_cons, lv_nil, app_cons, app_nil]
    refine wp_lt (u_shr rfl rfl (by omega)) ?_
    simp only [lv_cons, lv_nil, app_cons, app_nil]
    refine wp_lt (u_rem (b := 2) rfl rfl (by decide)) ?_
    simp only [lv_cons, lv_nil, app_cons, app_nil]
    refine wp_lt (cv_u rfl (by omega)) ?_
    simp only [lv_cons, lv_nil, app_cons, app_nil]
    refine wp_lt (u_shr rfl rfl (by omega)) ?_
    simp only [lv_cons, lv_nil, app_cons, app_nil]
    refine wp_lt (u_rem (b := 2) rfl rfl (by decide)) ?_
    simp only [lv_cons, lv_nil, app_cons, app_nil]
    refine wp_lt (e_neq rfl rfl) ?_
    simp only [lv_cons, lv_nil, app_cons, app_nil]
    refine wp_ite rfl (fun h1 => ?_) (fun h1 => ?_)
    · refine wp_lt (i_rem (b := 8) rfl rfl (by decide)) ?_
      simp only [lv_cons, lv_nil, app_cons, app_nil]
      refine wp_lt (d := .b false) (cmp_e (e_neq rfl rfl) ?_) ?_
      · have h1 := bne_iff_ne.1 h1
        have h6 : n % 8 = 6 := by
          by_cases h6 : n % 8 = 6
          · exact h6
          · exfalso
            have := hbits n h6
            rw [Nat.testBit_eq_decide_div_mod_eq, Nat.testBit_eq_decide_div_mod_eq] at this
            have := decide_eq_decide.1 this
            have q1 := Nat.mod_two_eq_zero_or_one (a / 2 ^ n)
            have q2 := Nat.mod_two_eq_zero_or_one (b / 2 ^ n)
            omega
        rw [h6]
        rfl
      simp only [lv_cons, lv_nil, app_cons, app_nil]
      refine wp_ite (t := false) rfl (fun h => by cases h) (fun _ => ?_)
      refine wp_lt (i_add (a := (n : Int)) (b := 1) rfl rfl (by omega) (by omega)) ?_
      simp only [lv_cons, lv_nil, app_cons, app_nil]
      exact wp_cont rfl rfl (hQ _ ⟨_, n + 1, rfl, by omega, by omega⟩)
    · refine wp_lt (i_add (a := (n : Int)) (b := 1) rfl rfl (by omega) (by omega)) ?_
      simp only [lv_cons, lv_nil, app_cons, app_nil]
      exact wp_cont rfl rfl (hQ _ ⟨_, n + 1, rfl, by omega, by omega⟩)
  · refine wp_lt (len_is rfl (List.length_map ..)) ?_
    simp only [lv_cons, lv_nil, app_cons, app_nil]
    refine wp_lt (e_gtr rfl rfl) ?_
    simp only [lv_cons, lv_nil, app_cons, app_nil]
    refine wp_return rfl (bb_eq (decide_eq_true ?_))
    have := List.length_pos_iff.2 hne
    omega
theorem AdvSilent_con {h : Ht} {s a q z v : Nat} {st wy : Int} {zs : List Int} {cs : List Cl} (hT : TOk h.ts) (hTl : h.ts.length < 9223372036854775808) (hs : s < 18446744073709551616) (hC : COk cs) (hzl : zs.length < 9223372036854775808) (hzs : ∀ z ∈ zs, 0 ≤ z ∧ z < 18446744073709551616) (ha : a < 18446744073709551616) (hv : v < 18446744073709551616) :
    Cn gAll 3 [h.dv, md 2 s cs, (false, [.sl 1 (zs.map fun z => [.i .u64 z])]), i st, i wy, (false, [.i .u8 (q : Int)]), u a, (false, [.i .u8 (z : Int)]), u v] [bb true] := by
  refine con rfl rfl atlaslaw17_AdvSilent_c atlaslaw17_AdvSilent_p rfl ?_
  unfold atlaslaw17_AdvSilent_ir
  simp only [lv_cons, lv_nil, Pt.ds, Lf.ds, En.ds, Ht.ds, app_cons, app_nil]
  refine wp_call rfl awake17_con rfl ?_
  simp only [lv_cons, lv_nil, app_cons, app_nil]
  refine wp_lt (d := (.b false)) rfl ?_
  simp only [lv_cons, lv_nil, app_cons, app_nil]
  refine wp_ite (t := false) rfl (fun h => by cases h) (fun _ => ?_)
  refine wp_call rfl (fits17_con (h := h) (k := 2) (s := s) (cs := cs) hT hTl (.inl rfl) hs) rfl ?_
  simp only [lv_cons, lv_nil, app_cons, app_nil]
  refine wp_lt rfl ?_
  simp only [lv_cons, lv_nil, app_cons, app_nil]
  refine wp_ite rfl (fun hf => ?_) (fun hf => ?_)
  · refine wp_call rfl awake17_con rfl ?_
    simp only [lv_cons, lv_nil, app_cons, app_nil]
    exact wp_return rfl rfl
  have hf : ((h.ts.length ≤ 16 ∧ rightH h = true) ∧ cs.length ≤ 300) ∧ rightM s cs = true := by simpa using hf
  obtain ⟨⟨⟨htl, hrh⟩, hl⟩, hr⟩ := hf
  have hM : RM s cs := right_rm.1 hr
  have hH : RH h := rh_of hT hrh
  refine wp_lt (e_eql rfl rfl) ?_
  simp only [lv_cons, lv_nil, app_cons, app_nil]
  refine wp_ite rfl (fun h0 => ?_) (fun h0 => ?_)
  · refine wp_call rfl awake17_con rfl ?_
    simp only [lv_cons, lv_nil, app_cons, app_nil]
    exact wp_return rfl rfl
  refine wp_call rfl (refAgrees_con (h := h) (s := s) (cs := cs) hH hM hC (by omega)) rfl ?_
  simp only [lv_cons, lv_nil, app_cons, app_nil]
  refine wp_lt rfl ?_
  simp only [lv_cons, lv_nil, app_cons, app_nil]
  refine wp_ite rfl (fun hag => ?_) (fun hag => ?_)
  · refine wp_call rfl awake17_con rfl ?_
    simp only [lv_cons, lv_nil, app_cons, app_nil]
    exact wp_return rfl rfl
  have hag : agreesB h s cs = true := by simpa using hag
  refine wp_lt (len_is rfl (List.length_map ..)) ?_
  simp only [lv_cons, lv_nil, app_cons, app_nil]
  refine wp_lt (e_gtr rfl rfl) ?_
  simp only [lv_cons, lv_nil, app_cons, app_nil]
  refine wp_ite rfl (fun h20 => ?_) (fun h20 => ?_)
  · refine wp_call rfl awake17_con rfl ?_
    simp only [lv_cons, lv_nil, app_cons, app_nil]
    exact wp_return rfl rfl
  have h20 : zs.length ≤ 20 := by have := of_decide_eq_false h20; omega
  refine wp_rounds (fun m ds => ∃ (n : Nat) (x : Ht) (y : List Cl), ds = I n :: (x.ds ++ [U s, .sl 2 (crs y)]) ∧ n + m = zs.length + 1 ∧ n ≤ zs.length ∧ SI h s cs n x y) (zs.length + 1) rfl ⟨0, h, cs, rfl, by omega, by omega, .start hH hM hC hag⟩ ?_
    (fun es hes => by obtain ⟨n, _, _, _, h1, h2, _⟩ := hes; omega)
  rintro m es Q ⟨n, x, y, rfl, hm, hle, hsi⟩ hQ
  simp only [lv_cons, lv_nil, Pt.ds, Lf.ds, En.ds, Ht.ds, app_cons, app_nil]
  refine wp_lt (len_is rfl (List.length_map ..)) ?_
  simp only [lv_cons, lv_nil, app_cons, app_nil]
  refine wp_lt (e_lss rfl rfl) ?_
  simp only [lv_cons, lv_nil, app_cons, app_nil]
  have hyl := hsi.len
  refine wp_ite rfl (fun hc => ?_) (fun hc => ?_)
  · have hc := of_decide_eq_true hc
    have hnl : n < zs.length := by omega
    obtain ⟨z0, hz0⟩ : ∃ z, zs[n]? = some z := ⟨_, List.getElem?_eq_getElem hnl⟩
    obtain ⟨hz1, hz2⟩ := hzs z0 (List.mem_of_getElem? hz0)
    obtain ⟨a0, rfl⟩ := Int.eq_ofNat_of_zero_le hz1
    have hrow : (zs.map fun z => [D.i .u64 z])[n]? = some [U a0] := by rw [List.getElem?_map, hz0]; rfl
    refine wp_chk (inb_t rfl rfl (by rw [List.length_map]; exact hnl)) ?_
    refine wp_lt (i_rem (b := 3) rfl rfl (by decide)) ?_
    simp only [lv_cons, lv_nil, app_cons, app_nil]
    have hb := bring_con (h := x) (s := s) (cs := y) (a := a0) (kd := ((n % 3 : Nat) : Int)) hsi.rh hsi.rm hsi.ok (by omega) (by omega) kn_of
    have hsi2 := hsi.bring (a := a0) (by omega)
    refine wp_call (az := [x.dv, md 2 s y, u a0, i ((n % 3 : Nat) : Int)]) (evs_cons rfl (evs_cons rfl (evs_cons (evs_one (idx_e rfl rfl hrow rfl)) rfl))) hb rfl ?_
    generalize bringH x s y a0 = x1 at *
    generalize bringM x s y a0 = y1 at *
    simp only [lv_cons, lv_nil, Pt.ds, Lf.ds, En.ds, Ht.ds, app_cons, app_nil]
    refine wp_lt (i_rem (b := 2) rfl rfl (by decide)) ?_
    simp only [lv_cons, lv_nil, app_cons, app_nil]
    refine wp_lt (e_eql rfl rfl) ?_
    simp only [lv_cons, lv_nil, app_cons, app_nil]
    refine wp_ite rfl (fun h1 => ?_) (fun h1 => ?_)
    · have hsi3 := (hsi2.drop (j := st) (w := wy)).pick (w := wy)
      have he := evict_con (h := x1) (j := st) (w := wy) hsi2.rh
      generalize (dropT x1.ts st wy).2 = x4 at *
      generalize ({ x1 with ts := (dropT x1.ts st wy).1 } : Ht) = x2 at *
      refine wp_call (az := [x1.dv, i st, i wy]) rfl he rfl ?_
      simp only [lv_cons, lv_nil, Pt.ds, Lf.ds, En.ds, Ht.ds, app_cons, app_nil]
      refine wp_call (az := [x2.dv, i wy]) rfl (pickH_con (h := x2) (w := wy)) rfl ?_
      generalize pickV x2 wy = x3 at *
      simp only [lv_cons, lv_nil, Pt.ds, Lf.ds, En.ds, Ht.ds, app_cons, app_nil]
      refine wp_lt (i_add (a := (n : Int)) (b := 1) rfl rfl (by omega) (by omega)) ?_
      simp only [lv_cons, lv_nil, app_cons, app_nil]
      exact wp_cont rfl rfl (hQ _ ⟨n + 1, x3, y1, rfl, by omega, by omega, hsi3⟩)
    · have hsi3 := hsi2.pick (w := wy)
      refine wp_call (az := [x1.dv, i wy]) rfl (pickH_con (h := x1) (w := wy)) rfl ?_
      generalize pickV x1 wy = x3 at *
      simp only [lv_cons, lv_nil, Pt.ds, Lf.ds, En.ds, Ht.ds, app_cons, app_nil]
      refine wp_lt (i_add (a := (n : Int)) (b := 1) rfl rfl (by omega) (by omega)) ?_
      simp only [lv_cons, lv_nil, app_cons, app_nil]
      exact wp_cont rfl rfl (hQ _ ⟨n + 1, x3, y1, rfl, by omega, by omega, hsi3⟩)
  · refine wp_call rfl (refPick_con (q := z)) rfl ?_
    simp only [lv_cons, lv_nil, app_cons, app_nil]
    have hz : Sz (pickN z) := pick_or z
    generalize pickN z = nz at *
    have hkn : Kn ((q % 3 : Nat) : Int) := kn_of
    have A1 := access_H (a := a) (z := nz) (v := v) hH hM hC (by omega) ha hz hv hkn
    have A2 := access_H (a := a) (z := nz) (v := v) hsi.rh hsi.rm hsi.ok (by omega) ha hz hv hkn
    obtain ⟨hlen, u1, w1, b, c, m1, d1, d2, hbits, hnil, hb1, hb2⟩ := silent_rel (k := ((q % 3 : Nat) : Int)) (z := nz) (v := v) hH hM hC ha hag hsi hz
    generalize accessH h s cs ((q % 3 : Nat) : Int) a nz v = p at *
    generalize accessH x s y ((q % 3 : Nat) : Int) a nz v = p' at *
    obtain ⟨p1, p2, p3⟩ := p
    obtain ⟨p1', p2', p3'⟩ := p'
    simp only at hlen d1 d2
    simp only [accRs] at A1 A2
    rw [d1] at A1
    rw [d2] at A2
    refine wp_lt (rem8 (a := q) (m := 3) rfl (by decide)) ?_
    simp only [lv_cons, lv_nil, app_cons, app_nil]
    refine wp_lt (cv_i (n := ((q % 3 : Nat) : Int)) rfl (by omega) (by omega)) ?_
    simp only [lv_cons, lv_nil, app_cons, app_nil]
    refine wp_call (az := [h.dv, md 2 s cs, i ((q % 3 : Nat) : Int), u a, i nz, u v]) rfl A1 rfl ?_
    simp only [lv_cons, lv_nil, Pt.ds, Lf.ds, En.ds, Ht.ds, app_cons, app_nil]
    refine wp_lt (rem8 (a := q) (m := 3) rfl (by decide)) ?_
    simp only [lv_cons, lv_nil, app_cons, app_nil]
    refine wp_lt (cv_i (n := ((q % 3 : Nat) : Int)) rfl (by omega) (by omega)) ?_
    simp only [lv_cons, lv_nil, app_cons, app_nil]
    refine wp_call (az := [x.dv, md 2 s y, i ((q % 3 : Nat) : Int), u a, i nz, u v]) rfl A2 rfl ?_
    simp only [lv_cons, lv_nil, Pt.ds, Lf.ds, En.ds, Ht.ds, app_cons, app_nil]
    refine wp_may (e_eql (len_is rfl (List.length_map ..)) rfl) (fun h1 => ?_) ?_
    · refine wp_lt (len_is rfl (List.length_map ..)) ?_
      simp only [lv_cons, lv_nil, app_cons, app_nil]
      refine wp_lt (d := .b true) (cmp_e (e_eql rfl rfl) h1) ?_
      simp only [lv_cons, lv_nil, app_cons, app_nil]
      exact wp_return rfl rfl
    refine wp_lt (d := .b true) ?_ ?_
    · focus
        repeat' first
          | refine ite_t (eqs_b rfl rfl) ?_
          | refine ite_t (eqs_i rfl rfl) ?_
          | exact rfl
    simp only [lv_cons, lv_nil, app_cons, app_nil]
    refine wp_ite (t := true) rfl (fun _ => ?_) (fun h => by cases h)
    by_cases hu : u1 = w1
    · subst hu
      refine wp_lt (d := .b true) ?_ ?_
      · focus
          repeat' first
            | refine ite_t (eqs_b rfl rfl) ?_
            | refine ite_t (eqs_i rfl rfl) ?_
            | exact rfl
      simp only [lv_cons, lv_nil, app_cons, app_nil]
      refine wp_ite (t := true) rfl (fun _ => ?_) (fun h => by cases h)
      refine wp_lt (len_is rfl (List.length_map ..)) ?_
      simp only [lv_cons, lv_nil, app_cons, app_nil]
      refine wp_lt (len_is rfl (List.length_map ..)) ?_
      simp only [lv_cons, lv_nil, app_cons, app_nil]
      refine wp_lt (d := .b true) (cmp_e (e_eql rfl rfl) (by rw [hlen]; exact beq_self_eq_true _)) ?_
      simp only [lv_cons, lv_nil, app_cons, app_nil]
      refine wp_ite (t := true) rfl (fun _ => ?_) (fun h => by cases h)
      exact wp_return rfl rfl
    · refine wp_lt (d := .b false) (ite_fs (cmp_e (eqt_i rfl rfl) (beq_eq_false_iff_ne.2 (by omega))) rfl) ?_
      simp only [lv_cons, lv_nil, app_cons, app_nil]
      refine wp_ite (t := false) rfl (fun h => by cases h) (fun _ => ?_)
      refine wp_call rfl (tables_con (s := s) (cs := cs) (a := u1) (b := w1) (fun h => hu (hnil h).symm) hb1 hb2 hbits) rfl ?_
      simp only [lv_cons, lv_nil, app_cons, app_nil]
      refine wp_ite (t := true) rfl (fun _ => ?_) (fun h => by cases h)
      refine wp_lt (len_is rfl (List.length_map ..)) ?_
      simp only [lv_cons, lv_nil, app_cons, app_nil]
      refine wp_lt (len_is rfl (List.length_map ..)) ?_
      simp only [lv_cons, lv_nil, app_cons, app_nil]
      refine wp_lt (d := .b true) (cmp_e (e_eql rfl rfl) (by rw [hlen]; exact beq_self_eq_true _)) ?_
      simp only [lv_cons, lv_nil, app_cons, app_nil]
      refine wp_ite (t := true) rfl (fun _ => ?_) (fun h => by cases h)
      exact wp_return rfl rfl
end Go.Proofs.YtobdkhjaipoliaaGreatDoor.Sx
