/-
 Layer 20: the anchor.
-/
import Derived.Test.YtnkjmocacielmaaDoorZSpi
import Derived.Test.YtnkjmocacielmaaDoorZTabo
namespace Go.Proofs.YtnkjmocacielmaaDoor.Sx
open Go
set_option linter.unusedVariables false
set_option linter.unusedSimpArgs false
set_option maxRecDepth 100000
theorem con_arg0 {f : FuncId} {s : Nat} {az rs : List DV} (hf : f < eatOff) (h : Cn gAll f (md 2 s [] :: az) rs) : Cn gAll f (md 0 s [] :: az) rs := by
 refine ⟨fun _ I w vs hg hi ha => h.1 hf I w vs hg hi ?_, fun h1 => absurd hf (Nat.not_lt.2 h1.1), fun h1 => absurd hf (Nat.not_lt.2 (Nat.le_trans (by decide) h1))⟩
 cases ha with
 | cons a b => exact .cons (wk_md I w _ a) b
theorem way_of {s b f l t a : Nat} {m : Int} {cs : List Cl} {L : List Nat} {r : Nat × Nat} {q : Pt} (hle : l ≤ 2) (hR : RM s cs) (hC : COk cs) (hP : PoolOk b m f) (hroom : ((b : Int) + m) * 4096 ≤ s) (hL : pathN s cs a 0 l t = L) (hr : reachN s cs a 0 l t = r) (hq : ptA s cs r.2 a r.1 = q)
 (hnd : L.Nodup) (hlow : ∀ t' ∈ L, t' < s / 4096) (hu : ∀ t' ∈ L, t' < b ∨ f.testBit (t' - b) = false) (hcl : q.isZ = true ∨ q.bad (r.1 : Nat) = false) : WayOk s b f m cs a l t := by
 refine ⟨hle, hR, hC, hP, hroom, by rw [hL]; exact hnd, by rw [hL]; exact hlow, fun t' ht' x hx e => ?_, by rw [hr, hq]; exact hcl⟩
 rw [hL] at ht'
 rcases hu t' ht' with h | h
 ·omega
 ·rw [e, Nat.add_sub_cancel_left, hx] at h
  cases h
theorem pool_of {b M f : Nat} (hM : M ≤ 64) (hb : b ≤ 268435456) (hf : f < 2 ^ M) : PoolOk b (M : Int) f := by
 refine ⟨by omega, by omega, hb, fun j h1 h2 => Nat.testBit_lt_two_pow (Nat.lt_of_lt_of_le hf (Nat.pow_le_pow_right (by decide) (by omega))), ?_⟩
 have : 2 ^ M ≤ 2 ^ 64 := Nat.pow_le_pow_right (by decide) hM
 omega
abbrev w1 : List Cl := [(0, 1025), (512, 2049)]
abbrev w2 : List Cl := [(0, 1025), (512, 2049), (513, 524291)]
theorem awake20_con : Cn gAll 7 [] [bb true] := by
 have P7 : PoolOk 1 3 7 := pool_of (M := 3) (by decide) (by decide) (by decide)
 have P1 : PoolOk 1 3 1 := pool_of (M := 3) (by decide) (by decide) (by decide)
 have P4 : PoolOk 1 3 4 := pool_of (M := 3) (by decide) (by decide) (by decide)
 have R0 : RM 16384 [] := right_rm.1 (by kernel_rfl)
 have R1 : RM 16384 w1 := right_rm.1 (by kernel_rfl)
 have R2 : RM 16384 w2 := right_rm.1 (by kernel_rfl)
 have C0 : COk [] := fun c h => by cases h
 have C1 : COk w1 := fun c h => by
  simp only [List.mem_cons, List.not_mem_nil, or_false] at h
  rcases h with rfl | rfl <;> decide
 have C2 : COk w2 := fun c h => by
  simp only [List.mem_cons, List.not_mem_nil, or_false] at h
  rcases h with rfl | rfl | rfl <;> decide
 have W1 : WayOk 16384 1 7 3 [] 20480 2 0 := way_of (L := [0]) (r := (2, 0)) (q := Pt.zero) (by decide) R0 C0 P7 (by decide) (by kernel_rfl) (by kernel_rfl) (by kernel_rfl) (by decide) (by decide) (by decide) (.inl rfl)
 have W2 : WayOk 16384 1 1 3 [] 20480 2 0 := way_of (L := [0]) (r := (2, 0)) (q := Pt.zero) (by decide) R0 C0 P1 (by decide) (by kernel_rfl) (by kernel_rfl) (by kernel_rfl) (by decide) (by decide) (by decide) (.inl rfl)
 have W3 : WayOk 16384 1 4 3 w2 2101248 2 0 := way_of (L := [0, 1]) (r := (1, 1)) (q := ⟨true, true, false, false, false, false, false, false, 0, 512, 0⟩) (by decide) R2 C2 P4 (by decide) (by kernel_rfl) (by kernel_rfl) (by kernel_rfl) (by decide) (by decide) (by decide) (.inr rfl)
 have h1 := down_con W1 (w := 0) (by decide) (by decide) (by decide)
 rw [show downS 16384 1 20480 0 2 [] 7 0 = (0, w1, 4, 2) by kernel_rfl] at h1
 have h2 := down_con W2 (w := 0) (by decide) (by decide) (by decide)
 rw [show downS 16384 1 20480 0 2 [] 1 0 = (8, [(0, 1025)], 0, 1) by kernel_rfl] at h2
 have hO : PrOk 16384 1 3 (w1, 4) := ⟨R1, C1, P4, by decide⟩
 have hpath : pathN 16384 w1 20480 0 2 0 = [0, 1, 2] := by kernel_rfl
 have hlk : lkOk 16384 w1 20480 2 0 := ⟨fun _ => by kernel_rfl, fun _ => ⟨fun _ => by kernel_rfl, fun _ => by show Pt.link _ = false; kernel_rfl⟩⟩
 obtain ⟨hF, hO1, _⟩ := pru_all (a := 20480) hO (by decide) (l := 2) (t := 0) (by rw [hpath]; decide) (by rw [hpath]; decide) (by rw [hpath]; decide) hlk (by decide)
 have h3 := prune_con hO hF (by decide) (by decide) (by decide)
 rw [show prunS 16384 1 20480 2 w1 4 0 = ([], 7) by kernel_rfl] at h3
 have h4 := refMake_con (n := 512) (r := true) (w := false) (x := false) (u := false) (g := false)
 have h5 := refWith_con (s := 16384) (t := 1) (l := 1) (a := 2097152) (cs := w1) (p := ⟨true, true, false, false, false, false, false, false, 0, 512, 0⟩) (q := Pt.zero) R1 (by decide) (by decide) (by decide) (by decide) ⟨by decide, by decide, by decide⟩
 rw [show putM w1 (1 * 512 + ixN 2097152 1) (wdN ⟨true, true, false, false, false, false, false, false, 0, 512, 0⟩) = w2 by kernel_rfl] at h5
 have h6 := to_con W3 (w := 0) (by decide) (by decide) (by decide)
 obtain ⟨T, hT⟩ : ∃ T, T = toS 16384 1 2101248 0 2 w2 4 0 := ⟨_, rfl⟩
 have t1 : T.1 = 0 := by rw [hT]; kernel_rfl
 have t2 : T.2.2.1 = 0 := by rw [hT]; kernel_rfl
 have t3 : T.2.2.2 = (0, 3) := by rw [hT]; kernel_rfl
 have t4 : T.2.1.length = 515 := by rw [hT]; kernel_rfl
 have t5 : ptA 16384 T.2.1 3 2101248 0 = ⟨true, true, false, false, false, false, false, false, 0, 513, 0⟩ := by rw [hT]; kernel_rfl
 rw [← hT] at h6
 rw [resT, if_pos t1, t2, t3, spotD, t5] at h6
 have h7 := down_con W3 (w := 0) (by decide) (by decide) (by decide)
 rw [show downS 16384 1 2101248 0 2 w2 4 0 = (6, w2, 4, 1) by kernel_rfl] at h7
 refine con rfl rfl atlaslaw20_awake_c atlaslaw20_awake_p rfl ?_
 unfold atlaslaw20_awake_ir
 refine wp_call rfl (con_arg0 (by decide) h1) rfl ?_
 rw [resD, if_pos rfl, spotD, show ptA 16384 w1 2 20480 0 = Pt.zero by kernel_rfl]
 simp only [lv_cons, lv_nil, Pt.ds, Lf.ds, app_cons, app_nil]
 refine wp_call rfl (con_arg0 (by decide) h2) rfl ?_
 rw [resD, if_neg (by decide)]
 simp only [Pt.zero]
 simp only [lv_cons, lv_nil, Pt.ds, Lf.ds, app_cons, app_nil]
 refine wp_call rfl h3 rfl ?_
 simp only [lv_cons, lv_nil, app_cons, app_nil]
 refine wp_call rfl h4 rfl ?_
 simp only [lv_cons, lv_nil, Pt.ds, Lf.ds, app_cons, app_nil]
 refine wp_call rfl h5 rfl ?_
 simp only [lv_cons, lv_nil, app_cons, app_nil]
 refine wp_call rfl h6 rfl ?_
 simp only [lv_cons, lv_nil, Pt.ds, Lf.ds, app_cons, app_nil]
 refine wp_call rfl h7 rfl ?_
 rw [resD, if_neg (by decide)]
 simp only [Pt.zero]
 simp only [lv_cons, lv_nil, Pt.ds, Lf.ds, app_cons, app_nil]
 refine wp_lt (d := .b true) rfl ?_
 simp only [lv_cons, lv_nil, app_cons, app_nil]
 refine wp_ite (t := true) rfl (fun _ => ?_) (fun h => by cases h)
 refine wp_lt (d := .b true) rfl ?_
 simp only [lv_cons, lv_nil, app_cons, app_nil]
 refine wp_ite (t := true) rfl (fun _ => ?_) (fun h => by cases h)
 refine wp_lt (d := .b true) rfl ?_
 simp only [lv_cons, lv_nil, app_cons, app_nil]
 refine wp_ite (t := true) rfl (fun _ => ?_) (fun h => by cases h)
 refine wp_lt (d := .b true) rfl ?_
 simp only [lv_cons, lv_nil, app_cons, app_nil]
 refine wp_ite (t := true) rfl (fun _ => ?_) (fun h => by cases h)
 refine wp_call rfl (sameM_con (k := 2) (k' := 0) (s := 16384) (cs := []) (.inl rfl) (.inr ⟨rfl, rfl⟩) (by decide)) rfl ?_
 simp only [lv_cons, lv_nil, app_cons, app_nil]
 refine wp_ite (t := true) rfl (fun _ => ?_) (fun h => by cases h)
 refine wp_lt (d := .b true) rfl ?_
 simp only [lv_cons, lv_nil, app_cons, app_nil]
 refine wp_ite (t := true) rfl (fun _ => ?_) (fun h => by cases h)
 refine wp_lt (d := .b true) rfl ?_
 simp only [lv_cons, lv_nil, app_cons, app_nil]
 refine wp_ite (t := true) rfl (fun _ => ?_) (fun h => by cases h)
 refine wp_lt (d := .b true) rfl ?_
 simp only [lv_cons, lv_nil, app_cons, app_nil]
 refine wp_ite (t := true) rfl (fun _ => ?_) (fun h => by cases h)
 refine wp_lt (d := .b true) rfl ?_
 simp only [lv_cons, lv_nil, app_cons, app_nil]
 refine wp_ite (t := true) rfl (fun _ => ?_) (fun h => by cases h)
 refine wp_lt (d := .b true) rfl ?_
 simp only [lv_cons, lv_nil, app_cons, app_nil]
 refine wp_ite (t := true) rfl (fun _ => ?_) (fun h => by cases h)
 refine wp_ite (t := true) rfl (fun _ => ?_) (fun h => by cases h)
 refine wp_lt (len_is (L := 515) rfl (by rw [crs_len]; exact t4)) ?_
 simp only [lv_cons, lv_nil, app_cons, app_nil]
 refine wp_lt (d := I (3 : Nat)) rfl ?_
 simp only [lv_cons, lv_nil, app_cons, app_nil]
 refine wp_lt (d := I (515 : Nat)) rfl ?_
 simp only [lv_cons, lv_nil, app_cons, app_nil]
 refine wp_lt (d := .b true) rfl ?_
 simp only [lv_cons, lv_nil, app_cons, app_nil]
 refine wp_ite (t := true) rfl (fun _ => ?_) (fun h => by cases h)
 refine wp_lt (d := .b true) rfl ?_
 simp only [lv_cons, lv_nil, app_cons, app_nil]
 exact wp_return rfl rfl
end Go.Proofs.YtnkjmocacielmaaDoor.Sx
