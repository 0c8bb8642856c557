/-
  Layer 19: the anchor.
-/
import Derived.Test.YtnlilhpkjlodjaaDoorYTabg
namespace Go.Proofs.YtnlilhpkjlodjaaDoor.Sx
open Go
set_option linter.unusedVariables false
set_option linter.unusedSimpArgs false
set_option maxRecDepth 100000
theorem ints_same {l : List Nat} (hl : l.length < 9223372036854775808) : Cn gAll 38 [(false, [.sl 1 (fD l)]), (false, [.sl 1 (fD l)])] [bb true] := by
  refine con rfl rfl atlasref19_Ints_c atlasref19_Ints_p rfl ?_
  unfold atlasref19_Ints_ir
  simp only [lv_cons, lv_nil, app_cons, app_nil]
  have hlen : (fD l).length = l.length := List.length_map ..
  refine wp_lt (len_is rfl hlen) ?_
  simp only [lv_cons, lv_nil, app_cons, app_nil]
  refine wp_lt (len_is rfl hlen) ?_
  simp only [lv_cons, lv_nil, app_cons, app_nil]
  refine wp_lt (d := .b false) (cmp_e rfl (bne_self_eq_false _)) ?_
  simp only [lv_cons, lv_nil, app_cons, app_nil]
  refine wp_ite (t := false) rfl (fun h => by cases h) (fun _ => ?_)
  refine wp_rounds (fun m ds => ∃ (t : Bool) (n : Nat), ds = [.b t, I n] ∧ n + m = l.length + 1 ∧ n ≤ l.length) (l.length + 1) rfl ⟨_, 0, rfl, by omega, by omega⟩ ?_
    (fun es hes => by obtain ⟨_, n, _, h1, h2⟩ := hes; omega)
  rintro m es Q ⟨t, n, rfl, hm, hn⟩ hQ
  simp only [lv_cons, lv_nil, app_cons, app_nil]
  refine wp_lt (len_is rfl hlen) ?_
  simp only [lv_cons, lv_nil, app_cons, app_nil]
  refine wp_lt rfl ?_
  simp only [lv_cons, lv_nil, app_cons, app_nil]
  refine wp_ite rfl (fun hc => ?_) (fun hc => ?_)
  · have hc := of_decide_eq_true hc
    obtain ⟨c, hcs⟩ : ∃ c, l[n]? = some c := ⟨_, List.getElem?_eq_getElem (by omega)⟩
    have hrow : (fD l)[n]? = some [U c] := by rw [List.getElem?_map, hcs]; rfl
    refine wp_chk (inb_t rfl rfl (by rw [hlen]; omega)) ?_
    refine wp_chk (inb_t rfl rfl (by rw [hlen]; omega)) ?_
    refine wp_lt (d := .b false) (cmp_e (e_neq (idx_e rfl rfl hrow rfl) (idx_e rfl rfl hrow rfl)) (bne_self_eq_false _)) ?_
    simp only [lv_cons, lv_nil, app_cons, app_nil]
    refine wp_ite (t := false) rfl (fun h => by cases h) (fun _ => ?_)
    refine wp_lt (i_add (a := (n : Int)) (b := 1) rfl rfl (by omega) (by omega)) ?_
    simp only [lv_cons, lv_nil, app_cons, app_nil]
    exact wp_cont rfl rfl (hQ _ ⟨_, n + 1, rfl, by omega, by omega⟩)
  · exact wp_return rfl rfl
theorem awake19_con : Cn gAll 8 [] [bb true] := by
  have hR : RM 8192 [(5, 7171)] := right_rm.1 (by kernel_rfl)
  have hC : COk [((5 : Nat), (7171 : Nat))] := fun c h => by rw [List.mem_singleton.1 h]; decide
  have hl : [((5 : Nat), (7171 : Nat))].length ≤ 1000000 := by decide
  have h1 := pages_con (s := 8192) hR.asc hC hl 0 0 0 (by decide) (by decide) (by decide)
  rw [show (pgL 8192 [(5, 7171)] 0 0 0).map pgD = [[U 20480, U 28672, I 0, .b true, .b false, .b false, .b false, .b false]] by kernel_rfl] at h1
  have h2 := reach_con (s := 8192) (t := 0) (a := 24576) (l := 0) (want := 0) hR.asc hC hl (by decide) (by decide) (by decide) (by decide)
  rw [show spotD 8192 [(5, 7171)] 24576 (reachN 8192 [(5, 7171)] 24576 0 0 0) = (true, U 0 :: I 0 :: Pt.zero.ds) by kernel_rfl] at h2
  have h3 := with_con (s := 8192) (t := 0) (a := 24576) (l := 0) (p := ⟨true, false, false, true, false, false, false, false, 0, 0, 0⟩) (q := Pt.zero) hR hC hl (by decide) (by decide) (by decide) ⟨by decide, by decide, by decide⟩
  rw [show putM [(5, 7171)] (0 * 512 + ixN 24576 0) (wdN ⟨true, false, false, true, false, false, false, false, 0, 0, 0⟩) = [(5, 7171), (6, 9)] by kernel_rfl] at h3
  have hP : PoolOk 0 1 1 := ⟨by decide, by decide, by decide, fun j h1 h2 => by
    have := Nat.testBit_two_pow (n := 0) (m := j)
    rw [show (1 : Nat) = 2 ^ 0 from rfl, this]
    simp
    omega, by decide⟩
  have h4 := fresh_some (s := 8192) (x := 0) (cs := [(5, 7171)]) hP (by decide) (by decide) (fun j h => by omega) hR.asc hl
  rw [show clrF [(5, 7171)] (0 + 0) = [] by kernel_rfl, show setN 1 0 1 0 = 0 by kernel_rfl] at h4
  have h5 := fresh_none (b := 0) (s := 8192) (m := 1) (cs := [(5, 7171)])
  have hP0 : PoolOk 0 1 0 := ⟨by decide, by decide, by decide, fun j _ _ => Nat.zero_testBit j, by decide⟩
  have h6 := back_con (s := 8192) (fr := 0) (cs := [(5, 7171)]) hP0 (by decide) hR.asc hl
  rw [show clrF [(5, 7171)] 0 = [] by kernel_rfl, show setN 0 (0 - 0) 1 1 = 1 by kernel_rfl] at h6
  have h7 := empty_con (s := 8192) (t := 1) hR.asc hC hl (by decide)
  rw [show (idxE 8192 [(5, 7171)] 1 512).isEmpty = true by kernel_rfl] at h7
  have h8 := empty_con (s := 8192) (t := 0) hR.asc hC hl (by decide)
  rw [show (idxE 8192 [(5, 7171)] 0 512).isEmpty = false by kernel_rfl] at h8
  have h9 := frames_con (s := 8192) hR.asc hC hl 0 0 (by decide) (by decide)
  rw [show framesN 8192 [(5, 7171)] 0 0 = [0] by rfl] at h9
  refine con rfl rfl atlaslaw19_awake_c atlaslaw19_awake_p rfl ?_
  unfold atlaslaw19_awake_ir
  refine wp_call rfl h1 rfl ?_
  simp only [lv_cons, lv_nil, app_cons, app_nil]
  refine wp_call rfl h2 rfl ?_
  simp only [lv_cons, lv_nil, Pt.ds, Lf.ds, app_cons, app_nil]
  iterate 13 refine wp_chk rfl ?_
  refine wp_call rfl h3 rfl ?_
  simp only [lv_cons, lv_nil, app_cons, app_nil]
  refine wp_call rfl h4 rfl ?_
  simp only [lv_cons, lv_nil, app_cons, app_nil]
  refine wp_call rfl h5 rfl ?_
  simp only [lv_cons, lv_nil, app_cons, app_nil]
  refine wp_call rfl h6 rfl ?_
  simp only [lv_cons, lv_nil, app_cons, app_nil]
  refine wp_lt (d := I 1) rfl ?_
  simp only [lv_cons, lv_nil, app_cons, app_nil]
  refine wp_lt (d := .b true) rfl ?_
  simp only [lv_cons, lv_nil, app_cons, app_nil]
  refine wp_ite (t := true) rfl (fun _ => ?_) (fun h => by cases h)
  refine wp_chk rfl ?_
  refine wp_lt (d := .b true) rfl ?_
  simp only [lv_cons, lv_nil, app_cons, app_nil]
  refine wp_ite (t := true) rfl (fun _ => ?_) (fun h => by cases h)
  refine wp_lt (d := .b true) rfl ?_
  simp only [lv_cons, lv_nil, app_cons, app_nil]
  refine wp_ite (t := true) rfl (fun _ => ?_) (fun h => by cases h)
  refine wp_lt (d := I 2) rfl ?_
  simp only [lv_cons, lv_nil, app_cons, app_nil]
  refine wp_lt (d := .b true) rfl ?_
  simp only [lv_cons, lv_nil, app_cons, app_nil]
  refine wp_ite (t := true) rfl (fun _ => ?_) (fun h => by cases h)
  refine wp_lt (d := I 0) rfl ?_
  simp only [lv_cons, lv_nil, app_cons, app_nil]
  refine wp_lt (d := .b true) rfl ?_
  simp only [lv_cons, lv_nil, app_cons, app_nil]
  refine wp_ite (t := true) rfl (fun _ => ?_) (fun h => by cases h)
  refine wp_lt (d := .b true) rfl ?_
  simp only [lv_cons, lv_nil, app_cons, app_nil]
  refine wp_ite (t := true) rfl (fun _ => ?_) (fun h => by cases h)
  refine wp_lt (d := .b true) rfl ?_
  simp only [lv_cons, lv_nil, app_cons, app_nil]
  refine wp_ite (t := true) rfl (fun _ => ?_) (fun h => by cases h)
  refine wp_lt (d := .b true) rfl ?_
  simp only [lv_cons, lv_nil, app_cons, app_nil]
  refine wp_ite (t := true) rfl (fun _ => ?_) (fun h => by cases h)
  refine wp_lt (d := I 0) rfl ?_
  simp only [lv_cons, lv_nil, app_cons, app_nil]
  refine wp_lt (d := .b true) rfl ?_
  simp only [lv_cons, lv_nil, app_cons, app_nil]
  refine wp_ite (t := true) rfl (fun _ => ?_) (fun h => by cases h)
  refine wp_lt (d := .b true) rfl ?_
  simp only [lv_cons, lv_nil, app_cons, app_nil]
  refine wp_ite (t := true) rfl (fun _ => ?_) (fun h => by cases h)
  refine wp_call rfl h7 rfl ?_
  simp only [lv_cons, lv_nil, app_cons, app_nil]
  refine wp_chk rfl ?_
  refine wp_ite (t := true) rfl (fun _ => ?_) (fun h => by cases h)
  refine wp_call rfl h8 rfl ?_
  simp only [lv_cons, lv_nil, app_cons, app_nil]
  refine wp_chk rfl ?_
  refine wp_lt (d := .b true) rfl ?_
  simp only [lv_cons, lv_nil, app_cons, app_nil]
  refine wp_ite (t := true) rfl (fun _ => ?_) (fun h => by cases h)
  refine wp_call rfl h9 rfl ?_
  simp only [lv_cons, lv_nil, app_cons, app_nil]
  refine wp_call rfl (ints_same (l := [0]) (by decide)) rfl ?_
  simp only [lv_cons, lv_nil, app_cons, app_nil]
  refine wp_chk rfl ?_
  exact wp_return rfl rfl
end Go.Proofs.YtnlilhpkjlodjaaDoor.Sx
