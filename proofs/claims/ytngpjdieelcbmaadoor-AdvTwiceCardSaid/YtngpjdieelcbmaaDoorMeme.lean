/-
  Layer 3: loading and storing: contracts.
-/
import Derived.Test.YtngpjdieelcbmaaDoorMemd
namespace Go.Proofs.YtngpjdieelcbmaaDoor.Sx
open Go
set_option linter.unusedVariables false
set_option linter.unusedSimpArgs false
set_option maxRecDepth 100000

theorem lookN_lt {cs : List Cl} {p : Nat} (h : COk cs) : lookN cs p < 18446744073709551616 := by
  unfold lookN
  split
  · rename_i c hc
    split
    · exact (h c (List.mem_of_getElem? hc)).2
    · omega
  · omega
theorem wordN_lt {cs : List Cl} {s a : Nat} (h : COk cs) : wordN s cs a < 18446744073709551616 := by
  unfold wordN
  split
  · omega
  · exact lookN_lt h
def loadN (s : Nat) (cs : List Cl) (a n : Nat) : Nat := getN (wordN s cs a) (a % 8 * 8) (n * 8)
theorem memLoad_bad {k s a : Nat} {z : Int} {cs : List Cl} (ha : a < 18446744073709551616) (h : wrongN s a z ≠ 0) : Cn gAll 28 [md k s cs, u a, i z] [u 0, i (wrongN s a z)] := by
  refine con rfl rfl mem_Load_c mem_Load_p rfl ?_
  unfold mem_Load_ir
  simp only [lv_cons, lv_nil, app_cons, app_nil]
  refine wp_call rfl (wrong_con (k := k) (s := s) (z := z) (cs := cs) ha) rfl ?_
  simp only [lv_cons, lv_nil, app_cons, app_nil]
  refine wp_lt (d := .b true) (cmp_e (e_neq rfl rfl) (bne_iff_ne.2 h)) ?_
  simp only [lv_cons, lv_nil, app_cons, app_nil]
  refine wp_ite (t := true) rfl (fun _ => ?_) (fun h => by cases h)
  exact wp_return rfl rfl
theorem memLoad_ok {k s a n : Nat} {cs : List Cl} (hk : Kd k cs) (hs : Asc cs) (hO : COk cs) (hl : cs.length < 4611686018427387904) (ha : a < 18446744073709551616) (hn : sizeOk n = true) (h : wrongN s a n = 0) : Cn gAll 28 [md k s cs, u a, i n] [u (loadN s cs a n), i 0] := by
  refine con rfl rfl mem_Load_c mem_Load_p rfl ?_
  unfold mem_Load_ir
  simp only [lv_cons, lv_nil, app_cons, app_nil]
  have hz := sizeOk_iff.1 hn
  refine wp_call rfl (wrong_con (k := k) (s := s) (z := n) (cs := cs) ha) rfl ?_
  rw [h]
  simp only [lv_cons, lv_nil, app_cons, app_nil]
  refine wp_lt (d := (.b false)) rfl ?_
  simp only [lv_cons, lv_nil, app_cons, app_nil]
  refine wp_ite (t := false) rfl (fun h => by cases h) (fun _ => ?_)
  refine wp_call rfl (memWord_con hk hs hl ha) rfl ?_
  simp only [lv_cons, lv_nil, app_cons, app_nil]
  refine wp_lt (u_rem (b := 8) rfl rfl (by omega)) ?_
  simp only [lv_cons, lv_nil, app_cons, app_nil]
  refine wp_lt (cv_i rfl (by omega) (by omega)) ?_
  simp only [lv_cons, lv_nil, app_cons, app_nil]
  refine wp_lt (d := I (a % 8 * 8 : Nat)) ((i_mul (b := 8) rfl rfl (by omega) (by omega)).trans (by rw [Int.natCast_mul]; rfl)) ?_
  simp only [lv_cons, lv_nil, app_cons, app_nil]
  refine wp_lt (d := I (n * 8 : Nat)) ((i_mul (b := 8) rfl rfl (by omega) (by omega)).trans (by rw [Int.natCast_mul]; rfl)) ?_
  simp only [lv_cons, lv_nil, app_cons, app_nil]
  refine wp_call rfl (bitsGet_con (wordN_lt hO) (by omega) (by omega)) rfl ?_
  simp only [lv_cons, lv_nil, app_cons, app_nil]
  exact wp_return rfl rfl
def storeM (s : Nat) (cs : List Cl) (a n v : Nat) : List Cl := putM cs (a / 8) (setN (wordN s cs a) (a % 8 * 8) (n * 8) v)
theorem memStore_bad {k s a v : Nat} {z : Int} {cs : List Cl} (ha : a < 18446744073709551616) (h : wrongN s a z ≠ 0) : Cn gAll 35 [md k s cs, u a, i z, u v] [md k s cs, i (wrongN s a z)] := by
  refine con rfl rfl mem_Store_c mem_Store_p rfl ?_
  unfold mem_Store_ir
  simp only [lv_cons, lv_nil, app_cons, app_nil]
  refine wp_call rfl (wrong_con (k := k) (s := s) (z := z) (cs := cs) ha) rfl ?_
  simp only [lv_cons, lv_nil, app_cons, app_nil]
  refine wp_lt (d := .b true) (cmp_e (e_neq rfl rfl) (bne_iff_ne.2 h)) ?_
  simp only [lv_cons, lv_nil, app_cons, app_nil]
  refine wp_ite (t := true) rfl (fun _ => ?_) (fun h => by cases h)
  exact wp_return rfl rfl
theorem memStore_ok {k s a n v : Nat} {cs : List Cl} (hk : Kd k cs) (hs : Asc cs) (hO : COk cs) (hl : cs.length ≤ 1000000) (ha : a < 18446744073709551616) (hv : v < 18446744073709551616) (hn : sizeOk n = true) (h : wrongN s a n = 0) : Cn gAll 35 [md k s cs, u a, i n, u v] [md 2 s (storeM s cs a n v), i 0] := by
  refine con rfl rfl mem_Store_c mem_Store_p rfl ?_
  unfold mem_Store_ir
  simp only [lv_cons, lv_nil, app_cons, app_nil]
  have hz := sizeOk_iff.1 hn
  refine wp_call rfl (wrong_con (k := k) (s := s) (z := n) (cs := cs) ha) rfl ?_
  rw [h]
  simp only [lv_cons, lv_nil, app_cons, app_nil]
  refine wp_lt (d := (.b false)) rfl ?_
  simp only [lv_cons, lv_nil, app_cons, app_nil]
  refine wp_ite (t := false) rfl (fun h => by cases h) (fun _ => ?_)
  refine wp_lt (u_quo (b := 8) rfl rfl (by omega) ha) ?_
  simp only [lv_cons, lv_nil, app_cons, app_nil]
  refine wp_call rfl (memWord_con hk hs (by omega) ha) rfl ?_
  simp only [lv_cons, lv_nil, app_cons, app_nil]
  refine wp_lt (u_rem (b := 8) rfl rfl (by omega)) ?_
  simp only [lv_cons, lv_nil, app_cons, app_nil]
  refine wp_lt (cv_i rfl (by omega) (by omega)) ?_
  simp only [lv_cons, lv_nil, app_cons, app_nil]
  refine wp_lt (d := I (a % 8 * 8 : Nat)) ((i_mul (b := 8) rfl rfl (by omega) (by omega)).trans (by rw [Int.natCast_mul]; rfl)) ?_
  simp only [lv_cons, lv_nil, app_cons, app_nil]
  refine wp_lt (d := I (n * 8 : Nat)) ((i_mul (b := 8) rfl rfl (by omega) (by omega)).trans (by rw [Int.natCast_mul]; rfl)) ?_
  simp only [lv_cons, lv_nil, app_cons, app_nil]
  refine wp_call rfl (bitsSet_con (wordN_lt hO) hv (by omega) (by omega)) rfl ?_
  simp only [lv_cons, lv_nil, app_cons, app_nil]
  refine wp_call rfl (memPut_con hk hs hl) rfl ?_
  simp only [lv_cons, lv_nil, app_cons, app_nil]
  exact wp_return rfl rfl
end Go.Proofs.YtngpjdieelcbmaaDoor.Sx
