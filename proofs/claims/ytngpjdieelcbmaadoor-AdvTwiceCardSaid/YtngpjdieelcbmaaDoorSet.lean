/-
  Layer 13: sets: the contracts of the functions and of their references.
-/
import Derived.Test.YtngpjdieelcbmaaDoorEntry
namespace Go.Proofs.YtngpjdieelcbmaaDoor.Sx
open Go
set_option linter.unusedVariables false
set_option linter.unusedSimpArgs false
set_option maxRecDepth 100000

abbrev t8 (n : Nat) : DV := (false, [.i .u8 (n : Int)])

/-- a set -/
structure SetD where
  w0 : En
  w1 : En
  w2 : En
  w3 : En
  t : Nat
def SetD.ws (s : SetD) : List D := s.w0.ds ++ (s.w1.ds ++ (s.w2.ds ++ s.w3.ds))
def SetD.ds (s : SetD) : List D := s.w0.ds ++ (s.w1.ds ++ (s.w2.ds ++ (s.w3.ds ++ [.i .u8 (s.t : Int)])))
abbrev SetD.dv (s : SetD) : DV := (true, s.ds)
structure SetD.Ok (s : SetD) : Prop where
  w0 : s.w0.Ok
  w1 : s.w1.Ok
  w2 : s.w2.Ok
  w3 : s.w3.Ok


def touN (t w : Nat) : Nat := if w = 0 then t / 4 * 4 + 3 else if w = 1 then t / 4 * 4 + 1 else if w = 2 then t / 2 % 2 * 2 + 4 else t / 2 % 2 * 2
def vicN (t : Nat) : Nat := if t % 2 = 0 then t / 2 % 2 else 2 + t / 4

theorem touch_con {t w : Nat} (ht : t < 8) (hw : w < 4) : Cn gAll 82 [t8 t, i w] [t8 (touN t w)] := by
  have h1 : ((List.range 8).all fun t => (List.range 4).all fun w => isV (run TS 100 plru_Touch_ir [] [.i .u8 (t : Int), I w]) [t8 (touN t w)]) = true := by kernel_rfl
  have a1 := List.all_eq_true.1 (List.all_eq_true.1 h1 t (List.mem_range.2 ht)) w (List.mem_range.2 hw)
  exact con_of_run TS_ok rfl 100 rfl (isV_eq a1)
theorem victim_con {t : Nat} (ht : t < 8) : Cn gAll 81 [t8 t] [i (vicN t)] := by
  have h1 : ((List.range 8).all fun t => isV (run TS 100 plru_Victim_ir [] [.i .u8 (t : Int)]) [i (vicN t)]) = true := by kernel_rfl
  exact con_of_run TS_ok rfl 100 rfl (isV_eq (List.all_eq_true.1 h1 t (List.mem_range.2 ht)))

def SetD.right (s : SetD) : Bool := decide (s.t < 8) && s.w0.may && s.w1.may && s.w2.may && s.w3.may


theorem refRight_con {s : SetD} : Cn gAll 44 [s.dv] [bb s.right] := by
  refine con rfl rfl atlasref13_Right_c atlasref13_Right_p rfl ?_
  unfold atlasref13_Right_ir
  simp only [lv_cons, lv_nil, SetD.ds, SetD.ws, En.ds, app_cons, app_nil]
  refine wp_rounds (fun m ds => ∃ (b : Bool) (n : Nat), ds = [.b b, I n] ∧ n + m = 5 ∧ n ≤ 4 ∧ (0 < n → s.w0.may = true) ∧ (1 < n → s.w1.may = true) ∧ (2 < n → s.w2.may = true) ∧ (3 < n → s.w3.may = true)) 5 rfl ⟨false, 0, rfl, rfl, by omega, by omega, by omega, by omega, by omega⟩ ?_
    (fun es hes => by obtain ⟨_, n, _, h1, h2, _⟩ := hes; omega)
  rintro m es Q ⟨b, n, rfl, hn, hn', h0, h1, h2, h3⟩ hQ
  simp only [lv_cons, lv_nil, app_cons, app_nil]
  have hcase : n = 0 ∨ n = 1 ∨ n = 2 ∨ n = 3 ∨ n = 4 := by omega
  rcases hcase with rfl | rfl | rfl | rfl | rfl
  · refine wp_lt rfl ?_
    simp only [lv_cons, lv_nil, app_cons, app_nil]
    refine wp_ite (t := true) rfl (fun _ => ?_) (fun h => by cases h)
    refine wp_chk rfl ?_
    refine wp_call rfl (refMay_con (e := s.w0)) rfl ?_
    simp only [lv_cons, lv_nil, app_cons, app_nil]
    refine wp_lt rfl ?_
    simp only [lv_cons, lv_nil, app_cons, app_nil]
    refine wp_ite rfl (fun h => ?_) (fun h => ?_)
    · refine wp_return rfl (bb_iff ?_)
      simp at h
      simp [SetD.right, h]
    · simp at h
      refine wp_lt (d := I (0 + 1 : Nat)) rfl ?_
      simp only [lv_cons, lv_nil, app_cons, app_nil]
      exact wp_cont rfl rfl (hQ _ ⟨_, 0 + 1, rfl, by omega, by omega, fun _ => by first | exact h | exact h0 (by omega), fun _ => by first | omega | exact h | exact h1 (by omega), fun _ => by first | omega | exact h | exact h2 (by omega), fun _ => by first | omega | exact h | exact h3 (by omega)⟩)
  · refine wp_lt rfl ?_
    simp only [lv_cons, lv_nil, app_cons, app_nil]
    refine wp_ite (t := true) rfl (fun _ => ?_) (fun h => by cases h)
    refine wp_chk rfl ?_
    refine wp_call rfl (refMay_con (e := s.w1)) rfl ?_
    simp only [lv_cons, lv_nil, app_cons, app_nil]
    refine wp_lt rfl ?_
    simp only [lv_cons, lv_nil, app_cons, app_nil]
    refine wp_ite rfl (fun h => ?_) (fun h => ?_)
    · refine wp_return rfl (bb_iff ?_)
      simp at h
      simp [SetD.right, h]
    · simp at h
      refine wp_lt (d := I (1 + 1 : Nat)) rfl ?_
      simp only [lv_cons, lv_nil, app_cons, app_nil]
      exact wp_cont rfl rfl (hQ _ ⟨_, 1 + 1, rfl, by omega, by omega, fun _ => by first | exact h | exact h0 (by omega), fun _ => by first | omega | exact h | exact h1 (by omega), fun _ => by first | omega | exact h | exact h2 (by omega), fun _ => by first | omega | exact h | exact h3 (by omega)⟩)
  · refine wp_lt rfl ?_
    simp only [lv_cons, lv_nil, app_cons, app_nil]
    refine wp_ite (t := true) rfl (fun _ => ?_) (fun h => by cases h)
    refine wp_chk rfl ?_
    refine wp_call rfl (refMay_con (e := s.w2)) rfl ?_
    simp only [lv_cons, lv_nil, app_cons, app_nil]
    refine wp_lt rfl ?_
    simp only [lv_cons, lv_nil, app_cons, app_nil]
    refine wp_ite rfl (fun h => ?_) (fun h => ?_)
    · refine wp_return rfl (bb_iff ?_)
      simp at h
      simp [SetD.right, h]
    · simp at h
      refine wp_lt (d := I (2 + 1 : Nat)) rfl ?_
      simp only [lv_cons, lv_nil, app_cons, app_nil]
      exact wp_cont rfl rfl (hQ _ ⟨_, 2 + 1, rfl, by omega, by omega, fun _ => by first | exact h | exact h0 (by omega), fun _ => by first | omega | exact h | exact h1 (by omega), fun _ => by first | omega | exact h | exact h2 (by omega), fun _ => by first | omega | exact h | exact h3 (by omega)⟩)
  · refine wp_lt rfl ?_
    simp only [lv_cons, lv_nil, app_cons, app_nil]
    refine wp_ite (t := true) rfl (fun _ => ?_) (fun h => by cases h)
    refine wp_chk rfl ?_
    refine wp_call rfl (refMay_con (e := s.w3)) rfl ?_
    simp only [lv_cons, lv_nil, app_cons, app_nil]
    refine wp_lt rfl ?_
    simp only [lv_cons, lv_nil, app_cons, app_nil]
    refine wp_ite rfl (fun h => ?_) (fun h => ?_)
    · refine wp_return rfl (bb_iff ?_)
      simp at h
      simp [SetD.right, h]
    · simp at h
      refine wp_lt (d := I (3 + 1 : Nat)) rfl ?_
      simp only [lv_cons, lv_nil, app_cons, app_nil]
      exact wp_cont rfl rfl (hQ _ ⟨_, 3 + 1, rfl, by omega, by omega, fun _ => by first | exact h | exact h0 (by omega), fun _ => by first | omega | exact h | exact h1 (by omega), fun _ => by first | omega | exact h | exact h2 (by omega), fun _ => by first | omega | exact h | exact h3 (by omega)⟩)
  · refine wp_lt rfl ?_
    simp only [lv_cons, lv_nil, app_cons, app_nil]
    refine wp_ite (t := false) rfl (fun h => by cases h) (fun _ => ?_)
    refine wp_lt rfl ?_
    simp only [lv_cons, lv_nil, app_cons, app_nil]
    refine wp_return rfl (bb_iff ?_)
    simp [SetD.right, h0, h1, h2, h3]
    omega
end Go.Proofs.YtngpjdieelcbmaaDoor.Sx
