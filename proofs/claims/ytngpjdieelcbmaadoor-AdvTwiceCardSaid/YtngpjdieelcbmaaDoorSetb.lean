/-
  Layer 13: find, use, drop: the contracts of the functions and of their references.
-/
import Derived.Test.YtngpjdieelcbmaaDoorSet
namespace Go.Proofs.YtngpjdieelcbmaaDoor.Sx
open Go
set_option linter.unusedVariables false
set_option linter.unusedSimpArgs false
set_option maxRecDepth 100000

/-- what may be has a level -/
theorem En.may_May {e : En} (h : e.may = true) : e.May := by
  unfold En.may at h
  split at h
  · exact En.mayB_iff.1 h
  · rw [En.zeroB_eq h]
    exact ⟨.inl rfl, by decide, by decide, by decide, by decide, by decide⟩
theorem SetD.right_may {s : SetD} (h : s.right = true) : s.t < 8 ∧ s.w0.may = true ∧ s.w1.may = true ∧ s.w2.may = true ∧ s.w3.may = true := by
  simpa [SetD.right, and_assoc] using h

def hitF (e : En) (n a : Nat) (l : Int) : Bool := e.lv == l && matchF e n a
/-- the way that is found -/
def findF (s : SetD) (n a : Nat) (l : Int) : Int × Bool := if hitF s.w0 n a l then (0, true) else if hitF s.w1 n a l then (1, true) else if hitF s.w2 n a l then (2, true) else if hitF s.w3 n a l then (3, true) else (0, false)

/-- a way is asked, no level or no match, or a match -/


def SetD.use (s : SetD) (k : Nat) : SetD := { s with t := touN s.t k }
def SetD.put (s : SetD) (k : Nat) (e : En) : SetD :=
  match k with
  | 0 => { s with w0 := e }
  | 1 => { s with w1 := e }
  | 2 => { s with w2 := e }
  | _ => { s with w3 := e }
theorem SetD.put_t (s : SetD) (k : Nat) (e : En) : (s.put k e).t = s.t := by unfold SetD.put; split <;> rfl

theorem use_con {s : SetD} {k : Nat} (ht : s.t < 8) (hk : k < 4) : Cn gAll 64 [s.dv, i k] [(s.use k).dv] := by
  refine con rfl rfl set_Use_c set_Use_p rfl ?_
  unfold set_Use_ir
  simp only [lv_cons, lv_nil, SetD.ds, SetD.ws, En.ds, app_cons, app_nil]
  refine wp_call rfl (touch_con ht hk) rfl ?_
  simp only [lv_cons, lv_nil, app_cons, app_nil]
  exact wp_return rfl rfl
theorem drop_con {s : SetD} {k : Nat} (hk : k < 4) : Cn gAll 43 [s.dv, i k] [(s.put k En.zero).dv] := by
  have hcase : k = 0 ∨ k = 1 ∨ k = 2 ∨ k = 3 := by omega
  refine con rfl rfl set_Drop_c set_Drop_p rfl ?_
  unfold set_Drop_ir
  simp only [lv_cons, lv_nil, SetD.ds, SetD.ws, En.ds, app_cons, app_nil]
  rcases hcase with rfl | rfl | rfl | rfl <;> exact wp_chk rfl (wp_return rfl rfl)

/-- the way that goes -/
def goesF (s : SetD) (v : Int) : Nat := if 0 ≤ v ∧ v < 4 then v.toNat else if s.w0.v = false then 0 else if s.w1.v = false then 1 else if s.w2.v = false then 2 else if s.w3.v = false then 3 else vicN s.t
theorem vicN_lt {t : Nat} (h : t < 8) : vicN t < 4 := by unfold vicN; split <;> omega
theorem goesF_lt {s : SetD} {v : Int} (h : s.t < 8) : goesF s v < 4 := by
  have := vicN_lt h
  unfold goesF
  (repeat' split) <;> omega

theorem goes_con {s : SetD} {v : Int} (ht : s.t < 8) : Cn gAll 63 [s.dv, i v] [i (goesF s v)] := by
  refine con rfl rfl set_goes_c set_goes_p rfl ?_
  unfold set_goes_ir
  simp only [lv_cons, lv_nil, SetD.ds, SetD.ws, En.ds, app_cons, app_nil]
  have hv := (victim_con ht)
  repeat' first
    | refine wp_lt rfl ?_
    | refine wp_ite rfl (fun _ => ?_) (fun _ => ?_)
    | (refine wp_call rfl hv rfl ?_; simp only [lv_cons, lv_nil, app_cons, app_nil])
    | refine wp_return rfl ?_
  all_goals
    simp only [decide_eq_true_eq, decide_eq_false_iff_not, Bool.not_eq_true', Bool.not_eq_false'] at *
    unfold goesF
    (repeat' split) <;> simp_all <;> omega
end Go.Proofs.YtngpjdieelcbmaaDoor.Sx
