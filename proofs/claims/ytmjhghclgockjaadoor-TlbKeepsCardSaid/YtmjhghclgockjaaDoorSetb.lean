/-
  Layer 13: find, use, drop: the contracts of the functions and of their references.
-/
import Derived.Test.YtmjhghclgockjaaDoorSet
namespace Go.Proofs.YtmjhghclgockjaaDoor.Sx
open Go
set_option linter.unusedVariables false
set_option linter.unusedSimpArgs false
set_option maxRecDepth 100000

/-- what may be has a level -/
theorem En.may_May {e : En} (h : e.may = true) : e.May := by
  unfold En.may at h
  split at h
  · exact En.mayB_iff.1 h
  · rw [En.zeroB_eq h]
    exact ⟨.inl rfl, by decide, by decide, by decide, by decide, by decide⟩
theorem SetD.right_may {s : SetD} (h : s.right = true) : s.t < 8 ∧ s.w0.may = true ∧ s.w1.may = true ∧ s.w2.may = true ∧ s.w3.may = true := by
  simpa [SetD.right, and_assoc] using h

def hitF (e : En) (n a : Nat) (l : Int) : Bool := e.lv == l && matchF e n a
/-- the way that is found -/
def findF (s : SetD) (n a : Nat) (l : Int) : Int × Bool := if hitF s.w0 n a l then (0, true) else if hitF s.w1 n a l then (1, true) else if hitF s.w2 n a l then (2, true) else if hitF s.w3 n a l then (3, true) else (0, false)

/-- a way is asked, no level or no match, or a match -/
theorem find_con {s : SetD} {n a : Nat} {l : Int} (ha : a < 18446744073709551616) (hl : Lv l) (hs : s.right = true) : Cn gAll 38 [s.dv, u n, u a, i l] [i (findF s n a l).1, bb (findF s n a l).2] := by
  refine con rfl rfl set_Find_c set_Find_p rfl ?_
  obtain ⟨ht, m0, m1, m2, m3⟩ := SetD.right_may hs
  have c0 := matches_con (e := s.w0) (n := n) ha (En.may_May m0)
  have c1 := matches_con (e := s.w1) (n := n) ha (En.may_May m1)
  have c2 := matches_con (e := s.w2) (n := n) ha (En.may_May m2)
  have c3 := matches_con (e := s.w3) (n := n) ha (En.may_May m3)
  unfold set_Find_ir
  simp only [lv_cons, lv_nil, SetD.ds, SetD.ws, En.ds, app_cons, app_nil]
  repeat' first
    | refine wp_lt rfl ?_
    | refine wp_ite rfl (fun _ => ?_) (fun _ => ?_)
    | (refine wp_call rfl c0 rfl ?_; simp only [lv_cons, lv_nil, app_cons, app_nil])
    | (refine wp_call rfl c1 rfl ?_; simp only [lv_cons, lv_nil, app_cons, app_nil])
    | (refine wp_call rfl c2 rfl ?_; simp only [lv_cons, lv_nil, app_cons, app_nil])
    | (refine wp_call rfl c3 rfl ?_; simp only [lv_cons, lv_nil, app_cons, app_nil])
    | refine wp_return rfl ?_
  all_goals (simp_all [findF, hitF])

theorem refFind_con {s : SetD} {n a : Nat} {l : Int} (ha : a < 18446744073709551616) (hs : s.right = true) : Cn gAll 42 [s.dv, u n, u a, i l] [i (findF s n a l).1, bb (findF s n a l).2] := by
  refine con rfl rfl atlasref13_Find_c atlasref13_Find_p rfl ?_
  obtain ⟨ht, m0, m1, m2, m3⟩ := SetD.right_may hs
  unfold atlasref13_Find_ir
  simp only [lv_cons, lv_nil, SetD.ds, SetD.ws, En.ds, app_cons, app_nil]
  refine wp_rounds (fun m ds => ∃ (b2 : Int) (b1 : Bool) (k : Nat), ds = [I b2, .b b1, I k] ∧ k + m = 5 ∧ k ≤ 4 ∧ (0 < k → hitF s.w0 n a l = false) ∧ (1 < k → hitF s.w1 n a l = false) ∧ (2 < k → hitF s.w2 n a l = false) ∧ (3 < k → hitF s.w3 n a l = false)) 5 rfl ⟨_, _, 0, rfl, by omega, by omega, by omega, by omega, by omega, by omega⟩ ?_
    (fun es hes => by obtain ⟨_, _, k, _, h1, h2, _⟩ := hes; omega)
  rintro m es Q ⟨b2, b1, k, rfl, hn, hn', h0, h1, h2, h3⟩ hQ
  simp only [lv_cons, lv_nil, app_cons, app_nil]
  have hcase : k = 0 ∨ k = 1 ∨ k = 2 ∨ k = 3 ∨ k = 4 := by omega
  rcases hcase with rfl | rfl | rfl | rfl | rfl
  · refine wp_lt rfl ?_
    simp only [lv_cons, lv_nil, app_cons, app_nil]
    refine wp_ite (t := true) rfl (fun _ => ?_) (fun h => by cases h)
    refine wp_chk rfl ?_
    refine wp_lt rfl ?_
    simp only [lv_cons, lv_nil, app_cons, app_nil]
    refine wp_ite rfl (fun h => ?_) (fun h => ?_)
    · refine wp_chk rfl ?_
      refine wp_call rfl (refMatches_con (e := s.w0) (n := n) ha (.inl (En.may_May m0))) rfl ?_
      simp only [lv_cons, lv_nil, app_cons, app_nil]
      refine wp_ite rfl (fun h' => ?_) (fun h' => ?_)
      · refine wp_return rfl ?_
        have hh : hitF s.w0 n a l = true := by simp at h; simp [hitF, h, h']
        simp [findF, hh]
      · refine wp_lt (d := I (0 + 1 : Nat)) rfl ?_
        simp only [lv_cons, lv_nil, app_cons, app_nil]
        have hh : hitF s.w0 n a l = false := by simp [hitF, h']
        exact wp_cont rfl rfl (hQ _ ⟨_, _, 0 + 1, rfl, by omega, by omega, fun _ => by first | exact hh | exact h0 (by omega), fun _ => by first | omega | exact hh | exact h1 (by omega), fun _ => by first | omega | exact hh | exact h2 (by omega), fun _ => by first | omega | exact hh | exact h3 (by omega)⟩)
    · refine wp_lt (d := I (0 + 1 : Nat)) rfl ?_
      simp only [lv_cons, lv_nil, app_cons, app_nil]
      have hh : hitF s.w0 n a l = false := by simp at h; simp [hitF, h]
      exact wp_cont rfl rfl (hQ _ ⟨_, _, 0 + 1, rfl, by omega, by omega, fun _ => by first | exact hh | exact h0 (by omega), fun _ => by first | omega | exact hh | exact h1 (by omega), fun _ => by first | omega | exact hh | exact h2 (by omega), fun _ => by first | omega | exact hh | exact h3 (by omega)⟩)
  · refine wp_lt rfl ?_
    simp only [lv_cons, lv_nil, app_cons, app_nil]
    refine wp_ite (t := true) rfl (fun _ => ?_) (fun h => by cases h)
    refine wp_chk rfl ?_
    refine wp_lt rfl ?_
    simp only [lv_cons, lv_nil, app_cons, app_nil]
    refine wp_ite rfl (fun h => ?_) (fun h => ?_)
    · refine wp_chk rfl ?_
      refine wp_call rfl (refMatches_con (e := s.w1) (n := n) ha (.inl (En.may_May m1))) rfl ?_
      simp only [lv_cons, lv_nil, app_cons, app_nil]
      refine wp_ite rfl (fun h' => ?_) (fun h' => ?_)
      · refine wp_return rfl ?_
        have hh : hitF s.w1 n a l = true := by simp at h; simp [hitF, h, h']
        simp [findF, hh, h0 (by omega)]
      · refine wp_lt (d := I (1 + 1 : Nat)) rfl ?_
        simp only [lv_cons, lv_nil, app_cons, app_nil]
        have hh : hitF s.w1 n a l = false := by simp [hitF, h']
        exact wp_cont rfl rfl (hQ _ ⟨_, _, 1 + 1, rfl, by omega, by omega, fun _ => by first | exact hh | exact h0 (by omega), fun _ => by first | omega | exact hh | exact h1 (by omega), fun _ => by first | omega | exact hh | exact h2 (by omega), fun _ => by first | omega | exact hh | exact h3 (by omega)⟩)
    · refine wp_lt (d := I (1 + 1 : Nat)) rfl ?_
      simp only [lv_cons, lv_nil, app_cons, app_nil]
      have hh : hitF s.w1 n a l = false := by simp at h; simp [hitF, h]
      exact wp_cont rfl rfl (hQ _ ⟨_, _, 1 + 1, rfl, by omega, by omega, fun _ => by first | exact hh | exact h0 (by omega), fun _ => by first | omega | exact hh | exact h1 (by omega), fun _ => by first | omega | exact hh | exact h2 (by omega), fun _ => by first | omega | exact hh | exact h3 (by omega)⟩)
  · refine wp_lt rfl ?_
    simp only [lv_cons, lv_nil, app_cons, app_nil]
    refine wp_ite (t := true) rfl (fun _ => ?_) (fun h => by cases h)
    refine wp_chk rfl ?_
    refine wp_lt rfl ?_
    simp only [lv_cons, lv_nil, app_cons, app_nil]
    refine wp_ite rfl (fun h => ?_) (fun h => ?_)
    · refine wp_chk rfl ?_
      refine wp_call rfl (refMatches_con (e := s.w2) (n := n) ha (.inl (En.may_May m2))) rfl ?_
      simp only [lv_cons, lv_nil, app_cons, app_nil]
      refine wp_ite rfl (fun h' => ?_) (fun h' => ?_)
      · refine wp_return rfl ?_
        have hh : hitF s.w2 n a l = true := by simp at h; simp [hitF, h, h']
        simp [findF, hh, h0 (by omega), h1 (by omega)]
      · refine wp_lt (d := I (2 + 1 : Nat)) rfl ?_
        simp only [lv_cons, lv_nil, app_cons, app_nil]
        have hh : hitF s.w2 n a l = false := by simp [hitF, h']
        exact wp_cont rfl rfl (hQ _ ⟨_, _, 2 + 1, rfl, by omega, by omega, fun _ => by first | exact hh | exact h0 (by omega), fun _ => by first | omega | exact hh | exact h1 (by omega), fun _ => by first | omega | exact hh | exact h2 (by omega), fun _ => by first | omega | exact hh | exact h3 (by omega)⟩)
    · refine wp_lt (d := I (2 + 1 : Nat)) rfl ?_
      simp only [lv_cons, lv_nil, app_cons, app_nil]
      have hh : hitF s.w2 n a l = false := by simp at h; simp [hitF, h]
      exact wp_cont rfl rfl (hQ _ ⟨_, _, 2 + 1, rfl, by omega, by omega, fun _ => by first | exact hh | exact h0 (by omega), fun _ => by first | omega | exact hh | exact h1 (by omega), fun _ => by first | omega | exact hh | exact h2 (by omega), fun _ => by first | omega | exact hh | exact h3 (by omega)⟩)
  · refine wp_lt rfl ?_
    simp only [lv_cons, lv_nil, app_cons, app_nil]
    refine wp_ite (t := true) rfl (fun _ => ?_) (fun h => by cases h)
    refine wp_chk rfl ?_
    refine wp_lt rfl ?_
    simp only [lv_cons, lv_nil, app_cons, app_nil]
    refine wp_ite rfl (fun h => ?_) (fun h => ?_)
    · refine wp_chk rfl ?_
      refine wp_call rfl (refMatches_con (e := s.w3) (n := n) ha (.inl (En.may_May m3))) rfl ?_
      simp only [lv_cons, lv_nil, app_cons, app_nil]
      refine wp_ite rfl (fun h' => ?_) (fun h' => ?_)
      · refine wp_return rfl ?_
        have hh : hitF s.w3 n a l = true := by simp at h; simp [hitF, h, h']
        simp [findF, hh, h0 (by omega), h1 (by omega), h2 (by omega)]
      · refine wp_lt (d := I (3 + 1 : Nat)) rfl ?_
        simp only [lv_cons, lv_nil, app_cons, app_nil]
        have hh : hitF s.w3 n a l = false := by simp [hitF, h']
        exact wp_cont rfl rfl (hQ _ ⟨_, _, 3 + 1, rfl, by omega, by omega, fun _ => by first | exact hh | exact h0 (by omega), fun _ => by first | omega | exact hh | exact h1 (by omega), fun _ => by first | omega | exact hh | exact h2 (by omega), fun _ => by first | omega | exact hh | exact h3 (by omega)⟩)
    · refine wp_lt (d := I (3 + 1 : Nat)) rfl ?_
      simp only [lv_cons, lv_nil, app_cons, app_nil]
      have hh : hitF s.w3 n a l = false := by simp at h; simp [hitF, h]
      exact wp_cont rfl rfl (hQ _ ⟨_, _, 3 + 1, rfl, by omega, by omega, fun _ => by first | exact hh | exact h0 (by omega), fun _ => by first | omega | exact hh | exact h1 (by omega), fun _ => by first | omega | exact hh | exact h2 (by omega), fun _ => by first | omega | exact hh | exact h3 (by omega)⟩)
  · refine wp_lt rfl ?_
    simp only [lv_cons, lv_nil, app_cons, app_nil]
    refine wp_ite (t := false) rfl (fun h => by cases h) (fun _ => ?_)
    refine wp_return rfl ?_
    simp [findF, h0, h1, h2, h3]

def SetD.use (s : SetD) (k : Nat) : SetD := { s with t := touN s.t k }
def SetD.put (s : SetD) (k : Nat) (e : En) : SetD :=
  match k with
  | 0 => { s with w0 := e }
  | 1 => { s with w1 := e }
  | 2 => { s with w2 := e }
  | _ => { s with w3 := e }
theorem SetD.put_t (s : SetD) (k : Nat) (e : En) : (s.put k e).t = s.t := by unfold SetD.put; split <;> rfl

theorem use_con {s : SetD} {k : Nat} (ht : s.t < 8) (hk : k < 4) : Cn gAll 46 [s.dv, i k] [(s.use k).dv] ∧ Cn gAll 47 [s.dv, i k] [(s.use k).dv] := by
  constructor
  · refine con rfl rfl set_Use_c set_Use_p rfl ?_
    unfold set_Use_ir
    simp only [lv_cons, lv_nil, SetD.ds, SetD.ws, En.ds, app_cons, app_nil]
    refine wp_call rfl (touch_con ht hk).1 rfl ?_
    simp only [lv_cons, lv_nil, app_cons, app_nil]
    exact wp_return rfl rfl
  · refine con rfl rfl atlasref13_Use_c atlasref13_Use_p rfl ?_
    unfold atlasref13_Use_ir
    simp only [lv_cons, lv_nil, SetD.ds, SetD.ws, En.ds, app_cons, app_nil]
    refine wp_call rfl (touch_con ht hk).2 rfl ?_
    simp only [lv_cons, lv_nil, app_cons, app_nil]
    exact wp_return rfl rfl
theorem drop_con {s : SetD} {k : Nat} (hk : k < 4) : Cn gAll 43 [s.dv, i k] [(s.put k En.zero).dv] ∧ Cn gAll 45 [s.dv, i k] [(s.put k En.zero).dv] := by
  have hcase : k = 0 ∨ k = 1 ∨ k = 2 ∨ k = 3 := by omega
  constructor
  · refine con rfl rfl set_Drop_c set_Drop_p rfl ?_
    unfold set_Drop_ir
    simp only [lv_cons, lv_nil, SetD.ds, SetD.ws, En.ds, app_cons, app_nil]
    rcases hcase with rfl | rfl | rfl | rfl <;> exact wp_chk rfl (wp_return rfl rfl)
  · refine con rfl rfl atlasref13_Drop_c atlasref13_Drop_p rfl ?_
    unfold atlasref13_Drop_ir
    simp only [lv_cons, lv_nil, SetD.ds, SetD.ws, En.ds, app_cons, app_nil]
    rcases hcase with rfl | rfl | rfl | rfl <;> exact wp_chk rfl (wp_return rfl rfl)

/-- the way that goes -/
def goesF (s : SetD) (v : Int) : Nat := if 0 ≤ v ∧ v < 4 then v.toNat else if s.w0.v = false then 0 else if s.w1.v = false then 1 else if s.w2.v = false then 2 else if s.w3.v = false then 3 else vicN s.t
theorem vicN_lt {t : Nat} (h : t < 8) : vicN t < 4 := by unfold vicN; split <;> omega
theorem goesF_lt {s : SetD} {v : Int} (h : s.t < 8) : goesF s v < 4 := by
  have := vicN_lt h
  unfold goesF
  (repeat' split) <;> omega

theorem goes_con {s : SetD} {v : Int} (ht : s.t < 8) : Cn gAll 55 [s.dv, i v] [i (goesF s v)] := by
  refine con rfl rfl set_goes_c set_goes_p rfl ?_
  unfold set_goes_ir
  simp only [lv_cons, lv_nil, SetD.ds, SetD.ws, En.ds, app_cons, app_nil]
  have hv := (victim_con ht).1
  repeat' first
    | refine wp_lt rfl ?_
    | refine wp_ite rfl (fun _ => ?_) (fun _ => ?_)
    | (refine wp_call rfl hv rfl ?_; simp only [lv_cons, lv_nil, app_cons, app_nil])
    | refine wp_return rfl ?_
  all_goals
    simp only [decide_eq_true_eq, decide_eq_false_iff_not, Bool.not_eq_true', Bool.not_eq_false'] at *
    unfold goesF
    (repeat' split) <;> simp_all <;> omega
end Go.Proofs.YtmjhghclgockjaaDoor.Sx
