/-
  Layer 13: SetFinds.
-/
import Derived.Test.YtebcdcdcefhdfaaDoorSetl
namespace Go.Proofs.YtebcdcdcefhdfaaDoor.Sx
open Go
set_option linter.unusedVariables false
set_option linter.unusedSimpArgs false
set_option maxRecDepth 100000

theorem findF_miss {s : SetD} {n a : Nat} {l : Int} (h : (findF s n a l).2 = false) : (findF s n a l).1 = 0 ∧ hitF s.w0 n a l = false ∧ hitF s.w1 n a l = false ∧ hitF s.w2 n a l = false ∧ hitF s.w3 n a l = false := by
  unfold findF at *
  cases h0 : hitF s.w0 n a l <;> cases h1 : hitF s.w1 n a l <;> cases h2 : hitF s.w2 n a l <;> cases h3 : hitF s.w3 n a l <;> simp_all
theorem hitF_zero {n a : Nat} {l : Int} : hitF En.zero n a l = false := by
  simp [hitF, matchF, coversF, En.zero]
/-- what is found: its way, and none ahead of it -/
theorem findF_hit {s : SetD} {n a : Nat} {l : Int} (h : (findF s n a l).2 = true) : ((findF s n a l).1 = 0 ∧ hitF s.w0 n a l = true) ∨ ((findF s n a l).1 = 1 ∧ hitF s.w0 n a l = false ∧ hitF s.w1 n a l = true) ∨
    ((findF s n a l).1 = 2 ∧ hitF s.w0 n a l = false ∧ hitF s.w1 n a l = false ∧ hitF s.w2 n a l = true) ∨ ((findF s n a l).1 = 3 ∧ hitF s.w0 n a l = false ∧ hitF s.w1 n a l = false ∧ hitF s.w2 n a l = false ∧ hitF s.w3 n a l = true) := by
  unfold findF at *
  cases h0 : hitF s.w0 n a l <;> cases h1 : hitF s.w1 n a l <;> cases h2 : hitF s.w2 n a l <;> cases h3 : hitF s.w3 n a l <;> simp_all
/-- with what was found let go, a greater way is found, or none -/
theorem findF_drop {s : SetD} {n a : Nat} {l : Int} {k : Nat} (hf : (findF s n a l).2 = true) (hk : (findF s n a l).1 = k) (h2 : (findF (s.put k En.zero) n a l).2 = true) : (k : Int) < (findF (s.put k En.zero) n a l).1 := by
  have hz := hitF_zero (n := n) (a := a) (l := l)
  rcases findF_hit hf with ⟨h1, h⟩ | ⟨h1, h⟩ | ⟨h1, h⟩ | ⟨h1, h⟩
  all_goals
    obtain rfl : k = _ := Int.ofNat.inj (hk.symm.trans h1)
    rcases findF_hit h2 with ⟨e, g⟩ | ⟨e, g⟩ | ⟨e, g⟩ | ⟨e, g⟩ <;> simp [SetD.put, hz, h] at g <;> rw [e] <;> decide
theorem zero_may : En.zero.may = true := by decide
theorem SetD.right_put {s : SetD} {k : Nat} {e : En} (h : s.right = true) (he : e.may = true) : (s.put k e).right = true := by
  obtain ⟨ht, m0, m1, m2, m3⟩ := SetD.right_may h
  unfold SetD.put
  split <;> simp [SetD.right, ht, m0, m1, m2, m3, he]

set_option maxHeartbeats 4000000 in
theorem SetFinds_con {s : SetD} {n a level way : Nat} (hs : s.Ok) (ha : a < 18446744073709551616) :
    Cn gAll 5 [s.dv, u n, u a, t8 level, t8 way] [bb true] := by
  refine con rfl rfl atlaslaw13_SetFinds_c atlaslaw13_SetFinds_p rfl ?_
  unfold atlaslaw13_SetFinds_ir
  simp only [lv_cons, lv_nil, SetD.ds, En.ds, app_cons, app_nil]
  refine wp_call rfl awake13_con rfl ?_
  simp only [lv_cons, lv_nil, app_cons, app_nil]
  refine wp_lt rfl ?_
  refine wp_ite (t := false) rfl (fun h => by cases h) (fun _ => ?_)
  refine wp_call rfl (refRight_con (s := s)) rfl ?_
  simp only [lv_cons, lv_nil, app_cons, app_nil]
  refine wp_lt rfl ?_
  refine wp_ite rfl (fun _ => ?_) (fun hr => ?_)
  · refine wp_call rfl awake13_con rfl ?_
    exact wp_return rfl rfl
  have hr : s.right = true := by simpa using hr
  obtain ⟨ht, m0, m1, m2, m3⟩ := SetD.right_may hr
  refine wp_call rfl (isVa_con (a := a)) rfl ?_
  simp only [lv_cons, lv_nil, app_cons, app_nil]
  refine wp_lt rfl ?_
  refine wp_ite rfl (fun _ => ?_) (fun hv => ?_)
  · refine wp_call rfl awake13_con rfl ?_
    exact wp_return rfl rfl
  have hl : Lv ((level % 3 : Nat) : Int) := by unfold Lv; omega
  have hk : way % 4 < 4 := Nat.mod_lt _ (by omega)
  refine wp_lt (rem8 (m := 3) rfl (by omega)) ?_
  refine wp_lt (cv_i rfl (by omega) (by omega)) ?_
  refine wp_call rfl (find_con (s := s) (n := n) ha hl hr) rfl ?_
  simp only [lv_cons, lv_nil, app_cons, app_nil]
  refine wp_lt (rem8 (m := 4) rfl (by omega)) ?_
  refine wp_lt (cv_i rfl (by omega) (by omega)) ?_
  refine wp_call rfl (use_con (s := s) ht hk).1 rfl ?_
  simp only [lv_cons, lv_nil, SetD.ds, SetD.use, En.ds, app_cons, app_nil]
  refine wp_lt (not_e (t := true) ?_) ?_
  · repeat' first
      | refine ite_t (eqs_b rfl rfl) ?_
      | refine ite_t (eqs_i rfl rfl) ?_
      | exact rfl
  refine wp_ite (t := false) rfl (fun h => by cases h) (fun _ => ?_)
  refine wp_lt rfl ?_
  generalize hL : ((level % 3 : Nat) : Int) = l at *
  clear hL
  refine wp_ite rfl (fun hf => ?_) (fun hf => ?_)
  · have hf : (findF s n a l).2 = false := by simpa using hf
    obtain ⟨h1, g0, g1, g2, g3⟩ := findF_miss hf
    refine wp_rounds (fun m ds => ∃ (b : Bool) (k : Nat), ds = [.b b, I k] ∧ k + m = 5 ∧ k ≤ 4) 5 rfl ⟨_, 0, rfl, by omega, by omega⟩ ?_
      (fun es hes => by obtain ⟨_, k, _, h1, h2⟩ := hes; omega)
    rintro m es Q ⟨b, k, rfl, hn, hn'⟩ hQ
    simp only [lv_cons, lv_nil, app_cons, app_nil]
    have hcase : k = 0 ∨ k = 1 ∨ k = 2 ∨ k = 3 ∨ k = 4 := by omega
    rcases hcase with rfl | rfl | rfl | rfl | rfl
    · refine wp_lt rfl ?_
      simp only [lv_cons, lv_nil, app_cons, app_nil]
      refine wp_ite (t := true) rfl (fun _ => ?_) (fun h => by cases h)
      refine wp_chk rfl ?_
      refine wp_lt rfl ?_
      refine wp_ite rfl (fun h => ?_) (fun h => ?_)
      · refine wp_chk rfl ?_
        refine wp_call rfl (refMatches_con (e := s.w0) (n := n) ha (.inl (En.may_May m0))) rfl ?_
        refine wp_ite rfl (fun h' => ?_) (fun h' => ?_)
        · exfalso
          simp at h
          simp [hitF, h, h'] at g0
        · refine wp_lt (d := I (0 + 1 : Nat)) rfl ?_
          exact wp_cont rfl rfl (hQ _ ⟨_, 0 + 1, rfl, by omega, by omega⟩)
      · refine wp_lt (d := I (0 + 1 : Nat)) rfl ?_
        exact wp_cont rfl rfl (hQ _ ⟨_, 0 + 1, rfl, by omega, by omega⟩)
    · refine wp_lt rfl ?_
      simp only [lv_cons, lv_nil, app_cons, app_nil]
      refine wp_ite (t := true) rfl (fun _ => ?_) (fun h => by cases h)
      refine wp_chk rfl ?_
      refine wp_lt rfl ?_
      refine wp_ite rfl (fun h => ?_) (fun h => ?_)
      · refine wp_chk rfl ?_
        refine wp_call rfl (refMatches_con (e := s.w1) (n := n) ha (.inl (En.may_May m1))) rfl ?_
        refine wp_ite rfl (fun h' => ?_) (fun h' => ?_)
        · exfalso
          simp at h
          simp [hitF, h, h'] at g1
        · refine wp_lt (d := I (1 + 1 : Nat)) rfl ?_
          exact wp_cont rfl rfl (hQ _ ⟨_, 1 + 1, rfl, by omega, by omega⟩)
      · refine wp_lt (d := I (1 + 1 : Nat)) rfl ?_
        exact wp_cont rfl rfl (hQ _ ⟨_, 1 + 1, rfl, by omega, by omega⟩)
    · refine wp_lt rfl ?_
      simp only [lv_cons, lv_nil, app_cons, app_nil]
      refine wp_ite (t := true) rfl (fun _ => ?_) (fun h => by cases h)
      refine wp_chk rfl ?_
      refine wp_lt rfl ?_
      refine wp_ite rfl (fun h => ?_) (fun h => ?_)
      · refine wp_chk rfl ?_
        refine wp_call rfl (refMatches_con (e := s.w2) (n := n) ha (.inl (En.may_May m2))) rfl ?_
        refine wp_ite rfl (fun h' => ?_) (fun h' => ?_)
        · exfalso
          simp at h
          simp [hitF, h, h'] at g2
        · refine wp_lt (d := I (2 + 1 : Nat)) rfl ?_
          exact wp_cont rfl rfl (hQ _ ⟨_, 2 + 1, rfl, by omega, by omega⟩)
      · refine wp_lt (d := I (2 + 1 : Nat)) rfl ?_
        exact wp_cont rfl rfl (hQ _ ⟨_, 2 + 1, rfl, by omega, by omega⟩)
    · refine wp_lt rfl ?_
      simp only [lv_cons, lv_nil, app_cons, app_nil]
      refine wp_ite (t := true) rfl (fun _ => ?_) (fun h => by cases h)
      refine wp_chk rfl ?_
      refine wp_lt rfl ?_
      refine wp_ite rfl (fun h => ?_) (fun h => ?_)
      · refine wp_chk rfl ?_
        refine wp_call rfl (refMatches_con (e := s.w3) (n := n) ha (.inl (En.may_May m3))) rfl ?_
        refine wp_ite rfl (fun h' => ?_) (fun h' => ?_)
        · exfalso
          simp at h
          simp [hitF, h, h'] at g3
        · refine wp_lt (d := I (3 + 1 : Nat)) rfl ?_
          exact wp_cont rfl rfl (hQ _ ⟨_, 3 + 1, rfl, by omega, by omega⟩)
      · refine wp_lt (d := I (3 + 1 : Nat)) rfl ?_
        exact wp_cont rfl rfl (hQ _ ⟨_, 3 + 1, rfl, by omega, by omega⟩)
    · refine wp_lt rfl ?_
      simp only [lv_cons, lv_nil, app_cons, app_nil]
      refine wp_ite (t := false) rfl (fun h => by cases h) (fun _ => ?_)
      refine wp_lt rfl ?_
      exact wp_return rfl (by simp [h1])
  · have hf : (findF s n a l).2 = true := by simpa using hf
    have hdrop : ∀ k : Nat, (findF s n a l).1 = k → (findF (s.put k En.zero) n a l).2 = true → (k : Int) < (findF (s.put k En.zero) n a l).1 := fun k => findF_drop hf
    rcases findF_hit hf with ⟨h1, h⟩ | ⟨h1, h⟩ | ⟨h1, h⟩ | ⟨h1, h⟩
    · have hhit : hitF s.w0 n a l = true := h
      have hh2 : s.w0.lv = l ∧ matchF s.w0 n a = true := by simpa [hitF] using hhit
      have hd := hdrop 0 h1
      generalize hF : findF s n a l = F at *
      obtain ⟨F1, F2⟩ := F
      simp only at h1
      have hf2 : F2 = true := by simpa using hf
      subst h1 hf2
      refine wp_lt (d := .b false) rfl ?_
      refine wp_ite (t := false) rfl (fun h => by cases h) (fun _ => ?_)
      refine wp_lt (d := .b false) rfl ?_
      refine wp_ite (t := false) rfl (fun h => by cases h) (fun _ => ?_)
      refine wp_chk rfl ?_
      refine wp_lt rfl ?_
      refine wp_ite rfl (fun h => by simp [hh2.1] at h) (fun _ => ?_)
      refine wp_chk rfl ?_
      refine wp_call rfl (refMatches_con (e := s.w0) (n := n) ha (.inl (En.may_May m0))) rfl ?_
      refine wp_lt rfl ?_
      refine wp_ite rfl (fun h => by simp [hh2.2] at h) (fun _ => ?_)
      refine wp_call rfl (drop_con (s := s) (k := 0) (by omega)).1 rfl ?_
      simp only [lv_cons, lv_nil, SetD.ds, En.ds, app_cons, app_nil]
      refine wp_call rfl (find_con (s := s.put 0 En.zero) (n := n) ha hl (SetD.right_put hr zero_may)) rfl ?_
      refine wp_lt rfl ?_
      refine wp_ite rfl (fun _ => wp_return rfl rfl) (fun h => ?_)
      refine wp_lt rfl ?_
      exact wp_return rfl (bb_iff (by simpa using hd (by simpa using h)))
    · have hhit : hitF s.w1 n a l = true := h.2
      have hh2 : s.w1.lv = l ∧ matchF s.w1 n a = true := by simpa [hitF] using hhit
      have hd := hdrop 1 h1
      generalize hF : findF s n a l = F at *
      obtain ⟨F1, F2⟩ := F
      simp only at h1
      have hf2 : F2 = true := by simpa using hf
      subst h1 hf2
      refine wp_lt (d := .b false) rfl ?_
      refine wp_ite (t := false) rfl (fun h => by cases h) (fun _ => ?_)
      refine wp_lt (d := .b false) rfl ?_
      refine wp_ite (t := false) rfl (fun h => by cases h) (fun _ => ?_)
      refine wp_chk rfl ?_
      refine wp_lt rfl ?_
      refine wp_ite rfl (fun h => by simp [hh2.1] at h) (fun _ => ?_)
      refine wp_chk rfl ?_
      refine wp_call rfl (refMatches_con (e := s.w1) (n := n) ha (.inl (En.may_May m1))) rfl ?_
      refine wp_lt rfl ?_
      refine wp_ite rfl (fun h => by simp [hh2.2] at h) (fun _ => ?_)
      refine wp_call rfl (drop_con (s := s) (k := 1) (by omega)).1 rfl ?_
      simp only [lv_cons, lv_nil, SetD.ds, En.ds, app_cons, app_nil]
      refine wp_call rfl (find_con (s := s.put 1 En.zero) (n := n) ha hl (SetD.right_put hr zero_may)) rfl ?_
      refine wp_lt rfl ?_
      refine wp_ite rfl (fun _ => wp_return rfl rfl) (fun h => ?_)
      refine wp_lt rfl ?_
      exact wp_return rfl (bb_iff (by simpa using hd (by simpa using h)))
    · have hhit : hitF s.w2 n a l = true := h.2.2
      have hh2 : s.w2.lv = l ∧ matchF s.w2 n a = true := by simpa [hitF] using hhit
      have hd := hdrop 2 h1
      generalize hF : findF s n a l = F at *
      obtain ⟨F1, F2⟩ := F
      simp only at h1
      have hf2 : F2 = true := by simpa using hf
      subst h1 hf2
      refine wp_lt (d := .b false) rfl ?_
      refine wp_ite (t := false) rfl (fun h => by cases h) (fun _ => ?_)
      refine wp_lt (d := .b false) rfl ?_
      refine wp_ite (t := false) rfl (fun h => by cases h) (fun _ => ?_)
      refine wp_chk rfl ?_
      refine wp_lt rfl ?_
      refine wp_ite rfl (fun h => by simp [hh2.1] at h) (fun _ => ?_)
      refine wp_chk rfl ?_
      refine wp_call rfl (refMatches_con (e := s.w2) (n := n) ha (.inl (En.may_May m2))) rfl ?_
      refine wp_lt rfl ?_
      refine wp_ite rfl (fun h => by simp [hh2.2] at h) (fun _ => ?_)
      refine wp_call rfl (drop_con (s := s) (k := 2) (by omega)).1 rfl ?_
      simp only [lv_cons, lv_nil, SetD.ds, En.ds, app_cons, app_nil]
      refine wp_call rfl (find_con (s := s.put 2 En.zero) (n := n) ha hl (SetD.right_put hr zero_may)) rfl ?_
      refine wp_lt rfl ?_
      refine wp_ite rfl (fun _ => wp_return rfl rfl) (fun h => ?_)
      refine wp_lt rfl ?_
      exact wp_return rfl (bb_iff (by simpa using hd (by simpa using h)))
    · have hhit : hitF s.w3 n a l = true := h.2.2.2
      have hh2 : s.w3.lv = l ∧ matchF s.w3 n a = true := by simpa [hitF] using hhit
      have hd := hdrop 3 h1
      generalize hF : findF s n a l = F at *
      obtain ⟨F1, F2⟩ := F
      simp only at h1
      have hf2 : F2 = true := by simpa using hf
      subst h1 hf2
      refine wp_lt (d := .b false) rfl ?_
      refine wp_ite (t := false) rfl (fun h => by cases h) (fun _ => ?_)
      refine wp_lt (d := .b false) rfl ?_
      refine wp_ite (t := false) rfl (fun h => by cases h) (fun _ => ?_)
      refine wp_chk rfl ?_
      refine wp_lt rfl ?_
      refine wp_ite rfl (fun h => by simp [hh2.1] at h) (fun _ => ?_)
      refine wp_chk rfl ?_
      refine wp_call rfl (refMatches_con (e := s.w3) (n := n) ha (.inl (En.may_May m3))) rfl ?_
      refine wp_lt rfl ?_
      refine wp_ite rfl (fun h => by simp [hh2.2] at h) (fun _ => ?_)
      refine wp_call rfl (drop_con (s := s) (k := 3) (by omega)).1 rfl ?_
      simp only [lv_cons, lv_nil, SetD.ds, En.ds, app_cons, app_nil]
      refine wp_call rfl (find_con (s := s.put 3 En.zero) (n := n) ha hl (SetD.right_put hr zero_may)) rfl ?_
      refine wp_lt rfl ?_
      refine wp_ite rfl (fun _ => wp_return rfl rfl) (fun h => ?_)
      refine wp_lt rfl ?_
      exact wp_return rfl (bb_iff (by simpa using hd (by simpa using h)))
end Go.Proofs.YtebcdcdcefhdfaaDoor.Sx
